/- A part of the proof. No condition. -/
import Derived.Test.YtcbfifamliijlaaGreatDoorMb6
import Derived.Test.YtcbfifamliijlaaGreatDoorProg
import Derived.KernelRfl
set_option maxRecDepth 100000
namespace Go.Proofs.YtcbfifamliijlaaGreatDoor.AE
open Go.AE
theorem kt5:qf Tryz.prog gl Tryz.f5 = some c5:=zk
theorem kt9:qf Tryz.prog gl Tryz.f9 = some c9:=zk
theorem qJn:qf Tryz.prog gl Tryz.f13 = some c13:=zk
theorem qJq:qf Tryz.prog gl Tryz.f17 = some c17:=zk
theorem qJA:qf Tryz.prog gl Tryz.f29 = some c29:=zk
theorem qJB:qf Tryz.prog gl Tryz.f33 = some c33:=zk
theorem qJF:qf Tryz.prog gl Tryz.f37 = some c37:=zk
theorem qJM:qf Tryz.prog gl Tryz.f45 = some c45:=zk
theorem qJQ:qf Tryz.prog gl Tryz.f49 = some c49:=zk
theorem qJU:qf Tryz.prog gl Tryz.f53 = some c53:=zk
theorem qJY:qf Tryz.prog gl Tryz.f57 = some c57:=zk
theorem qJ2:qf Tryz.prog gl Tryz.f61 = some c61:=zk
theorem qJ5:qf Tryz.prog gl Tryz.f65 = some c65:=zk
theorem qKb:qf Tryz.prog gl Tryz.f73 = some c73:=zk
theorem qKf:qf Tryz.prog gl Tryz.f77 = some c77:=zk
theorem qKj:qf Tryz.prog gl Tryz.f81 = some c81:=zk
theorem qKn:qf Tryz.prog gl Tryz.f85 = some c85:=zk
theorem qKr:qf Tryz.prog gl Tryz.f89 = some c89:=zk
theorem qKv:qf Tryz.prog gl Tryz.f93 = some c93:=zk
theorem qKz:qf Tryz.prog gl Tryz.f97 = some c97:=zk
theorem qFo:qf Tryz.prog gl Tryz.f101 = some qDZ:=zk
theorem qFw:qf Tryz.prog gl Tryz.f113 = some qD4:=zk
theorem qFA:qf Tryz.prog gl Tryz.f117 = some qBy:=zk
theorem qFE:qf Tryz.prog gl Tryz.f121 = some qD7:=zk
theorem qFI:qf Tryz.prog gl Tryz.f125 = some qy9:=zk
theorem qFM:qf Tryz.prog gl Tryz.f129 = some qEa:=zk
theorem qFQ:qf Tryz.prog gl Tryz.f133 = some qIv:=zk
theorem qFU:qf Tryz.prog gl Tryz.f137 = some qEc:=zk
theorem qFY:qf Tryz.prog gl Tryz.f141 = some qEe:=zk
theorem qF2:qf Tryz.prog gl Tryz.f145 = some qza:=zk
theorem qF6:qf Tryz.prog gl Tryz.f149 = some qzb:=zk
theorem qF9:qf Tryz.prog gl Tryz.f153 = some qEi:=zk
theorem qGd:qf Tryz.prog gl Tryz.f157 = some qEk:=zk
theorem qGh:qf Tryz.prog gl Tryz.f161 = some qEm:=zk
theorem qGk:qf Tryz.prog gl Tryz.f165 = some qIG:=zk
theorem qGo:qf Tryz.prog gl Tryz.f169 = some qII:=zk
theorem qGs:qf Tryz.prog gl Tryz.f173 = some qEX:=zk
theorem qGw:qf Tryz.prog gl Tryz.f177 = some qIL:=zk
theorem qGA:qf Tryz.prog gl Tryz.f181 = some qIP:=zk
theorem qGD:qf Tryz.prog gl Tryz.f185 = some qB3:=zk
theorem qGI:qf Tryz.prog gl Tryz.f209 = some qEp:=zk
theorem qGN:qf Tryz.prog gl Tryz.f221 = some qxW:=zk
theorem qIR:qfO Tryz.prog gl Tryz.f21 Tryz.f41 = some c21:=zk
theorem qIS:qfO Tryz.prog gl Tryz.f25 Tryz.f64 = some c25:=zk
end Go.Proofs.YtcbfifamliijlaaGreatDoor.AE
