/- A part of the proof. No condition. -/
import Derived.Test.YtcbfifamliijlaaGreatDoorMa6
import Derived.Test.YtcbfifamliijlaaGreatDoorProg
import Derived.KernelRfl
set_option maxRecDepth 100000
namespace Go.Proofs.YtcbfifamliijlaaGreatDoor.AE
open Go.AE
theorem kt5:qh Tryz.prog gl Tryz.f5 = some c5:=zk
theorem kt9:qh Tryz.prog gl Tryz.f9 = some c9:=zk
theorem qKa:qh Tryz.prog gl Tryz.f17 = some c17:=zk
theorem qKk:qh Tryz.prog gl Tryz.f33 = some c33:=zk
theorem qKo:qh Tryz.prog gl Tryz.f37 = some c37:=zk
theorem qKv:qh Tryz.prog gl Tryz.f45 = some c45:=zk
theorem qKz:qh Tryz.prog gl Tryz.f49 = some c49:=zk
theorem qKD:qh Tryz.prog gl Tryz.f53 = some c53:=zk
theorem qKH:qh Tryz.prog gl Tryz.f57 = some c57:=zk
theorem qKL:qh Tryz.prog gl Tryz.f61 = some c61:=zk
theorem qKO:qh Tryz.prog gl Tryz.f65 = some c65:=zk
theorem qKU:qh Tryz.prog gl Tryz.f73 = some c73:=zk
theorem qKY:qh Tryz.prog gl Tryz.f77 = some c77:=zk
theorem qK2:qh Tryz.prog gl Tryz.f81 = some c81:=zk
theorem qK6:qh Tryz.prog gl Tryz.f85 = some c85:=zk
theorem qLa:qh Tryz.prog gl Tryz.f89 = some c89:=zk
theorem qLe:qh Tryz.prog gl Tryz.f93 = some c93:=zk
theorem qLi:qh Tryz.prog gl Tryz.f97 = some c97:=zk
theorem qGz:qh Tryz.prog gl Tryz.f101 = some qFc:=zk
theorem qGH:qh Tryz.prog gl Tryz.f113 = some qFh:=zk
theorem qGL:qh Tryz.prog gl Tryz.f117 = some qCa:=zk
theorem qGP:qh Tryz.prog gl Tryz.f121 = some qFk:=zk
theorem qGT:qh Tryz.prog gl Tryz.f125 = some qzU:=zk
theorem qGX:qh Tryz.prog gl Tryz.f129 = some qFn:=zk
theorem qG1:qh Tryz.prog gl Tryz.f133 = some qJg:=zk
theorem qG5:qh Tryz.prog gl Tryz.f137 = some qzV:=zk
theorem qG9:qh Tryz.prog gl Tryz.f141 = some qzX:=zk
theorem qHd:qh Tryz.prog gl Tryz.f145 = some qoP:=zk
theorem qHh:qh Tryz.prog gl Tryz.f149 = some qzZ:=zk
theorem qHk:qh Tryz.prog gl Tryz.f153 = some qFq:=zk
theorem qHo:qh Tryz.prog gl Tryz.f157 = some qFs:=zk
theorem qHs:qh Tryz.prog gl Tryz.f161 = some qFu:=zk
theorem qHv:qh Tryz.prog gl Tryz.f165 = some qJr:=zk
theorem qHz:qh Tryz.prog gl Tryz.f169 = some qJt:=zk
theorem qHD:qh Tryz.prog gl Tryz.f173 = some qF4:=zk
theorem qHH:qh Tryz.prog gl Tryz.f177 = some qJw:=zk
theorem qHL:qh Tryz.prog gl Tryz.f181 = some qJA:=zk
theorem qHO:qh Tryz.prog gl Tryz.f185 = some qCK:=zk
theorem qHT:qh Tryz.prog gl Tryz.f209 = some qCd:=zk
theorem qHY:qh Tryz.prog gl Tryz.f221 = some qnt:=zk
theorem qJD:qfY Tryz.prog gl Tryz.f21 Tryz.f41 = some c21:=zk
theorem qJE:qfY Tryz.prog gl Tryz.f25 Tryz.f64 = some c25:=zk
end Go.Proofs.YtcbfifamliijlaaGreatDoor.AE
