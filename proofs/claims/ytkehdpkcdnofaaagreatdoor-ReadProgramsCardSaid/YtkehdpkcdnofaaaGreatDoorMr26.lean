/- A part of the proof. No condition. -/
import Derived.Test.YtkehdpkcdnofaaaGreatDoorMr6
import Derived.Test.YtkehdpkcdnofaaaGreatDoorProg
import Derived.KernelRfl
set_option maxRecDepth 100000
namespace Go.Proofs.YtkehdpkcdnofaaaGreatDoor.AE
open Go.AE
theorem kt5:qn Tryz.prog gl Tryz.f5 = some c5:=zk
theorem qGa:qn Tryz.prog gl Tryz.f13 = some c13:=zk
theorem qGe:qn Tryz.prog gl Tryz.f17 = some c17:=zk
theorem qGl:qn Tryz.prog gl Tryz.f25 = some c25:=zk
theorem qGp:qn Tryz.prog gl Tryz.f29 = some c29:=zk
theorem qGt:qn Tryz.prog gl Tryz.f33 = some c33:=zk
theorem qGx:qn Tryz.prog gl Tryz.f37 = some c37:=zk
theorem qGB:qn Tryz.prog gl Tryz.f41 = some c41:=zk
theorem qGE:qn Tryz.prog gl Tryz.f45 = some c45:=zk
theorem qGI:qn Tryz.prog gl Tryz.f49 = some c49:=zk
theorem qGM:qn Tryz.prog gl Tryz.f53 = some c53:=zk
theorem qGQ:qn Tryz.prog gl Tryz.f57 = some c57:=zk
theorem qGU:qn Tryz.prog gl Tryz.f61 = some c61:=zk
theorem qGY:qn Tryz.prog gl Tryz.f65 = some c65:=zk
theorem qG2:qn Tryz.prog gl Tryz.f69 = some c69:=zk
theorem qG6:qn Tryz.prog gl Tryz.f73 = some c73:=zk
theorem qHa:qn Tryz.prog gl Tryz.f77 = some c77:=zk
theorem qHe:qn Tryz.prog gl Tryz.f81 = some c81:=zk
theorem qHi:qn Tryz.prog gl Tryz.f85 = some c85:=zk
theorem qHm:qn Tryz.prog gl Tryz.f89 = some c89:=zk
theorem qHq:qn Tryz.prog gl Tryz.f93 = some c93:=zk
theorem qHt:qn Tryz.prog gl Tryz.f97 = some c97:=zk
theorem qD6:qn Tryz.prog gl Tryz.f101 = some qFC:=zk
theorem qEa:qn Tryz.prog gl Tryz.f105 = some qFF:=zk
theorem qEe:qn Tryz.prog gl Tryz.f109 = some qC4:=zk
theorem qEi:qn Tryz.prog gl Tryz.f113 = some qFL:=zk
theorem qEm:qn Tryz.prog gl Tryz.f117 = some qAo:=zk
theorem qEq:qn Tryz.prog gl Tryz.f121 = some qC7:=zk
theorem qEw:qn Tryz.prog gl Tryz.f129 = some qkN:=zk
theorem qEx:qn Tryz.prog gl Tryz.f133 = some qDa:=zk
theorem qEA:qn Tryz.prog gl Tryz.f141 = some qAq:=zk
theorem qEE:qn Tryz.prog gl Tryz.f157 = some qyw:=zk
theorem qEH:qn Tryz.prog gl Tryz.f165 = some qgf:=zk
theorem kt9:qgn Tryz.prog gl Tryz.f9 Tryz.f21 = some c9:=zk
end Go.Proofs.YtkehdpkcdnofaaaGreatDoor.AE
