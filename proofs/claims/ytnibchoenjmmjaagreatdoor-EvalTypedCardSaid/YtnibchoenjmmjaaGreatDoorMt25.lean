/- Proved: part 25. No condition. -/
import Derived.Test.YtnibchoenjmmjaaGreatDoorMt6
import Derived.Test.YtnibchoenjmmjaaGreatDoorProg
import Derived.KernelRfl
set_option maxRecDepth 100000
namespace Go.Proofs.YtnibchoenjmmjaaGreatDoor.AE
open Go.AE
theorem kt5:qd Tryz.prog gl Tryz.f5 = some c5:=xk
theorem kt9:qd Tryz.prog gl Tryz.f9 = some c9:=xk
theorem qGE:qd Tryz.prog gl Tryz.f13 = some c13:=xk
theorem qGH:qd Tryz.prog gl Tryz.f17 = some c17:=xk
theorem qGL:qd Tryz.prog gl Tryz.f21 = some c21:=xk
theorem qGP:qd Tryz.prog gl Tryz.f25 = some c25:=xk
theorem qGS:qd Tryz.prog gl Tryz.f33 = some c33:=xk
theorem qGW:qd Tryz.prog gl Tryz.f37 = some c37:=xk
theorem qGZ:qd Tryz.prog gl Tryz.f41 = some c41:=xk
theorem qG3:qd Tryz.prog gl Tryz.f45 = some c45:=xk
theorem qG7:qd Tryz.prog gl Tryz.f49 = some c49:=xk
theorem qHb:qd Tryz.prog gl Tryz.f53 = some c53:=xk
theorem qHf:qd Tryz.prog gl Tryz.f57 = some c57:=xk
theorem qHi:qd Tryz.prog gl Tryz.f61 = some c61:=xk
theorem qHm:qd Tryz.prog gl Tryz.f65 = some c65:=xk
theorem qHq:qd Tryz.prog gl Tryz.f69 = some c69:=xk
theorem qHt:qd Tryz.prog gl Tryz.f73 = some c73:=xk
theorem qHw:qd Tryz.prog gl Tryz.f77 = some c77:=xk
theorem qHA:qd Tryz.prog gl Tryz.f81 = some c81:=xk
theorem qHE:qd Tryz.prog gl Tryz.f85 = some c85:=xk
theorem qHI:qd Tryz.prog gl Tryz.f89 = some c89:=xk
theorem qHM:qd Tryz.prog gl Tryz.f93 = some c93:=xk
theorem qHQ:qd Tryz.prog gl Tryz.f97 = some c97:=xk
theorem qDE:qd Tryz.prog gl Tryz.f101 = some qB8:=xk
theorem qDI:qd Tryz.prog gl Tryz.f105 = some qCc:=xk
theorem qDL:qd Tryz.prog gl Tryz.f109 = some qzS:=xk
theorem qDP:qd Tryz.prog gl Tryz.f113 = some qw5:=xk
theorem qDT:qd Tryz.prog gl Tryz.f117 = some qCj:=xk
theorem qDX:qd Tryz.prog gl Tryz.f121 = some qFF:=xk
theorem qD4:qd Tryz.prog gl Tryz.f129 = some qCm:=xk
theorem qD8:qd Tryz.prog gl Tryz.f133 = some qFJ:=xk
theorem qEc:qd Tryz.prog gl Tryz.f137 = some qFN:=xk
theorem qEe:qd Tryz.prog gl Tryz.f141 = some qFP:=xk
theorem qEh:qd Tryz.prog gl Tryz.f145 = some qFS:=xk
theorem qEm:qd Tryz.prog gl Tryz.f165 = some qFX:=xk
theorem qEo:qd Tryz.prog gl Tryz.f173 = some qFZ:=xk
end Go.Proofs.YtnibchoenjmmjaaGreatDoor.AE
