/- A part of the proof: the abstract executor and what goes through it (part 25). No condition. -/
import Derived.Test.YtnibchoenjmmjaaGreatDoorMr6
import Derived.Test.YtnibchoenjmmjaaGreatDoorProg
import Derived.KernelRfl
set_option maxRecDepth 100000
namespace Go.Proofs.YtnibchoenjmmjaaGreatDoor.AE
open Go.AE
theorem kt9:qd Tryz.prog gl Tryz.f9 = some c9:=xk
theorem qGg:qd Tryz.prog gl Tryz.f13 = some c13:=xk
theorem qGh:qd Tryz.prog gl Tryz.f17 = some c17:=xk
theorem qGl:qd Tryz.prog gl Tryz.f21 = some c21:=xk
theorem qGp:qd Tryz.prog gl Tryz.f25 = some c25:=xk
theorem qGt:qd Tryz.prog gl Tryz.f29 = some c29:=xk
theorem qGw:qd Tryz.prog gl Tryz.f33 = some c33:=xk
theorem qGy:qd Tryz.prog gl Tryz.f37 = some c37:=xk
theorem qGB:qd Tryz.prog gl Tryz.f41 = some c41:=xk
theorem qGF:qd Tryz.prog gl Tryz.f45 = some c45:=xk
theorem qGJ:qd Tryz.prog gl Tryz.f49 = some c49:=xk
theorem qGN:qd Tryz.prog gl Tryz.f53 = some c53:=xk
theorem qGR:qd Tryz.prog gl Tryz.f57 = some c57:=xk
theorem qGV:qd Tryz.prog gl Tryz.f61 = some c61:=xk
theorem qGW:qd Tryz.prog gl Tryz.f69 = some c69:=xk
theorem qGZ:qd Tryz.prog gl Tryz.f73 = some c73:=xk
theorem qG2:qd Tryz.prog gl Tryz.f77 = some c77:=xk
theorem qG6:qd Tryz.prog gl Tryz.f81 = some c81:=xk
theorem qHa:qd Tryz.prog gl Tryz.f93 = some c93:=xk
theorem qHe:qd Tryz.prog gl Tryz.f97 = some c97:=xk
theorem qDD:qd Tryz.prog gl Tryz.f101 = some qB7:=xk
theorem qDH:qd Tryz.prog gl Tryz.f105 = some qCb:=xk
theorem qDK:qd Tryz.prog gl Tryz.f109 = some qzT:=xk
theorem qDO:qd Tryz.prog gl Tryz.f113 = some qw8:=xk
theorem qDS:qd Tryz.prog gl Tryz.f121 = some qFj:=xk
theorem qDZ:qd Tryz.prog gl Tryz.f129 = some qCj:=xk
theorem qD1:qd Tryz.prog gl Tryz.f133 = some qFn:=xk
theorem qD5:qd Tryz.prog gl Tryz.f137 = some qFr:=xk
theorem qD7:qd Tryz.prog gl Tryz.f141 = some qFt:=xk
theorem qEa:qd Tryz.prog gl Tryz.f145 = some qFw:=xk
theorem qEf:qd Tryz.prog gl Tryz.f165 = some qFB:=xk
theorem qEh:qd Tryz.prog gl Tryz.f173 = some qFD:=xk
end Go.Proofs.YtnibchoenjmmjaaGreatDoor.AE
