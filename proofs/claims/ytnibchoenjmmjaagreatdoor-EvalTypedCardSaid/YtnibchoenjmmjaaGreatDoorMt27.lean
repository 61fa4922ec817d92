/- Proved: part 27. No condition. -/
import Derived.Test.YtnibchoenjmmjaaGreatDoorMt6
import Derived.Test.YtnibchoenjmmjaaGreatDoorProg
import Derived.KernelRfl
set_option maxRecDepth 100000
namespace Go.Proofs.YtnibchoenjmmjaaGreatDoor.AE
open Go.AE
theorem kt7:qd Tryz.prog gl Tryz.f7 = some c7:=xk
theorem qGF:qd Tryz.prog gl Tryz.f15 = some c15:=xk
theorem qGJ:qd Tryz.prog gl Tryz.f19 = some c19:=xk
theorem qGN:qd Tryz.prog gl Tryz.f23 = some c23:=xk
theorem qGR:qd Tryz.prog gl Tryz.f27 = some c27:=xk
theorem qGU:qd Tryz.prog gl Tryz.f35 = some c35:=xk
theorem qG1:qd Tryz.prog gl Tryz.f43 = some c43:=xk
theorem qG5:qd Tryz.prog gl Tryz.f47 = some c47:=xk
theorem qG9:qd Tryz.prog gl Tryz.f51 = some c51:=xk
theorem qHd:qd Tryz.prog gl Tryz.f55 = some c55:=xk
theorem qHk:qd Tryz.prog gl Tryz.f63 = some c63:=xk
theorem qHo:qd Tryz.prog gl Tryz.f67 = some c67:=xk
theorem qHv:qd Tryz.prog gl Tryz.f75 = some c75:=xk
theorem qHy:qd Tryz.prog gl Tryz.f79 = some c79:=xk
theorem qHC:qd Tryz.prog gl Tryz.f83 = some c83:=xk
theorem qHG:qd Tryz.prog gl Tryz.f87 = some c87:=xk
theorem qHK:qd Tryz.prog gl Tryz.f91 = some c91:=xk
theorem qHO:qd Tryz.prog gl Tryz.f95 = some c95:=xk
theorem qHS:qd Tryz.prog gl Tryz.f99 = some c99:=xk
theorem qDG:qd Tryz.prog gl Tryz.f103 = some qCa:=xk
theorem qDN:qd Tryz.prog gl Tryz.f111 = some qCf:=xk
theorem qDR:qd Tryz.prog gl Tryz.f115 = some qCh:=xk
theorem qDV:qd Tryz.prog gl Tryz.f119 = some qw6:=xk
theorem qDZ:qd Tryz.prog gl Tryz.f123 = some qFH:=xk
theorem qD2:qd Tryz.prog gl Tryz.f127 = some qCk:=xk
theorem qD6:qd Tryz.prog gl Tryz.f131 = some qAp:=xk
theorem qEa:qd Tryz.prog gl Tryz.f135 = some qFL:=xk
theorem qEd:qd Tryz.prog gl Tryz.f139 = some qFO:=xk
theorem qEk:qd Tryz.prog gl Tryz.f159 = some qFV:=xk
theorem qEl:qd Tryz.prog gl Tryz.f163 = some qFW:=xk
theorem qEp:qd Tryz.prog gl Tryz.f179 = some qF0:=xk
theorem qF4:qgp Tryz.prog gl Tryz.f39 Tryz.f71 = some c39:=xk
end Go.Proofs.YtnibchoenjmmjaaGreatDoor.AE
