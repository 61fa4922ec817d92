/- A part of the proof: the abstract executor and what goes through it (part 23). No condition. -/
import Derived.Test.YtnibchoenjmmjaaGreatDoorMq6
import Derived.Test.YtnibchoenjmmjaaGreatDoorProg
import Derived.KernelRfl
set_option maxRecDepth 100000
namespace Go.Proofs.YtnibchoenjmmjaaGreatDoor.AE
open Go.AE
theorem kt9:qe Tryz.prog gl Tryz.f9 = some c9:=by kernel_rfl
theorem qEC:qe Tryz.prog gl Tryz.f13 = some c13:=by kernel_rfl
theorem qEE:qe Tryz.prog gl Tryz.f17 = some c17:=by kernel_rfl
theorem qEI:qe Tryz.prog gl Tryz.f21 = some c21:=by kernel_rfl
theorem qEM:qe Tryz.prog gl Tryz.f25 = some c25:=by kernel_rfl
theorem qEQ:qe Tryz.prog gl Tryz.f33 = some c33:=by kernel_rfl
theorem qES:qe Tryz.prog gl Tryz.f37 = some c37:=by kernel_rfl
theorem qEV:qe Tryz.prog gl Tryz.f41 = some c41:=by kernel_rfl
theorem qEZ:qe Tryz.prog gl Tryz.f45 = some c45:=by kernel_rfl
theorem qE3:qe Tryz.prog gl Tryz.f49 = some c49:=by kernel_rfl
theorem qE7:qe Tryz.prog gl Tryz.f53 = some c53:=by kernel_rfl
theorem qFb:qe Tryz.prog gl Tryz.f57 = some c57:=by kernel_rfl
theorem qFe:qe Tryz.prog gl Tryz.f61 = some c61:=by kernel_rfl
theorem qFf:qe Tryz.prog gl Tryz.f69 = some c69:=by kernel_rfl
theorem qFi:qe Tryz.prog gl Tryz.f73 = some c73:=by kernel_rfl
theorem qFm:qe Tryz.prog gl Tryz.f77 = some c77:=by kernel_rfl
theorem qFq:qe Tryz.prog gl Tryz.f81 = some c81:=by kernel_rfl
theorem qFu:qe Tryz.prog gl Tryz.f93 = some c93:=by kernel_rfl
theorem qFy:qe Tryz.prog gl Tryz.f97 = some c97:=by kernel_rfl
theorem qBZ:qe Tryz.prog gl Tryz.f101 = some qAz:=by kernel_rfl
theorem qB3:qe Tryz.prog gl Tryz.f105 = some qAD:=by kernel_rfl
theorem qB6:qe Tryz.prog gl Tryz.f109 = some qyv:=by kernel_rfl
theorem qCa:qe Tryz.prog gl Tryz.f113 = some qvP:=by kernel_rfl
theorem qCe:qe Tryz.prog gl Tryz.f121 = some qDA:=by kernel_rfl
theorem qCi:qe Tryz.prog gl Tryz.f125 = some qDE:=by kernel_rfl
theorem qCm:qe Tryz.prog gl Tryz.f129 = some qAL:=by kernel_rfl
theorem qCo:qe Tryz.prog gl Tryz.f133 = some qDF:=by kernel_rfl
theorem qCs:qe Tryz.prog gl Tryz.f137 = some qDJ:=by kernel_rfl
theorem qCv:qe Tryz.prog gl Tryz.f141 = some qDM:=by kernel_rfl
theorem qCz:qe Tryz.prog gl Tryz.f145 = some qDQ:=by kernel_rfl
theorem qCE:qe Tryz.prog gl Tryz.f165 = some qDV:=by kernel_rfl
theorem qCI:qe Tryz.prog gl Tryz.f173 = some qDZ:=by kernel_rfl
theorem qCL:qe Tryz.prog gl Tryz.f181 = some qD2:=by kernel_rfl
end Go.Proofs.YtnibchoenjmmjaaGreatDoor.AE
