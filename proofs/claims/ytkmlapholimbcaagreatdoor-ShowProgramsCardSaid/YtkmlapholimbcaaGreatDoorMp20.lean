/- A part of the proof: the abstract executor and what goes through it (part 20). No condition. -/
import Derived.Test.YtkmlapholimbcaaGreatDoorMp6
import Derived.Test.YtkmlapholimbcaaGreatDoorProg
import Derived.KernelRfl
set_option maxRecDepth 100000
namespace Go.Proofs.YtkmlapholimbcaaGreatDoor.AE
open Go.AE
theorem kt6:qp Tryz.prog gl Tryz.f6 = some c6:=by kernel_rfl
theorem qEN:qp Tryz.prog gl Tryz.f10 = some c10:=by kernel_rfl
theorem qEQ:qp Tryz.prog gl Tryz.f14 = some c14:=by kernel_rfl
theorem qET:qp Tryz.prog gl Tryz.f18 = some c18:=by kernel_rfl
theorem qEX:qp Tryz.prog gl Tryz.f22 = some c22:=by kernel_rfl
theorem qE0:qp Tryz.prog gl Tryz.f26 = some c26:=by kernel_rfl
theorem qFg:qp Tryz.prog gl Tryz.f46 = some c46:=by kernel_rfl
theorem qFm:qp Tryz.prog gl Tryz.f54 = some c54:=by kernel_rfl
theorem qFq:qp Tryz.prog gl Tryz.f58 = some c58:=by kernel_rfl
theorem qFt:qp Tryz.prog gl Tryz.f62 = some c62:=by kernel_rfl
theorem qFw:qp Tryz.prog gl Tryz.f66 = some c66:=by kernel_rfl
theorem qFA:qp Tryz.prog gl Tryz.f70 = some c70:=by kernel_rfl
theorem qFE:qp Tryz.prog gl Tryz.f74 = some c74:=by kernel_rfl
theorem qFI:qp Tryz.prog gl Tryz.f78 = some c78:=by kernel_rfl
theorem qFO:qp Tryz.prog gl Tryz.f86 = some c86:=by kernel_rfl
theorem qFS:qp Tryz.prog gl Tryz.f90 = some c90:=by kernel_rfl
theorem qFV:qp Tryz.prog gl Tryz.f94 = some c94:=by kernel_rfl
theorem qFZ:qp Tryz.prog gl Tryz.f98 = some c98:=by kernel_rfl
theorem qBv:qp Tryz.prog gl Tryz.f102 = some qz8:=by kernel_rfl
theorem qBz:qp Tryz.prog gl Tryz.f106 = some qAa:=by kernel_rfl
theorem qBD:qp Tryz.prog gl Tryz.f110 = some qAc:=by kernel_rfl
theorem qBF:qp Tryz.prog gl Tryz.f114 = some qDw:=by kernel_rfl
theorem qBJ:qp Tryz.prog gl Tryz.f118 = some qDy:=by kernel_rfl
theorem qBN:qp Tryz.prog gl Tryz.f122 = some qDA:=by kernel_rfl
theorem qBR:qp Tryz.prog gl Tryz.f126 = some qDC:=by kernel_rfl
theorem qBU:qp Tryz.prog gl Tryz.f130 = some qDF:=by kernel_rfl
theorem qBY:qp Tryz.prog gl Tryz.f134 = some qDJ:=by kernel_rfl
theorem qB2:qp Tryz.prog gl Tryz.f138 = some quB:=by kernel_rfl
theorem qB6:qp Tryz.prog gl Tryz.f146 = some qDM:=by kernel_rfl
theorem qCa:qp Tryz.prog gl Tryz.f150 = some qyx:=by kernel_rfl
theorem qCf:qp Tryz.prog gl Tryz.f162 = some qDR:=by kernel_rfl
theorem qCg:qp Tryz.prog gl Tryz.f170 = some qDS:=by kernel_rfl
theorem qCh:qp Tryz.prog gl Tryz.f174 = some qDT:=by kernel_rfl
theorem qCj:qp Tryz.prog gl Tryz.f178 = some qDV:=by kernel_rfl
theorem qCn:qp Tryz.prog gl Tryz.f182 = some qDZ:=by kernel_rfl
end Go.Proofs.YtkmlapholimbcaaGreatDoor.AE
