/- A part of the proof: the abstract executor and what goes through it (part 24). No condition. -/
import Derived.Test.YtnibchoenjmmjaaGreatDoorMq6
import Derived.Test.YtnibchoenjmmjaaGreatDoorProg
import Derived.KernelRfl
set_option maxRecDepth 100000
namespace Go.Proofs.YtnibchoenjmmjaaGreatDoor.AE
open Go.AE
theorem kt6:qe Tryz.prog gl Tryz.f6 = some c6:=by kernel_rfl
theorem qEB:qe Tryz.prog gl Tryz.f10 = some c10:=by kernel_rfl
theorem qED:qe Tryz.prog gl Tryz.f14 = some c14:=by kernel_rfl
theorem qEF:qe Tryz.prog gl Tryz.f18 = some c18:=by kernel_rfl
theorem qEJ:qe Tryz.prog gl Tryz.f22 = some c22:=by kernel_rfl
theorem qEN:qe Tryz.prog gl Tryz.f26 = some c26:=by kernel_rfl
theorem qET:qe Tryz.prog gl Tryz.f38 = some c38:=by kernel_rfl
theorem qEW:qe Tryz.prog gl Tryz.f42 = some c42:=by kernel_rfl
theorem qE0:qe Tryz.prog gl Tryz.f46 = some c46:=by kernel_rfl
theorem qE4:qe Tryz.prog gl Tryz.f50 = some c50:=by kernel_rfl
theorem qE8:qe Tryz.prog gl Tryz.f54 = some c54:=by kernel_rfl
theorem qFc:qe Tryz.prog gl Tryz.f58 = some c58:=by kernel_rfl
theorem qFg:qe Tryz.prog gl Tryz.f70 = some c70:=by kernel_rfl
theorem qFj:qe Tryz.prog gl Tryz.f74 = some c74:=by kernel_rfl
theorem qFn:qe Tryz.prog gl Tryz.f78 = some c78:=by kernel_rfl
theorem qFr:qe Tryz.prog gl Tryz.f82 = some c82:=by kernel_rfl
theorem qFv:qe Tryz.prog gl Tryz.f94 = some c94:=by kernel_rfl
theorem qFz:qe Tryz.prog gl Tryz.f98 = some c98:=by kernel_rfl
theorem qB0:qe Tryz.prog gl Tryz.f102 = some qAA:=by kernel_rfl
theorem qB4:qe Tryz.prog gl Tryz.f106 = some qvO:=by kernel_rfl
theorem qB7:qe Tryz.prog gl Tryz.f110 = some qAF:=by kernel_rfl
theorem qCb:qe Tryz.prog gl Tryz.f114 = some qyw:=by kernel_rfl
theorem qCf:qe Tryz.prog gl Tryz.f122 = some qDB:=by kernel_rfl
theorem qCj:qe Tryz.prog gl Tryz.f126 = some qy2:=by kernel_rfl
theorem qCn:qe Tryz.prog gl Tryz.f130 = some qAM:=by kernel_rfl
theorem qCp:qe Tryz.prog gl Tryz.f134 = some qDG:=by kernel_rfl
theorem qCt:qe Tryz.prog gl Tryz.f138 = some qDK:=by kernel_rfl
theorem qCw:qe Tryz.prog gl Tryz.f142 = some qDN:=by kernel_rfl
theorem qCB:qe Tryz.prog gl Tryz.f154 = some qDS:=by kernel_rfl
theorem qCF:qe Tryz.prog gl Tryz.f170 = some qDW:=by kernel_rfl
end Go.Proofs.YtnibchoenjmmjaaGreatDoor.AE
