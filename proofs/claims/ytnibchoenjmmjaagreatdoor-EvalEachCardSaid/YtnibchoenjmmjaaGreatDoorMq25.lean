/- A part of the proof: the abstract executor and what goes through it (part 25). No condition. -/
import Derived.Test.YtnibchoenjmmjaaGreatDoorMq6
import Derived.Test.YtnibchoenjmmjaaGreatDoorProg
import Derived.KernelRfl
set_option maxRecDepth 100000
namespace Go.Proofs.YtnibchoenjmmjaaGreatDoor.AE
open Go.AE
theorem kt7:qe Tryz.prog gl Tryz.f7 = some c7:=by kernel_rfl
theorem qEG:qe Tryz.prog gl Tryz.f19 = some c19:=by kernel_rfl
theorem qEK:qe Tryz.prog gl Tryz.f23 = some c23:=by kernel_rfl
theorem qEO:qe Tryz.prog gl Tryz.f27 = some c27:=by kernel_rfl
theorem qEX:qe Tryz.prog gl Tryz.f43 = some c43:=by kernel_rfl
theorem qE1:qe Tryz.prog gl Tryz.f47 = some c47:=by kernel_rfl
theorem qE5:qe Tryz.prog gl Tryz.f51 = some c51:=by kernel_rfl
theorem qE9:qe Tryz.prog gl Tryz.f55 = some c55:=by kernel_rfl
theorem qFk:qe Tryz.prog gl Tryz.f75 = some c75:=by kernel_rfl
theorem qFo:qe Tryz.prog gl Tryz.f79 = some c79:=by kernel_rfl
theorem qFs:qe Tryz.prog gl Tryz.f83 = some c83:=by kernel_rfl
theorem qFw:qe Tryz.prog gl Tryz.f95 = some c95:=by kernel_rfl
theorem qFA:qe Tryz.prog gl Tryz.f99 = some c99:=by kernel_rfl
theorem qB1:qe Tryz.prog gl Tryz.f103 = some qAB:=by kernel_rfl
theorem qB8:qe Tryz.prog gl Tryz.f111 = some qAG:=by kernel_rfl
theorem qCc:qe Tryz.prog gl Tryz.f115 = some qAI:=by kernel_rfl
theorem qCg:qe Tryz.prog gl Tryz.f123 = some qDC:=by kernel_rfl
theorem qCk:qe Tryz.prog gl Tryz.f127 = some qAJ:=by kernel_rfl
theorem qCq:qe Tryz.prog gl Tryz.f135 = some qDH:=by kernel_rfl
theorem qCu:qe Tryz.prog gl Tryz.f139 = some qDL:=by kernel_rfl
theorem qCx:qe Tryz.prog gl Tryz.f143 = some qDO:=by kernel_rfl
theorem qCC:qe Tryz.prog gl Tryz.f159 = some qDT:=by kernel_rfl
theorem qCD:qe Tryz.prog gl Tryz.f163 = some qDU:=by kernel_rfl
theorem qCG:qe Tryz.prog gl Tryz.f171 = some qDX:=by kernel_rfl
theorem qCJ:qe Tryz.prog gl Tryz.f179 = some qD0:=by kernel_rfl
theorem qD5:qfn Tryz.prog gl Tryz.f39 Tryz.f71 = some c39:=by kernel_rfl
end Go.Proofs.YtnibchoenjmmjaaGreatDoor.AE
