/- A part of the proof: the abstract executor and what goes through it (part 22). No condition. -/
import Derived.Test.YtnibchoenjmmjaaGreatDoorMq6
import Derived.Test.YtnibchoenjmmjaaGreatDoorProg
import Derived.KernelRfl
set_option maxRecDepth 100000
set_option maxHeartbeats 0
namespace Go.Proofs.YtnibchoenjmmjaaGreatDoor.AE
open Go.AE
theorem kt4:qe Tryz.prog gl Tryz.f4 = some c4:=by kernel_rfl
theorem kt8:qe Tryz.prog gl Tryz.f8 = some c8:=by kernel_rfl
theorem qEH:qe Tryz.prog gl Tryz.f20 = some c20:=by kernel_rfl
theorem qEL:qe Tryz.prog gl Tryz.f24 = some c24:=by kernel_rfl
theorem qEP:qe Tryz.prog gl Tryz.f32 = some c32:=by kernel_rfl
theorem qER:qe Tryz.prog gl Tryz.f36 = some c36:=by kernel_rfl
theorem qEU:qe Tryz.prog gl Tryz.f40 = some c40:=by kernel_rfl
theorem qEY:qe Tryz.prog gl Tryz.f44 = some c44:=by kernel_rfl
theorem qE2:qe Tryz.prog gl Tryz.f48 = some c48:=by kernel_rfl
theorem qE6:qe Tryz.prog gl Tryz.f52 = some c52:=by kernel_rfl
theorem qFa:qe Tryz.prog gl Tryz.f56 = some c56:=by kernel_rfl
theorem qFd:qe Tryz.prog gl Tryz.f60 = some c60:=by kernel_rfl
theorem qFh:qe Tryz.prog gl Tryz.f72 = some c72:=by kernel_rfl
theorem qFl:qe Tryz.prog gl Tryz.f76 = some c76:=by kernel_rfl
theorem qFp:qe Tryz.prog gl Tryz.f80 = some c80:=by kernel_rfl
theorem qFt:qe Tryz.prog gl Tryz.f84 = some c84:=by kernel_rfl
theorem qFx:qe Tryz.prog gl Tryz.f96 = some c96:=by kernel_rfl
theorem qBY:qe Tryz.prog gl Tryz.f100 = some qDy:=by kernel_rfl
theorem qB2:qe Tryz.prog gl Tryz.f104 = some qAC:=by kernel_rfl
theorem qB5:qe Tryz.prog gl Tryz.f108 = some qAE:=by kernel_rfl
theorem qB9:qe Tryz.prog gl Tryz.f112 = some qAH:=by kernel_rfl
theorem qCd:qe Tryz.prog gl Tryz.f120 = some qDz:=by kernel_rfl
theorem qCh:qe Tryz.prog gl Tryz.f124 = some qDD:=by kernel_rfl
theorem qCl:qe Tryz.prog gl Tryz.f128 = some qAK:=by kernel_rfl
theorem qCr:qe Tryz.prog gl Tryz.f136 = some qDI:=by kernel_rfl
theorem qCy:qe Tryz.prog gl Tryz.f144 = some qDP:=by kernel_rfl
theorem qCA:qe Tryz.prog gl Tryz.f148 = some qDR:=by kernel_rfl
theorem qCH:qe Tryz.prog gl Tryz.f172 = some qDY:=by kernel_rfl
theorem qCK:qe Tryz.prog gl Tryz.f180 = some qD1:=by kernel_rfl
end Go.Proofs.YtnibchoenjmmjaaGreatDoor.AE
