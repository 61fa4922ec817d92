/- A part of the proof: the abstract executor and what goes through it (part 18). No condition. -/
import Derived.Test.YtkmlapholimbcaaGreatDoorMp6
import Derived.Test.YtkmlapholimbcaaGreatDoorProg
import Derived.KernelRfl
set_option maxRecDepth 100000
namespace Go.Proofs.YtkmlapholimbcaaGreatDoor.AE
open Go.AE
theorem kt4:qp Tryz.prog gl Tryz.f4 = some c4:=by kernel_rfl
theorem kt8:qp Tryz.prog gl Tryz.f8 = some c8:=by kernel_rfl
theorem qES:qp Tryz.prog gl Tryz.f16 = some c16:=by kernel_rfl
theorem qEV:qp Tryz.prog gl Tryz.f20 = some c20:=by kernel_rfl
theorem qE2:qp Tryz.prog gl Tryz.f28 = some c28:=by kernel_rfl
theorem qE5:qp Tryz.prog gl Tryz.f32 = some c32:=by kernel_rfl
theorem qE8:qp Tryz.prog gl Tryz.f36 = some c36:=by kernel_rfl
theorem qFb:qp Tryz.prog gl Tryz.f40 = some c40:=by kernel_rfl
theorem qFe:qp Tryz.prog gl Tryz.f44 = some c44:=by kernel_rfl
theorem qFi:qp Tryz.prog gl Tryz.f48 = some c48:=by kernel_rfl
theorem qFk:qp Tryz.prog gl Tryz.f52 = some c52:=by kernel_rfl
theorem qFo:qp Tryz.prog gl Tryz.f56 = some c56:=by kernel_rfl
theorem qFs:qp Tryz.prog gl Tryz.f60 = some c60:=by kernel_rfl
theorem qFu:qp Tryz.prog gl Tryz.f64 = some c64:=by kernel_rfl
theorem qFy:qp Tryz.prog gl Tryz.f68 = some c68:=by kernel_rfl
theorem qFC:qp Tryz.prog gl Tryz.f72 = some c72:=by kernel_rfl
theorem qFG:qp Tryz.prog gl Tryz.f76 = some c76:=by kernel_rfl
theorem qFK:qp Tryz.prog gl Tryz.f80 = some c80:=by kernel_rfl
theorem qFM:qp Tryz.prog gl Tryz.f84 = some c84:=by kernel_rfl
theorem qFQ:qp Tryz.prog gl Tryz.f88 = some c88:=by kernel_rfl
theorem qFX:qp Tryz.prog gl Tryz.f96 = some c96:=by kernel_rfl
theorem qBt:qp Tryz.prog gl Tryz.f100 = some qz7:=by kernel_rfl
theorem qBx:qp Tryz.prog gl Tryz.f104 = some qz9:=by kernel_rfl
theorem qBB:qp Tryz.prog gl Tryz.f108 = some qAb:=by kernel_rfl
theorem qBH:qp Tryz.prog gl Tryz.f116 = some qDx:=by kernel_rfl
theorem qBL:qp Tryz.prog gl Tryz.f120 = some qDz:=by kernel_rfl
theorem qBP:qp Tryz.prog gl Tryz.f124 = some qDB:=by kernel_rfl
theorem qBS:qp Tryz.prog gl Tryz.f128 = some qDD:=by kernel_rfl
theorem qBW:qp Tryz.prog gl Tryz.f132 = some qDH:=by kernel_rfl
theorem qB0:qp Tryz.prog gl Tryz.f136 = some qAj:=by kernel_rfl
theorem qB4:qp Tryz.prog gl Tryz.f140 = some qAk:=by kernel_rfl
theorem qB8:qp Tryz.prog gl Tryz.f148 = some qDO:=by kernel_rfl
theorem qCc:qp Tryz.prog gl Tryz.f152 = some qyy:=by kernel_rfl
theorem qCl:qp Tryz.prog gl Tryz.f180 = some qDX:=by kernel_rfl
theorem qCp:qp Tryz.prog gl Tryz.f184 = some qD1:=by kernel_rfl
theorem qD5:qfC Tryz.prog gl Tryz.f24 Tryz.f42 = some c24:=by kernel_rfl
end Go.Proofs.YtkmlapholimbcaaGreatDoor.AE
