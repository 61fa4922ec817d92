/- A part of the proof: the abstract executor and what goes through it (part 17). No condition. -/
import Derived.Test.YtkmlapholimbcaaGreatDoorMx5
import Derived.Test.YtkmlapholimbcaaGreatDoorProg
import Derived.KernelRfl
set_option maxRecDepth 100000
namespace Go.Proofs.YtkmlapholimbcaaGreatDoor.AE
open Go.AE
theorem kt6:ql Tryz.prog gl Tryz.f6 = some c6:=by kernel_rfl
theorem qDU:ql Tryz.prog gl Tryz.f10 = some c10:=by kernel_rfl
theorem qDY:ql Tryz.prog gl Tryz.f18 = some c18:=by kernel_rfl
theorem qD2:ql Tryz.prog gl Tryz.f22 = some c22:=by kernel_rfl
theorem qD5:ql Tryz.prog gl Tryz.f26 = some c26:=by kernel_rfl
theorem qEh:ql Tryz.prog gl Tryz.f46 = some c46:=by kernel_rfl
theorem qEk:ql Tryz.prog gl Tryz.f62 = some c62:=by kernel_rfl
theorem qEn:ql Tryz.prog gl Tryz.f66 = some c66:=by kernel_rfl
theorem qEr:ql Tryz.prog gl Tryz.f70 = some c70:=by kernel_rfl
theorem qEv:ql Tryz.prog gl Tryz.f74 = some c74:=by kernel_rfl
theorem qEA:ql Tryz.prog gl Tryz.f94 = some c94:=by kernel_rfl
theorem qEE:ql Tryz.prog gl Tryz.f98 = some c98:=by kernel_rfl
theorem qBO:ql Tryz.prog gl Tryz.f130 = some qAt:=by kernel_rfl
theorem qBR:ql Tryz.prog gl Tryz.f134 = some quU:=by kernel_rfl
theorem qBU:ql Tryz.prog gl Tryz.f162 = some qAv:=by kernel_rfl
theorem qBV:ql Tryz.prog gl Tryz.f170 = some qAw:=by kernel_rfl
theorem qBW:ql Tryz.prog gl Tryz.f174 = some quW:=by kernel_rfl
theorem qBY:ql Tryz.prog gl Tryz.f178 = some qia:=by kernel_rfl
theorem qB2:ql Tryz.prog gl Tryz.f182 = some qjh:=by kernel_rfl
end Go.Proofs.YtkmlapholimbcaaGreatDoor.AE
