/- A part of the proof: the abstract executor and what goes through it (part 18). No condition. -/
import Derived.Test.YtkmlapholimbcaaGreatDoorMx5
import Derived.Test.YtkmlapholimbcaaGreatDoorProg
import Derived.KernelRfl
set_option maxRecDepth 100000
namespace Go.Proofs.YtkmlapholimbcaaGreatDoor.AE
open Go.AE
theorem kt3:ql Tryz.prog gl Tryz.f3 = some c3:=by kernel_rfl
theorem kt7:ql Tryz.prog gl Tryz.f7 = some c7:=by kernel_rfl
theorem qDV:ql Tryz.prog gl Tryz.f11 = some c11:=by kernel_rfl
theorem qDZ:ql Tryz.prog gl Tryz.f19 = some c19:=by kernel_rfl
theorem qD3:ql Tryz.prog gl Tryz.f23 = some c23:=by kernel_rfl
theorem qD6:ql Tryz.prog gl Tryz.f27 = some c27:=by kernel_rfl
theorem qD8:ql Tryz.prog gl Tryz.f35 = some c35:=by kernel_rfl
theorem qEb:ql Tryz.prog gl Tryz.f39 = some c39:=by kernel_rfl
theorem qEe:ql Tryz.prog gl Tryz.f43 = some c43:=by kernel_rfl
theorem qEi:ql Tryz.prog gl Tryz.f59 = some c59:=by kernel_rfl
theorem qEo:ql Tryz.prog gl Tryz.f67 = some c67:=by kernel_rfl
theorem qEs:ql Tryz.prog gl Tryz.f71 = some c71:=by kernel_rfl
theorem qEw:ql Tryz.prog gl Tryz.f75 = some c75:=by kernel_rfl
theorem qEy:ql Tryz.prog gl Tryz.f91 = some c91:=by kernel_rfl
theorem qEB:ql Tryz.prog gl Tryz.f95 = some c95:=by kernel_rfl
theorem qEF:ql Tryz.prog gl Tryz.f99 = some c99:=by kernel_rfl
theorem qBP:ql Tryz.prog gl Tryz.f131 = some qnf:=by kernel_rfl
theorem qBS:ql Tryz.prog gl Tryz.f147 = some qy5:=by kernel_rfl
theorem qBZ:ql Tryz.prog gl Tryz.f179 = some qAy:=by kernel_rfl
theorem qB3:ql Tryz.prog gl Tryz.f183 = some qAz:=by kernel_rfl
end Go.Proofs.YtkmlapholimbcaaGreatDoor.AE
