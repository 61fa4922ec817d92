/- A part of the proof: the abstract executor and what goes through it (part 16). No condition. -/
import Derived.Test.YtkmlapholimbcaaGreatDoorMx5
import Derived.Test.YtkmlapholimbcaaGreatDoorProg
import Derived.KernelRfl
set_option maxRecDepth 100000
namespace Go.Proofs.YtkmlapholimbcaaGreatDoor.AE
open Go.AE
theorem kt9:ql Tryz.prog gl Tryz.f9 = some c9:=by kernel_rfl
theorem qDX:ql Tryz.prog gl Tryz.f13 = some c13:=by kernel_rfl
theorem qD1:ql Tryz.prog gl Tryz.f21 = some c21:=by kernel_rfl
theorem qD4:ql Tryz.prog gl Tryz.f25 = some c25:=by kernel_rfl
theorem qEa:ql Tryz.prog gl Tryz.f37 = some c37:=by kernel_rfl
theorem qEd:ql Tryz.prog gl Tryz.f41 = some c41:=by kernel_rfl
theorem qEg:ql Tryz.prog gl Tryz.f45 = some c45:=by kernel_rfl
theorem qEm:ql Tryz.prog gl Tryz.f65 = some c65:=by kernel_rfl
theorem qEq:ql Tryz.prog gl Tryz.f69 = some c69:=by kernel_rfl
theorem qEu:ql Tryz.prog gl Tryz.f73 = some c73:=by kernel_rfl
theorem qEz:ql Tryz.prog gl Tryz.f93 = some c93:=by kernel_rfl
theorem qED:ql Tryz.prog gl Tryz.f97 = some c97:=by kernel_rfl
theorem qBN:ql Tryz.prog gl Tryz.f129 = some qv3:=by kernel_rfl
theorem qBT:ql Tryz.prog gl Tryz.f149 = some quV:=by kernel_rfl
theorem qBX:ql Tryz.prog gl Tryz.f177 = some qAx:=by kernel_rfl
theorem qB1:ql Tryz.prog gl Tryz.f181 = some quX:=by kernel_rfl
theorem qB5:ql Tryz.prog gl Tryz.f185 = some qAA:=by kernel_rfl
end Go.Proofs.YtkmlapholimbcaaGreatDoor.AE
