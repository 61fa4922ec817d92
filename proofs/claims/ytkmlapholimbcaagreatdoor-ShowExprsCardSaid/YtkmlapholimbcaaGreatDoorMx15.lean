/- A part of the proof: the abstract executor and what goes through it (part 15). No condition. -/
import Derived.Test.YtkmlapholimbcaaGreatDoorMx5
import Derived.Test.YtkmlapholimbcaaGreatDoorProg
import Derived.KernelRfl
set_option maxRecDepth 100000
namespace Go.Proofs.YtkmlapholimbcaaGreatDoor.AE
open Go.AE
theorem kt8:ql Tryz.prog gl Tryz.f8 = some c8:=by kernel_rfl
theorem qDW:ql Tryz.prog gl Tryz.f12 = some c12:=by kernel_rfl
theorem qD0:ql Tryz.prog gl Tryz.f20 = some c20:=by kernel_rfl
theorem qD7:ql Tryz.prog gl Tryz.f28 = some c28:=by kernel_rfl
theorem qD9:ql Tryz.prog gl Tryz.f36 = some c36:=by kernel_rfl
theorem qEc:ql Tryz.prog gl Tryz.f40 = some c40:=by kernel_rfl
theorem qEf:ql Tryz.prog gl Tryz.f44 = some c44:=by kernel_rfl
theorem qEj:ql Tryz.prog gl Tryz.f60 = some c60:=by kernel_rfl
theorem qEl:ql Tryz.prog gl Tryz.f64 = some c64:=by kernel_rfl
theorem qEp:ql Tryz.prog gl Tryz.f68 = some c68:=by kernel_rfl
theorem qEt:ql Tryz.prog gl Tryz.f72 = some c72:=by kernel_rfl
theorem qEx:ql Tryz.prog gl Tryz.f76 = some c76:=by kernel_rfl
theorem qEC:ql Tryz.prog gl Tryz.f96 = some c96:=by kernel_rfl
theorem qBM:ql Tryz.prog gl Tryz.f128 = some qAs:=by kernel_rfl
theorem qBQ:ql Tryz.prog gl Tryz.f132 = some qAu:=by kernel_rfl
theorem qB0:ql Tryz.prog gl Tryz.f180 = some qv4:=by kernel_rfl
theorem qB4:ql Tryz.prog gl Tryz.f184 = some qew:=by kernel_rfl
theorem qC7:qf8 Tryz.prog gl Tryz.f24 Tryz.f42 = some c24:=by kernel_rfl
end Go.Proofs.YtkmlapholimbcaaGreatDoor.AE
