/- A part of the proof: the abstract executor and what goes through it (part 14). No condition. -/
import Derived.Test.YtkmlapholimbcaaGreatDoorMs6
import Derived.Test.YtkmlapholimbcaaGreatDoorProg
import Derived.KernelRfl
set_option maxRecDepth 100000
namespace Go.Proofs.YtkmlapholimbcaaGreatDoor.AE
open Go.AE
theorem kt8:compFunc Tryz.prog gl Tryz.f8 = some c8:=by kernel_rfl
theorem kt28:compFunc Tryz.prog gl Tryz.f28 = some c28:=by kernel_rfl
theorem kt36:compFunc Tryz.prog gl Tryz.f36 = some c36:=by kernel_rfl
theorem kt44:compFunc Tryz.prog gl Tryz.f44 = some c44:=by kernel_rfl
theorem kt48:compFunc Tryz.prog gl Tryz.f48 = some c48:=by kernel_rfl
theorem kt60:compFunc Tryz.prog gl Tryz.f60 = some c60:=by kernel_rfl
theorem kt64:compFunc Tryz.prog gl Tryz.f64 = some c64:=by kernel_rfl
theorem kt68:compFunc Tryz.prog gl Tryz.f68 = some c68:=by kernel_rfl
theorem kt72:compFunc Tryz.prog gl Tryz.f72 = some c72:=by kernel_rfl
theorem kt76:compFunc Tryz.prog gl Tryz.f76 = some c76:=by kernel_rfl
theorem kt80:compFunc Tryz.prog gl Tryz.f80 = some c80:=by kernel_rfl
theorem kt84:compFunc Tryz.prog gl Tryz.f84 = some c84:=by kernel_rfl
theorem kt96:compFunc Tryz.prog gl Tryz.f96 = some c96:=by kernel_rfl
theorem kt100:compFunc Tryz.prog gl Tryz.f100 = some c100:=by kernel_rfl
theorem kt104:compFunc Tryz.prog gl Tryz.f104 = some c104:=by kernel_rfl
theorem kt108:compFunc Tryz.prog gl Tryz.f108 = some c108:=by kernel_rfl
theorem kt116:compFunc Tryz.prog gl Tryz.f116 = some c116:=by kernel_rfl
theorem kt120:compFunc Tryz.prog gl Tryz.f120 = some c120:=by kernel_rfl
theorem kt124:compFunc Tryz.prog gl Tryz.f124 = some c124:=by kernel_rfl
theorem kt128:compFunc Tryz.prog gl Tryz.f128 = some c128:=by kernel_rfl
theorem kt132:compFunc Tryz.prog gl Tryz.f132 = some c132:=by kernel_rfl
theorem kt136:compFunc Tryz.prog gl Tryz.f136 = some c136:=by kernel_rfl
theorem kt140:compFunc Tryz.prog gl Tryz.f140 = some c140:=by kernel_rfl
theorem kt148:compFunc Tryz.prog gl Tryz.f148 = some c148:=by kernel_rfl
theorem kt152:compFunc Tryz.prog gl Tryz.f152 = some c152:=by kernel_rfl
theorem kt180:compFunc Tryz.prog gl Tryz.f180 = some c180:=by kernel_rfl
theorem kt184:compFunc Tryz.prog gl Tryz.f184 = some c184:=by kernel_rfl
theorem kt24:compGuard Tryz.prog gl Tryz.f24 Tryz.f42 = some c24:=by kernel_rfl
end Go.Proofs.YtkmlapholimbcaaGreatDoor.AE
