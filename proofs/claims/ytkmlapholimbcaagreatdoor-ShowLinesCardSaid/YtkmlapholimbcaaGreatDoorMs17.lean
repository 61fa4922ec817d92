/- A part of the proof: the abstract executor and what goes through it (part 17). No condition. -/
import Derived.Test.YtkmlapholimbcaaGreatDoorMs6
import Derived.Test.YtkmlapholimbcaaGreatDoorProg
import Derived.KernelRfl
set_option maxRecDepth 100000
namespace Go.Proofs.YtkmlapholimbcaaGreatDoor.AE
open Go.AE
theorem kt11:compFunc Tryz.prog gl Tryz.f11 = some c11:=by kernel_rfl
theorem kt19:compFunc Tryz.prog gl Tryz.f19 = some c19:=by kernel_rfl
theorem kt27:compFunc Tryz.prog gl Tryz.f27 = some c27:=by kernel_rfl
theorem kt31:compFunc Tryz.prog gl Tryz.f31 = some c31:=by kernel_rfl
theorem kt35:compFunc Tryz.prog gl Tryz.f35 = some c35:=by kernel_rfl
theorem kt43:compFunc Tryz.prog gl Tryz.f43 = some c43:=by kernel_rfl
theorem kt47:compFunc Tryz.prog gl Tryz.f47 = some c47:=by kernel_rfl
theorem kt51:compFunc Tryz.prog gl Tryz.f51 = some c51:=by kernel_rfl
theorem kt59:compFunc Tryz.prog gl Tryz.f59 = some c59:=by kernel_rfl
theorem kt67:compFunc Tryz.prog gl Tryz.f67 = some c67:=by kernel_rfl
theorem kt71:compFunc Tryz.prog gl Tryz.f71 = some c71:=by kernel_rfl
theorem kt75:compFunc Tryz.prog gl Tryz.f75 = some c75:=by kernel_rfl
theorem kt79:compFunc Tryz.prog gl Tryz.f79 = some c79:=by kernel_rfl
theorem kt83:compFunc Tryz.prog gl Tryz.f83 = some c83:=by kernel_rfl
theorem kt91:compFunc Tryz.prog gl Tryz.f91 = some c91:=by kernel_rfl
theorem kt95:compFunc Tryz.prog gl Tryz.f95 = some c95:=by kernel_rfl
theorem kt99:compFunc Tryz.prog gl Tryz.f99 = some c99:=by kernel_rfl
theorem kt103:compFunc Tryz.prog gl Tryz.f103 = some c103:=by kernel_rfl
theorem kt107:compFunc Tryz.prog gl Tryz.f107 = some c107:=by kernel_rfl
theorem kt115:compFunc Tryz.prog gl Tryz.f115 = some c115:=by kernel_rfl
theorem kt119:compFunc Tryz.prog gl Tryz.f119 = some c119:=by kernel_rfl
theorem kt123:compFunc Tryz.prog gl Tryz.f123 = some c123:=by kernel_rfl
theorem kt131:compFunc Tryz.prog gl Tryz.f131 = some c131:=by kernel_rfl
theorem kt135:compFunc Tryz.prog gl Tryz.f135 = some c135:=by kernel_rfl
theorem kt139:compFunc Tryz.prog gl Tryz.f139 = some c139:=by kernel_rfl
theorem kt147:compFunc Tryz.prog gl Tryz.f147 = some c147:=by kernel_rfl
theorem kt151:compFunc Tryz.prog gl Tryz.f151 = some c151:=by kernel_rfl
theorem kt159:compFunc Tryz.prog gl Tryz.f159 = some c159:=by kernel_rfl
theorem kt179:compFunc Tryz.prog gl Tryz.f179 = some c179:=by kernel_rfl
theorem kt183:compFunc Tryz.prog gl Tryz.f183 = some c183:=by kernel_rfl
end Go.Proofs.YtkmlapholimbcaaGreatDoor.AE
