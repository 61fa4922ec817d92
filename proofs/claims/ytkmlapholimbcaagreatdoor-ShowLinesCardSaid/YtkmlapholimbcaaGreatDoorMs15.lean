/- A part of the proof: the abstract executor and what goes through it (part 15). No condition. -/
import Derived.Test.YtkmlapholimbcaaGreatDoorMs6
import Derived.Test.YtkmlapholimbcaaGreatDoorProg
import Derived.KernelRfl
set_option maxRecDepth 100000
namespace Go.Proofs.YtkmlapholimbcaaGreatDoor.AE
open Go.AE
theorem kt5:compFunc Tryz.prog gl Tryz.f5 = some c5:=by kernel_rfl
theorem kt13:compFunc Tryz.prog gl Tryz.f13 = some c13:=by kernel_rfl
theorem kt17:compFunc Tryz.prog gl Tryz.f17 = some c17:=by kernel_rfl
theorem kt25:compFunc Tryz.prog gl Tryz.f25 = some c25:=by kernel_rfl
theorem kt29:compFunc Tryz.prog gl Tryz.f29 = some c29:=by kernel_rfl
theorem kt37:compFunc Tryz.prog gl Tryz.f37 = some c37:=by kernel_rfl
theorem kt41:compFunc Tryz.prog gl Tryz.f41 = some c41:=by kernel_rfl
theorem kt45:compFunc Tryz.prog gl Tryz.f45 = some c45:=by kernel_rfl
theorem kt65:compFunc Tryz.prog gl Tryz.f65 = some c65:=by kernel_rfl
theorem kt69:compFunc Tryz.prog gl Tryz.f69 = some c69:=by kernel_rfl
theorem kt73:compFunc Tryz.prog gl Tryz.f73 = some c73:=by kernel_rfl
theorem kt77:compFunc Tryz.prog gl Tryz.f77 = some c77:=by kernel_rfl
theorem kt85:compFunc Tryz.prog gl Tryz.f85 = some c85:=by kernel_rfl
theorem kt93:compFunc Tryz.prog gl Tryz.f93 = some c93:=by kernel_rfl
theorem kt97:compFunc Tryz.prog gl Tryz.f97 = some c97:=by kernel_rfl
theorem kt101:compFunc Tryz.prog gl Tryz.f101 = some c101:=by kernel_rfl
theorem kt105:compFunc Tryz.prog gl Tryz.f105 = some c105:=by kernel_rfl
theorem kt109:compFunc Tryz.prog gl Tryz.f109 = some c109:=by kernel_rfl
theorem kt113:compFunc Tryz.prog gl Tryz.f113 = some c113:=by kernel_rfl
theorem kt117:compFunc Tryz.prog gl Tryz.f117 = some c117:=by kernel_rfl
theorem kt121:compFunc Tryz.prog gl Tryz.f121 = some c121:=by kernel_rfl
theorem kt125:compFunc Tryz.prog gl Tryz.f125 = some c125:=by kernel_rfl
theorem kt129:compFunc Tryz.prog gl Tryz.f129 = some c129:=by kernel_rfl
theorem kt133:compFunc Tryz.prog gl Tryz.f133 = some c133:=by kernel_rfl
theorem kt137:compFunc Tryz.prog gl Tryz.f137 = some c137:=by kernel_rfl
theorem kt141:compFunc Tryz.prog gl Tryz.f141 = some c141:=by kernel_rfl
theorem kt149:compFunc Tryz.prog gl Tryz.f149 = some c149:=by kernel_rfl
theorem kt153:compFunc Tryz.prog gl Tryz.f153 = some c153:=by kernel_rfl
theorem kt177:compFunc Tryz.prog gl Tryz.f177 = some c177:=by kernel_rfl
theorem kt181:compFunc Tryz.prog gl Tryz.f181 = some c181:=by kernel_rfl
theorem kt185:compFunc Tryz.prog gl Tryz.f185 = some c185:=by kernel_rfl
end Go.Proofs.YtkmlapholimbcaaGreatDoor.AE
