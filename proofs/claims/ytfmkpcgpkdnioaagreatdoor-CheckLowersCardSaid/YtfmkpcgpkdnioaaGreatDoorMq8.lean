/- A part of the proof: the abstract executor and what goes through it (part 8). No condition. -/
import Derived.Test.YtfmkpcgpkdnioaaGreatDoorMq6
import Derived.Test.YtfmkpcgpkdnioaaGreatDoorProg
import Derived.KernelRfl
set_option maxRecDepth 100000
namespace Go.Proofs.YtfmkpcgpkdnioaaGreatDoor.AE
open Go.AE
theorem kt5:compFunc Tryz.prog gl Tryz.f5 = some c5:=by kernel_rfl
theorem kt9:compFunc Tryz.prog gl Tryz.f9 = some c9:=by kernel_rfl
theorem kt13:compFunc Tryz.prog gl Tryz.f13 = some c13:=by kernel_rfl
theorem kt17:compFunc Tryz.prog gl Tryz.f17 = some c17:=by kernel_rfl
theorem kt21:compFunc Tryz.prog gl Tryz.f21 = some c21:=by kernel_rfl
theorem kt25:compFunc Tryz.prog gl Tryz.f25 = some c25:=by kernel_rfl
theorem kt29:compFunc Tryz.prog gl Tryz.f29 = some c29:=by kernel_rfl
theorem kt37:compFunc Tryz.prog gl Tryz.f37 = some c37:=by kernel_rfl
theorem kt41:compFunc Tryz.prog gl Tryz.f41 = some c41:=by kernel_rfl
theorem kt45:compFunc Tryz.prog gl Tryz.f45 = some c45:=by kernel_rfl
theorem kt49:compFunc Tryz.prog gl Tryz.f49 = some c49:=by kernel_rfl
theorem kt53:compFunc Tryz.prog gl Tryz.f53 = some c53:=by kernel_rfl
theorem kt57:compFunc Tryz.prog gl Tryz.f57 = some c57:=by kernel_rfl
theorem kt61:compFunc Tryz.prog gl Tryz.f61 = some c61:=by kernel_rfl
theorem kt65:compFunc Tryz.prog gl Tryz.f65 = some c65:=by kernel_rfl
theorem kt69:compFunc Tryz.prog gl Tryz.f69 = some c69:=by kernel_rfl
theorem kt73:compFunc Tryz.prog gl Tryz.f73 = some c73:=by kernel_rfl
theorem kt81:compFunc Tryz.prog gl Tryz.f81 = some c81:=by kernel_rfl
theorem kt85:compFunc Tryz.prog gl Tryz.f85 = some c85:=by kernel_rfl
theorem kt105:compFunc Tryz.prog gl Tryz.f105 = some c105:=by kernel_rfl
theorem kt109:compFunc Tryz.prog gl Tryz.f109 = some c109:=by kernel_rfl
theorem kt121:compFunc Tryz.prog gl Tryz.f121 = some c121:=by kernel_rfl
theorem kt125:compFunc Tryz.prog gl Tryz.f125 = some c125:=by kernel_rfl
theorem kt133:compFunc Tryz.prog gl Tryz.f133 = some c133:=by kernel_rfl
theorem kt161:compFunc Tryz.prog gl Tryz.f161 = some c161:=by kernel_rfl
theorem kt205:compFunc Tryz.prog gl Tryz.f205 = some c205:=by kernel_rfl
theorem kt225:compFunc Tryz.prog gl Tryz.f225 = some c225:=by kernel_rfl
theorem kt241:compFunc Tryz.prog gl Tryz.f241 = some c241:=by kernel_rfl
end Go.Proofs.YtfmkpcgpkdnioaaGreatDoor.AE
