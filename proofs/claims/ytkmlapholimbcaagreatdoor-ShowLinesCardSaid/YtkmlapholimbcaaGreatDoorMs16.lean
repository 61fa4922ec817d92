/- A part of the proof: the abstract executor and what goes through it (part 16). No condition. -/
import Derived.Test.YtkmlapholimbcaaGreatDoorMs6
import Derived.Test.YtkmlapholimbcaaGreatDoorProg
import Derived.KernelRfl
set_option maxRecDepth 100000
namespace Go.Proofs.YtkmlapholimbcaaGreatDoor.AE
open Go.AE
theorem kt6:compFunc Tryz.prog gl Tryz.f6 = some c6:=by kernel_rfl
theorem kt14:compFunc Tryz.prog gl Tryz.f14 = some c14:=by kernel_rfl
theorem kt18:compFunc Tryz.prog gl Tryz.f18 = some c18:=by kernel_rfl
theorem kt26:compFunc Tryz.prog gl Tryz.f26 = some c26:=by kernel_rfl
theorem kt34:compFunc Tryz.prog gl Tryz.f34 = some c34:=by kernel_rfl
theorem kt46:compFunc Tryz.prog gl Tryz.f46 = some c46:=by kernel_rfl
theorem kt62:compFunc Tryz.prog gl Tryz.f62 = some c62:=by kernel_rfl
theorem kt66:compFunc Tryz.prog gl Tryz.f66 = some c66:=by kernel_rfl
theorem kt70:compFunc Tryz.prog gl Tryz.f70 = some c70:=by kernel_rfl
theorem kt74:compFunc Tryz.prog gl Tryz.f74 = some c74:=by kernel_rfl
theorem kt78:compFunc Tryz.prog gl Tryz.f78 = some c78:=by kernel_rfl
theorem kt86:compFunc Tryz.prog gl Tryz.f86 = some c86:=by kernel_rfl
theorem kt94:compFunc Tryz.prog gl Tryz.f94 = some c94:=by kernel_rfl
theorem kt98:compFunc Tryz.prog gl Tryz.f98 = some c98:=by kernel_rfl
theorem kt102:compFunc Tryz.prog gl Tryz.f102 = some c102:=by kernel_rfl
theorem kt106:compFunc Tryz.prog gl Tryz.f106 = some c106:=by kernel_rfl
theorem kt110:compFunc Tryz.prog gl Tryz.f110 = some c110:=by kernel_rfl
theorem kt114:compFunc Tryz.prog gl Tryz.f114 = some c114:=by kernel_rfl
theorem kt118:compFunc Tryz.prog gl Tryz.f118 = some c118:=by kernel_rfl
theorem kt122:compFunc Tryz.prog gl Tryz.f122 = some c122:=by kernel_rfl
theorem kt126:compFunc Tryz.prog gl Tryz.f126 = some c126:=by kernel_rfl
theorem kt130:compFunc Tryz.prog gl Tryz.f130 = some c130:=by kernel_rfl
theorem kt134:compFunc Tryz.prog gl Tryz.f134 = some c134:=by kernel_rfl
theorem kt138:compFunc Tryz.prog gl Tryz.f138 = some c138:=by kernel_rfl
theorem kt146:compFunc Tryz.prog gl Tryz.f146 = some c146:=by kernel_rfl
theorem kt150:compFunc Tryz.prog gl Tryz.f150 = some c150:=by kernel_rfl
theorem kt162:compFunc Tryz.prog gl Tryz.f162 = some c162:=by kernel_rfl
theorem kt170:compFunc Tryz.prog gl Tryz.f170 = some c170:=by kernel_rfl
theorem kt174:compFunc Tryz.prog gl Tryz.f174 = some c174:=by kernel_rfl
theorem kt178:compFunc Tryz.prog gl Tryz.f178 = some c178:=by kernel_rfl
theorem kt182:compFunc Tryz.prog gl Tryz.f182 = some c182:=by kernel_rfl
end Go.Proofs.YtkmlapholimbcaaGreatDoor.AE
