/- A part of the proof: the abstract executor and what goes through it (part 9). No condition. -/
import Derived.Test.YtfmkpcgpkdnioaaGreatDoorMq6
import Derived.Test.YtfmkpcgpkdnioaaGreatDoorProg
import Derived.KernelRfl
set_option maxRecDepth 100000
namespace Go.Proofs.YtfmkpcgpkdnioaaGreatDoor.AE
open Go.AE
theorem kt6:compFunc Tryz.prog gl Tryz.f6 = some c6:=by kernel_rfl
theorem kt10:compFunc Tryz.prog gl Tryz.f10 = some c10:=by kernel_rfl
theorem kt14:compFunc Tryz.prog gl Tryz.f14 = some c14:=by kernel_rfl
theorem kt18:compFunc Tryz.prog gl Tryz.f18 = some c18:=by kernel_rfl
theorem kt22:compFunc Tryz.prog gl Tryz.f22 = some c22:=by kernel_rfl
theorem kt30:compFunc Tryz.prog gl Tryz.f30 = some c30:=by kernel_rfl
theorem kt34:compFunc Tryz.prog gl Tryz.f34 = some c34:=by kernel_rfl
theorem kt38:compFunc Tryz.prog gl Tryz.f38 = some c38:=by kernel_rfl
theorem kt42:compFunc Tryz.prog gl Tryz.f42 = some c42:=by kernel_rfl
theorem kt50:compFunc Tryz.prog gl Tryz.f50 = some c50:=by kernel_rfl
theorem kt54:compFunc Tryz.prog gl Tryz.f54 = some c54:=by kernel_rfl
theorem kt58:compFunc Tryz.prog gl Tryz.f58 = some c58:=by kernel_rfl
theorem kt62:compFunc Tryz.prog gl Tryz.f62 = some c62:=by kernel_rfl
theorem kt66:compFunc Tryz.prog gl Tryz.f66 = some c66:=by kernel_rfl
theorem kt70:compFunc Tryz.prog gl Tryz.f70 = some c70:=by kernel_rfl
theorem kt78:compFunc Tryz.prog gl Tryz.f78 = some c78:=by kernel_rfl
theorem kt82:compFunc Tryz.prog gl Tryz.f82 = some c82:=by kernel_rfl
theorem kt86:compFunc Tryz.prog gl Tryz.f86 = some c86:=by kernel_rfl
theorem kt90:compFunc Tryz.prog gl Tryz.f90 = some c90:=by kernel_rfl
theorem kt94:compFunc Tryz.prog gl Tryz.f94 = some c94:=by kernel_rfl
theorem kt98:compFunc Tryz.prog gl Tryz.f98 = some c98:=by kernel_rfl
theorem kt106:compFunc Tryz.prog gl Tryz.f106 = some c106:=by kernel_rfl
theorem kt110:compFunc Tryz.prog gl Tryz.f110 = some c110:=by kernel_rfl
theorem kt146:compFunc Tryz.prog gl Tryz.f146 = some c146:=by kernel_rfl
theorem kt150:compFunc Tryz.prog gl Tryz.f150 = some c150:=by kernel_rfl
theorem kt158:compFunc Tryz.prog gl Tryz.f158 = some c158:=by kernel_rfl
theorem kt162:compFunc Tryz.prog gl Tryz.f162 = some c162:=by kernel_rfl
theorem kt182:compFunc Tryz.prog gl Tryz.f182 = some c182:=by kernel_rfl
theorem kt202:compFunc Tryz.prog gl Tryz.f202 = some c202:=by kernel_rfl
theorem kt230:compFunc Tryz.prog gl Tryz.f230 = some c230:=by kernel_rfl
theorem kt234:compFunc Tryz.prog gl Tryz.f234 = some c234:=by kernel_rfl
theorem kt26:compGuard Tryz.prog gl Tryz.f26 Tryz.f43 = some c26:=by kernel_rfl
end Go.Proofs.YtfmkpcgpkdnioaaGreatDoor.AE
