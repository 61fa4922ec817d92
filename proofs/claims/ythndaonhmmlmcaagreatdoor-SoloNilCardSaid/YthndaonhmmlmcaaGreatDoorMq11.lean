/- A part of the proof: the abstract executor and what goes through it (part 11). No condition. -/
import Derived.Test.YthndaonhmmlmcaaGreatDoorMq7
import Derived.Test.YthndaonhmmlmcaaGreatDoorProg
import Derived.KernelRfl
set_option maxRecDepth 100000
namespace Go.Proofs.YthndaonhmmlmcaaGreatDoor.AE
open Go.AE
theorem kt3:compFunc Tryz.prog gl Tryz.f3 = some c3:=by kernel_rfl
theorem kt7:compFunc Tryz.prog gl Tryz.f7 = some c7:=by kernel_rfl
theorem kt11:compFunc Tryz.prog gl Tryz.f11 = some c11:=by kernel_rfl
theorem kt15:compFunc Tryz.prog gl Tryz.f15 = some c15:=by kernel_rfl
theorem kt19:compFunc Tryz.prog gl Tryz.f19 = some c19:=by kernel_rfl
theorem kt23:compFunc Tryz.prog gl Tryz.f23 = some c23:=by kernel_rfl
theorem kt27:compFunc Tryz.prog gl Tryz.f27 = some c27:=by kernel_rfl
theorem kt31:compFunc Tryz.prog gl Tryz.f31 = some c31:=by kernel_rfl
theorem kt35:compFunc Tryz.prog gl Tryz.f35 = some c35:=by kernel_rfl
theorem kt39:compFunc Tryz.prog gl Tryz.f39 = some c39:=by kernel_rfl
theorem kt43:compFunc Tryz.prog gl Tryz.f43 = some c43:=by kernel_rfl
theorem kt47:compFunc Tryz.prog gl Tryz.f47 = some c47:=by kernel_rfl
theorem kt51:compFunc Tryz.prog gl Tryz.f51 = some c51:=by kernel_rfl
theorem kt55:compFunc Tryz.prog gl Tryz.f55 = some c55:=by kernel_rfl
theorem kt59:compFunc Tryz.prog gl Tryz.f59 = some c59:=by kernel_rfl
theorem kt67:compFunc Tryz.prog gl Tryz.f67 = some c67:=by kernel_rfl
theorem kt71:compFunc Tryz.prog gl Tryz.f71 = some c71:=by kernel_rfl
theorem kt75:compFunc Tryz.prog gl Tryz.f75 = some c75:=by kernel_rfl
theorem kt79:compFunc Tryz.prog gl Tryz.f79 = some c79:=by kernel_rfl
theorem kt83:compFunc Tryz.prog gl Tryz.f83 = some c83:=by kernel_rfl
theorem kt87:compFunc Tryz.prog gl Tryz.f87 = some c87:=by kernel_rfl
theorem kt91:compFunc Tryz.prog gl Tryz.f91 = some c91:=by kernel_rfl
theorem kt95:compFunc Tryz.prog gl Tryz.f95 = some c95:=by kernel_rfl
theorem kt99:compFunc Tryz.prog gl Tryz.f99 = some c99:=by kernel_rfl
theorem kt107:compFunc Tryz.prog gl Tryz.f107 = some c107:=by kernel_rfl
theorem kt111:compFunc Tryz.prog gl Tryz.f111 = some c111:=by kernel_rfl
theorem kt115:compFunc Tryz.prog gl Tryz.f115 = some c115:=by kernel_rfl
theorem kt119:compFunc Tryz.prog gl Tryz.f119 = some c119:=by kernel_rfl
theorem kt123:compFunc Tryz.prog gl Tryz.f123 = some c123:=by kernel_rfl
theorem kt127:compFunc Tryz.prog gl Tryz.f127 = some c127:=by kernel_rfl
theorem kt135:compFunc Tryz.prog gl Tryz.f135 = some c135:=by kernel_rfl
theorem kt151:compFunc Tryz.prog gl Tryz.f151 = some c151:=by kernel_rfl
theorem kt155:compFunc Tryz.prog gl Tryz.f155 = some c155:=by kernel_rfl
theorem kt159:compFunc Tryz.prog gl Tryz.f159 = some c159:=by kernel_rfl
theorem kt167:compFunc Tryz.prog gl Tryz.f167 = some c167:=by kernel_rfl
theorem kt171:compFunc Tryz.prog gl Tryz.f171 = some c171:=by kernel_rfl
theorem kt175:compFunc Tryz.prog gl Tryz.f175 = some c175:=by kernel_rfl
theorem kt179:compFunc Tryz.prog gl Tryz.f179 = some c179:=by kernel_rfl
theorem kt183:compFunc Tryz.prog gl Tryz.f183 = some c183:=by kernel_rfl
theorem kt191:compFunc Tryz.prog gl Tryz.f191 = some c191:=by kernel_rfl
theorem kt195:compFunc Tryz.prog gl Tryz.f195 = some c195:=by kernel_rfl
theorem kt199:compFunc Tryz.prog gl Tryz.f199 = some c199:=by kernel_rfl
theorem kt203:compFunc Tryz.prog gl Tryz.f203 = some c203:=by kernel_rfl
theorem kt207:compFunc Tryz.prog gl Tryz.f207 = some c207:=by kernel_rfl
theorem kt215:compFunc Tryz.prog gl Tryz.f215 = some c215:=by kernel_rfl
theorem kt235:compFunc Tryz.prog gl Tryz.f235 = some c235:=by kernel_rfl
theorem kt239:compFunc Tryz.prog gl Tryz.f239 = some c239:=by kernel_rfl
theorem kt251:compFunc Tryz.prog gl Tryz.f251 = some c251:=by kernel_rfl
theorem kt255:compFunc Tryz.prog gl Tryz.f255 = some c255:=by kernel_rfl
theorem kt259:compFunc Tryz.prog gl Tryz.f259 = some c259:=by kernel_rfl
theorem kt267:compFunc Tryz.prog gl Tryz.f267 = some c267:=by kernel_rfl
theorem kt271:compFunc Tryz.prog gl Tryz.f271 = some c271:=by kernel_rfl
theorem kt275:compFunc Tryz.prog gl Tryz.f275 = some c275:=by kernel_rfl
theorem kt279:compFunc Tryz.prog gl Tryz.f279 = some c279:=by kernel_rfl
theorem kt283:compFunc Tryz.prog gl Tryz.f283 = some c283:=by kernel_rfl
theorem kt287:compFunc Tryz.prog gl Tryz.f287 = some c287:=by kernel_rfl
theorem kt291:compFunc Tryz.prog gl Tryz.f291 = some c291:=by kernel_rfl
theorem kt303:compFunc Tryz.prog gl Tryz.f303 = some c303:=by kernel_rfl
theorem kt307:compFunc Tryz.prog gl Tryz.f307 = some c307:=by kernel_rfl
theorem kt323:compFunc Tryz.prog gl Tryz.f323 = some c323:=by kernel_rfl
theorem kt327:compFunc Tryz.prog gl Tryz.f327 = some c327:=by kernel_rfl
theorem kt331:compFunc Tryz.prog gl Tryz.f331 = some c331:=by kernel_rfl
theorem kt335:compFunc Tryz.prog gl Tryz.f335 = some c335:=by kernel_rfl
theorem kt343:compFunc Tryz.prog gl Tryz.f343 = some c343:=by kernel_rfl
theorem kt347:compFunc Tryz.prog gl Tryz.f347 = some c347:=by kernel_rfl
theorem kt359:compFunc Tryz.prog gl Tryz.f359 = some c359:=by kernel_rfl
theorem kt379:compFunc Tryz.prog gl Tryz.f379 = some c379:=by kernel_rfl
theorem kt387:compFunc Tryz.prog gl Tryz.f387 = some c387:=by kernel_rfl
theorem kt395:compFunc Tryz.prog gl Tryz.f395 = some c395:=by kernel_rfl
theorem kt423:compFunc Tryz.prog gl Tryz.f423 = some c423:=by kernel_rfl
theorem kt443:compFunc Tryz.prog gl Tryz.f443 = some c443:=by kernel_rfl
theorem kt455:compFunc Tryz.prog gl Tryz.f455 = some c455:=by kernel_rfl
end Go.Proofs.YthndaonhmmlmcaaGreatDoor.AE
