/- A part of the proof: the abstract executor and what goes through it (part 10). No condition. -/
import Derived.Test.YthndaonhmmlmcaaGreatDoorMq7
import Derived.Test.YthndaonhmmlmcaaGreatDoorProg
import Derived.KernelRfl
set_option maxRecDepth 100000
namespace Go.Proofs.YthndaonhmmlmcaaGreatDoor.AE
open Go.AE
theorem kt6:compFunc Tryz.prog gl Tryz.f6 = some c6:=by kernel_rfl
theorem kt10:compFunc Tryz.prog gl Tryz.f10 = some c10:=by kernel_rfl
theorem kt14:compFunc Tryz.prog gl Tryz.f14 = some c14:=by kernel_rfl
theorem kt18:compFunc Tryz.prog gl Tryz.f18 = some c18:=by kernel_rfl
theorem kt22:compFunc Tryz.prog gl Tryz.f22 = some c22:=by kernel_rfl
theorem kt26:compFunc Tryz.prog gl Tryz.f26 = some c26:=by kernel_rfl
theorem kt38:compFunc Tryz.prog gl Tryz.f38 = some c38:=by kernel_rfl
theorem kt42:compFunc Tryz.prog gl Tryz.f42 = some c42:=by kernel_rfl
theorem kt50:compFunc Tryz.prog gl Tryz.f50 = some c50:=by kernel_rfl
theorem kt54:compFunc Tryz.prog gl Tryz.f54 = some c54:=by kernel_rfl
theorem kt58:compFunc Tryz.prog gl Tryz.f58 = some c58:=by kernel_rfl
theorem kt70:compFunc Tryz.prog gl Tryz.f70 = some c70:=by kernel_rfl
theorem kt74:compFunc Tryz.prog gl Tryz.f74 = some c74:=by kernel_rfl
theorem kt78:compFunc Tryz.prog gl Tryz.f78 = some c78:=by kernel_rfl
theorem kt90:compFunc Tryz.prog gl Tryz.f90 = some c90:=by kernel_rfl
theorem kt94:compFunc Tryz.prog gl Tryz.f94 = some c94:=by kernel_rfl
theorem kt98:compFunc Tryz.prog gl Tryz.f98 = some c98:=by kernel_rfl
theorem kt102:compFunc Tryz.prog gl Tryz.f102 = some c102:=by kernel_rfl
theorem kt106:compFunc Tryz.prog gl Tryz.f106 = some c106:=by kernel_rfl
theorem kt110:compFunc Tryz.prog gl Tryz.f110 = some c110:=by kernel_rfl
theorem kt114:compFunc Tryz.prog gl Tryz.f114 = some c114:=by kernel_rfl
theorem kt118:compFunc Tryz.prog gl Tryz.f118 = some c118:=by kernel_rfl
theorem kt122:compFunc Tryz.prog gl Tryz.f122 = some c122:=by kernel_rfl
theorem kt126:compFunc Tryz.prog gl Tryz.f126 = some c126:=by kernel_rfl
theorem kt130:compFunc Tryz.prog gl Tryz.f130 = some c130:=by kernel_rfl
theorem kt134:compFunc Tryz.prog gl Tryz.f134 = some c134:=by kernel_rfl
theorem kt138:compFunc Tryz.prog gl Tryz.f138 = some c138:=by kernel_rfl
theorem kt150:compFunc Tryz.prog gl Tryz.f150 = some c150:=by kernel_rfl
theorem kt154:compFunc Tryz.prog gl Tryz.f154 = some c154:=by kernel_rfl
theorem kt158:compFunc Tryz.prog gl Tryz.f158 = some c158:=by kernel_rfl
theorem kt166:compFunc Tryz.prog gl Tryz.f166 = some c166:=by kernel_rfl
theorem kt174:compFunc Tryz.prog gl Tryz.f174 = some c174:=by kernel_rfl
theorem kt178:compFunc Tryz.prog gl Tryz.f178 = some c178:=by kernel_rfl
theorem kt182:compFunc Tryz.prog gl Tryz.f182 = some c182:=by kernel_rfl
theorem kt186:compFunc Tryz.prog gl Tryz.f186 = some c186:=by kernel_rfl
theorem kt190:compFunc Tryz.prog gl Tryz.f190 = some c190:=by kernel_rfl
theorem kt194:compFunc Tryz.prog gl Tryz.f194 = some c194:=by kernel_rfl
theorem kt198:compFunc Tryz.prog gl Tryz.f198 = some c198:=by kernel_rfl
theorem kt202:compFunc Tryz.prog gl Tryz.f202 = some c202:=by kernel_rfl
theorem kt206:compFunc Tryz.prog gl Tryz.f206 = some c206:=by kernel_rfl
theorem kt210:compFunc Tryz.prog gl Tryz.f210 = some c210:=by kernel_rfl
theorem kt214:compFunc Tryz.prog gl Tryz.f214 = some c214:=by kernel_rfl
theorem kt238:compFunc Tryz.prog gl Tryz.f238 = some c238:=by kernel_rfl
theorem kt250:compFunc Tryz.prog gl Tryz.f250 = some c250:=by kernel_rfl
theorem kt254:compFunc Tryz.prog gl Tryz.f254 = some c254:=by kernel_rfl
theorem kt258:compFunc Tryz.prog gl Tryz.f258 = some c258:=by kernel_rfl
theorem kt262:compFunc Tryz.prog gl Tryz.f262 = some c262:=by kernel_rfl
theorem kt266:compFunc Tryz.prog gl Tryz.f266 = some c266:=by kernel_rfl
theorem kt270:compFunc Tryz.prog gl Tryz.f270 = some c270:=by kernel_rfl
theorem kt278:compFunc Tryz.prog gl Tryz.f278 = some c278:=by kernel_rfl
theorem kt286:compFunc Tryz.prog gl Tryz.f286 = some c286:=by kernel_rfl
theorem kt314:compFunc Tryz.prog gl Tryz.f314 = some c314:=by kernel_rfl
theorem kt318:compFunc Tryz.prog gl Tryz.f318 = some c318:=by kernel_rfl
theorem kt330:compFunc Tryz.prog gl Tryz.f330 = some c330:=by kernel_rfl
theorem kt334:compFunc Tryz.prog gl Tryz.f334 = some c334:=by kernel_rfl
theorem kt342:compFunc Tryz.prog gl Tryz.f342 = some c342:=by kernel_rfl
theorem kt346:compFunc Tryz.prog gl Tryz.f346 = some c346:=by kernel_rfl
theorem kt354:compFunc Tryz.prog gl Tryz.f354 = some c354:=by kernel_rfl
theorem kt358:compFunc Tryz.prog gl Tryz.f358 = some c358:=by kernel_rfl
theorem kt362:compFunc Tryz.prog gl Tryz.f362 = some c362:=by kernel_rfl
theorem kt366:compFunc Tryz.prog gl Tryz.f366 = some c366:=by kernel_rfl
theorem kt378:compFunc Tryz.prog gl Tryz.f378 = some c378:=by kernel_rfl
theorem kt398:compFunc Tryz.prog gl Tryz.f398 = some c398:=by kernel_rfl
theorem kt402:compFunc Tryz.prog gl Tryz.f402 = some c402:=by kernel_rfl
theorem kt450:compFunc Tryz.prog gl Tryz.f450 = some c450:=by kernel_rfl
theorem kt46:compGuard Tryz.prog gl Tryz.f46 Tryz.f100 = some c46:=by kernel_rfl
end Go.Proofs.YthndaonhmmlmcaaGreatDoor.AE
