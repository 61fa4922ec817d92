/- A part of the proof: the abstract executor and what goes through it (part 8). No condition. -/
import Derived.Test.YthndaonhmmlmcaaGreatDoorMq7
import Derived.Test.YthndaonhmmlmcaaGreatDoorProg
import Derived.KernelRfl
set_option maxRecDepth 100000
namespace Go.Proofs.YthndaonhmmlmcaaGreatDoor.AE
open Go.AE
theorem kt4:compFunc Tryz.prog gl Tryz.f4 = some c4:=by kernel_rfl
theorem kt8:compFunc Tryz.prog gl Tryz.f8 = some c8:=by kernel_rfl
theorem kt12:compFunc Tryz.prog gl Tryz.f12 = some c12:=by kernel_rfl
theorem kt16:compFunc Tryz.prog gl Tryz.f16 = some c16:=by kernel_rfl
theorem kt20:compFunc Tryz.prog gl Tryz.f20 = some c20:=by kernel_rfl
theorem kt24:compFunc Tryz.prog gl Tryz.f24 = some c24:=by kernel_rfl
theorem kt28:compFunc Tryz.prog gl Tryz.f28 = some c28:=by kernel_rfl
theorem kt32:compFunc Tryz.prog gl Tryz.f32 = some c32:=by kernel_rfl
theorem kt36:compFunc Tryz.prog gl Tryz.f36 = some c36:=by kernel_rfl
theorem kt40:compFunc Tryz.prog gl Tryz.f40 = some c40:=by kernel_rfl
theorem kt44:compFunc Tryz.prog gl Tryz.f44 = some c44:=by kernel_rfl
theorem kt48:compFunc Tryz.prog gl Tryz.f48 = some c48:=by kernel_rfl
theorem kt52:compFunc Tryz.prog gl Tryz.f52 = some c52:=by kernel_rfl
theorem kt56:compFunc Tryz.prog gl Tryz.f56 = some c56:=by kernel_rfl
theorem kt60:compFunc Tryz.prog gl Tryz.f60 = some c60:=by kernel_rfl
theorem kt68:compFunc Tryz.prog gl Tryz.f68 = some c68:=by kernel_rfl
theorem kt72:compFunc Tryz.prog gl Tryz.f72 = some c72:=by kernel_rfl
theorem kt76:compFunc Tryz.prog gl Tryz.f76 = some c76:=by kernel_rfl
theorem kt80:compFunc Tryz.prog gl Tryz.f80 = some c80:=by kernel_rfl
theorem kt88:compFunc Tryz.prog gl Tryz.f88 = some c88:=by kernel_rfl
theorem kt96:compFunc Tryz.prog gl Tryz.f96 = some c96:=by kernel_rfl
theorem kt104:compFunc Tryz.prog gl Tryz.f104 = some c104:=by kernel_rfl
theorem kt108:compFunc Tryz.prog gl Tryz.f108 = some c108:=by kernel_rfl
theorem kt112:compFunc Tryz.prog gl Tryz.f112 = some c112:=by kernel_rfl
theorem kt116:compFunc Tryz.prog gl Tryz.f116 = some c116:=by kernel_rfl
theorem kt120:compFunc Tryz.prog gl Tryz.f120 = some c120:=by kernel_rfl
theorem kt124:compFunc Tryz.prog gl Tryz.f124 = some c124:=by kernel_rfl
theorem kt128:compFunc Tryz.prog gl Tryz.f128 = some c128:=by kernel_rfl
theorem kt132:compFunc Tryz.prog gl Tryz.f132 = some c132:=by kernel_rfl
theorem kt136:compFunc Tryz.prog gl Tryz.f136 = some c136:=by kernel_rfl
theorem kt144:compFunc Tryz.prog gl Tryz.f144 = some c144:=by kernel_rfl
theorem kt148:compFunc Tryz.prog gl Tryz.f148 = some c148:=by kernel_rfl
theorem kt152:compFunc Tryz.prog gl Tryz.f152 = some c152:=by kernel_rfl
theorem kt164:compFunc Tryz.prog gl Tryz.f164 = some c164:=by kernel_rfl
theorem kt168:compFunc Tryz.prog gl Tryz.f168 = some c168:=by kernel_rfl
theorem kt172:compFunc Tryz.prog gl Tryz.f172 = some c172:=by kernel_rfl
theorem kt176:compFunc Tryz.prog gl Tryz.f176 = some c176:=by kernel_rfl
theorem kt180:compFunc Tryz.prog gl Tryz.f180 = some c180:=by kernel_rfl
theorem kt184:compFunc Tryz.prog gl Tryz.f184 = some c184:=by kernel_rfl
theorem kt188:compFunc Tryz.prog gl Tryz.f188 = some c188:=by kernel_rfl
theorem kt192:compFunc Tryz.prog gl Tryz.f192 = some c192:=by kernel_rfl
theorem kt196:compFunc Tryz.prog gl Tryz.f196 = some c196:=by kernel_rfl
theorem kt200:compFunc Tryz.prog gl Tryz.f200 = some c200:=by kernel_rfl
theorem kt208:compFunc Tryz.prog gl Tryz.f208 = some c208:=by kernel_rfl
theorem kt216:compFunc Tryz.prog gl Tryz.f216 = some c216:=by kernel_rfl
theorem kt220:compFunc Tryz.prog gl Tryz.f220 = some c220:=by kernel_rfl
theorem kt232:compFunc Tryz.prog gl Tryz.f232 = some c232:=by kernel_rfl
theorem kt236:compFunc Tryz.prog gl Tryz.f236 = some c236:=by kernel_rfl
theorem kt240:compFunc Tryz.prog gl Tryz.f240 = some c240:=by kernel_rfl
theorem kt248:compFunc Tryz.prog gl Tryz.f248 = some c248:=by kernel_rfl
theorem kt252:compFunc Tryz.prog gl Tryz.f252 = some c252:=by kernel_rfl
theorem kt256:compFunc Tryz.prog gl Tryz.f256 = some c256:=by kernel_rfl
theorem kt260:compFunc Tryz.prog gl Tryz.f260 = some c260:=by kernel_rfl
theorem kt264:compFunc Tryz.prog gl Tryz.f264 = some c264:=by kernel_rfl
theorem kt268:compFunc Tryz.prog gl Tryz.f268 = some c268:=by kernel_rfl
theorem kt272:compFunc Tryz.prog gl Tryz.f272 = some c272:=by kernel_rfl
theorem kt280:compFunc Tryz.prog gl Tryz.f280 = some c280:=by kernel_rfl
theorem kt284:compFunc Tryz.prog gl Tryz.f284 = some c284:=by kernel_rfl
theorem kt292:compFunc Tryz.prog gl Tryz.f292 = some c292:=by kernel_rfl
theorem kt296:compFunc Tryz.prog gl Tryz.f296 = some c296:=by kernel_rfl
theorem kt304:compFunc Tryz.prog gl Tryz.f304 = some c304:=by kernel_rfl
theorem kt320:compFunc Tryz.prog gl Tryz.f320 = some c320:=by kernel_rfl
theorem kt328:compFunc Tryz.prog gl Tryz.f328 = some c328:=by kernel_rfl
theorem kt336:compFunc Tryz.prog gl Tryz.f336 = some c336:=by kernel_rfl
theorem kt340:compFunc Tryz.prog gl Tryz.f340 = some c340:=by kernel_rfl
theorem kt344:compFunc Tryz.prog gl Tryz.f344 = some c344:=by kernel_rfl
theorem kt348:compFunc Tryz.prog gl Tryz.f348 = some c348:=by kernel_rfl
theorem kt356:compFunc Tryz.prog gl Tryz.f356 = some c356:=by kernel_rfl
theorem kt360:compFunc Tryz.prog gl Tryz.f360 = some c360:=by kernel_rfl
theorem kt380:compFunc Tryz.prog gl Tryz.f380 = some c380:=by kernel_rfl
theorem kt388:compFunc Tryz.prog gl Tryz.f388 = some c388:=by kernel_rfl
theorem kt396:compFunc Tryz.prog gl Tryz.f396 = some c396:=by kernel_rfl
theorem kt408:compFunc Tryz.prog gl Tryz.f408 = some c408:=by kernel_rfl
theorem kt436:compFunc Tryz.prog gl Tryz.f436 = some c436:=by kernel_rfl
theorem kt448:compFunc Tryz.prog gl Tryz.f448 = some c448:=by kernel_rfl
theorem kt460:compFunc Tryz.prog gl Tryz.f460 = some c460:=by kernel_rfl
end Go.Proofs.YthndaonhmmlmcaaGreatDoor.AE
