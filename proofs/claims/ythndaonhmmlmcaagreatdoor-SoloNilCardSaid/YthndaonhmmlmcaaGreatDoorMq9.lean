/- A part of the proof: the abstract executor and what goes through it (part 9). No condition. -/
import Derived.Test.YthndaonhmmlmcaaGreatDoorMq7
import Derived.Test.YthndaonhmmlmcaaGreatDoorProg
import Derived.KernelRfl
set_option maxRecDepth 100000
namespace Go.Proofs.YthndaonhmmlmcaaGreatDoor.AE
open Go.AE
theorem kt5:compFunc Tryz.prog gl Tryz.f5 = some c5:=by kernel_rfl
theorem kt9:compFunc Tryz.prog gl Tryz.f9 = some c9:=by kernel_rfl
theorem kt13:compFunc Tryz.prog gl Tryz.f13 = some c13:=by kernel_rfl
theorem kt17:compFunc Tryz.prog gl Tryz.f17 = some c17:=by kernel_rfl
theorem kt21:compFunc Tryz.prog gl Tryz.f21 = some c21:=by kernel_rfl
theorem kt25:compFunc Tryz.prog gl Tryz.f25 = some c25:=by kernel_rfl
theorem kt29:compFunc Tryz.prog gl Tryz.f29 = some c29:=by kernel_rfl
theorem kt33:compFunc Tryz.prog gl Tryz.f33 = some c33:=by kernel_rfl
theorem kt37:compFunc Tryz.prog gl Tryz.f37 = some c37:=by kernel_rfl
theorem kt45:compFunc Tryz.prog gl Tryz.f45 = some c45:=by kernel_rfl
theorem kt49:compFunc Tryz.prog gl Tryz.f49 = some c49:=by kernel_rfl
theorem kt53:compFunc Tryz.prog gl Tryz.f53 = some c53:=by kernel_rfl
theorem kt57:compFunc Tryz.prog gl Tryz.f57 = some c57:=by kernel_rfl
theorem kt65:compFunc Tryz.prog gl Tryz.f65 = some c65:=by kernel_rfl
theorem kt77:compFunc Tryz.prog gl Tryz.f77 = some c77:=by kernel_rfl
theorem kt81:compFunc Tryz.prog gl Tryz.f81 = some c81:=by kernel_rfl
theorem kt89:compFunc Tryz.prog gl Tryz.f89 = some c89:=by kernel_rfl
theorem kt97:compFunc Tryz.prog gl Tryz.f97 = some c97:=by kernel_rfl
theorem kt101:compFunc Tryz.prog gl Tryz.f101 = some c101:=by kernel_rfl
theorem kt105:compFunc Tryz.prog gl Tryz.f105 = some c105:=by kernel_rfl
theorem kt109:compFunc Tryz.prog gl Tryz.f109 = some c109:=by kernel_rfl
theorem kt113:compFunc Tryz.prog gl Tryz.f113 = some c113:=by kernel_rfl
theorem kt117:compFunc Tryz.prog gl Tryz.f117 = some c117:=by kernel_rfl
theorem kt121:compFunc Tryz.prog gl Tryz.f121 = some c121:=by kernel_rfl
theorem kt125:compFunc Tryz.prog gl Tryz.f125 = some c125:=by kernel_rfl
theorem kt133:compFunc Tryz.prog gl Tryz.f133 = some c133:=by kernel_rfl
theorem kt137:compFunc Tryz.prog gl Tryz.f137 = some c137:=by kernel_rfl
theorem kt149:compFunc Tryz.prog gl Tryz.f149 = some c149:=by kernel_rfl
theorem kt153:compFunc Tryz.prog gl Tryz.f153 = some c153:=by kernel_rfl
theorem kt161:compFunc Tryz.prog gl Tryz.f161 = some c161:=by kernel_rfl
theorem kt165:compFunc Tryz.prog gl Tryz.f165 = some c165:=by kernel_rfl
theorem kt169:compFunc Tryz.prog gl Tryz.f169 = some c169:=by kernel_rfl
theorem kt173:compFunc Tryz.prog gl Tryz.f173 = some c173:=by kernel_rfl
theorem kt177:compFunc Tryz.prog gl Tryz.f177 = some c177:=by kernel_rfl
theorem kt181:compFunc Tryz.prog gl Tryz.f181 = some c181:=by kernel_rfl
theorem kt185:compFunc Tryz.prog gl Tryz.f185 = some c185:=by kernel_rfl
theorem kt189:compFunc Tryz.prog gl Tryz.f189 = some c189:=by kernel_rfl
theorem kt193:compFunc Tryz.prog gl Tryz.f193 = some c193:=by kernel_rfl
theorem kt201:compFunc Tryz.prog gl Tryz.f201 = some c201:=by kernel_rfl
theorem kt205:compFunc Tryz.prog gl Tryz.f205 = some c205:=by kernel_rfl
theorem kt209:compFunc Tryz.prog gl Tryz.f209 = some c209:=by kernel_rfl
theorem kt217:compFunc Tryz.prog gl Tryz.f217 = some c217:=by kernel_rfl
theorem kt237:compFunc Tryz.prog gl Tryz.f237 = some c237:=by kernel_rfl
theorem kt241:compFunc Tryz.prog gl Tryz.f241 = some c241:=by kernel_rfl
theorem kt245:compFunc Tryz.prog gl Tryz.f245 = some c245:=by kernel_rfl
theorem kt249:compFunc Tryz.prog gl Tryz.f249 = some c249:=by kernel_rfl
theorem kt253:compFunc Tryz.prog gl Tryz.f253 = some c253:=by kernel_rfl
theorem kt257:compFunc Tryz.prog gl Tryz.f257 = some c257:=by kernel_rfl
theorem kt265:compFunc Tryz.prog gl Tryz.f265 = some c265:=by kernel_rfl
theorem kt269:compFunc Tryz.prog gl Tryz.f269 = some c269:=by kernel_rfl
theorem kt273:compFunc Tryz.prog gl Tryz.f273 = some c273:=by kernel_rfl
theorem kt277:compFunc Tryz.prog gl Tryz.f277 = some c277:=by kernel_rfl
theorem kt285:compFunc Tryz.prog gl Tryz.f285 = some c285:=by kernel_rfl
theorem kt289:compFunc Tryz.prog gl Tryz.f289 = some c289:=by kernel_rfl
theorem kt293:compFunc Tryz.prog gl Tryz.f293 = some c293:=by kernel_rfl
theorem kt305:compFunc Tryz.prog gl Tryz.f305 = some c305:=by kernel_rfl
theorem kt313:compFunc Tryz.prog gl Tryz.f313 = some c313:=by kernel_rfl
theorem kt317:compFunc Tryz.prog gl Tryz.f317 = some c317:=by kernel_rfl
theorem kt325:compFunc Tryz.prog gl Tryz.f325 = some c325:=by kernel_rfl
theorem kt329:compFunc Tryz.prog gl Tryz.f329 = some c329:=by kernel_rfl
theorem kt333:compFunc Tryz.prog gl Tryz.f333 = some c333:=by kernel_rfl
theorem kt337:compFunc Tryz.prog gl Tryz.f337 = some c337:=by kernel_rfl
theorem kt341:compFunc Tryz.prog gl Tryz.f341 = some c341:=by kernel_rfl
theorem kt345:compFunc Tryz.prog gl Tryz.f345 = some c345:=by kernel_rfl
theorem kt353:compFunc Tryz.prog gl Tryz.f353 = some c353:=by kernel_rfl
theorem kt357:compFunc Tryz.prog gl Tryz.f357 = some c357:=by kernel_rfl
theorem kt361:compFunc Tryz.prog gl Tryz.f361 = some c361:=by kernel_rfl
theorem kt365:compFunc Tryz.prog gl Tryz.f365 = some c365:=by kernel_rfl
theorem kt369:compFunc Tryz.prog gl Tryz.f369 = some c369:=by kernel_rfl
theorem kt377:compFunc Tryz.prog gl Tryz.f377 = some c377:=by kernel_rfl
theorem kt381:compFunc Tryz.prog gl Tryz.f381 = some c381:=by kernel_rfl
theorem kt397:compFunc Tryz.prog gl Tryz.f397 = some c397:=by kernel_rfl
theorem kt401:compFunc Tryz.prog gl Tryz.f401 = some c401:=by kernel_rfl
theorem kt421:compFunc Tryz.prog gl Tryz.f421 = some c421:=by kernel_rfl
theorem kt425:compFunc Tryz.prog gl Tryz.f425 = some c425:=by kernel_rfl
end Go.Proofs.YthndaonhmmlmcaaGreatDoor.AE
