/- A part of the proof: the abstract executor and what goes through it (part 9). No condition. -/
import Derived.Test.YtnlhdflceelacaaGreatDoorMq7
import Derived.Test.YtnlhdflceelacaaGreatDoorProg
import Derived.KernelRfl
set_option maxRecDepth 100000
namespace Go.Proofs.YtnlhdflceelacaaGreatDoor.AE
open Go.AE
theorem kt5:qb Tryz.prog gl Tryz.f5 = some c5:=by kernel_rfl
theorem kt9:qb Tryz.prog gl Tryz.f9 = some c9:=by kernel_rfl
theorem qF7:qb Tryz.prog gl Tryz.f13 = some c13:=by kernel_rfl
theorem qGb:qb Tryz.prog gl Tryz.f17 = some c17:=by kernel_rfl
theorem qGf:qb Tryz.prog gl Tryz.f21 = some c21:=by kernel_rfl
theorem qGj:qb Tryz.prog gl Tryz.f25 = some c25:=by kernel_rfl
theorem qGn:qb Tryz.prog gl Tryz.f29 = some c29:=by kernel_rfl
theorem qGr:qb Tryz.prog gl Tryz.f33 = some c33:=by kernel_rfl
theorem qGv:qb Tryz.prog gl Tryz.f37 = some c37:=by kernel_rfl
theorem qGz:qb Tryz.prog gl Tryz.f41 = some c41:=by kernel_rfl
theorem qGD:qb Tryz.prog gl Tryz.f45 = some c45:=by kernel_rfl
theorem qGH:qb Tryz.prog gl Tryz.f49 = some c49:=by kernel_rfl
theorem qGL:qb Tryz.prog gl Tryz.f53 = some c53:=by kernel_rfl
theorem qGP:qb Tryz.prog gl Tryz.f57 = some c57:=by kernel_rfl
theorem qGS:qb Tryz.prog gl Tryz.f61 = some c61:=by kernel_rfl
theorem qGV:qb Tryz.prog gl Tryz.f65 = some c65:=by kernel_rfl
theorem qGZ:qb Tryz.prog gl Tryz.f69 = some c69:=by kernel_rfl
theorem qG3:qb Tryz.prog gl Tryz.f73 = some c73:=by kernel_rfl
theorem qG7:qb Tryz.prog gl Tryz.f77 = some c77:=by kernel_rfl
theorem qHb:qb Tryz.prog gl Tryz.f81 = some c81:=by kernel_rfl
theorem qHf:qb Tryz.prog gl Tryz.f85 = some c85:=by kernel_rfl
theorem qHj:qb Tryz.prog gl Tryz.f89 = some c89:=by kernel_rfl
theorem qHn:qb Tryz.prog gl Tryz.f93 = some c93:=by kernel_rfl
theorem qyD:qb Tryz.prog gl Tryz.f101 = some qCS:=by kernel_rfl
theorem qyH:qb Tryz.prog gl Tryz.f105 = some qcl:=by kernel_rfl
theorem qyL:qb Tryz.prog gl Tryz.f109 = some qxJ:=by kernel_rfl
theorem qyO:qb Tryz.prog gl Tryz.f113 = some qCX:=by kernel_rfl
theorem qyS:qb Tryz.prog gl Tryz.f117 = some qC1:=by kernel_rfl
theorem qyW:qb Tryz.prog gl Tryz.f121 = some qC4:=by kernel_rfl
theorem qy0:qb Tryz.prog gl Tryz.f125 = some qC8:=by kernel_rfl
theorem qy7:qb Tryz.prog gl Tryz.f133 = some qDf:=by kernel_rfl
theorem qzb:qb Tryz.prog gl Tryz.f137 = some qDj:=by kernel_rfl
theorem qze:qb Tryz.prog gl Tryz.f141 = some qDm:=by kernel_rfl
theorem qzi:qb Tryz.prog gl Tryz.f145 = some qDq:=by kernel_rfl
theorem qzl:qb Tryz.prog gl Tryz.f149 = some qDt:=by kernel_rfl
theorem qzp:qb Tryz.prog gl Tryz.f153 = some qDx:=by kernel_rfl
theorem qzt:qb Tryz.prog gl Tryz.f157 = some qDB:=by kernel_rfl
theorem qzx:qb Tryz.prog gl Tryz.f161 = some qDF:=by kernel_rfl
theorem qzE:qb Tryz.prog gl Tryz.f169 = some qDM:=by kernel_rfl
theorem qzI:qb Tryz.prog gl Tryz.f173 = some qxM:=by kernel_rfl
theorem qzM:qb Tryz.prog gl Tryz.f177 = some qDP:=by kernel_rfl
theorem qzQ:qb Tryz.prog gl Tryz.f181 = some qDT:=by kernel_rfl
theorem qzU:qb Tryz.prog gl Tryz.f185 = some qDX:=by kernel_rfl
theorem qz0:qb Tryz.prog gl Tryz.f193 = some qD3:=by kernel_rfl
theorem qz4:qb Tryz.prog gl Tryz.f197 = some qD7:=by kernel_rfl
theorem qz8:qb Tryz.prog gl Tryz.f201 = some qEb:=by kernel_rfl
theorem qAa:qb Tryz.prog gl Tryz.f205 = some qEd:=by kernel_rfl
theorem qAg:qb Tryz.prog gl Tryz.f213 = some qEj:=by kernel_rfl
theorem qAj:qb Tryz.prog gl Tryz.f217 = some qEm:=by kernel_rfl
theorem qAm:qb Tryz.prog gl Tryz.f221 = some qEp:=by kernel_rfl
theorem qAq:qb Tryz.prog gl Tryz.f233 = some qEt:=by kernel_rfl
theorem qAt:qb Tryz.prog gl Tryz.f237 = some qEw:=by kernel_rfl
theorem qAx:qb Tryz.prog gl Tryz.f241 = some qEA:=by kernel_rfl
theorem qAB:qb Tryz.prog gl Tryz.f245 = some qEE:=by kernel_rfl
theorem qAD:qb Tryz.prog gl Tryz.f249 = some qEG:=by kernel_rfl
theorem qAG:qb Tryz.prog gl Tryz.f253 = some qEI:=by kernel_rfl
theorem qAK:qb Tryz.prog gl Tryz.f257 = some qEM:=by kernel_rfl
theorem qAM:qb Tryz.prog gl Tryz.f261 = some qEO:=by kernel_rfl
theorem qAQ:qb Tryz.prog gl Tryz.f265 = some qES:=by kernel_rfl
theorem qAU:qb Tryz.prog gl Tryz.f273 = some qEW:=by kernel_rfl
theorem qAX:qb Tryz.prog gl Tryz.f277 = some qEZ:=by kernel_rfl
theorem qA1:qb Tryz.prog gl Tryz.f281 = some qE3:=by kernel_rfl
theorem qA3:qb Tryz.prog gl Tryz.f285 = some qE5:=by kernel_rfl
theorem qA5:qb Tryz.prog gl Tryz.f289 = some qE7:=by kernel_rfl
theorem qA6:qb Tryz.prog gl Tryz.f297 = some qE8:=by kernel_rfl
theorem qBa:qb Tryz.prog gl Tryz.f301 = some qFc:=by kernel_rfl
theorem qBd:qb Tryz.prog gl Tryz.f305 = some qFf:=by kernel_rfl
theorem qBh:qb Tryz.prog gl Tryz.f309 = some qFj:=by kernel_rfl
theorem qBk:qb Tryz.prog gl Tryz.f321 = some qFm:=by kernel_rfl
theorem qBn:qb Tryz.prog gl Tryz.f325 = some qFp:=by kernel_rfl
theorem qBp:qb Tryz.prog gl Tryz.f329 = some qFr:=by kernel_rfl
theorem qBs:qb Tryz.prog gl Tryz.f333 = some qFu:=by kernel_rfl
theorem qBu:qb Tryz.prog gl Tryz.f337 = some qFw:=by kernel_rfl
theorem qBx:qb Tryz.prog gl Tryz.f353 = some qFz:=by kernel_rfl
theorem qBz:qb Tryz.prog gl Tryz.f357 = some qFB:=by kernel_rfl
theorem qBB:qb Tryz.prog gl Tryz.f361 = some qFD:=by kernel_rfl
theorem qBD:qb Tryz.prog gl Tryz.f365 = some qFF:=by kernel_rfl
theorem qBG:qb Tryz.prog gl Tryz.f381 = some qFI:=by kernel_rfl
theorem qBK:qb Tryz.prog gl Tryz.f405 = some qFM:=by kernel_rfl
end Go.Proofs.YtnlhdflceelacaaGreatDoor.AE
