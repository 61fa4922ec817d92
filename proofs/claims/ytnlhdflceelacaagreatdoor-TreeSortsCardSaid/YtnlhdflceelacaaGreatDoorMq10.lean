/- A part of the proof: the abstract executor and what goes through it (part 10). No condition. -/
import Derived.Test.YtnlhdflceelacaaGreatDoorMq7
import Derived.Test.YtnlhdflceelacaaGreatDoorProg
import Derived.KernelRfl
set_option maxRecDepth 100000
namespace Go.Proofs.YtnlhdflceelacaaGreatDoor.AE
open Go.AE
theorem kt6:qb Tryz.prog gl Tryz.f6 = some c6:=by kernel_rfl
theorem qF4:qb Tryz.prog gl Tryz.f10 = some c10:=by kernel_rfl
theorem qF8:qb Tryz.prog gl Tryz.f14 = some c14:=by kernel_rfl
theorem qGc:qb Tryz.prog gl Tryz.f18 = some c18:=by kernel_rfl
theorem qGg:qb Tryz.prog gl Tryz.f22 = some c22:=by kernel_rfl
theorem qGk:qb Tryz.prog gl Tryz.f26 = some c26:=by kernel_rfl
theorem qGo:qb Tryz.prog gl Tryz.f30 = some c30:=by kernel_rfl
theorem qGs:qb Tryz.prog gl Tryz.f34 = some c34:=by kernel_rfl
theorem qGw:qb Tryz.prog gl Tryz.f38 = some c38:=by kernel_rfl
theorem qGA:qb Tryz.prog gl Tryz.f42 = some c42:=by kernel_rfl
theorem qGE:qb Tryz.prog gl Tryz.f46 = some c46:=by kernel_rfl
theorem qGI:qb Tryz.prog gl Tryz.f50 = some c50:=by kernel_rfl
theorem qGM:qb Tryz.prog gl Tryz.f54 = some c54:=by kernel_rfl
theorem qGQ:qb Tryz.prog gl Tryz.f58 = some c58:=by kernel_rfl
theorem qGT:qb Tryz.prog gl Tryz.f62 = some c62:=by kernel_rfl
theorem qGW:qb Tryz.prog gl Tryz.f66 = some c66:=by kernel_rfl
theorem qG0:qb Tryz.prog gl Tryz.f70 = some c70:=by kernel_rfl
theorem qG4:qb Tryz.prog gl Tryz.f74 = some c74:=by kernel_rfl
theorem qG8:qb Tryz.prog gl Tryz.f78 = some c78:=by kernel_rfl
theorem qHc:qb Tryz.prog gl Tryz.f82 = some c82:=by kernel_rfl
theorem qHg:qb Tryz.prog gl Tryz.f86 = some c86:=by kernel_rfl
theorem qHk:qb Tryz.prog gl Tryz.f90 = some c90:=by kernel_rfl
theorem qHp:qb Tryz.prog gl Tryz.f98 = some c98:=by kernel_rfl
theorem qyE:qb Tryz.prog gl Tryz.f102 = some qCT:=by kernel_rfl
theorem qyI:qb Tryz.prog gl Tryz.f106 = some qrT:=by kernel_rfl
theorem qyM:qb Tryz.prog gl Tryz.f110 = some qCV:=by kernel_rfl
theorem qyP:qb Tryz.prog gl Tryz.f114 = some qCY:=by kernel_rfl
theorem qyT:qb Tryz.prog gl Tryz.f118 = some qC2:=by kernel_rfl
theorem qyX:qb Tryz.prog gl Tryz.f122 = some qC5:=by kernel_rfl
theorem qy1:qb Tryz.prog gl Tryz.f126 = some qC9:=by kernel_rfl
theorem qy4:qb Tryz.prog gl Tryz.f130 = some qDc:=by kernel_rfl
theorem qy8:qb Tryz.prog gl Tryz.f134 = some qDg:=by kernel_rfl
theorem qzc:qb Tryz.prog gl Tryz.f138 = some qDk:=by kernel_rfl
theorem qzf:qb Tryz.prog gl Tryz.f142 = some qDn:=by kernel_rfl
theorem qzm:qb Tryz.prog gl Tryz.f150 = some qDu:=by kernel_rfl
theorem qzq:qb Tryz.prog gl Tryz.f154 = some qDy:=by kernel_rfl
theorem qzu:qb Tryz.prog gl Tryz.f158 = some qDC:=by kernel_rfl
theorem qzy:qb Tryz.prog gl Tryz.f162 = some qDG:=by kernel_rfl
theorem qzB:qb Tryz.prog gl Tryz.f166 = some qDJ:=by kernel_rfl
theorem qzF:qb Tryz.prog gl Tryz.f170 = some qDN:=by kernel_rfl
theorem qzJ:qb Tryz.prog gl Tryz.f174 = some qxN:=by kernel_rfl
theorem qzN:qb Tryz.prog gl Tryz.f178 = some qDQ:=by kernel_rfl
theorem qzR:qb Tryz.prog gl Tryz.f182 = some qDU:=by kernel_rfl
theorem qzV:qb Tryz.prog gl Tryz.f186 = some qDY:=by kernel_rfl
theorem qzY:qb Tryz.prog gl Tryz.f190 = some qD1:=by kernel_rfl
theorem qz1:qb Tryz.prog gl Tryz.f194 = some qD4:=by kernel_rfl
theorem qz5:qb Tryz.prog gl Tryz.f198 = some qD8:=by kernel_rfl
theorem qAb:qb Tryz.prog gl Tryz.f206 = some qEe:=by kernel_rfl
theorem qAh:qb Tryz.prog gl Tryz.f214 = some qEk:=by kernel_rfl
theorem qAu:qb Tryz.prog gl Tryz.f238 = some qEx:=by kernel_rfl
theorem qAy:qb Tryz.prog gl Tryz.f242 = some qEB:=by kernel_rfl
theorem qAE:qb Tryz.prog gl Tryz.f250 = some qEH:=by kernel_rfl
theorem qAH:qb Tryz.prog gl Tryz.f254 = some qEJ:=by kernel_rfl
theorem qAN:qb Tryz.prog gl Tryz.f262 = some qEP:=by kernel_rfl
theorem qAR:qb Tryz.prog gl Tryz.f266 = some qET:=by kernel_rfl
theorem qAV:qb Tryz.prog gl Tryz.f274 = some qEX:=by kernel_rfl
theorem qAY:qb Tryz.prog gl Tryz.f278 = some qE0:=by kernel_rfl
theorem qA2:qb Tryz.prog gl Tryz.f282 = some qE4:=by kernel_rfl
theorem qA4:qb Tryz.prog gl Tryz.f286 = some qE6:=by kernel_rfl
theorem qA7:qb Tryz.prog gl Tryz.f298 = some qE9:=by kernel_rfl
theorem qBb:qb Tryz.prog gl Tryz.f302 = some qFd:=by kernel_rfl
theorem qBe:qb Tryz.prog gl Tryz.f306 = some qFg:=by kernel_rfl
theorem qBj:qb Tryz.prog gl Tryz.f314 = some qFl:=by kernel_rfl
theorem qBl:qb Tryz.prog gl Tryz.f322 = some qFn:=by kernel_rfl
theorem qBo:qb Tryz.prog gl Tryz.f326 = some qFq:=by kernel_rfl
theorem qBq:qb Tryz.prog gl Tryz.f330 = some qFs:=by kernel_rfl
theorem qBy:qb Tryz.prog gl Tryz.f354 = some qFA:=by kernel_rfl
theorem qBA:qb Tryz.prog gl Tryz.f358 = some qFC:=by kernel_rfl
theorem qBF:qb Tryz.prog gl Tryz.f374 = some qFH:=by kernel_rfl
theorem qBJ:qb Tryz.prog gl Tryz.f402 = some qFL:=by kernel_rfl
end Go.Proofs.YtnlhdflceelacaaGreatDoor.AE
