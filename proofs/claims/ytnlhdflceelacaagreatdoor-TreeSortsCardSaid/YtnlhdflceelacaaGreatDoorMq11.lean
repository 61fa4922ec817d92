/- A part of the proof: the abstract executor and what goes through it (part 11). No condition. -/
import Derived.Test.YtnlhdflceelacaaGreatDoorMq7
import Derived.Test.YtnlhdflceelacaaGreatDoorProg
import Derived.KernelRfl
set_option maxRecDepth 100000
namespace Go.Proofs.YtnlhdflceelacaaGreatDoor.AE
open Go.AE
theorem kt3:qb Tryz.prog gl Tryz.f3 = some c3:=by kernel_rfl
theorem kt7:qb Tryz.prog gl Tryz.f7 = some c7:=by kernel_rfl
theorem qF5:qb Tryz.prog gl Tryz.f11 = some c11:=by kernel_rfl
theorem qF9:qb Tryz.prog gl Tryz.f15 = some c15:=by kernel_rfl
theorem qGd:qb Tryz.prog gl Tryz.f19 = some c19:=by kernel_rfl
theorem qGh:qb Tryz.prog gl Tryz.f23 = some c23:=by kernel_rfl
theorem qGp:qb Tryz.prog gl Tryz.f31 = some c31:=by kernel_rfl
theorem qGt:qb Tryz.prog gl Tryz.f35 = some c35:=by kernel_rfl
theorem qGx:qb Tryz.prog gl Tryz.f39 = some c39:=by kernel_rfl
theorem qGB:qb Tryz.prog gl Tryz.f43 = some c43:=by kernel_rfl
theorem qGF:qb Tryz.prog gl Tryz.f47 = some c47:=by kernel_rfl
theorem qGJ:qb Tryz.prog gl Tryz.f51 = some c51:=by kernel_rfl
theorem qGN:qb Tryz.prog gl Tryz.f55 = some c55:=by kernel_rfl
theorem qGR:qb Tryz.prog gl Tryz.f59 = some c59:=by kernel_rfl
theorem qGX:qb Tryz.prog gl Tryz.f67 = some c67:=by kernel_rfl
theorem qG1:qb Tryz.prog gl Tryz.f71 = some c71:=by kernel_rfl
theorem qG5:qb Tryz.prog gl Tryz.f75 = some c75:=by kernel_rfl
theorem qG9:qb Tryz.prog gl Tryz.f79 = some c79:=by kernel_rfl
theorem qHd:qb Tryz.prog gl Tryz.f83 = some c83:=by kernel_rfl
theorem qHh:qb Tryz.prog gl Tryz.f87 = some c87:=by kernel_rfl
theorem qHl:qb Tryz.prog gl Tryz.f91 = some c91:=by kernel_rfl
theorem qHq:qb Tryz.prog gl Tryz.f99 = some c99:=by kernel_rfl
theorem qyF:qb Tryz.prog gl Tryz.f103 = some qCU:=by kernel_rfl
theorem qyJ:qb Tryz.prog gl Tryz.f107 = some quM:=by kernel_rfl
theorem qyN:qb Tryz.prog gl Tryz.f111 = some qCW:=by kernel_rfl
theorem qyQ:qb Tryz.prog gl Tryz.f115 = some qCZ:=by kernel_rfl
theorem qyU:qb Tryz.prog gl Tryz.f119 = some qC3:=by kernel_rfl
theorem qyY:qb Tryz.prog gl Tryz.f123 = some qC6:=by kernel_rfl
theorem qy2:qb Tryz.prog gl Tryz.f127 = some qDa:=by kernel_rfl
theorem qy5:qb Tryz.prog gl Tryz.f131 = some qDd:=by kernel_rfl
theorem qy9:qb Tryz.prog gl Tryz.f135 = some qDh:=by kernel_rfl
theorem qzg:qb Tryz.prog gl Tryz.f143 = some qDo:=by kernel_rfl
theorem qzj:qb Tryz.prog gl Tryz.f147 = some qDr:=by kernel_rfl
theorem qzn:qb Tryz.prog gl Tryz.f151 = some qDv:=by kernel_rfl
theorem qzr:qb Tryz.prog gl Tryz.f155 = some qDz:=by kernel_rfl
theorem qzv:qb Tryz.prog gl Tryz.f159 = some qDD:=by kernel_rfl
theorem qzz:qb Tryz.prog gl Tryz.f163 = some qDH:=by kernel_rfl
theorem qzC:qb Tryz.prog gl Tryz.f167 = some qDK:=by kernel_rfl
theorem qzG:qb Tryz.prog gl Tryz.f171 = some qDO:=by kernel_rfl
theorem qzK:qb Tryz.prog gl Tryz.f175 = some qxO:=by kernel_rfl
theorem qzO:qb Tryz.prog gl Tryz.f179 = some qDR:=by kernel_rfl
theorem qzS:qb Tryz.prog gl Tryz.f183 = some qDV:=by kernel_rfl
theorem qzW:qb Tryz.prog gl Tryz.f187 = some qDZ:=by kernel_rfl
theorem qz2:qb Tryz.prog gl Tryz.f195 = some qD5:=by kernel_rfl
theorem qz6:qb Tryz.prog gl Tryz.f199 = some qD9:=by kernel_rfl
theorem qz9:qb Tryz.prog gl Tryz.f203 = some qEc:=by kernel_rfl
theorem qAc:qb Tryz.prog gl Tryz.f207 = some qEf:=by kernel_rfl
theorem qAe:qb Tryz.prog gl Tryz.f211 = some qEh:=by kernel_rfl
theorem qAi:qb Tryz.prog gl Tryz.f215 = some qEl:=by kernel_rfl
theorem qAk:qb Tryz.prog gl Tryz.f219 = some qEn:=by kernel_rfl
theorem qAo:qb Tryz.prog gl Tryz.f231 = some qEr:=by kernel_rfl
theorem qAr:qb Tryz.prog gl Tryz.f235 = some qEu:=by kernel_rfl
theorem qAv:qb Tryz.prog gl Tryz.f239 = some qEy:=by kernel_rfl
theorem qAz:qb Tryz.prog gl Tryz.f243 = some qEC:=by kernel_rfl
theorem qAF:qb Tryz.prog gl Tryz.f251 = some qxQ:=by kernel_rfl
theorem qAI:qb Tryz.prog gl Tryz.f255 = some qEK:=by kernel_rfl
theorem qAO:qb Tryz.prog gl Tryz.f263 = some qEQ:=by kernel_rfl
theorem qAS:qb Tryz.prog gl Tryz.f267 = some qEU:=by kernel_rfl
theorem qAZ:qb Tryz.prog gl Tryz.f279 = some qE1:=by kernel_rfl
theorem qA8:qb Tryz.prog gl Tryz.f299 = some qFa:=by kernel_rfl
theorem qBc:qb Tryz.prog gl Tryz.f303 = some qFe:=by kernel_rfl
theorem qBf:qb Tryz.prog gl Tryz.f307 = some qFh:=by kernel_rfl
theorem qBi:qb Tryz.prog gl Tryz.f311 = some qFk:=by kernel_rfl
theorem qBr:qb Tryz.prog gl Tryz.f331 = some qFt:=by kernel_rfl
theorem qBv:qb Tryz.prog gl Tryz.f343 = some qFx:=by kernel_rfl
theorem qBH:qb Tryz.prog gl Tryz.f387 = some qFJ:=by kernel_rfl
theorem qBL:qb Tryz.prog gl Tryz.f411 = some qFN:=by kernel_rfl
theorem qGl:qeD Tryz.prog gl Tryz.f27 Tryz.f60 = some c27:=by kernel_rfl
end Go.Proofs.YtnlhdflceelacaaGreatDoor.AE
