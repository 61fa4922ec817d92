/- A part of the proof: the abstract executor and what goes through it (part 8). No condition. -/
import Derived.Test.YtnlhdflceelacaaGreatDoorMq7
import Derived.Test.YtnlhdflceelacaaGreatDoorProg
import Derived.KernelRfl
set_option maxRecDepth 100000
namespace Go.Proofs.YtnlhdflceelacaaGreatDoor.AE
open Go.AE
theorem kt4:qb Tryz.prog gl Tryz.f4 = some c4:=by kernel_rfl
theorem kt8:qb Tryz.prog gl Tryz.f8 = some c8:=by kernel_rfl
theorem qF6:qb Tryz.prog gl Tryz.f12 = some c12:=by kernel_rfl
theorem qGa:qb Tryz.prog gl Tryz.f16 = some c16:=by kernel_rfl
theorem qGe:qb Tryz.prog gl Tryz.f20 = some c20:=by kernel_rfl
theorem qGi:qb Tryz.prog gl Tryz.f24 = some c24:=by kernel_rfl
theorem qGm:qb Tryz.prog gl Tryz.f28 = some c28:=by kernel_rfl
theorem qGq:qb Tryz.prog gl Tryz.f32 = some c32:=by kernel_rfl
theorem qGu:qb Tryz.prog gl Tryz.f36 = some c36:=by kernel_rfl
theorem qGy:qb Tryz.prog gl Tryz.f40 = some c40:=by kernel_rfl
theorem qGC:qb Tryz.prog gl Tryz.f44 = some c44:=by kernel_rfl
theorem qGG:qb Tryz.prog gl Tryz.f48 = some c48:=by kernel_rfl
theorem qGK:qb Tryz.prog gl Tryz.f52 = some c52:=by kernel_rfl
theorem qGO:qb Tryz.prog gl Tryz.f56 = some c56:=by kernel_rfl
theorem qGU:qb Tryz.prog gl Tryz.f64 = some c64:=by kernel_rfl
theorem qGY:qb Tryz.prog gl Tryz.f68 = some c68:=by kernel_rfl
theorem qG2:qb Tryz.prog gl Tryz.f72 = some c72:=by kernel_rfl
theorem qG6:qb Tryz.prog gl Tryz.f76 = some c76:=by kernel_rfl
theorem qHa:qb Tryz.prog gl Tryz.f80 = some c80:=by kernel_rfl
theorem qHe:qb Tryz.prog gl Tryz.f84 = some c84:=by kernel_rfl
theorem qHi:qb Tryz.prog gl Tryz.f88 = some c88:=by kernel_rfl
theorem qHm:qb Tryz.prog gl Tryz.f92 = some c92:=by kernel_rfl
theorem qHo:qb Tryz.prog gl Tryz.f96 = some c96:=by kernel_rfl
theorem qyC:qb Tryz.prog gl Tryz.f100 = some qCR:=by kernel_rfl
theorem qyG:qb Tryz.prog gl Tryz.f104 = some quL:=by kernel_rfl
theorem qyK:qb Tryz.prog gl Tryz.f108 = some qxI:=by kernel_rfl
theorem qyR:qb Tryz.prog gl Tryz.f116 = some qC0:=by kernel_rfl
theorem qyV:qb Tryz.prog gl Tryz.f120 = some qxK:=by kernel_rfl
theorem qyZ:qb Tryz.prog gl Tryz.f124 = some qC7:=by kernel_rfl
theorem qy3:qb Tryz.prog gl Tryz.f128 = some qDb:=by kernel_rfl
theorem qy6:qb Tryz.prog gl Tryz.f132 = some qDe:=by kernel_rfl
theorem qza:qb Tryz.prog gl Tryz.f136 = some qDi:=by kernel_rfl
theorem qzd:qb Tryz.prog gl Tryz.f140 = some qDl:=by kernel_rfl
theorem qzh:qb Tryz.prog gl Tryz.f144 = some qDp:=by kernel_rfl
theorem qzk:qb Tryz.prog gl Tryz.f148 = some qDs:=by kernel_rfl
theorem qzo:qb Tryz.prog gl Tryz.f152 = some qDw:=by kernel_rfl
theorem qzs:qb Tryz.prog gl Tryz.f156 = some qDA:=by kernel_rfl
theorem qzw:qb Tryz.prog gl Tryz.f160 = some qDE:=by kernel_rfl
theorem qzA:qb Tryz.prog gl Tryz.f164 = some qDI:=by kernel_rfl
theorem qzD:qb Tryz.prog gl Tryz.f168 = some qDL:=by kernel_rfl
theorem qzH:qb Tryz.prog gl Tryz.f172 = some qxL:=by kernel_rfl
theorem qzL:qb Tryz.prog gl Tryz.f176 = some qxP:=by kernel_rfl
theorem qzP:qb Tryz.prog gl Tryz.f180 = some qDS:=by kernel_rfl
theorem qzT:qb Tryz.prog gl Tryz.f184 = some qDW:=by kernel_rfl
theorem qzX:qb Tryz.prog gl Tryz.f188 = some qD0:=by kernel_rfl
theorem qzZ:qb Tryz.prog gl Tryz.f192 = some qD2:=by kernel_rfl
theorem qz3:qb Tryz.prog gl Tryz.f196 = some qD6:=by kernel_rfl
theorem qz7:qb Tryz.prog gl Tryz.f200 = some qEa:=by kernel_rfl
theorem qAd:qb Tryz.prog gl Tryz.f208 = some qEg:=by kernel_rfl
theorem qAf:qb Tryz.prog gl Tryz.f212 = some qEi:=by kernel_rfl
theorem qAl:qb Tryz.prog gl Tryz.f220 = some qEo:=by kernel_rfl
theorem qAn:qb Tryz.prog gl Tryz.f224 = some qEq:=by kernel_rfl
theorem qAp:qb Tryz.prog gl Tryz.f232 = some qEs:=by kernel_rfl
theorem qAs:qb Tryz.prog gl Tryz.f236 = some qEv:=by kernel_rfl
theorem qAw:qb Tryz.prog gl Tryz.f240 = some qEz:=by kernel_rfl
theorem qAA:qb Tryz.prog gl Tryz.f244 = some qED:=by kernel_rfl
theorem qAC:qb Tryz.prog gl Tryz.f248 = some qEF:=by kernel_rfl
theorem qAJ:qb Tryz.prog gl Tryz.f256 = some qEL:=by kernel_rfl
theorem qAL:qb Tryz.prog gl Tryz.f260 = some qEN:=by kernel_rfl
theorem qAP:qb Tryz.prog gl Tryz.f264 = some qER:=by kernel_rfl
theorem qAT:qb Tryz.prog gl Tryz.f268 = some qEV:=by kernel_rfl
theorem qAW:qb Tryz.prog gl Tryz.f276 = some qEY:=by kernel_rfl
theorem qA0:qb Tryz.prog gl Tryz.f280 = some qE2:=by kernel_rfl
theorem qA9:qb Tryz.prog gl Tryz.f300 = some qFb:=by kernel_rfl
theorem qBg:qb Tryz.prog gl Tryz.f308 = some qFi:=by kernel_rfl
theorem qBm:qb Tryz.prog gl Tryz.f324 = some qFo:=by kernel_rfl
theorem qBt:qb Tryz.prog gl Tryz.f336 = some qFv:=by kernel_rfl
theorem qBw:qb Tryz.prog gl Tryz.f352 = some qFy:=by kernel_rfl
theorem qBC:qb Tryz.prog gl Tryz.f364 = some qFE:=by kernel_rfl
theorem qBE:qb Tryz.prog gl Tryz.f368 = some qFG:=by kernel_rfl
theorem qBI:qb Tryz.prog gl Tryz.f396 = some qFK:=by kernel_rfl
theorem qBM:qb Tryz.prog gl Tryz.f416 = some qFO:=by kernel_rfl
end Go.Proofs.YtnlhdflceelacaaGreatDoor.AE
