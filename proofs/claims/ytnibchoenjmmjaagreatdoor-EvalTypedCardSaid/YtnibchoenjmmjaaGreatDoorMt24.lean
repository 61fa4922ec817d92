/- Proved: part 24. No condition. -/
import Derived.Test.YtnibchoenjmmjaaGreatDoorMt6
import Derived.Test.YtnibchoenjmmjaaGreatDoorProg
import Derived.KernelRfl
set_option maxRecDepth 100000
namespace Go.Proofs.YtnibchoenjmmjaaGreatDoor.AE
open Go.AE
theorem kt8:qd Tryz.prog gl Tryz.f8 = some c8:=xk
theorem qGG:qd Tryz.prog gl Tryz.f16 = some c16:=xk
theorem qGK:qd Tryz.prog gl Tryz.f20 = some c20:=xk
theorem qGO:qd Tryz.prog gl Tryz.f24 = some c24:=xk
theorem qGV:qd Tryz.prog gl Tryz.f36 = some c36:=xk
theorem qGY:qd Tryz.prog gl Tryz.f40 = some c40:=xk
theorem qG2:qd Tryz.prog gl Tryz.f44 = some c44:=xk
theorem qG6:qd Tryz.prog gl Tryz.f48 = some c48:=xk
theorem qHa:qd Tryz.prog gl Tryz.f52 = some c52:=xk
theorem qHe:qd Tryz.prog gl Tryz.f56 = some c56:=xk
theorem qHh:qd Tryz.prog gl Tryz.f60 = some c60:=xk
theorem qHl:qd Tryz.prog gl Tryz.f64 = some c64:=xk
theorem qHp:qd Tryz.prog gl Tryz.f68 = some c68:=xk
theorem qHs:qd Tryz.prog gl Tryz.f72 = some c72:=xk
theorem qHz:qd Tryz.prog gl Tryz.f80 = some c80:=xk
theorem qHD:qd Tryz.prog gl Tryz.f84 = some c84:=xk
theorem qHH:qd Tryz.prog gl Tryz.f88 = some c88:=xk
theorem qHL:qd Tryz.prog gl Tryz.f92 = some c92:=xk
theorem qHP:qd Tryz.prog gl Tryz.f96 = some c96:=xk
theorem qDH:qd Tryz.prog gl Tryz.f104 = some qCb:=xk
theorem qDK:qd Tryz.prog gl Tryz.f108 = some qCd:=xk
theorem qDO:qd Tryz.prog gl Tryz.f112 = some qCg:=xk
theorem qDS:qd Tryz.prog gl Tryz.f116 = some qCi:=xk
theorem qDW:qd Tryz.prog gl Tryz.f120 = some qFE:=xk
theorem qD0:qd Tryz.prog gl Tryz.f124 = some qFI:=xk
theorem qD3:qd Tryz.prog gl Tryz.f128 = some qCl:=xk
theorem qD7:qd Tryz.prog gl Tryz.f132 = some qCo:=xk
theorem qEb:qd Tryz.prog gl Tryz.f136 = some qFM:=xk
theorem qEg:qd Tryz.prog gl Tryz.f144 = some qFR:=xk
theorem qEi:qd Tryz.prog gl Tryz.f148 = some qFT:=xk
end Go.Proofs.YtnibchoenjmmjaaGreatDoor.AE
