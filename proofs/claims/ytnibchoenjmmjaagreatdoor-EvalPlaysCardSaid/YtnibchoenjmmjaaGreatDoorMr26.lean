/- A part of the proof: the abstract executor and what goes through it (part 26). No condition. -/
import Derived.Test.YtnibchoenjmmjaaGreatDoorMr6
import Derived.Test.YtnibchoenjmmjaaGreatDoorProg
import Derived.KernelRfl
set_option maxRecDepth 100000
namespace Go.Proofs.YtnibchoenjmmjaaGreatDoor.AE
open Go.AE
theorem kt6:qd Tryz.prog gl Tryz.f6 = some c6:=xk
theorem qGd:qd Tryz.prog gl Tryz.f10 = some c10:=xk
theorem qGi:qd Tryz.prog gl Tryz.f18 = some c18:=xk
theorem qGm:qd Tryz.prog gl Tryz.f22 = some c22:=xk
theorem qGq:qd Tryz.prog gl Tryz.f26 = some c26:=xk
theorem qGu:qd Tryz.prog gl Tryz.f30 = some c30:=xk
theorem qGz:qd Tryz.prog gl Tryz.f38 = some c38:=xk
theorem qGC:qd Tryz.prog gl Tryz.f42 = some c42:=xk
theorem qGG:qd Tryz.prog gl Tryz.f46 = some c46:=xk
theorem qGK:qd Tryz.prog gl Tryz.f50 = some c50:=xk
theorem qGO:qd Tryz.prog gl Tryz.f54 = some c54:=xk
theorem qGS:qd Tryz.prog gl Tryz.f58 = some c58:=xk
theorem qGX:qd Tryz.prog gl Tryz.f70 = some c70:=xk
theorem qG0:qd Tryz.prog gl Tryz.f74 = some c74:=xk
theorem qG3:qd Tryz.prog gl Tryz.f78 = some c78:=xk
theorem qG7:qd Tryz.prog gl Tryz.f82 = some c82:=xk
theorem qHb:qd Tryz.prog gl Tryz.f94 = some c94:=xk
theorem qHf:qd Tryz.prog gl Tryz.f98 = some c98:=xk
theorem qDE:qd Tryz.prog gl Tryz.f102 = some qB8:=xk
theorem qDI:qd Tryz.prog gl Tryz.f106 = some qw7:=xk
theorem qDL:qd Tryz.prog gl Tryz.f110 = some qCd:=xk
theorem qDP:qd Tryz.prog gl Tryz.f114 = some qzU:=xk
theorem qDT:qd Tryz.prog gl Tryz.f122 = some qFk:=xk
theorem qDW:qd Tryz.prog gl Tryz.f126 = some qAp:=xk
theorem qD0:qd Tryz.prog gl Tryz.f130 = some qCk:=xk
theorem qD2:qd Tryz.prog gl Tryz.f134 = some qFo:=xk
theorem qD8:qd Tryz.prog gl Tryz.f142 = some qFu:=xk
theorem qEc:qd Tryz.prog gl Tryz.f154 = some qFy:=xk
theorem qEg:qd Tryz.prog gl Tryz.f170 = some qFC:=xk
end Go.Proofs.YtnibchoenjmmjaaGreatDoor.AE
