/- Proved: part 26. No condition. -/
import Derived.Test.YtnibchoenjmmjaaGreatDoorMt6
import Derived.Test.YtnibchoenjmmjaaGreatDoorProg
import Derived.KernelRfl
set_option maxRecDepth 100000
namespace Go.Proofs.YtnibchoenjmmjaaGreatDoor.AE
open Go.AE
theorem kt6:qd Tryz.prog gl Tryz.f6 = some c6:=xk
theorem qGD:qd Tryz.prog gl Tryz.f10 = some c10:=xk
theorem qGI:qd Tryz.prog gl Tryz.f18 = some c18:=xk
theorem qGM:qd Tryz.prog gl Tryz.f22 = some c22:=xk
theorem qGQ:qd Tryz.prog gl Tryz.f26 = some c26:=xk
theorem qGT:qd Tryz.prog gl Tryz.f34 = some c34:=xk
theorem qGX:qd Tryz.prog gl Tryz.f38 = some c38:=xk
theorem qG0:qd Tryz.prog gl Tryz.f42 = some c42:=xk
theorem qG4:qd Tryz.prog gl Tryz.f46 = some c46:=xk
theorem qG8:qd Tryz.prog gl Tryz.f50 = some c50:=xk
theorem qHc:qd Tryz.prog gl Tryz.f54 = some c54:=xk
theorem qHg:qd Tryz.prog gl Tryz.f58 = some c58:=xk
theorem qHj:qd Tryz.prog gl Tryz.f62 = some c62:=xk
theorem qHn:qd Tryz.prog gl Tryz.f66 = some c66:=xk
theorem qHr:qd Tryz.prog gl Tryz.f70 = some c70:=xk
theorem qHu:qd Tryz.prog gl Tryz.f74 = some c74:=xk
theorem qHx:qd Tryz.prog gl Tryz.f78 = some c78:=xk
theorem qHB:qd Tryz.prog gl Tryz.f82 = some c82:=xk
theorem qHF:qd Tryz.prog gl Tryz.f86 = some c86:=xk
theorem qHJ:qd Tryz.prog gl Tryz.f90 = some c90:=xk
theorem qHN:qd Tryz.prog gl Tryz.f94 = some c94:=xk
theorem qHR:qd Tryz.prog gl Tryz.f98 = some c98:=xk
theorem qDF:qd Tryz.prog gl Tryz.f102 = some qB9:=xk
theorem qDJ:qd Tryz.prog gl Tryz.f106 = some qw4:=xk
theorem qDM:qd Tryz.prog gl Tryz.f110 = some qCe:=xk
theorem qDQ:qd Tryz.prog gl Tryz.f114 = some qzT:=xk
theorem qDU:qd Tryz.prog gl Tryz.f118 = some qAn:=xk
theorem qDY:qd Tryz.prog gl Tryz.f122 = some qFG:=xk
theorem qD1:qd Tryz.prog gl Tryz.f126 = some qAo:=xk
theorem qD5:qd Tryz.prog gl Tryz.f130 = some qCn:=xk
theorem qD9:qd Tryz.prog gl Tryz.f134 = some qFK:=xk
theorem qEf:qd Tryz.prog gl Tryz.f142 = some qFQ:=xk
theorem qEj:qd Tryz.prog gl Tryz.f154 = some qFU:=xk
theorem qEn:qd Tryz.prog gl Tryz.f170 = some qFY:=xk
end Go.Proofs.YtnibchoenjmmjaaGreatDoor.AE
