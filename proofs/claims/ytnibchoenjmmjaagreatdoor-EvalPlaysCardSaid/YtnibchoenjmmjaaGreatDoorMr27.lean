/- A part of the proof: the abstract executor and what goes through it (part 27). No condition. -/
import Derived.Test.YtnibchoenjmmjaaGreatDoorMr6
import Derived.Test.YtnibchoenjmmjaaGreatDoorProg
import Derived.KernelRfl
set_option maxRecDepth 100000
namespace Go.Proofs.YtnibchoenjmmjaaGreatDoor.AE
open Go.AE
theorem kt3:qd Tryz.prog gl Tryz.f3 = some c3:=xk
theorem kt7:qd Tryz.prog gl Tryz.f7 = some c7:=xk
theorem qGe:qd Tryz.prog gl Tryz.f11 = some c11:=xk
theorem qGj:qd Tryz.prog gl Tryz.f19 = some c19:=xk
theorem qGn:qd Tryz.prog gl Tryz.f23 = some c23:=xk
theorem qGr:qd Tryz.prog gl Tryz.f27 = some c27:=xk
theorem qGv:qd Tryz.prog gl Tryz.f31 = some c31:=xk
theorem qGD:qd Tryz.prog gl Tryz.f43 = some c43:=xk
theorem qGH:qd Tryz.prog gl Tryz.f47 = some c47:=xk
theorem qGL:qd Tryz.prog gl Tryz.f51 = some c51:=xk
theorem qGP:qd Tryz.prog gl Tryz.f55 = some c55:=xk
theorem qGT:qd Tryz.prog gl Tryz.f59 = some c59:=xk
theorem qG1:qd Tryz.prog gl Tryz.f75 = some c75:=xk
theorem qG4:qd Tryz.prog gl Tryz.f79 = some c79:=xk
theorem qG8:qd Tryz.prog gl Tryz.f83 = some c83:=xk
theorem qHc:qd Tryz.prog gl Tryz.f95 = some c95:=xk
theorem qHg:qd Tryz.prog gl Tryz.f99 = some c99:=xk
theorem qDF:qd Tryz.prog gl Tryz.f103 = some qB9:=xk
theorem qDM:qd Tryz.prog gl Tryz.f111 = some qCe:=xk
theorem qDQ:qd Tryz.prog gl Tryz.f115 = some qCg:=xk
theorem qDU:qd Tryz.prog gl Tryz.f123 = some qFl:=xk
theorem qDX:qd Tryz.prog gl Tryz.f127 = some qCh:=xk
theorem qD3:qd Tryz.prog gl Tryz.f135 = some qFp:=xk
theorem qD6:qd Tryz.prog gl Tryz.f139 = some qFs:=xk
theorem qEd:qd Tryz.prog gl Tryz.f159 = some qFz:=xk
theorem qEe:qd Tryz.prog gl Tryz.f163 = some qFA:=xk
theorem qEi:qd Tryz.prog gl Tryz.f179 = some qFE:=xk
theorem qFH:qf8 Tryz.prog gl Tryz.f39 Tryz.f71 = some c39:=xk
end Go.Proofs.YtnibchoenjmmjaaGreatDoor.AE
