/- A part of the proof: the abstract executor and what goes through it (part 24). No condition. -/
import Derived.Test.YtnibchoenjmmjaaGreatDoorMr6
import Derived.Test.YtnibchoenjmmjaaGreatDoorProg
import Derived.KernelRfl
set_option maxRecDepth 100000
namespace Go.Proofs.YtnibchoenjmmjaaGreatDoor.AE
open Go.AE
theorem kt8:qd Tryz.prog gl Tryz.f8 = some c8:=xk
theorem qGf:qd Tryz.prog gl Tryz.f12 = some c12:=xk
theorem qGk:qd Tryz.prog gl Tryz.f20 = some c20:=xk
theorem qGo:qd Tryz.prog gl Tryz.f24 = some c24:=xk
theorem qGs:qd Tryz.prog gl Tryz.f28 = some c28:=xk
theorem qGx:qd Tryz.prog gl Tryz.f36 = some c36:=xk
theorem qGA:qd Tryz.prog gl Tryz.f40 = some c40:=xk
theorem qGE:qd Tryz.prog gl Tryz.f44 = some c44:=xk
theorem qGI:qd Tryz.prog gl Tryz.f48 = some c48:=xk
theorem qGM:qd Tryz.prog gl Tryz.f52 = some c52:=xk
theorem qGQ:qd Tryz.prog gl Tryz.f56 = some c56:=xk
theorem qGU:qd Tryz.prog gl Tryz.f60 = some c60:=xk
theorem qGY:qd Tryz.prog gl Tryz.f72 = some c72:=xk
theorem qG5:qd Tryz.prog gl Tryz.f80 = some c80:=xk
theorem qG9:qd Tryz.prog gl Tryz.f84 = some c84:=xk
theorem qHd:qd Tryz.prog gl Tryz.f96 = some c96:=xk
theorem qDG:qd Tryz.prog gl Tryz.f104 = some qCa:=xk
theorem qDJ:qd Tryz.prog gl Tryz.f108 = some qCc:=xk
theorem qDN:qd Tryz.prog gl Tryz.f112 = some qCf:=xk
theorem qDR:qd Tryz.prog gl Tryz.f120 = some qFi:=xk
theorem qDV:qd Tryz.prog gl Tryz.f124 = some qFm:=xk
theorem qDY:qd Tryz.prog gl Tryz.f128 = some qCi:=xk
theorem qD4:qd Tryz.prog gl Tryz.f136 = some qFq:=xk
theorem qD9:qd Tryz.prog gl Tryz.f144 = some qFv:=xk
theorem qEb:qd Tryz.prog gl Tryz.f148 = some qFx:=xk
end Go.Proofs.YtnibchoenjmmjaaGreatDoor.AE
