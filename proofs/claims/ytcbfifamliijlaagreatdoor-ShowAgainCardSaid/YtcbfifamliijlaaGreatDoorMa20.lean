/- A part of the proof. No condition. -/
import Derived.Test.YtcbfifamliijlaaGreatDoorMa6
import Derived.Test.YtcbfifamliijlaaGreatDoorProg
import Derived.KernelRfl
set_option maxRecDepth 100000
namespace Go.Proofs.YtcbfifamliijlaaGreatDoor.AE
open Go.AE
theorem kt4:qh Tryz.prog gl Tryz.f4 = some c4:=zk
theorem kt8:qh Tryz.prog gl Tryz.f8 = some c8:=zk
theorem qJ9:qh Tryz.prog gl Tryz.f12 = some c12:=zk
theorem qKd:qh Tryz.prog gl Tryz.f20 = some c20:=zk
theorem qKg:qh Tryz.prog gl Tryz.f24 = some c24:=zk
theorem qKj:qh Tryz.prog gl Tryz.f28 = some c28:=zk
theorem qKn:qh Tryz.prog gl Tryz.f36 = some c36:=zk
theorem qKr:qh Tryz.prog gl Tryz.f40 = some c40:=zk
theorem qKu:qh Tryz.prog gl Tryz.f44 = some c44:=zk
theorem qKy:qh Tryz.prog gl Tryz.f48 = some c48:=zk
theorem qKC:qh Tryz.prog gl Tryz.f52 = some c52:=zk
theorem qKG:qh Tryz.prog gl Tryz.f56 = some c56:=zk
theorem qKK:qh Tryz.prog gl Tryz.f60 = some c60:=zk
theorem qKR:qh Tryz.prog gl Tryz.f68 = some c68:=zk
theorem qKT:qh Tryz.prog gl Tryz.f72 = some c72:=zk
theorem qKX:qh Tryz.prog gl Tryz.f76 = some c76:=zk
theorem qK1:qh Tryz.prog gl Tryz.f80 = some c80:=zk
theorem qK5:qh Tryz.prog gl Tryz.f84 = some c84:=zk
theorem qK9:qh Tryz.prog gl Tryz.f88 = some c88:=zk
theorem qLd:qh Tryz.prog gl Tryz.f92 = some c92:=zk
theorem qLh:qh Tryz.prog gl Tryz.f96 = some c96:=zk
theorem qGy:qh Tryz.prog gl Tryz.f100 = some qI7:=zk
theorem qGB:qh Tryz.prog gl Tryz.f104 = some qCG:=zk
theorem qGE:qh Tryz.prog gl Tryz.f108 = some qFf:=zk
theorem qGG:qh Tryz.prog gl Tryz.f112 = some qI8:=zk
theorem qGK:qh Tryz.prog gl Tryz.f116 = some qJa:=zk
theorem qGO:qh Tryz.prog gl Tryz.f120 = some qJc:=zk
theorem qGS:qh Tryz.prog gl Tryz.f124 = some qJe:=zk
theorem qGW:qh Tryz.prog gl Tryz.f128 = some qyK:=zk
theorem qG0:qh Tryz.prog gl Tryz.f132 = some qJf:=zk
theorem qG4:qh Tryz.prog gl Tryz.f136 = some qJi:=zk
theorem qG8:qh Tryz.prog gl Tryz.f140 = some qJk:=zk
theorem qHc:qh Tryz.prog gl Tryz.f144 = some qJm:=zk
theorem qHg:qh Tryz.prog gl Tryz.f148 = some qJo:=zk
theorem qHj:qh Tryz.prog gl Tryz.f152 = some qCb:=zk
theorem qHn:qh Tryz.prog gl Tryz.f156 = some qFr:=zk
theorem qHr:qh Tryz.prog gl Tryz.f160 = some qqC:=zk
theorem qHu:qh Tryz.prog gl Tryz.f164 = some qJq:=zk
theorem qHy:qh Tryz.prog gl Tryz.f168 = some qF2:=zk
theorem qHC:qh Tryz.prog gl Tryz.f172 = some qJu:=zk
theorem qHG:qh Tryz.prog gl Tryz.f176 = some qiZ:=zk
theorem qHK:qh Tryz.prog gl Tryz.f180 = some qJz:=zk
theorem qHQ:qh Tryz.prog gl Tryz.f188 = some qCL:=zk
theorem qHX:qh Tryz.prog gl Tryz.f220 = some qz1:=zk
theorem qH1:qh Tryz.prog gl Tryz.f224 = some qvr:=zk
end Go.Proofs.YtcbfifamliijlaaGreatDoor.AE
