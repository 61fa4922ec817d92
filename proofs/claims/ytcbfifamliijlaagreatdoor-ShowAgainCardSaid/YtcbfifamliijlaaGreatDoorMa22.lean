/- A part of the proof. No condition. -/
import Derived.Test.YtcbfifamliijlaaGreatDoorMa6
import Derived.Test.YtcbfifamliijlaaGreatDoorProg
import Derived.KernelRfl
set_option maxRecDepth 100000
namespace Go.Proofs.YtcbfifamliijlaaGreatDoor.AE
open Go.AE
theorem qJ7:qh Tryz.prog gl Tryz.f10 = some c10:=zk
theorem qKb:qh Tryz.prog gl Tryz.f18 = some c18:=zk
theorem qKe:qh Tryz.prog gl Tryz.f22 = some c22:=zk
theorem qKh:qh Tryz.prog gl Tryz.f26 = some c26:=zk
theorem qKl:qh Tryz.prog gl Tryz.f34 = some c34:=zk
theorem qKp:qh Tryz.prog gl Tryz.f38 = some c38:=zk
theorem qKs:qh Tryz.prog gl Tryz.f42 = some c42:=zk
theorem qKw:qh Tryz.prog gl Tryz.f46 = some c46:=zk
theorem qKA:qh Tryz.prog gl Tryz.f50 = some c50:=zk
theorem qKE:qh Tryz.prog gl Tryz.f54 = some c54:=zk
theorem qKI:qh Tryz.prog gl Tryz.f58 = some c58:=zk
theorem qKM:qh Tryz.prog gl Tryz.f62 = some c62:=zk
theorem qKP:qh Tryz.prog gl Tryz.f66 = some c66:=zk
theorem qKV:qh Tryz.prog gl Tryz.f74 = some c74:=zk
theorem qKZ:qh Tryz.prog gl Tryz.f78 = some c78:=zk
theorem qK3:qh Tryz.prog gl Tryz.f82 = some c82:=zk
theorem qK7:qh Tryz.prog gl Tryz.f86 = some c86:=zk
theorem qLb:qh Tryz.prog gl Tryz.f90 = some c90:=zk
theorem qLf:qh Tryz.prog gl Tryz.f94 = some c94:=zk
theorem qLj:qh Tryz.prog gl Tryz.f98 = some c98:=zk
theorem qGA:qh Tryz.prog gl Tryz.f102 = some qqA:=zk
theorem qGC:qh Tryz.prog gl Tryz.f106 = some qFd:=zk
theorem qGI:qh Tryz.prog gl Tryz.f114 = some qI9:=zk
theorem qGM:qh Tryz.prog gl Tryz.f118 = some qJb:=zk
theorem qGQ:qh Tryz.prog gl Tryz.f122 = some qJd:=zk
theorem qGU:qh Tryz.prog gl Tryz.f126 = some qFm:=zk
theorem qGY:qh Tryz.prog gl Tryz.f130 = some qqB:=zk
theorem qG2:qh Tryz.prog gl Tryz.f134 = some qJh:=zk
theorem qG6:qh Tryz.prog gl Tryz.f138 = some qJj:=zk
theorem qHa:qh Tryz.prog gl Tryz.f142 = some qJl:=zk
theorem qHe:qh Tryz.prog gl Tryz.f146 = some qzY:=zk
theorem qHl:qh Tryz.prog gl Tryz.f154 = some qJp:=zk
theorem qHp:qh Tryz.prog gl Tryz.f158 = some qz0:=zk
theorem qHw:qh Tryz.prog gl Tryz.f166 = some qJs:=zk
theorem qHA:qh Tryz.prog gl Tryz.f170 = some qvS:=zk
theorem qHE:qh Tryz.prog gl Tryz.f174 = some qJv:=zk
theorem qHI:qh Tryz.prog gl Tryz.f178 = some qJx:=zk
theorem qHM:qh Tryz.prog gl Tryz.f182 = some qJB:=zk
theorem qHP:qh Tryz.prog gl Tryz.f186 = some qFv:=zk
theorem qHR:qh Tryz.prog gl Tryz.f190 = some qkv:=zk
theorem qHS:qh Tryz.prog gl Tryz.f198 = some qCc:=zk
theorem qHV:qh Tryz.prog gl Tryz.f218 = some qCe:=zk
theorem qHZ:qh Tryz.prog gl Tryz.f222 = some qcJ:=zk
end Go.Proofs.YtcbfifamliijlaaGreatDoor.AE
