/- A part of the proof. No condition. -/
import Derived.Test.YtcbfifamliijlaaGreatDoorMb6
import Derived.Test.YtcbfifamliijlaaGreatDoorProg
import Derived.KernelRfl
set_option maxRecDepth 100000
namespace Go.Proofs.YtcbfifamliijlaaGreatDoor.AE
open Go.AE
theorem kt6:qf Tryz.prog gl Tryz.f6 = some c6:=zk
theorem qJk:qf Tryz.prog gl Tryz.f10 = some c10:=zk
theorem qJo:qf Tryz.prog gl Tryz.f14 = some c14:=zk
theorem qJr:qf Tryz.prog gl Tryz.f18 = some c18:=zk
theorem qJu:qf Tryz.prog gl Tryz.f22 = some c22:=zk
theorem qJx:qf Tryz.prog gl Tryz.f26 = some c26:=zk
theorem qJC:qf Tryz.prog gl Tryz.f34 = some c34:=zk
theorem qJG:qf Tryz.prog gl Tryz.f38 = some c38:=zk
theorem qJJ:qf Tryz.prog gl Tryz.f42 = some c42:=zk
theorem qJN:qf Tryz.prog gl Tryz.f46 = some c46:=zk
theorem qJR:qf Tryz.prog gl Tryz.f50 = some c50:=zk
theorem qJV:qf Tryz.prog gl Tryz.f54 = some c54:=zk
theorem qJZ:qf Tryz.prog gl Tryz.f58 = some c58:=zk
theorem qJ3:qf Tryz.prog gl Tryz.f62 = some c62:=zk
theorem qJ6:qf Tryz.prog gl Tryz.f66 = some c66:=zk
theorem qKc:qf Tryz.prog gl Tryz.f74 = some c74:=zk
theorem qKg:qf Tryz.prog gl Tryz.f78 = some c78:=zk
theorem qKk:qf Tryz.prog gl Tryz.f82 = some c82:=zk
theorem qKo:qf Tryz.prog gl Tryz.f86 = some c86:=zk
theorem qKs:qf Tryz.prog gl Tryz.f90 = some c90:=zk
theorem qKw:qf Tryz.prog gl Tryz.f94 = some c94:=zk
theorem qKA:qf Tryz.prog gl Tryz.f98 = some c98:=zk
theorem qFp:qf Tryz.prog gl Tryz.f102 = some qb4:=zk
theorem qFr:qf Tryz.prog gl Tryz.f106 = some qD0:=zk
theorem qFx:qf Tryz.prog gl Tryz.f114 = some qIo:=zk
theorem qFB:qf Tryz.prog gl Tryz.f118 = some qIq:=zk
theorem qFF:qf Tryz.prog gl Tryz.f122 = some qIs:=zk
theorem qFJ:qf Tryz.prog gl Tryz.f126 = some qD9:=zk
theorem qFN:qf Tryz.prog gl Tryz.f130 = some qp8:=zk
theorem qFR:qf Tryz.prog gl Tryz.f134 = some qIw:=zk
theorem qFV:qf Tryz.prog gl Tryz.f138 = some qIy:=zk
theorem qFZ:qf Tryz.prog gl Tryz.f142 = some qIA:=zk
theorem qF3:qf Tryz.prog gl Tryz.f146 = some qEf:=zk
theorem qGa:qf Tryz.prog gl Tryz.f154 = some qID:=zk
theorem qGe:qf Tryz.prog gl Tryz.f158 = some qzc:=zk
theorem qGl:qf Tryz.prog gl Tryz.f166 = some qIH:=zk
theorem qGp:qf Tryz.prog gl Tryz.f170 = some qB1:=zk
theorem qGt:qf Tryz.prog gl Tryz.f174 = some qIK:=zk
theorem qGx:qf Tryz.prog gl Tryz.f178 = some qIM:=zk
theorem qGB:qf Tryz.prog gl Tryz.f182 = some qIQ:=zk
theorem qGE:qf Tryz.prog gl Tryz.f186 = some qEn:=zk
theorem qGG:qf Tryz.prog gl Tryz.f190 = some qxU:=zk
theorem qGH:qf Tryz.prog gl Tryz.f198 = some qEo:=zk
theorem qGK:qf Tryz.prog gl Tryz.f218 = some qEq:=zk
theorem qGO:qf Tryz.prog gl Tryz.f222 = some qlx:=zk
end Go.Proofs.YtcbfifamliijlaaGreatDoor.AE
