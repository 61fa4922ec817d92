/- A part of the proof. No condition. -/
import Derived.Test.YtcbfifamliijlaaGreatDoorMb6
import Derived.Test.YtcbfifamliijlaaGreatDoorProg
import Derived.KernelRfl
set_option maxRecDepth 100000
namespace Go.Proofs.YtcbfifamliijlaaGreatDoor.AE
open Go.AE
theorem kt8:qf Tryz.prog gl Tryz.f8 = some c8:=zk
theorem qJm:qf Tryz.prog gl Tryz.f12 = some c12:=zk
theorem qJt:qf Tryz.prog gl Tryz.f20 = some c20:=zk
theorem qJw:qf Tryz.prog gl Tryz.f24 = some c24:=zk
theorem qJz:qf Tryz.prog gl Tryz.f28 = some c28:=zk
theorem qJE:qf Tryz.prog gl Tryz.f36 = some c36:=zk
theorem qJI:qf Tryz.prog gl Tryz.f40 = some c40:=zk
theorem qJL:qf Tryz.prog gl Tryz.f44 = some c44:=zk
theorem qJP:qf Tryz.prog gl Tryz.f48 = some c48:=zk
theorem qJT:qf Tryz.prog gl Tryz.f52 = some c52:=zk
theorem qJX:qf Tryz.prog gl Tryz.f56 = some c56:=zk
theorem qJ1:qf Tryz.prog gl Tryz.f60 = some c60:=zk
theorem qJ8:qf Tryz.prog gl Tryz.f68 = some c68:=zk
theorem qKa:qf Tryz.prog gl Tryz.f72 = some c72:=zk
theorem qKe:qf Tryz.prog gl Tryz.f76 = some c76:=zk
theorem qKi:qf Tryz.prog gl Tryz.f80 = some c80:=zk
theorem qKm:qf Tryz.prog gl Tryz.f84 = some c84:=zk
theorem qKq:qf Tryz.prog gl Tryz.f88 = some c88:=zk
theorem qKu:qf Tryz.prog gl Tryz.f92 = some c92:=zk
theorem qKy:qf Tryz.prog gl Tryz.f96 = some c96:=zk
theorem qFn:qf Tryz.prog gl Tryz.f100 = some qDY:=zk
theorem qFq:qf Tryz.prog gl Tryz.f104 = some qBY:=zk
theorem qFt:qf Tryz.prog gl Tryz.f108 = some qD2:=zk
theorem qFv:qf Tryz.prog gl Tryz.f112 = some qIn:=zk
theorem qFz:qf Tryz.prog gl Tryz.f116 = some qIp:=zk
theorem qFD:qf Tryz.prog gl Tryz.f120 = some qIr:=zk
theorem qFH:qf Tryz.prog gl Tryz.f124 = some qIt:=zk
theorem qFL:qf Tryz.prog gl Tryz.f128 = some qxS:=zk
theorem qFP:qf Tryz.prog gl Tryz.f132 = some qIu:=zk
theorem qFT:qf Tryz.prog gl Tryz.f136 = some qIx:=zk
theorem qFX:qf Tryz.prog gl Tryz.f140 = some qIz:=zk
theorem qF1:qf Tryz.prog gl Tryz.f144 = some qIB:=zk
theorem qF5:qf Tryz.prog gl Tryz.f148 = some qEg:=zk
theorem qF8:qf Tryz.prog gl Tryz.f152 = some qBz:=zk
theorem qGc:qf Tryz.prog gl Tryz.f156 = some qEj:=zk
theorem qGg:qf Tryz.prog gl Tryz.f160 = some qp9:=zk
theorem qGj:qf Tryz.prog gl Tryz.f164 = some qIF:=zk
theorem qGn:qf Tryz.prog gl Tryz.f168 = some qEV:=zk
theorem qGr:qf Tryz.prog gl Tryz.f172 = some qIJ:=zk
theorem qGv:qf Tryz.prog gl Tryz.f176 = some quO:=zk
theorem qGz:qf Tryz.prog gl Tryz.f180 = some qIO:=zk
theorem qGF:qf Tryz.prog gl Tryz.f188 = some qB4:=zk
theorem qGM:qf Tryz.prog gl Tryz.f220 = some qzd:=zk
theorem qGQ:qf Tryz.prog gl Tryz.f224 = some qEr:=zk
end Go.Proofs.YtcbfifamliijlaaGreatDoor.AE
