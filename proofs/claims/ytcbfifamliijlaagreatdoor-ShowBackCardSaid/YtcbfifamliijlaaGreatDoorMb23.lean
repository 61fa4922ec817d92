/- A part of the proof. No condition. -/
import Derived.Test.YtcbfifamliijlaaGreatDoorMb6
import Derived.Test.YtcbfifamliijlaaGreatDoorProg
import Derived.KernelRfl
set_option maxRecDepth 100000
namespace Go.Proofs.YtcbfifamliijlaaGreatDoor.AE
open Go.AE
theorem kt3:qf Tryz.prog gl Tryz.f3 = some c3:=zk
theorem kt7:qf Tryz.prog gl Tryz.f7 = some c7:=zk
theorem qJl:qf Tryz.prog gl Tryz.f11 = some c11:=zk
theorem qJp:qf Tryz.prog gl Tryz.f15 = some c15:=zk
theorem qJs:qf Tryz.prog gl Tryz.f19 = some c19:=zk
theorem qJv:qf Tryz.prog gl Tryz.f23 = some c23:=zk
theorem qJy:qf Tryz.prog gl Tryz.f27 = some c27:=zk
theorem qJD:qf Tryz.prog gl Tryz.f35 = some c35:=zk
theorem qJH:qf Tryz.prog gl Tryz.f39 = some c39:=zk
theorem qJK:qf Tryz.prog gl Tryz.f43 = some c43:=zk
theorem qJO:qf Tryz.prog gl Tryz.f47 = some c47:=zk
theorem qJS:qf Tryz.prog gl Tryz.f51 = some c51:=zk
theorem qJW:qf Tryz.prog gl Tryz.f55 = some c55:=zk
theorem qJ0:qf Tryz.prog gl Tryz.f59 = some c59:=zk
theorem qJ4:qf Tryz.prog gl Tryz.f63 = some c63:=zk
theorem qJ7:qf Tryz.prog gl Tryz.f67 = some c67:=zk
theorem qJ9:qf Tryz.prog gl Tryz.f71 = some c71:=zk
theorem qKd:qf Tryz.prog gl Tryz.f75 = some c75:=zk
theorem qKh:qf Tryz.prog gl Tryz.f79 = some c79:=zk
theorem qKl:qf Tryz.prog gl Tryz.f83 = some c83:=zk
theorem qKp:qf Tryz.prog gl Tryz.f87 = some c87:=zk
theorem qKt:qf Tryz.prog gl Tryz.f91 = some c91:=zk
theorem qKx:qf Tryz.prog gl Tryz.f95 = some c95:=zk
theorem qKB:qf Tryz.prog gl Tryz.f99 = some c99:=zk
theorem qFs:qf Tryz.prog gl Tryz.f107 = some qD1:=zk
theorem qFu:qf Tryz.prog gl Tryz.f111 = some qD3:=zk
theorem qFy:qf Tryz.prog gl Tryz.f115 = some qD5:=zk
theorem qFC:qf Tryz.prog gl Tryz.f119 = some qD6:=zk
theorem qFG:qf Tryz.prog gl Tryz.f123 = some qD8:=zk
theorem qFK:qf Tryz.prog gl Tryz.f127 = some qET:=zk
theorem qFO:qf Tryz.prog gl Tryz.f131 = some qEb:=zk
theorem qFS:qf Tryz.prog gl Tryz.f135 = some qlw:=zk
theorem qFW:qf Tryz.prog gl Tryz.f139 = some qEd:=zk
theorem qF0:qf Tryz.prog gl Tryz.f143 = some qBZ:=zk
theorem qF4:qf Tryz.prog gl Tryz.f147 = some qIC:=zk
theorem qF7:qf Tryz.prog gl Tryz.f151 = some qEh:=zk
theorem qGb:qf Tryz.prog gl Tryz.f155 = some qB0:=zk
theorem qGf:qf Tryz.prog gl Tryz.f159 = some qEl:=zk
theorem qGi:qf Tryz.prog gl Tryz.f163 = some qIE:=zk
theorem qGm:qf Tryz.prog gl Tryz.f167 = some qEU:=zk
theorem qGq:qf Tryz.prog gl Tryz.f171 = some qEW:=zk
theorem qGu:qf Tryz.prog gl Tryz.f175 = some qB2:=zk
theorem qGy:qf Tryz.prog gl Tryz.f179 = some qIN:=zk
theorem qGC:qf Tryz.prog gl Tryz.f183 = some qxT:=zk
theorem qGJ:qf Tryz.prog gl Tryz.f215 = some qxV:=zk
theorem qGL:qf Tryz.prog gl Tryz.f219 = some qka:=zk
theorem qGP:qf Tryz.prog gl Tryz.f223 = some qfF:=zk
end Go.Proofs.YtcbfifamliijlaaGreatDoor.AE
