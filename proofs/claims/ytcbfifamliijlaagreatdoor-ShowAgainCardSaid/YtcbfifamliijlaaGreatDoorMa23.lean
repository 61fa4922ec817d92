/- A part of the proof. No condition. -/
import Derived.Test.YtcbfifamliijlaaGreatDoorMa6
import Derived.Test.YtcbfifamliijlaaGreatDoorProg
import Derived.KernelRfl
set_option maxRecDepth 100000
namespace Go.Proofs.YtcbfifamliijlaaGreatDoor.AE
open Go.AE
theorem kt7:qh Tryz.prog gl Tryz.f7 = some c7:=zk
theorem qJ8:qh Tryz.prog gl Tryz.f11 = some c11:=zk
theorem qKc:qh Tryz.prog gl Tryz.f19 = some c19:=zk
theorem qKf:qh Tryz.prog gl Tryz.f23 = some c23:=zk
theorem qKi:qh Tryz.prog gl Tryz.f27 = some c27:=zk
theorem qKm:qh Tryz.prog gl Tryz.f35 = some c35:=zk
theorem qKq:qh Tryz.prog gl Tryz.f39 = some c39:=zk
theorem qKt:qh Tryz.prog gl Tryz.f43 = some c43:=zk
theorem qKx:qh Tryz.prog gl Tryz.f47 = some c47:=zk
theorem qKB:qh Tryz.prog gl Tryz.f51 = some c51:=zk
theorem qKF:qh Tryz.prog gl Tryz.f55 = some c55:=zk
theorem qKJ:qh Tryz.prog gl Tryz.f59 = some c59:=zk
theorem qKN:qh Tryz.prog gl Tryz.f63 = some c63:=zk
theorem qKQ:qh Tryz.prog gl Tryz.f67 = some c67:=zk
theorem qKS:qh Tryz.prog gl Tryz.f71 = some c71:=zk
theorem qKW:qh Tryz.prog gl Tryz.f75 = some c75:=zk
theorem qK0:qh Tryz.prog gl Tryz.f79 = some c79:=zk
theorem qK4:qh Tryz.prog gl Tryz.f83 = some c83:=zk
theorem qK8:qh Tryz.prog gl Tryz.f87 = some c87:=zk
theorem qLc:qh Tryz.prog gl Tryz.f91 = some c91:=zk
theorem qLg:qh Tryz.prog gl Tryz.f95 = some c95:=zk
theorem qLk:qh Tryz.prog gl Tryz.f99 = some c99:=zk
theorem qGD:qh Tryz.prog gl Tryz.f107 = some qFe:=zk
theorem qGF:qh Tryz.prog gl Tryz.f111 = some qFg:=zk
theorem qGJ:qh Tryz.prog gl Tryz.f115 = some qFi:=zk
theorem qGN:qh Tryz.prog gl Tryz.f119 = some qFj:=zk
theorem qGR:qh Tryz.prog gl Tryz.f123 = some qFl:=zk
theorem qGV:qh Tryz.prog gl Tryz.f127 = some qF0:=zk
theorem qGZ:qh Tryz.prog gl Tryz.f131 = some qFo:=zk
theorem qG3:qh Tryz.prog gl Tryz.f135 = some qdL:=zk
theorem qG7:qh Tryz.prog gl Tryz.f139 = some qzW:=zk
theorem qHb:qh Tryz.prog gl Tryz.f143 = some qyL:=zk
theorem qHf:qh Tryz.prog gl Tryz.f147 = some qJn:=zk
theorem qHi:qh Tryz.prog gl Tryz.f151 = some qFp:=zk
theorem qHm:qh Tryz.prog gl Tryz.f155 = some qCH:=zk
theorem qHq:qh Tryz.prog gl Tryz.f159 = some qFt:=zk
theorem qHt:qh Tryz.prog gl Tryz.f163 = some qCI:=zk
theorem qHx:qh Tryz.prog gl Tryz.f167 = some qF1:=zk
theorem qHB:qh Tryz.prog gl Tryz.f171 = some qF3:=zk
theorem qHF:qh Tryz.prog gl Tryz.f175 = some qCJ:=zk
theorem qHJ:qh Tryz.prog gl Tryz.f179 = some qJy:=zk
theorem qHN:qh Tryz.prog gl Tryz.f183 = some qqD:=zk
theorem qHU:qh Tryz.prog gl Tryz.f215 = some qqE:=zk
theorem qHW:qh Tryz.prog gl Tryz.f219 = some qkw:=zk
theorem qH0:qh Tryz.prog gl Tryz.f223 = some qfN:=zk
end Go.Proofs.YtcbfifamliijlaaGreatDoor.AE
