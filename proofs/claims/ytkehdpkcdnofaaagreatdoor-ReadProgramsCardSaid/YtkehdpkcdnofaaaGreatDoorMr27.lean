/- A part of the proof. No condition. -/
import Derived.Test.YtkehdpkcdnofaaaGreatDoorMr6
import Derived.Test.YtkehdpkcdnofaaaGreatDoorProg
import Derived.KernelRfl
set_option maxRecDepth 100000
namespace Go.Proofs.YtkehdpkcdnofaaaGreatDoor.AE
open Go.AE
theorem kt6:qn Tryz.prog gl Tryz.f6 = some c6:=zk
theorem qF7:qn Tryz.prog gl Tryz.f10 = some c10:=zk
theorem qGb:qn Tryz.prog gl Tryz.f14 = some c14:=zk
theorem qGi:qn Tryz.prog gl Tryz.f22 = some c22:=zk
theorem qGm:qn Tryz.prog gl Tryz.f26 = some c26:=zk
theorem qGq:qn Tryz.prog gl Tryz.f30 = some c30:=zk
theorem qGu:qn Tryz.prog gl Tryz.f34 = some c34:=zk
theorem qGy:qn Tryz.prog gl Tryz.f38 = some c38:=zk
theorem qGF:qn Tryz.prog gl Tryz.f46 = some c46:=zk
theorem qGJ:qn Tryz.prog gl Tryz.f50 = some c50:=zk
theorem qGN:qn Tryz.prog gl Tryz.f54 = some c54:=zk
theorem qGR:qn Tryz.prog gl Tryz.f58 = some c58:=zk
theorem qGV:qn Tryz.prog gl Tryz.f62 = some c62:=zk
theorem qGZ:qn Tryz.prog gl Tryz.f66 = some c66:=zk
theorem qG3:qn Tryz.prog gl Tryz.f70 = some c70:=zk
theorem qG7:qn Tryz.prog gl Tryz.f74 = some c74:=zk
theorem qHb:qn Tryz.prog gl Tryz.f78 = some c78:=zk
theorem qHf:qn Tryz.prog gl Tryz.f82 = some c82:=zk
theorem qHj:qn Tryz.prog gl Tryz.f86 = some c86:=zk
theorem qHn:qn Tryz.prog gl Tryz.f90 = some c90:=zk
theorem qHr:qn Tryz.prog gl Tryz.f94 = some c94:=zk
theorem qHu:qn Tryz.prog gl Tryz.f98 = some c98:=zk
theorem qD7:qn Tryz.prog gl Tryz.f102 = some qFD:=zk
theorem qEb:qn Tryz.prog gl Tryz.f106 = some qFG:=zk
theorem qEf:qn Tryz.prog gl Tryz.f110 = some qq0:=zk
theorem qEj:qn Tryz.prog gl Tryz.f114 = some qFM:=zk
theorem qEn:qn Tryz.prog gl Tryz.f118 = some qC5:=zk
theorem qEr:qn Tryz.prog gl Tryz.f122 = some qqh:=zk
theorem qEt:qn Tryz.prog gl Tryz.f126 = some qC8:=zk
theorem qEy:qn Tryz.prog gl Tryz.f134 = some qAp:=zk
theorem qEB:qn Tryz.prog gl Tryz.f146 = some qqi:=zk
theorem qEC:qn Tryz.prog gl Tryz.f150 = some qAr:=zk
theorem qEF:qn Tryz.prog gl Tryz.f158 = some qnz:=zk
theorem qEI:qn Tryz.prog gl Tryz.f166 = some quE:=zk
theorem qGf:qgn Tryz.prog gl Tryz.f18 Tryz.f42 = some c18:=zk
end Go.Proofs.YtkehdpkcdnofaaaGreatDoor.AE
