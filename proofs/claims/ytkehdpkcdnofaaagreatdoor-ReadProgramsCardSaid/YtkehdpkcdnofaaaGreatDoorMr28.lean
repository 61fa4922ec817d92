/- A part of the proof. No condition. -/
import Derived.Test.YtkehdpkcdnofaaaGreatDoorMr6
import Derived.Test.YtkehdpkcdnofaaaGreatDoorProg
import Derived.KernelRfl
set_option maxRecDepth 100000
namespace Go.Proofs.YtkehdpkcdnofaaaGreatDoor.AE
open Go.AE
theorem kt3:qn Tryz.prog gl Tryz.f3 = some c3:=zk
theorem kt7:qn Tryz.prog gl Tryz.f7 = some c7:=zk
theorem qF8:qn Tryz.prog gl Tryz.f11 = some c11:=zk
theorem qGc:qn Tryz.prog gl Tryz.f15 = some c15:=zk
theorem qGg:qn Tryz.prog gl Tryz.f19 = some c19:=zk
theorem qGj:qn Tryz.prog gl Tryz.f23 = some c23:=zk
theorem qGn:qn Tryz.prog gl Tryz.f27 = some c27:=zk
theorem qGr:qn Tryz.prog gl Tryz.f31 = some c31:=zk
theorem qGv:qn Tryz.prog gl Tryz.f35 = some c35:=zk
theorem qGz:qn Tryz.prog gl Tryz.f39 = some c39:=zk
theorem qGC:qn Tryz.prog gl Tryz.f43 = some c43:=zk
theorem qGG:qn Tryz.prog gl Tryz.f47 = some c47:=zk
theorem qGK:qn Tryz.prog gl Tryz.f51 = some c51:=zk
theorem qGO:qn Tryz.prog gl Tryz.f55 = some c55:=zk
theorem qGS:qn Tryz.prog gl Tryz.f59 = some c59:=zk
theorem qGW:qn Tryz.prog gl Tryz.f63 = some c63:=zk
theorem qG0:qn Tryz.prog gl Tryz.f67 = some c67:=zk
theorem qG4:qn Tryz.prog gl Tryz.f71 = some c71:=zk
theorem qG8:qn Tryz.prog gl Tryz.f75 = some c75:=zk
theorem qHc:qn Tryz.prog gl Tryz.f79 = some c79:=zk
theorem qHg:qn Tryz.prog gl Tryz.f83 = some c83:=zk
theorem qHk:qn Tryz.prog gl Tryz.f87 = some c87:=zk
theorem qHo:qn Tryz.prog gl Tryz.f91 = some c91:=zk
theorem qHs:qn Tryz.prog gl Tryz.f95 = some c95:=zk
theorem qHv:qn Tryz.prog gl Tryz.f99 = some c99:=zk
theorem qD8:qn Tryz.prog gl Tryz.f103 = some qFE:=zk
theorem qEc:qn Tryz.prog gl Tryz.f107 = some qFH:=zk
theorem qEg:qn Tryz.prog gl Tryz.f111 = some qFJ:=zk
theorem qEk:qn Tryz.prog gl Tryz.f115 = some qFN:=zk
theorem qEo:qn Tryz.prog gl Tryz.f119 = some qC6:=zk
theorem qEu:qn Tryz.prog gl Tryz.f127 = some qgk:=zk
theorem qEG:qn Tryz.prog gl Tryz.f159 = some qdu:=zk
end Go.Proofs.YtkehdpkcdnofaaaGreatDoor.AE
