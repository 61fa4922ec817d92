/- A part of the proof. No condition. -/
import Derived.Test.YtkehdpkcdnofaaaGreatDoorMr6
import Derived.Test.YtkehdpkcdnofaaaGreatDoorProg
import Derived.KernelRfl
set_option maxRecDepth 100000
namespace Go.Proofs.YtkehdpkcdnofaaaGreatDoor.AE
open Go.AE
theorem kt4:qn Tryz.prog gl Tryz.f4 = some c4:=zk
theorem kt8:qn Tryz.prog gl Tryz.f8 = some c8:=zk
theorem qF9:qn Tryz.prog gl Tryz.f12 = some c12:=zk
theorem qGd:qn Tryz.prog gl Tryz.f16 = some c16:=zk
theorem qGh:qn Tryz.prog gl Tryz.f20 = some c20:=zk
theorem qGk:qn Tryz.prog gl Tryz.f24 = some c24:=zk
theorem qGo:qn Tryz.prog gl Tryz.f28 = some c28:=zk
theorem qGs:qn Tryz.prog gl Tryz.f32 = some c32:=zk
theorem qGw:qn Tryz.prog gl Tryz.f36 = some c36:=zk
theorem qGA:qn Tryz.prog gl Tryz.f40 = some c40:=zk
theorem qGD:qn Tryz.prog gl Tryz.f44 = some c44:=zk
theorem qGH:qn Tryz.prog gl Tryz.f48 = some c48:=zk
theorem qGL:qn Tryz.prog gl Tryz.f52 = some c52:=zk
theorem qGP:qn Tryz.prog gl Tryz.f56 = some c56:=zk
theorem qGT:qn Tryz.prog gl Tryz.f60 = some c60:=zk
theorem qGX:qn Tryz.prog gl Tryz.f64 = some c64:=zk
theorem qG1:qn Tryz.prog gl Tryz.f68 = some c68:=zk
theorem qG5:qn Tryz.prog gl Tryz.f72 = some c72:=zk
theorem qG9:qn Tryz.prog gl Tryz.f76 = some c76:=zk
theorem qHd:qn Tryz.prog gl Tryz.f80 = some c80:=zk
theorem qHh:qn Tryz.prog gl Tryz.f84 = some c84:=zk
theorem qHl:qn Tryz.prog gl Tryz.f88 = some c88:=zk
theorem qHp:qn Tryz.prog gl Tryz.f92 = some c92:=zk
theorem qD5:qn Tryz.prog gl Tryz.f100 = some qFB:=zk
theorem qD9:qn Tryz.prog gl Tryz.f104 = some qBq:=zk
theorem qEd:qn Tryz.prog gl Tryz.f108 = some qFI:=zk
theorem qEh:qn Tryz.prog gl Tryz.f112 = some qFK:=zk
theorem qEl:qn Tryz.prog gl Tryz.f116 = some qFO:=zk
theorem qEp:qn Tryz.prog gl Tryz.f120 = some qqg:=zk
theorem qEs:qn Tryz.prog gl Tryz.f124 = some qBr:=zk
theorem qEv:qn Tryz.prog gl Tryz.f128 = some qC9:=zk
theorem qEz:qn Tryz.prog gl Tryz.f140 = some qyv:=zk
theorem qED:qn Tryz.prog gl Tryz.f152 = some qkO:=zk
end Go.Proofs.YtkehdpkcdnofaaaGreatDoor.AE
