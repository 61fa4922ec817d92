/- A part of the proof: the abstract executor and what goes through it (part 7). No condition. -/
import Derived.Test.YtfmkpcgpkdnioaaGreatDoorMq6
import Derived.Test.YtfmkpcgpkdnioaaGreatDoorProg
import Derived.KernelRfl
set_option maxRecDepth 100000
namespace Go.Proofs.YtfmkpcgpkdnioaaGreatDoor.AE
open Go.AE
theorem kt4:compFunc Tryz.prog gl Tryz.f4 = some c4:=by kernel_rfl
theorem kt8:compFunc Tryz.prog gl Tryz.f8 = some c8:=by kernel_rfl
theorem kt12:compFunc Tryz.prog gl Tryz.f12 = some c12:=by kernel_rfl
theorem kt16:compFunc Tryz.prog gl Tryz.f16 = some c16:=by kernel_rfl
theorem kt20:compFunc Tryz.prog gl Tryz.f20 = some c20:=by kernel_rfl
theorem kt28:compFunc Tryz.prog gl Tryz.f28 = some c28:=by kernel_rfl
theorem kt32:compFunc Tryz.prog gl Tryz.f32 = some c32:=by kernel_rfl
theorem kt36:compFunc Tryz.prog gl Tryz.f36 = some c36:=by kernel_rfl
theorem kt44:compFunc Tryz.prog gl Tryz.f44 = some c44:=by kernel_rfl
theorem kt48:compFunc Tryz.prog gl Tryz.f48 = some c48:=by kernel_rfl
theorem kt52:compFunc Tryz.prog gl Tryz.f52 = some c52:=by kernel_rfl
theorem kt56:compFunc Tryz.prog gl Tryz.f56 = some c56:=by kernel_rfl
theorem kt60:compFunc Tryz.prog gl Tryz.f60 = some c60:=by kernel_rfl
theorem kt64:compFunc Tryz.prog gl Tryz.f64 = some c64:=by kernel_rfl
theorem kt68:compFunc Tryz.prog gl Tryz.f68 = some c68:=by kernel_rfl
theorem kt72:compFunc Tryz.prog gl Tryz.f72 = some c72:=by kernel_rfl
theorem kt80:compFunc Tryz.prog gl Tryz.f80 = some c80:=by kernel_rfl
theorem kt88:compFunc Tryz.prog gl Tryz.f88 = some c88:=by kernel_rfl
theorem kt92:compFunc Tryz.prog gl Tryz.f92 = some c92:=by kernel_rfl
theorem kt96:compFunc Tryz.prog gl Tryz.f96 = some c96:=by kernel_rfl
theorem kt100:compFunc Tryz.prog gl Tryz.f100 = some c100:=by kernel_rfl
theorem kt104:compFunc Tryz.prog gl Tryz.f104 = some c104:=by kernel_rfl
theorem kt108:compFunc Tryz.prog gl Tryz.f108 = some c108:=by kernel_rfl
theorem kt112:compFunc Tryz.prog gl Tryz.f112 = some c112:=by kernel_rfl
theorem kt148:compFunc Tryz.prog gl Tryz.f148 = some c148:=by kernel_rfl
theorem kt160:compFunc Tryz.prog gl Tryz.f160 = some c160:=by kernel_rfl
theorem kt164:compFunc Tryz.prog gl Tryz.f164 = some c164:=by kernel_rfl
theorem kt180:compFunc Tryz.prog gl Tryz.f180 = some c180:=by kernel_rfl
theorem kt216:compFunc Tryz.prog gl Tryz.f216 = some c216:=by kernel_rfl
theorem kt236:compFunc Tryz.prog gl Tryz.f236 = some c236:=by kernel_rfl
theorem kt24:compGuard Tryz.prog gl Tryz.f24 Tryz.f40 = some c24:=by kernel_rfl
end Go.Proofs.YtfmkpcgpkdnioaaGreatDoor.AE
