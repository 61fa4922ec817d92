/- A part of the proof: the abstract executor and what goes through it (part 6). No condition. -/
import Derived.Test.YtidgnmfahonmpaaGreatDoorMq5
import Derived.Test.YtidgnmfahonmpaaGreatDoorProg
import Derived.KernelRfl
set_option maxRecDepth 100000
namespace Go.Proofs.YtidgnmfahonmpaaGreatDoor.AE
open Go.AE
theorem k4 : compFunc Tryz.prog gl Tryz.f4 = some c4 := by kernel_rfl
theorem k8 : compFunc Tryz.prog gl Tryz.f8 = some c8 := by kernel_rfl
theorem k12 : compFunc Tryz.prog gl Tryz.f12 = some c12 := by kernel_rfl
theorem k24 : compFunc Tryz.prog gl Tryz.f24 = some c24 := by kernel_rfl
theorem k28 : compFunc Tryz.prog gl Tryz.f28 = some c28 := by kernel_rfl
theorem k32 : compFunc Tryz.prog gl Tryz.f32 = some c32 := by kernel_rfl
theorem k36 : compFunc Tryz.prog gl Tryz.f36 = some c36 := by kernel_rfl
theorem k40 : compFunc Tryz.prog gl Tryz.f40 = some c40 := by kernel_rfl
theorem k48 : compFunc Tryz.prog gl Tryz.f48 = some c48 := by kernel_rfl
theorem k52 : compFunc Tryz.prog gl Tryz.f52 = some c52 := by kernel_rfl
theorem k56 : compFunc Tryz.prog gl Tryz.f56 = some c56 := by kernel_rfl
theorem k60 : compFunc Tryz.prog gl Tryz.f60 = some c60 := by kernel_rfl
theorem k64 : compFunc Tryz.prog gl Tryz.f64 = some c64 := by kernel_rfl
theorem k68 : compFunc Tryz.prog gl Tryz.f68 = some c68 := by kernel_rfl
theorem k72 : compFunc Tryz.prog gl Tryz.f72 = some c72 := by kernel_rfl
theorem k80 : compFunc Tryz.prog gl Tryz.f80 = some c80 := by kernel_rfl
theorem k84 : compFunc Tryz.prog gl Tryz.f84 = some c84 := by kernel_rfl
theorem k88 : compFunc Tryz.prog gl Tryz.f88 = some c88 := by kernel_rfl
theorem k92 : compFunc Tryz.prog gl Tryz.f92 = some c92 := by kernel_rfl
theorem k96 : compFunc Tryz.prog gl Tryz.f96 = some c96 := by kernel_rfl
theorem k100 : compFunc Tryz.prog gl Tryz.f100 = some c100 := by kernel_rfl
theorem k104 : compFunc Tryz.prog gl Tryz.f104 = some c104 := by kernel_rfl
theorem k108 : compFunc Tryz.prog gl Tryz.f108 = some c108 := by kernel_rfl
theorem k112 : compFunc Tryz.prog gl Tryz.f112 = some c112 := by kernel_rfl
theorem k120 : compFunc Tryz.prog gl Tryz.f120 = some c120 := by kernel_rfl
theorem k128 : compFunc Tryz.prog gl Tryz.f128 = some c128 := by kernel_rfl
theorem k132 : compFunc Tryz.prog gl Tryz.f132 = some c132 := by kernel_rfl
theorem k136 : compFunc Tryz.prog gl Tryz.f136 = some c136 := by kernel_rfl
theorem k140 : compFunc Tryz.prog gl Tryz.f140 = some c140 := by kernel_rfl
theorem k144 : compFunc Tryz.prog gl Tryz.f144 = some c144 := by kernel_rfl
theorem k148 : compFunc Tryz.prog gl Tryz.f148 = some c148 := by kernel_rfl
theorem k152 : compFunc Tryz.prog gl Tryz.f152 = some c152 := by kernel_rfl
theorem k156 : compFunc Tryz.prog gl Tryz.f156 = some c156 := by kernel_rfl
theorem k164 : compFunc Tryz.prog gl Tryz.f164 = some c164 := by kernel_rfl
theorem k168 : compFunc Tryz.prog gl Tryz.f168 = some c168 := by kernel_rfl
theorem k180 : compFunc Tryz.prog gl Tryz.f180 = some c180 := by kernel_rfl
theorem k192 : compFunc Tryz.prog gl Tryz.f192 = some c192 := by kernel_rfl
theorem k196 : compFunc Tryz.prog gl Tryz.f196 = some c196 := by kernel_rfl
theorem k200 : compFunc Tryz.prog gl Tryz.f200 = some c200 := by kernel_rfl
theorem k208 : compFunc Tryz.prog gl Tryz.f208 = some c208 := by kernel_rfl
theorem k212 : compFunc Tryz.prog gl Tryz.f212 = some c212 := by kernel_rfl
theorem k220 : compFunc Tryz.prog gl Tryz.f220 = some c220 := by kernel_rfl
theorem k224 : compFunc Tryz.prog gl Tryz.f224 = some c224 := by kernel_rfl
theorem k228 : compFunc Tryz.prog gl Tryz.f228 = some c228 := by kernel_rfl
theorem k232 : compFunc Tryz.prog gl Tryz.f232 = some c232 := by kernel_rfl
theorem k260 : compFunc Tryz.prog gl Tryz.f260 = some c260 := by kernel_rfl
theorem k264 : compFunc Tryz.prog gl Tryz.f264 = some c264 := by kernel_rfl
theorem k280 : compFunc Tryz.prog gl Tryz.f280 = some c280 := by kernel_rfl
theorem k292 : compFunc Tryz.prog gl Tryz.f292 = some c292 := by kernel_rfl
theorem k296 : compFunc Tryz.prog gl Tryz.f296 = some c296 := by kernel_rfl
theorem k308 : compFunc Tryz.prog gl Tryz.f308 = some c308 := by kernel_rfl
end Go.Proofs.YtidgnmfahonmpaaGreatDoor.AE
