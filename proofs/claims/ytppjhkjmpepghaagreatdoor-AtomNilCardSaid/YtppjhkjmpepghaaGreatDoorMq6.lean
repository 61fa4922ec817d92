/- A part of the proof: the abstract executor and what goes through it (part 6). No condition. -/
import Derived.Test.YtppjhkjmpepghaaGreatDoorMq5
import Derived.Test.YtppjhkjmpepghaaGreatDoorProg
import Derived.KernelRfl
set_option maxRecDepth 100000
namespace Go.Proofs.YtppjhkjmpepghaaGreatDoor.AE
open Go.AE
theorem k4 : compFunc Tryz.prog gl Tryz.f4 = some c4 := by kernel_rfl
theorem k8 : compFunc Tryz.prog gl Tryz.f8 = some c8 := by kernel_rfl
theorem k12 : compFunc Tryz.prog gl Tryz.f12 = some c12 := by kernel_rfl
theorem k16 : compFunc Tryz.prog gl Tryz.f16 = some c16 := by kernel_rfl
theorem k20 : compFunc Tryz.prog gl Tryz.f20 = some c20 := by kernel_rfl
theorem k24 : compFunc Tryz.prog gl Tryz.f24 = some c24 := by kernel_rfl
theorem k28 : compFunc Tryz.prog gl Tryz.f28 = some c28 := by kernel_rfl
theorem k32 : compFunc Tryz.prog gl Tryz.f32 = some c32 := by kernel_rfl
theorem k36 : compFunc Tryz.prog gl Tryz.f36 = some c36 := by kernel_rfl
theorem k40 : compFunc Tryz.prog gl Tryz.f40 = some c40 := by kernel_rfl
theorem k44 : compFunc Tryz.prog gl Tryz.f44 = some c44 := by kernel_rfl
theorem k52 : compFunc Tryz.prog gl Tryz.f52 = some c52 := by kernel_rfl
theorem k56 : compFunc Tryz.prog gl Tryz.f56 = some c56 := by kernel_rfl
theorem k68 : compFunc Tryz.prog gl Tryz.f68 = some c68 := by kernel_rfl
theorem k72 : compFunc Tryz.prog gl Tryz.f72 = some c72 := by kernel_rfl
theorem k76 : compFunc Tryz.prog gl Tryz.f76 = some c76 := by kernel_rfl
theorem k80 : compFunc Tryz.prog gl Tryz.f80 = some c80 := by kernel_rfl
theorem k84 : compFunc Tryz.prog gl Tryz.f84 = some c84 := by kernel_rfl
theorem k88 : compFunc Tryz.prog gl Tryz.f88 = some c88 := by kernel_rfl
theorem k92 : compFunc Tryz.prog gl Tryz.f92 = some c92 := by kernel_rfl
theorem k96 : compFunc Tryz.prog gl Tryz.f96 = some c96 := by kernel_rfl
theorem k104 : compFunc Tryz.prog gl Tryz.f104 = some c104 := by kernel_rfl
theorem k108 : compFunc Tryz.prog gl Tryz.f108 = some c108 := by kernel_rfl
theorem k116 : compFunc Tryz.prog gl Tryz.f116 = some c116 := by kernel_rfl
theorem k128 : compFunc Tryz.prog gl Tryz.f128 = some c128 := by kernel_rfl
theorem k140 : compFunc Tryz.prog gl Tryz.f140 = some c140 := by kernel_rfl
theorem k144 : compFunc Tryz.prog gl Tryz.f144 = some c144 := by kernel_rfl
theorem k148 : compFunc Tryz.prog gl Tryz.f148 = some c148 := by kernel_rfl
theorem k152 : compFunc Tryz.prog gl Tryz.f152 = some c152 := by kernel_rfl
theorem k156 : compFunc Tryz.prog gl Tryz.f156 = some c156 := by kernel_rfl
theorem k164 : compFunc Tryz.prog gl Tryz.f164 = some c164 := by kernel_rfl
theorem k168 : compFunc Tryz.prog gl Tryz.f168 = some c168 := by kernel_rfl
theorem k180 : compFunc Tryz.prog gl Tryz.f180 = some c180 := by kernel_rfl
theorem k196 : compFunc Tryz.prog gl Tryz.f196 = some c196 := by kernel_rfl
theorem k208 : compFunc Tryz.prog gl Tryz.f208 = some c208 := by kernel_rfl
theorem k212 : compFunc Tryz.prog gl Tryz.f212 = some c212 := by kernel_rfl
theorem k220 : compFunc Tryz.prog gl Tryz.f220 = some c220 := by kernel_rfl
theorem k232 : compFunc Tryz.prog gl Tryz.f232 = some c232 := by kernel_rfl
theorem k252 : compFunc Tryz.prog gl Tryz.f252 = some c252 := by kernel_rfl
theorem k256 : compFunc Tryz.prog gl Tryz.f256 = some c256 := by kernel_rfl
theorem k268 : compFunc Tryz.prog gl Tryz.f268 = some c268 := by kernel_rfl
theorem k272 : compFunc Tryz.prog gl Tryz.f272 = some c272 := by kernel_rfl
theorem k276 : compFunc Tryz.prog gl Tryz.f276 = some c276 := by kernel_rfl
theorem k300 : compFunc Tryz.prog gl Tryz.f300 = some c300 := by kernel_rfl
theorem k312 : compFunc Tryz.prog gl Tryz.f312 = some c312 := by kernel_rfl
theorem k316 : compFunc Tryz.prog gl Tryz.f316 = some c316 := by kernel_rfl
theorem k328 : compFunc Tryz.prog gl Tryz.f328 = some c328 := by kernel_rfl
end Go.Proofs.YtppjhkjmpepghaaGreatDoor.AE
