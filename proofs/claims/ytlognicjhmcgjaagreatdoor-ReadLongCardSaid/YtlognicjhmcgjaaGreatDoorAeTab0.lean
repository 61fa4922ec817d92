/- The abstract executor: the compiled functions are the program's: part 0. PRINTED BY PROGRAM (Print.lean). No condition. -/
import Derived.Test.YtlognicjhmcgjaaGreatDoorAeData
import Derived.Test.YtlognicjhmcgjaaGreatDoorProg
import Derived.KernelRfl
set_option maxRecDepth 100000
namespace Go.Proofs.YtlognicjhmcgjaaGreatDoor.AE
open Go.AE
theorem k32 : compFunc Tryz.prog gl Tryz.f32 = some c32 := by kernel_rfl
theorem k48 : compFunc Tryz.prog gl Tryz.f48 = some c48 := by kernel_rfl
theorem k64 : compFunc Tryz.prog gl Tryz.f64 = some c64 := by kernel_rfl
theorem k76 : compFunc Tryz.prog gl Tryz.f76 = some c76 := by kernel_rfl
theorem k80 : compFunc Tryz.prog gl Tryz.f80 = some c80 := by kernel_rfl
theorem k92 : compFunc Tryz.prog gl Tryz.f92 = some c92 := by kernel_rfl
theorem k124 : compFunc Tryz.prog gl Tryz.f124 = some c124 := by kernel_rfl
theorem k128 : compFunc Tryz.prog gl Tryz.f128 = some c128 := by kernel_rfl
theorem k132 : compFunc Tryz.prog gl Tryz.f132 = some c132 := by kernel_rfl
theorem k136 : compFunc Tryz.prog gl Tryz.f136 = some c136 := by kernel_rfl
theorem k180 : compFunc Tryz.prog gl Tryz.f180 = some c180 := by kernel_rfl
theorem k184 : compFunc Tryz.prog gl Tryz.f184 = some c184 := by kernel_rfl
theorem k188 : compFunc Tryz.prog gl Tryz.f188 = some c188 := by kernel_rfl
theorem k192 : compFunc Tryz.prog gl Tryz.f192 = some c192 := by kernel_rfl
theorem k196 : compFunc Tryz.prog gl Tryz.f196 = some c196 := by kernel_rfl
theorem k224 : compFunc Tryz.prog gl Tryz.f224 = some c224 := by kernel_rfl
theorem k228 : compFunc Tryz.prog gl Tryz.f228 = some c228 := by kernel_rfl
theorem k232 : compFunc Tryz.prog gl Tryz.f232 = some c232 := by kernel_rfl
theorem k236 : compFunc Tryz.prog gl Tryz.f236 = some c236 := by kernel_rfl
theorem k240 : compFunc Tryz.prog gl Tryz.f240 = some c240 := by kernel_rfl
theorem k244 : compFunc Tryz.prog gl Tryz.f244 = some c244 := by kernel_rfl
theorem k248 : compFunc Tryz.prog gl Tryz.f248 = some c248 := by kernel_rfl
theorem k260 : compFunc Tryz.prog gl Tryz.f260 = some c260 := by kernel_rfl
theorem k272 : compFunc Tryz.prog gl Tryz.f272 = some c272 := by kernel_rfl
theorem k292 : compFunc Tryz.prog gl Tryz.f292 = some c292 := by kernel_rfl
theorem k296 : compFunc Tryz.prog gl Tryz.f296 = some c296 := by kernel_rfl
theorem k36 : compGuard Tryz.prog gl Tryz.f36 Tryz.f73 = some c36 := by kernel_rfl
end Go.Proofs.YtlognicjhmcgjaaGreatDoor.AE
