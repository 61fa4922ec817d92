/- A part of the proof: the abstract executor and what goes through it (part 8). No condition. -/
import Derived.Test.YtidgnmfahonmpaaGreatDoorMq5
import Derived.Test.YtidgnmfahonmpaaGreatDoorProg
import Derived.KernelRfl
set_option maxRecDepth 100000
namespace Go.Proofs.YtidgnmfahonmpaaGreatDoor.AE
open Go.AE
theorem k6 : compFunc Tryz.prog gl Tryz.f6 = some c6 := by kernel_rfl
theorem k10 : compFunc Tryz.prog gl Tryz.f10 = some c10 := by kernel_rfl
theorem k14 : compFunc Tryz.prog gl Tryz.f14 = some c14 := by kernel_rfl
theorem k22 : compFunc Tryz.prog gl Tryz.f22 = some c22 := by kernel_rfl
theorem k26 : compFunc Tryz.prog gl Tryz.f26 = some c26 := by kernel_rfl
theorem k30 : compFunc Tryz.prog gl Tryz.f30 = some c30 := by kernel_rfl
theorem k34 : compFunc Tryz.prog gl Tryz.f34 = some c34 := by kernel_rfl
theorem k46 : compFunc Tryz.prog gl Tryz.f46 = some c46 := by kernel_rfl
theorem k54 : compFunc Tryz.prog gl Tryz.f54 = some c54 := by kernel_rfl
theorem k58 : compFunc Tryz.prog gl Tryz.f58 = some c58 := by kernel_rfl
theorem k62 : compFunc Tryz.prog gl Tryz.f62 = some c62 := by kernel_rfl
theorem k66 : compFunc Tryz.prog gl Tryz.f66 = some c66 := by kernel_rfl
theorem k70 : compFunc Tryz.prog gl Tryz.f70 = some c70 := by kernel_rfl
theorem k86 : compFunc Tryz.prog gl Tryz.f86 = some c86 := by kernel_rfl
theorem k90 : compFunc Tryz.prog gl Tryz.f90 = some c90 := by kernel_rfl
theorem k94 : compFunc Tryz.prog gl Tryz.f94 = some c94 := by kernel_rfl
theorem k98 : compFunc Tryz.prog gl Tryz.f98 = some c98 := by kernel_rfl
theorem k102 : compFunc Tryz.prog gl Tryz.f102 = some c102 := by kernel_rfl
theorem k106 : compFunc Tryz.prog gl Tryz.f106 = some c106 := by kernel_rfl
theorem k110 : compFunc Tryz.prog gl Tryz.f110 = some c110 := by kernel_rfl
theorem k114 : compFunc Tryz.prog gl Tryz.f114 = some c114 := by kernel_rfl
theorem k118 : compFunc Tryz.prog gl Tryz.f118 = some c118 := by kernel_rfl
theorem k126 : compFunc Tryz.prog gl Tryz.f126 = some c126 := by kernel_rfl
theorem k130 : compFunc Tryz.prog gl Tryz.f130 = some c130 := by kernel_rfl
theorem k134 : compFunc Tryz.prog gl Tryz.f134 = some c134 := by kernel_rfl
theorem k138 : compFunc Tryz.prog gl Tryz.f138 = some c138 := by kernel_rfl
theorem k142 : compFunc Tryz.prog gl Tryz.f142 = some c142 := by kernel_rfl
theorem k146 : compFunc Tryz.prog gl Tryz.f146 = some c146 := by kernel_rfl
theorem k154 : compFunc Tryz.prog gl Tryz.f154 = some c154 := by kernel_rfl
theorem k162 : compFunc Tryz.prog gl Tryz.f162 = some c162 := by kernel_rfl
theorem k170 : compFunc Tryz.prog gl Tryz.f170 = some c170 := by kernel_rfl
theorem k194 : compFunc Tryz.prog gl Tryz.f194 = some c194 := by kernel_rfl
theorem k198 : compFunc Tryz.prog gl Tryz.f198 = some c198 := by kernel_rfl
theorem k202 : compFunc Tryz.prog gl Tryz.f202 = some c202 := by kernel_rfl
theorem k206 : compFunc Tryz.prog gl Tryz.f206 = some c206 := by kernel_rfl
theorem k210 : compFunc Tryz.prog gl Tryz.f210 = some c210 := by kernel_rfl
theorem k214 : compFunc Tryz.prog gl Tryz.f214 = some c214 := by kernel_rfl
theorem k222 : compFunc Tryz.prog gl Tryz.f222 = some c222 := by kernel_rfl
theorem k258 : compFunc Tryz.prog gl Tryz.f258 = some c258 := by kernel_rfl
theorem k278 : compFunc Tryz.prog gl Tryz.f278 = some c278 := by kernel_rfl
theorem k298 : compFunc Tryz.prog gl Tryz.f298 = some c298 := by kernel_rfl
end Go.Proofs.YtidgnmfahonmpaaGreatDoor.AE
