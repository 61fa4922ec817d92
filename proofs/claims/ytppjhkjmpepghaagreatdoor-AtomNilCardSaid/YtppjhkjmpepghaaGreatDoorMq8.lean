/- A part of the proof: the abstract executor and what goes through it (part 8). No condition. -/
import Derived.Test.YtppjhkjmpepghaaGreatDoorMq5
import Derived.Test.YtppjhkjmpepghaaGreatDoorProg
import Derived.KernelRfl
set_option maxRecDepth 100000
namespace Go.Proofs.YtppjhkjmpepghaaGreatDoor.AE
open Go.AE
theorem k6 : compFunc Tryz.prog gl Tryz.f6 = some c6 := by kernel_rfl
theorem k10 : compFunc Tryz.prog gl Tryz.f10 = some c10 := by kernel_rfl
theorem k14 : compFunc Tryz.prog gl Tryz.f14 = some c14 := by kernel_rfl
theorem k18 : compFunc Tryz.prog gl Tryz.f18 = some c18 := by kernel_rfl
theorem k22 : compFunc Tryz.prog gl Tryz.f22 = some c22 := by kernel_rfl
theorem k26 : compFunc Tryz.prog gl Tryz.f26 = some c26 := by kernel_rfl
theorem k34 : compFunc Tryz.prog gl Tryz.f34 = some c34 := by kernel_rfl
theorem k38 : compFunc Tryz.prog gl Tryz.f38 = some c38 := by kernel_rfl
theorem k42 : compFunc Tryz.prog gl Tryz.f42 = some c42 := by kernel_rfl
theorem k50 : compFunc Tryz.prog gl Tryz.f50 = some c50 := by kernel_rfl
theorem k58 : compFunc Tryz.prog gl Tryz.f58 = some c58 := by kernel_rfl
theorem k62 : compFunc Tryz.prog gl Tryz.f62 = some c62 := by kernel_rfl
theorem k66 : compFunc Tryz.prog gl Tryz.f66 = some c66 := by kernel_rfl
theorem k70 : compFunc Tryz.prog gl Tryz.f70 = some c70 := by kernel_rfl
theorem k74 : compFunc Tryz.prog gl Tryz.f74 = some c74 := by kernel_rfl
theorem k78 : compFunc Tryz.prog gl Tryz.f78 = some c78 := by kernel_rfl
theorem k86 : compFunc Tryz.prog gl Tryz.f86 = some c86 := by kernel_rfl
theorem k90 : compFunc Tryz.prog gl Tryz.f90 = some c90 := by kernel_rfl
theorem k98 : compFunc Tryz.prog gl Tryz.f98 = some c98 := by kernel_rfl
theorem k102 : compFunc Tryz.prog gl Tryz.f102 = some c102 := by kernel_rfl
theorem k110 : compFunc Tryz.prog gl Tryz.f110 = some c110 := by kernel_rfl
theorem k114 : compFunc Tryz.prog gl Tryz.f114 = some c114 := by kernel_rfl
theorem k118 : compFunc Tryz.prog gl Tryz.f118 = some c118 := by kernel_rfl
theorem k122 : compFunc Tryz.prog gl Tryz.f122 = some c122 := by kernel_rfl
theorem k126 : compFunc Tryz.prog gl Tryz.f126 = some c126 := by kernel_rfl
theorem k146 : compFunc Tryz.prog gl Tryz.f146 = some c146 := by kernel_rfl
theorem k150 : compFunc Tryz.prog gl Tryz.f150 = some c150 := by kernel_rfl
theorem k154 : compFunc Tryz.prog gl Tryz.f154 = some c154 := by kernel_rfl
theorem k170 : compFunc Tryz.prog gl Tryz.f170 = some c170 := by kernel_rfl
theorem k182 : compFunc Tryz.prog gl Tryz.f182 = some c182 := by kernel_rfl
theorem k186 : compFunc Tryz.prog gl Tryz.f186 = some c186 := by kernel_rfl
theorem k194 : compFunc Tryz.prog gl Tryz.f194 = some c194 := by kernel_rfl
theorem k198 : compFunc Tryz.prog gl Tryz.f198 = some c198 := by kernel_rfl
theorem k214 : compFunc Tryz.prog gl Tryz.f214 = some c214 := by kernel_rfl
theorem k222 : compFunc Tryz.prog gl Tryz.f222 = some c222 := by kernel_rfl
theorem k234 : compFunc Tryz.prog gl Tryz.f234 = some c234 := by kernel_rfl
theorem k254 : compFunc Tryz.prog gl Tryz.f254 = some c254 := by kernel_rfl
theorem k270 : compFunc Tryz.prog gl Tryz.f270 = some c270 := by kernel_rfl
theorem k278 : compFunc Tryz.prog gl Tryz.f278 = some c278 := by kernel_rfl
theorem k282 : compFunc Tryz.prog gl Tryz.f282 = some c282 := by kernel_rfl
theorem k290 : compFunc Tryz.prog gl Tryz.f290 = some c290 := by kernel_rfl
theorem k318 : compFunc Tryz.prog gl Tryz.f318 = some c318 := by kernel_rfl
theorem k30 : compGuard Tryz.prog gl Tryz.f30 Tryz.f64 = some c30 := by kernel_rfl
end Go.Proofs.YtppjhkjmpepghaaGreatDoor.AE
