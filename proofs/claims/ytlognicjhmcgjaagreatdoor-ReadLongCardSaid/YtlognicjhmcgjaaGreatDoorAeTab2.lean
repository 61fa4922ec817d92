/- The abstract executor: the compiled functions are the program's: part 2. PRINTED BY PROGRAM (Print.lean). No condition. -/
import Derived.Test.YtlognicjhmcgjaaGreatDoorAeData
import Derived.Test.YtlognicjhmcgjaaGreatDoorProg
import Derived.KernelRfl
set_option maxRecDepth 100000
namespace Go.Proofs.YtlognicjhmcgjaaGreatDoor.AE
open Go.AE
theorem k10 : compFunc Tryz.prog gl Tryz.f10 = some c10 := by kernel_rfl
theorem k14 : compFunc Tryz.prog gl Tryz.f14 = some c14 := by kernel_rfl
theorem k66 : compFunc Tryz.prog gl Tryz.f66 = some c66 := by kernel_rfl
theorem k74 : compFunc Tryz.prog gl Tryz.f74 = some c74 := by kernel_rfl
theorem k78 : compFunc Tryz.prog gl Tryz.f78 = some c78 := by kernel_rfl
theorem k126 : compFunc Tryz.prog gl Tryz.f126 = some c126 := by kernel_rfl
theorem k134 : compFunc Tryz.prog gl Tryz.f134 = some c134 := by kernel_rfl
theorem k178 : compFunc Tryz.prog gl Tryz.f178 = some c178 := by kernel_rfl
theorem k186 : compFunc Tryz.prog gl Tryz.f186 = some c186 := by kernel_rfl
theorem k190 : compFunc Tryz.prog gl Tryz.f190 = some c190 := by kernel_rfl
theorem k194 : compFunc Tryz.prog gl Tryz.f194 = some c194 := by kernel_rfl
theorem k198 : compFunc Tryz.prog gl Tryz.f198 = some c198 := by kernel_rfl
theorem k226 : compFunc Tryz.prog gl Tryz.f226 = some c226 := by kernel_rfl
theorem k230 : compFunc Tryz.prog gl Tryz.f230 = some c230 := by kernel_rfl
theorem k234 : compFunc Tryz.prog gl Tryz.f234 = some c234 := by kernel_rfl
theorem k238 : compFunc Tryz.prog gl Tryz.f238 = some c238 := by kernel_rfl
theorem k242 : compFunc Tryz.prog gl Tryz.f242 = some c242 := by kernel_rfl
theorem k246 : compFunc Tryz.prog gl Tryz.f246 = some c246 := by kernel_rfl
theorem k250 : compFunc Tryz.prog gl Tryz.f250 = some c250 := by kernel_rfl
theorem k258 : compFunc Tryz.prog gl Tryz.f258 = some c258 := by kernel_rfl
theorem k294 : compFunc Tryz.prog gl Tryz.f294 = some c294 := by kernel_rfl
theorem k298 : compFunc Tryz.prog gl Tryz.f298 = some c298 := by kernel_rfl
end Go.Proofs.YtlognicjhmcgjaaGreatDoor.AE
