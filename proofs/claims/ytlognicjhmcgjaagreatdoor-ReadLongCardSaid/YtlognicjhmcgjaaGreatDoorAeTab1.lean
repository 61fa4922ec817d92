/- The abstract executor: the compiled functions are the program's: part 1. PRINTED BY PROGRAM (Print.lean). No condition. -/
import Derived.Test.YtlognicjhmcgjaaGreatDoorAeData
import Derived.Test.YtlognicjhmcgjaaGreatDoorProg
import Derived.KernelRfl
set_option maxRecDepth 100000
namespace Go.Proofs.YtlognicjhmcgjaaGreatDoor.AE
open Go.AE
theorem k5 : compFunc Tryz.prog gl Tryz.f5 = some c5 := by kernel_rfl
theorem k37 : compFunc Tryz.prog gl Tryz.f37 = some c37 := by kernel_rfl
theorem k77 : compFunc Tryz.prog gl Tryz.f77 = some c77 := by kernel_rfl
theorem k93 : compFunc Tryz.prog gl Tryz.f93 = some c93 := by kernel_rfl
theorem k125 : compFunc Tryz.prog gl Tryz.f125 = some c125 := by kernel_rfl
theorem k133 : compFunc Tryz.prog gl Tryz.f133 = some c133 := by kernel_rfl
theorem k137 : compFunc Tryz.prog gl Tryz.f137 = some c137 := by kernel_rfl
theorem k177 : compFunc Tryz.prog gl Tryz.f177 = some c177 := by kernel_rfl
theorem k185 : compFunc Tryz.prog gl Tryz.f185 = some c185 := by kernel_rfl
theorem k189 : compFunc Tryz.prog gl Tryz.f189 = some c189 := by kernel_rfl
theorem k193 : compFunc Tryz.prog gl Tryz.f193 = some c193 := by kernel_rfl
theorem k197 : compFunc Tryz.prog gl Tryz.f197 = some c197 := by kernel_rfl
theorem k225 : compFunc Tryz.prog gl Tryz.f225 = some c225 := by kernel_rfl
theorem k229 : compFunc Tryz.prog gl Tryz.f229 = some c229 := by kernel_rfl
theorem k233 : compFunc Tryz.prog gl Tryz.f233 = some c233 := by kernel_rfl
theorem k237 : compFunc Tryz.prog gl Tryz.f237 = some c237 := by kernel_rfl
theorem k241 : compFunc Tryz.prog gl Tryz.f241 = some c241 := by kernel_rfl
theorem k245 : compFunc Tryz.prog gl Tryz.f245 = some c245 := by kernel_rfl
theorem k249 : compFunc Tryz.prog gl Tryz.f249 = some c249 := by kernel_rfl
theorem k261 : compFunc Tryz.prog gl Tryz.f261 = some c261 := by kernel_rfl
theorem k269 : compFunc Tryz.prog gl Tryz.f269 = some c269 := by kernel_rfl
theorem k289 : compFunc Tryz.prog gl Tryz.f289 = some c289 := by kernel_rfl
theorem k293 : compFunc Tryz.prog gl Tryz.f293 = some c293 := by kernel_rfl
theorem k297 : compFunc Tryz.prog gl Tryz.f297 = some c297 := by kernel_rfl
end Go.Proofs.YtlognicjhmcgjaaGreatDoor.AE
