/- The abstract executor: the compiled functions are the program's: part 3. PRINTED BY PROGRAM (Print.lean). No condition. -/
import Derived.Test.YtlognicjhmcgjaaGreatDoorAeData
import Derived.Test.YtlognicjhmcgjaaGreatDoorProg
import Derived.KernelRfl
set_option maxRecDepth 100000
namespace Go.Proofs.YtlognicjhmcgjaaGreatDoor.AE
open Go.AE
theorem k11 : compFunc Tryz.prog gl Tryz.f11 = some c11 := by kernel_rfl
theorem k67 : compFunc Tryz.prog gl Tryz.f67 = some c67 := by kernel_rfl
theorem k75 : compFunc Tryz.prog gl Tryz.f75 = some c75 := by kernel_rfl
theorem k79 : compFunc Tryz.prog gl Tryz.f79 = some c79 := by kernel_rfl
theorem k123 : compFunc Tryz.prog gl Tryz.f123 = some c123 := by kernel_rfl
theorem k127 : compFunc Tryz.prog gl Tryz.f127 = some c127 := by kernel_rfl
theorem k135 : compFunc Tryz.prog gl Tryz.f135 = some c135 := by kernel_rfl
theorem k179 : compFunc Tryz.prog gl Tryz.f179 = some c179 := by kernel_rfl
theorem k187 : compFunc Tryz.prog gl Tryz.f187 = some c187 := by kernel_rfl
theorem k191 : compFunc Tryz.prog gl Tryz.f191 = some c191 := by kernel_rfl
theorem k195 : compFunc Tryz.prog gl Tryz.f195 = some c195 := by kernel_rfl
theorem k227 : compFunc Tryz.prog gl Tryz.f227 = some c227 := by kernel_rfl
theorem k235 : compFunc Tryz.prog gl Tryz.f235 = some c235 := by kernel_rfl
theorem k239 : compFunc Tryz.prog gl Tryz.f239 = some c239 := by kernel_rfl
theorem k243 : compFunc Tryz.prog gl Tryz.f243 = some c243 := by kernel_rfl
theorem k247 : compFunc Tryz.prog gl Tryz.f247 = some c247 := by kernel_rfl
theorem k251 : compFunc Tryz.prog gl Tryz.f251 = some c251 := by kernel_rfl
theorem k259 : compFunc Tryz.prog gl Tryz.f259 = some c259 := by kernel_rfl
theorem k283 : compFunc Tryz.prog gl Tryz.f283 = some c283 := by kernel_rfl
theorem k295 : compFunc Tryz.prog gl Tryz.f295 = some c295 := by kernel_rfl
theorem k31 : compGuard Tryz.prog gl Tryz.f31 Tryz.f65 = some c31 := by kernel_rfl
end Go.Proofs.YtlognicjhmcgjaaGreatDoor.AE
