/- A part of the proof: the abstract executor and what goes through it (part 7). No condition. -/
import Derived.Test.YtgcfnjnahihmdaaGreatDoorMq5
import Derived.Test.YtgcfnjnahihmdaaGreatDoorProg
import Derived.KernelRfl
set_option maxRecDepth 100000
namespace Go.Proofs.YtgcfnjnahihmdaaGreatDoor.AE
open Go.AE
theorem kt5 : compFunc Tryz.prog gl Tryz.f5 = some c5 := by kernel_rfl
theorem kt9 : compFunc Tryz.prog gl Tryz.f9 = some c9 := by kernel_rfl
theorem kt13 : compFunc Tryz.prog gl Tryz.f13 = some c13 := by kernel_rfl
theorem kt17 : compFunc Tryz.prog gl Tryz.f17 = some c17 := by kernel_rfl
theorem kt21 : compFunc Tryz.prog gl Tryz.f21 = some c21 := by kernel_rfl
theorem kt25 : compFunc Tryz.prog gl Tryz.f25 = some c25 := by kernel_rfl
theorem kt29 : compFunc Tryz.prog gl Tryz.f29 = some c29 := by kernel_rfl
theorem kt33 : compFunc Tryz.prog gl Tryz.f33 = some c33 := by kernel_rfl
theorem kt37 : compFunc Tryz.prog gl Tryz.f37 = some c37 := by kernel_rfl
theorem kt45 : compFunc Tryz.prog gl Tryz.f45 = some c45 := by kernel_rfl
theorem kt53 : compFunc Tryz.prog gl Tryz.f53 = some c53 := by kernel_rfl
theorem kt57 : compFunc Tryz.prog gl Tryz.f57 = some c57 := by kernel_rfl
theorem kt61 : compFunc Tryz.prog gl Tryz.f61 = some c61 := by kernel_rfl
theorem kt65 : compFunc Tryz.prog gl Tryz.f65 = some c65 := by kernel_rfl
theorem kt69 : compFunc Tryz.prog gl Tryz.f69 = some c69 := by kernel_rfl
theorem kt73 : compFunc Tryz.prog gl Tryz.f73 = some c73 := by kernel_rfl
theorem kt77 : compFunc Tryz.prog gl Tryz.f77 = some c77 := by kernel_rfl
theorem kt81 : compFunc Tryz.prog gl Tryz.f81 = some c81 := by kernel_rfl
theorem kt85 : compFunc Tryz.prog gl Tryz.f85 = some c85 := by kernel_rfl
theorem kt89 : compFunc Tryz.prog gl Tryz.f89 = some c89 := by kernel_rfl
theorem kt93 : compFunc Tryz.prog gl Tryz.f93 = some c93 := by kernel_rfl
theorem kt109 : compFunc Tryz.prog gl Tryz.f109 = some c109 := by kernel_rfl
theorem kt113 : compFunc Tryz.prog gl Tryz.f113 = some c113 := by kernel_rfl
theorem kt121 : compFunc Tryz.prog gl Tryz.f121 = some c121 := by kernel_rfl
theorem kt129 : compFunc Tryz.prog gl Tryz.f129 = some c129 := by kernel_rfl
end Go.Proofs.YtgcfnjnahihmdaaGreatDoor.AE
