/- A part of the proof: the abstract executor and what goes through it (part 9). No condition. -/
import Derived.Test.YtgcfnjnahihmdaaGreatDoorMq5
import Derived.Test.YtgcfnjnahihmdaaGreatDoorProg
import Derived.KernelRfl
set_option maxRecDepth 100000
namespace Go.Proofs.YtgcfnjnahihmdaaGreatDoor.AE
open Go.AE
theorem kt3 : compFunc Tryz.prog gl Tryz.f3 = some c3 := by kernel_rfl
theorem kt7 : compFunc Tryz.prog gl Tryz.f7 = some c7 := by kernel_rfl
theorem kt11 : compFunc Tryz.prog gl Tryz.f11 = some c11 := by kernel_rfl
theorem kt15 : compFunc Tryz.prog gl Tryz.f15 = some c15 := by kernel_rfl
theorem kt19 : compFunc Tryz.prog gl Tryz.f19 = some c19 := by kernel_rfl
theorem kt23 : compFunc Tryz.prog gl Tryz.f23 = some c23 := by kernel_rfl
theorem kt27 : compFunc Tryz.prog gl Tryz.f27 = some c27 := by kernel_rfl
theorem kt31 : compFunc Tryz.prog gl Tryz.f31 = some c31 := by kernel_rfl
theorem kt35 : compFunc Tryz.prog gl Tryz.f35 = some c35 := by kernel_rfl
theorem kt39 : compFunc Tryz.prog gl Tryz.f39 = some c39 := by kernel_rfl
theorem kt43 : compFunc Tryz.prog gl Tryz.f43 = some c43 := by kernel_rfl
theorem kt47 : compFunc Tryz.prog gl Tryz.f47 = some c47 := by kernel_rfl
theorem kt51 : compFunc Tryz.prog gl Tryz.f51 = some c51 := by kernel_rfl
theorem kt55 : compFunc Tryz.prog gl Tryz.f55 = some c55 := by kernel_rfl
theorem kt59 : compFunc Tryz.prog gl Tryz.f59 = some c59 := by kernel_rfl
theorem kt63 : compFunc Tryz.prog gl Tryz.f63 = some c63 := by kernel_rfl
theorem kt67 : compFunc Tryz.prog gl Tryz.f67 = some c67 := by kernel_rfl
theorem kt71 : compFunc Tryz.prog gl Tryz.f71 = some c71 := by kernel_rfl
theorem kt75 : compFunc Tryz.prog gl Tryz.f75 = some c75 := by kernel_rfl
theorem kt79 : compFunc Tryz.prog gl Tryz.f79 = some c79 := by kernel_rfl
theorem kt83 : compFunc Tryz.prog gl Tryz.f83 = some c83 := by kernel_rfl
theorem kt87 : compFunc Tryz.prog gl Tryz.f87 = some c87 := by kernel_rfl
theorem kt91 : compFunc Tryz.prog gl Tryz.f91 = some c91 := by kernel_rfl
theorem kt95 : compFunc Tryz.prog gl Tryz.f95 = some c95 := by kernel_rfl
theorem kt115 : compFunc Tryz.prog gl Tryz.f115 = some c115 := by kernel_rfl
theorem kt123 : compFunc Tryz.prog gl Tryz.f123 = some c123 := by kernel_rfl
theorem kt131 : compFunc Tryz.prog gl Tryz.f131 = some c131 := by kernel_rfl
end Go.Proofs.YtgcfnjnahihmdaaGreatDoor.AE
