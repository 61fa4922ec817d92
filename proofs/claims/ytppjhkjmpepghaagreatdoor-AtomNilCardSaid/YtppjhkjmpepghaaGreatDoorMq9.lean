/- A part of the proof: the abstract executor and what goes through it (part 9). No condition. -/
import Derived.Test.YtppjhkjmpepghaaGreatDoorMq5
import Derived.Test.YtppjhkjmpepghaaGreatDoorProg
import Derived.KernelRfl
set_option maxRecDepth 100000
namespace Go.Proofs.YtppjhkjmpepghaaGreatDoor.AE
open Go.AE
theorem k3 : compFunc Tryz.prog gl Tryz.f3 = some c3 := by kernel_rfl
theorem k7 : compFunc Tryz.prog gl Tryz.f7 = some c7 := by kernel_rfl
theorem k11 : compFunc Tryz.prog gl Tryz.f11 = some c11 := by kernel_rfl
theorem k15 : compFunc Tryz.prog gl Tryz.f15 = some c15 := by kernel_rfl
theorem k19 : compFunc Tryz.prog gl Tryz.f19 = some c19 := by kernel_rfl
theorem k23 : compFunc Tryz.prog gl Tryz.f23 = some c23 := by kernel_rfl
theorem k27 : compFunc Tryz.prog gl Tryz.f27 = some c27 := by kernel_rfl
theorem k31 : compFunc Tryz.prog gl Tryz.f31 = some c31 := by kernel_rfl
theorem k35 : compFunc Tryz.prog gl Tryz.f35 = some c35 := by kernel_rfl
theorem k39 : compFunc Tryz.prog gl Tryz.f39 = some c39 := by kernel_rfl
theorem k43 : compFunc Tryz.prog gl Tryz.f43 = some c43 := by kernel_rfl
theorem k51 : compFunc Tryz.prog gl Tryz.f51 = some c51 := by kernel_rfl
theorem k59 : compFunc Tryz.prog gl Tryz.f59 = some c59 := by kernel_rfl
theorem k63 : compFunc Tryz.prog gl Tryz.f63 = some c63 := by kernel_rfl
theorem k71 : compFunc Tryz.prog gl Tryz.f71 = some c71 := by kernel_rfl
theorem k75 : compFunc Tryz.prog gl Tryz.f75 = some c75 := by kernel_rfl
theorem k79 : compFunc Tryz.prog gl Tryz.f79 = some c79 := by kernel_rfl
theorem k83 : compFunc Tryz.prog gl Tryz.f83 = some c83 := by kernel_rfl
theorem k87 : compFunc Tryz.prog gl Tryz.f87 = some c87 := by kernel_rfl
theorem k91 : compFunc Tryz.prog gl Tryz.f91 = some c91 := by kernel_rfl
theorem k95 : compFunc Tryz.prog gl Tryz.f95 = some c95 := by kernel_rfl
theorem k107 : compFunc Tryz.prog gl Tryz.f107 = some c107 := by kernel_rfl
theorem k111 : compFunc Tryz.prog gl Tryz.f111 = some c111 := by kernel_rfl
theorem k115 : compFunc Tryz.prog gl Tryz.f115 = some c115 := by kernel_rfl
theorem k119 : compFunc Tryz.prog gl Tryz.f119 = some c119 := by kernel_rfl
theorem k123 : compFunc Tryz.prog gl Tryz.f123 = some c123 := by kernel_rfl
theorem k127 : compFunc Tryz.prog gl Tryz.f127 = some c127 := by kernel_rfl
theorem k131 : compFunc Tryz.prog gl Tryz.f131 = some c131 := by kernel_rfl
theorem k135 : compFunc Tryz.prog gl Tryz.f135 = some c135 := by kernel_rfl
theorem k143 : compFunc Tryz.prog gl Tryz.f143 = some c143 := by kernel_rfl
theorem k147 : compFunc Tryz.prog gl Tryz.f147 = some c147 := by kernel_rfl
theorem k151 : compFunc Tryz.prog gl Tryz.f151 = some c151 := by kernel_rfl
theorem k155 : compFunc Tryz.prog gl Tryz.f155 = some c155 := by kernel_rfl
theorem k167 : compFunc Tryz.prog gl Tryz.f167 = some c167 := by kernel_rfl
theorem k171 : compFunc Tryz.prog gl Tryz.f171 = some c171 := by kernel_rfl
theorem k183 : compFunc Tryz.prog gl Tryz.f183 = some c183 := by kernel_rfl
theorem k195 : compFunc Tryz.prog gl Tryz.f195 = some c195 := by kernel_rfl
theorem k207 : compFunc Tryz.prog gl Tryz.f207 = some c207 := by kernel_rfl
theorem k211 : compFunc Tryz.prog gl Tryz.f211 = some c211 := by kernel_rfl
theorem k215 : compFunc Tryz.prog gl Tryz.f215 = some c215 := by kernel_rfl
theorem k223 : compFunc Tryz.prog gl Tryz.f223 = some c223 := by kernel_rfl
theorem k231 : compFunc Tryz.prog gl Tryz.f231 = some c231 := by kernel_rfl
theorem k235 : compFunc Tryz.prog gl Tryz.f235 = some c235 := by kernel_rfl
theorem k251 : compFunc Tryz.prog gl Tryz.f251 = some c251 := by kernel_rfl
theorem k255 : compFunc Tryz.prog gl Tryz.f255 = some c255 := by kernel_rfl
theorem k259 : compFunc Tryz.prog gl Tryz.f259 = some c259 := by kernel_rfl
theorem k263 : compFunc Tryz.prog gl Tryz.f263 = some c263 := by kernel_rfl
theorem k271 : compFunc Tryz.prog gl Tryz.f271 = some c271 := by kernel_rfl
theorem k275 : compFunc Tryz.prog gl Tryz.f275 = some c275 := by kernel_rfl
theorem k283 : compFunc Tryz.prog gl Tryz.f283 = some c283 := by kernel_rfl
theorem k307 : compFunc Tryz.prog gl Tryz.f307 = some c307 := by kernel_rfl
theorem k323 : compFunc Tryz.prog gl Tryz.f323 = some c323 := by kernel_rfl
theorem k331 : compFunc Tryz.prog gl Tryz.f331 = some c331 := by kernel_rfl
end Go.Proofs.YtppjhkjmpepghaaGreatDoor.AE
