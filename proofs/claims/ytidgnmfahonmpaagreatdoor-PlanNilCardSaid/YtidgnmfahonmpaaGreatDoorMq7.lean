/- A part of the proof: the abstract executor and what goes through it (part 7). No condition. -/
import Derived.Test.YtidgnmfahonmpaaGreatDoorMq5
import Derived.Test.YtidgnmfahonmpaaGreatDoorProg
import Derived.KernelRfl
set_option maxRecDepth 100000
namespace Go.Proofs.YtidgnmfahonmpaaGreatDoor.AE
open Go.AE
theorem k5 : compFunc Tryz.prog gl Tryz.f5 = some c5 := by kernel_rfl
theorem k9 : compFunc Tryz.prog gl Tryz.f9 = some c9 := by kernel_rfl
theorem k13 : compFunc Tryz.prog gl Tryz.f13 = some c13 := by kernel_rfl
theorem k17 : compFunc Tryz.prog gl Tryz.f17 = some c17 := by kernel_rfl
theorem k21 : compFunc Tryz.prog gl Tryz.f21 = some c21 := by kernel_rfl
theorem k29 : compFunc Tryz.prog gl Tryz.f29 = some c29 := by kernel_rfl
theorem k33 : compFunc Tryz.prog gl Tryz.f33 = some c33 := by kernel_rfl
theorem k49 : compFunc Tryz.prog gl Tryz.f49 = some c49 := by kernel_rfl
theorem k57 : compFunc Tryz.prog gl Tryz.f57 = some c57 := by kernel_rfl
theorem k61 : compFunc Tryz.prog gl Tryz.f61 = some c61 := by kernel_rfl
theorem k65 : compFunc Tryz.prog gl Tryz.f65 = some c65 := by kernel_rfl
theorem k69 : compFunc Tryz.prog gl Tryz.f69 = some c69 := by kernel_rfl
theorem k77 : compFunc Tryz.prog gl Tryz.f77 = some c77 := by kernel_rfl
theorem k81 : compFunc Tryz.prog gl Tryz.f81 = some c81 := by kernel_rfl
theorem k85 : compFunc Tryz.prog gl Tryz.f85 = some c85 := by kernel_rfl
theorem k89 : compFunc Tryz.prog gl Tryz.f89 = some c89 := by kernel_rfl
theorem k93 : compFunc Tryz.prog gl Tryz.f93 = some c93 := by kernel_rfl
theorem k97 : compFunc Tryz.prog gl Tryz.f97 = some c97 := by kernel_rfl
theorem k101 : compFunc Tryz.prog gl Tryz.f101 = some c101 := by kernel_rfl
theorem k105 : compFunc Tryz.prog gl Tryz.f105 = some c105 := by kernel_rfl
theorem k113 : compFunc Tryz.prog gl Tryz.f113 = some c113 := by kernel_rfl
theorem k117 : compFunc Tryz.prog gl Tryz.f117 = some c117 := by kernel_rfl
theorem k129 : compFunc Tryz.prog gl Tryz.f129 = some c129 := by kernel_rfl
theorem k133 : compFunc Tryz.prog gl Tryz.f133 = some c133 := by kernel_rfl
theorem k137 : compFunc Tryz.prog gl Tryz.f137 = some c137 := by kernel_rfl
theorem k141 : compFunc Tryz.prog gl Tryz.f141 = some c141 := by kernel_rfl
theorem k149 : compFunc Tryz.prog gl Tryz.f149 = some c149 := by kernel_rfl
theorem k153 : compFunc Tryz.prog gl Tryz.f153 = some c153 := by kernel_rfl
theorem k157 : compFunc Tryz.prog gl Tryz.f157 = some c157 := by kernel_rfl
theorem k161 : compFunc Tryz.prog gl Tryz.f161 = some c161 := by kernel_rfl
theorem k169 : compFunc Tryz.prog gl Tryz.f169 = some c169 := by kernel_rfl
theorem k173 : compFunc Tryz.prog gl Tryz.f173 = some c173 := by kernel_rfl
theorem k177 : compFunc Tryz.prog gl Tryz.f177 = some c177 := by kernel_rfl
theorem k193 : compFunc Tryz.prog gl Tryz.f193 = some c193 := by kernel_rfl
theorem k197 : compFunc Tryz.prog gl Tryz.f197 = some c197 := by kernel_rfl
theorem k201 : compFunc Tryz.prog gl Tryz.f201 = some c201 := by kernel_rfl
theorem k209 : compFunc Tryz.prog gl Tryz.f209 = some c209 := by kernel_rfl
theorem k213 : compFunc Tryz.prog gl Tryz.f213 = some c213 := by kernel_rfl
theorem k225 : compFunc Tryz.prog gl Tryz.f225 = some c225 := by kernel_rfl
theorem k249 : compFunc Tryz.prog gl Tryz.f249 = some c249 := by kernel_rfl
theorem k261 : compFunc Tryz.prog gl Tryz.f261 = some c261 := by kernel_rfl
theorem k265 : compFunc Tryz.prog gl Tryz.f265 = some c265 := by kernel_rfl
theorem k25 : compGuard Tryz.prog gl Tryz.f25 Tryz.f50 = some c25 := by kernel_rfl
end Go.Proofs.YtidgnmfahonmpaaGreatDoor.AE
