/- A part of the proof: the abstract executor and what goes through it (part 7). No condition. -/
import Derived.Test.YtppjhkjmpepghaaGreatDoorMq5
import Derived.Test.YtppjhkjmpepghaaGreatDoorProg
import Derived.KernelRfl
set_option maxRecDepth 100000
namespace Go.Proofs.YtppjhkjmpepghaaGreatDoor.AE
open Go.AE
theorem k5 : compFunc Tryz.prog gl Tryz.f5 = some c5 := by kernel_rfl
theorem k9 : compFunc Tryz.prog gl Tryz.f9 = some c9 := by kernel_rfl
theorem k13 : compFunc Tryz.prog gl Tryz.f13 = some c13 := by kernel_rfl
theorem k17 : compFunc Tryz.prog gl Tryz.f17 = some c17 := by kernel_rfl
theorem k21 : compFunc Tryz.prog gl Tryz.f21 = some c21 := by kernel_rfl
theorem k25 : compFunc Tryz.prog gl Tryz.f25 = some c25 := by kernel_rfl
theorem k29 : compFunc Tryz.prog gl Tryz.f29 = some c29 := by kernel_rfl
theorem k33 : compFunc Tryz.prog gl Tryz.f33 = some c33 := by kernel_rfl
theorem k37 : compFunc Tryz.prog gl Tryz.f37 = some c37 := by kernel_rfl
theorem k41 : compFunc Tryz.prog gl Tryz.f41 = some c41 := by kernel_rfl
theorem k45 : compFunc Tryz.prog gl Tryz.f45 = some c45 := by kernel_rfl
theorem k49 : compFunc Tryz.prog gl Tryz.f49 = some c49 := by kernel_rfl
theorem k53 : compFunc Tryz.prog gl Tryz.f53 = some c53 := by kernel_rfl
theorem k65 : compFunc Tryz.prog gl Tryz.f65 = some c65 := by kernel_rfl
theorem k69 : compFunc Tryz.prog gl Tryz.f69 = some c69 := by kernel_rfl
theorem k73 : compFunc Tryz.prog gl Tryz.f73 = some c73 := by kernel_rfl
theorem k77 : compFunc Tryz.prog gl Tryz.f77 = some c77 := by kernel_rfl
theorem k81 : compFunc Tryz.prog gl Tryz.f81 = some c81 := by kernel_rfl
theorem k85 : compFunc Tryz.prog gl Tryz.f85 = some c85 := by kernel_rfl
theorem k89 : compFunc Tryz.prog gl Tryz.f89 = some c89 := by kernel_rfl
theorem k101 : compFunc Tryz.prog gl Tryz.f101 = some c101 := by kernel_rfl
theorem k117 : compFunc Tryz.prog gl Tryz.f117 = some c117 := by kernel_rfl
theorem k125 : compFunc Tryz.prog gl Tryz.f125 = some c125 := by kernel_rfl
theorem k129 : compFunc Tryz.prog gl Tryz.f129 = some c129 := by kernel_rfl
theorem k133 : compFunc Tryz.prog gl Tryz.f133 = some c133 := by kernel_rfl
theorem k137 : compFunc Tryz.prog gl Tryz.f137 = some c137 := by kernel_rfl
theorem k145 : compFunc Tryz.prog gl Tryz.f145 = some c145 := by kernel_rfl
theorem k149 : compFunc Tryz.prog gl Tryz.f149 = some c149 := by kernel_rfl
theorem k161 : compFunc Tryz.prog gl Tryz.f161 = some c161 := by kernel_rfl
theorem k165 : compFunc Tryz.prog gl Tryz.f165 = some c165 := by kernel_rfl
theorem k169 : compFunc Tryz.prog gl Tryz.f169 = some c169 := by kernel_rfl
theorem k181 : compFunc Tryz.prog gl Tryz.f181 = some c181 := by kernel_rfl
theorem k185 : compFunc Tryz.prog gl Tryz.f185 = some c185 := by kernel_rfl
theorem k193 : compFunc Tryz.prog gl Tryz.f193 = some c193 := by kernel_rfl
theorem k209 : compFunc Tryz.prog gl Tryz.f209 = some c209 := by kernel_rfl
theorem k213 : compFunc Tryz.prog gl Tryz.f213 = some c213 := by kernel_rfl
theorem k221 : compFunc Tryz.prog gl Tryz.f221 = some c221 := by kernel_rfl
theorem k233 : compFunc Tryz.prog gl Tryz.f233 = some c233 := by kernel_rfl
theorem k253 : compFunc Tryz.prog gl Tryz.f253 = some c253 := by kernel_rfl
theorem k257 : compFunc Tryz.prog gl Tryz.f257 = some c257 := by kernel_rfl
theorem k265 : compFunc Tryz.prog gl Tryz.f265 = some c265 := by kernel_rfl
theorem k269 : compFunc Tryz.prog gl Tryz.f269 = some c269 := by kernel_rfl
theorem k277 : compFunc Tryz.prog gl Tryz.f277 = some c277 := by kernel_rfl
theorem k285 : compFunc Tryz.prog gl Tryz.f285 = some c285 := by kernel_rfl
theorem k297 : compFunc Tryz.prog gl Tryz.f297 = some c297 := by kernel_rfl
end Go.Proofs.YtppjhkjmpepghaaGreatDoor.AE
