/- A part of the proof: the abstract executor and what goes through it (part 21). No condition. -/
import Derived.Test.YtidgnmfahonmpaaGreatDoorMq11
set_option maxRecDepth 100000
namespace Go.Proofs.YtidgnmfahonmpaaGreatDoor.AE
open Go.AE
theorem s13b (x y z : ABox) : runF T.get X 400 (.fn 13 [] []) as13b ([x, y, z] ++ hp13b) = some (re13b, [x, y, z] ++ hr13b, ee13b) := by kernel_rfl
end Go.Proofs.YtidgnmfahonmpaaGreatDoor.AE
