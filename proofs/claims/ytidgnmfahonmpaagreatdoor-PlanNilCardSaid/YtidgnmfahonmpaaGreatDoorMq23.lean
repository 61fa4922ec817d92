/- A part of the proof: the abstract executor and what goes through it (part 23). No condition. -/
import Derived.Test.YtidgnmfahonmpaaGreatDoorMq11
set_option maxRecDepth 100000
namespace Go.Proofs.YtidgnmfahonmpaaGreatDoor.AE
open Go.AE
theorem s4b (x y z : ABox) : runF T.get Y4 400 (.fn 4 [] []) as4b ([x, y, z] ++ hp4b) = some (re4b, [x, y, z] ++ hr4b, ee4b) := by kernel_rfl
end Go.Proofs.YtidgnmfahonmpaaGreatDoor.AE
