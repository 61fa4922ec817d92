/- A part of the proof: the abstract executor and what goes through it (part 22). No condition. -/
import Derived.Test.YtidgnmfahonmpaaGreatDoorMq11
set_option maxRecDepth 100000
namespace Go.Proofs.YtidgnmfahonmpaaGreatDoor.AE
open Go.AE
theorem s14b (x y z : ABox) : runF T.get X 400 (.fn 14 [] []) as14b ([x, y, z] ++ hp14b) = some (re14b, [x, y, z] ++ hr14b, ee14b) := by kernel_rfl
end Go.Proofs.YtidgnmfahonmpaaGreatDoor.AE
