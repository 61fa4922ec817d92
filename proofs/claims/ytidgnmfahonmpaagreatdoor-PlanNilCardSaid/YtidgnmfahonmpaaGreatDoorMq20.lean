/- A part of the proof: the abstract executor and what goes through it (part 20). No condition. -/
import Derived.Test.YtidgnmfahonmpaaGreatDoorMq11
set_option maxRecDepth 100000
namespace Go.Proofs.YtidgnmfahonmpaaGreatDoor.AE
open Go.AE
theorem s12b (x y z : ABox) : runF T.get Y1 400 (.fn 12 [] []) as12b ([x, y, z] ++ hp12b) = some (re12b, [x, y, z] ++ hr12b, ee12b) := by kernel_rfl
end Go.Proofs.YtidgnmfahonmpaaGreatDoor.AE
