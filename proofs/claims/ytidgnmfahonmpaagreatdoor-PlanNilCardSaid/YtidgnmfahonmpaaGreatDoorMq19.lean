/- A part of the proof: the abstract executor and what goes through it (part 19). No condition. -/
import Derived.Test.YtidgnmfahonmpaaGreatDoorMq11
set_option maxRecDepth 100000
namespace Go.Proofs.YtidgnmfahonmpaaGreatDoor.AE
open Go.AE
theorem s49b (x y z : ABox) : runF T.get W3 400 (.fn 49 [] []) as49b ([x, y, z] ++ hp49b) = some (re49b, [x, y, z] ++ hr49b, ee49b) := by kernel_rfl
end Go.Proofs.YtidgnmfahonmpaaGreatDoor.AE
