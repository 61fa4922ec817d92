/- A part of the proof: the abstract executor and what goes through it (part 13). No condition. -/
import Derived.Test.YtidgnmfahonmpaaGreatDoorMq11
set_option maxRecDepth 100000
namespace Go.Proofs.YtidgnmfahonmpaaGreatDoor.AE
open Go.AE
theorem s49 : runF T.get W0 400 (.fn 49 [] []) as49 ([] ++ hp49) = some (re49, [] ++ hr49, ee49) := by kernel_rfl
end Go.Proofs.YtidgnmfahonmpaaGreatDoor.AE
