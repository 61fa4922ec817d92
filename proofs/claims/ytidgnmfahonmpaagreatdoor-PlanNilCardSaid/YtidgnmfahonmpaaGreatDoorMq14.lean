/- A part of the proof: the abstract executor and what goes through it (part 14). No condition. -/
import Derived.Test.YtidgnmfahonmpaaGreatDoorMq11
set_option maxRecDepth 100000
namespace Go.Proofs.YtidgnmfahonmpaaGreatDoor.AE
open Go.AE
theorem s12 : runF T.get X1 400 (.fn 12 [] []) as12 ([] ++ hp12) = some (re12, [] ++ hr12, ee12) := by kernel_rfl
end Go.Proofs.YtidgnmfahonmpaaGreatDoor.AE
