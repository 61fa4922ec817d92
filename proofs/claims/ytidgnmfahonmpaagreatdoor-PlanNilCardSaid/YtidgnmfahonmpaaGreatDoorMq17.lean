/- A part of the proof: the abstract executor and what goes through it (part 17). No condition. -/
import Derived.Test.YtidgnmfahonmpaaGreatDoorMq11
set_option maxRecDepth 100000
namespace Go.Proofs.YtidgnmfahonmpaaGreatDoor.AE
open Go.AE
theorem s4 : runF T.get X4 400 (.fn 4 [] []) as4 ([] ++ hp4) = some (re4, [] ++ hr4, ee4) := by kernel_rfl
end Go.Proofs.YtidgnmfahonmpaaGreatDoor.AE
