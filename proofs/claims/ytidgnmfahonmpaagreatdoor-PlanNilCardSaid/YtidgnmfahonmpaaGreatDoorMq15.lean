/- A part of the proof: the abstract executor and what goes through it (part 15). No condition. -/
import Derived.Test.YtidgnmfahonmpaaGreatDoorMq11
set_option maxRecDepth 100000
namespace Go.Proofs.YtidgnmfahonmpaaGreatDoor.AE
open Go.AE
theorem s13 : runF T.get X 400 (.fn 13 [] []) as13 ([] ++ hp13) = some (re13, [] ++ hr13, ee13) := by kernel_rfl
end Go.Proofs.YtidgnmfahonmpaaGreatDoor.AE
