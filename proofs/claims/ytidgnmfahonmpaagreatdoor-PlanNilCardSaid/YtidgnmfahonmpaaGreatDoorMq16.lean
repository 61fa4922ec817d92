/- A part of the proof: the abstract executor and what goes through it (part 16). No condition. -/
import Derived.Test.YtidgnmfahonmpaaGreatDoorMq11
set_option maxRecDepth 100000
namespace Go.Proofs.YtidgnmfahonmpaaGreatDoor.AE
open Go.AE
theorem s14 : runF T.get X 400 (.fn 14 [] []) as14 ([] ++ hp14) = some (re14, [] ++ hr14, ee14) := by kernel_rfl
end Go.Proofs.YtidgnmfahonmpaaGreatDoor.AE
