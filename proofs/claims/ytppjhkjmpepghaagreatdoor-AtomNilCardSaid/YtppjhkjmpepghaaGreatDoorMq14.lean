/- A part of the proof: the abstract executor and what goes through it (part 14). No condition. -/
import Derived.Test.YtppjhkjmpepghaaGreatDoorMq11
set_option maxRecDepth 100000
namespace Go.Proofs.YtppjhkjmpepghaaGreatDoor.AE
open Go.AE
theorem s17 (f : Nat → ABox) : runF T.get X2 400 (.fn 17 [] []) as17 (bx f 2 ++ hp17) = some (re17, bx f 2 ++ hr17, ee17) := by kernel_rfl
end Go.Proofs.YtppjhkjmpepghaaGreatDoor.AE
