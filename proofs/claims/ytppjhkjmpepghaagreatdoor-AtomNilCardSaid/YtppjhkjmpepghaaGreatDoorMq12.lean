/- A part of the proof: the abstract executor and what goes through it (part 12). No condition. -/
import Derived.Test.YtppjhkjmpepghaaGreatDoorMq11
set_option maxRecDepth 100000
namespace Go.Proofs.YtppjhkjmpepghaaGreatDoor.AE
open Go.AE
theorem s63 (f : Nat → ABox) : runF T.get X 400 (.fn 63 [] []) as63 (bx f 2 ++ hp63) = some (re63, bx f 2 ++ hr63, ee63) := by kernel_rfl
end Go.Proofs.YtppjhkjmpepghaaGreatDoor.AE
