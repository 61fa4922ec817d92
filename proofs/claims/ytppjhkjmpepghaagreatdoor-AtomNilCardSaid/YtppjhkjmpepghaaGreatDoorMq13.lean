/- A part of the proof: the abstract executor and what goes through it (part 13). No condition. -/
import Derived.Test.YtppjhkjmpepghaaGreatDoorMq11
set_option maxRecDepth 100000
namespace Go.Proofs.YtppjhkjmpepghaaGreatDoor.AE
open Go.AE
theorem s16 (f : Nat → ABox) : runF T.get X1 400 (.fn 16 [] []) as16 (bx f 2 ++ hp16) = some (re16, bx f 2 ++ hr16, ee16) := by kernel_rfl
end Go.Proofs.YtppjhkjmpepghaaGreatDoor.AE
