/- A part of the proof: the abstract executor and what goes through it (part 15). No condition. -/
import Derived.Test.YtnlhdflceelacaaGreatDoorMq13
set_option maxRecDepth 100000
namespace Go.Proofs.YtnlhdflceelacaaGreatDoor.AE
open Go.AE
theorem s9 (f:Nat→qg):qfy T.get X1 400 (.fn 9 [] []) as9 (bx f 0 ++ hp9) = some (re9,bx f 0 ++ hr9,ee9):=by kernel_rfl
end Go.Proofs.YtnlhdflceelacaaGreatDoor.AE
