/- A part of the proof: the abstract executor and what goes through it (part 18). No condition. -/
import Derived.Test.YtnlhdflceelacaaGreatDoorMq13
set_option maxRecDepth 100000
namespace Go.Proofs.YtnlhdflceelacaaGreatDoor.AE
open Go.AE
theorem s12 (f:Nat→qg):qfy T.get X4 400 (.fn 12 [] []) qx7 (bx f 0 ++ qyp) = some (qCD,bx f 0 ++ qyt,qyh):=by kernel_rfl
end Go.Proofs.YtnlhdflceelacaaGreatDoor.AE
