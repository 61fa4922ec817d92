/- A part of the proof: the abstract executor and what goes through it (part 17). No condition. -/
import Derived.Test.YtnlhdflceelacaaGreatDoorMq13
set_option maxRecDepth 100000
namespace Go.Proofs.YtnlhdflceelacaaGreatDoor.AE
open Go.AE
theorem s11 (f:Nat→qg):qfy T.get X3 400 (.fn 11 [] []) qx6 (bx f 0 ++ qyo) = some (qCC,bx f 0 ++ qys,qyg):=by kernel_rfl
end Go.Proofs.YtnlhdflceelacaaGreatDoor.AE
