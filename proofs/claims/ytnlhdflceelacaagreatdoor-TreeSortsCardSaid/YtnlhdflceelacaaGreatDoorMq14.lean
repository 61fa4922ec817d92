/- A part of the proof: the abstract executor and what goes through it (part 14). No condition. -/
import Derived.Test.YtnlhdflceelacaaGreatDoorMq13
set_option maxRecDepth 100000
namespace Go.Proofs.YtnlhdflceelacaaGreatDoor.AE
open Go.AE
theorem s59 (f:Nat→qg):qfy T.get X 400 (.fn 59 [] []) qx8 (bx f 0 ++ qyq) = some (qCE,bx f 0 ++ qyu,qyi):=by kernel_rfl
end Go.Proofs.YtnlhdflceelacaaGreatDoor.AE
