/- A part of the proof: the abstract executor and what goes through it (part 16). No condition. -/
import Derived.Test.YtnlhdflceelacaaGreatDoorMq13
set_option maxRecDepth 100000
namespace Go.Proofs.YtnlhdflceelacaaGreatDoor.AE
open Go.AE
theorem s10 (f:Nat→qg):qfy T.get X2 400 (.fn 10 [] []) qx5 (bx f 0 ++ qyn) = some (qCB,bx f 0 ++ qyr,qyf):=by kernel_rfl
end Go.Proofs.YtnlhdflceelacaaGreatDoor.AE
