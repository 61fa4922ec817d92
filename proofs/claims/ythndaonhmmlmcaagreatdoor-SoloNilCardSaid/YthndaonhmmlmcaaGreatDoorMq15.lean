/- A part of the proof: the abstract executor and what goes through it (part 15). No condition. -/
import Derived.Test.YthndaonhmmlmcaaGreatDoorMq13
set_option maxRecDepth 100000
namespace Go.Proofs.YthndaonhmmlmcaaGreatDoor.AE
open Go.AE
theorem s17 (f:Nat→ABox):runF T.get X1 400 (.fn 17 [] []) as17 (bx f 1 ++ hp17) = some (re17,bx f 1 ++ hr17,ee17):=by kernel_rfl
end Go.Proofs.YthndaonhmmlmcaaGreatDoor.AE
