/- A part of the proof: the abstract executor and what goes through it (part 19). No condition. -/
import Derived.Test.YthndaonhmmlmcaaGreatDoorMq13
set_option maxRecDepth 100000
namespace Go.Proofs.YthndaonhmmlmcaaGreatDoor.AE
open Go.AE
theorem s6 (f:Nat→ABox):runF T.get X5 400 (.fn 6 [] []) as6 (bx f 1 ++ hp6) = some (re6,bx f 1 ++ hr6,ee6):=by kernel_rfl
end Go.Proofs.YthndaonhmmlmcaaGreatDoor.AE
