/- A part of the proof: the abstract executor and what goes through it (part 17). No condition. -/
import Derived.Test.YthndaonhmmlmcaaGreatDoorMq13
set_option maxRecDepth 100000
namespace Go.Proofs.YthndaonhmmlmcaaGreatDoor.AE
open Go.AE
theorem s19 (f:Nat→ABox):runF T.get X3 400 (.fn 19 [] []) as19 (bx f 1 ++ hp19) = some (re19,bx f 1 ++ hr19,ee19):=by kernel_rfl
end Go.Proofs.YthndaonhmmlmcaaGreatDoor.AE
