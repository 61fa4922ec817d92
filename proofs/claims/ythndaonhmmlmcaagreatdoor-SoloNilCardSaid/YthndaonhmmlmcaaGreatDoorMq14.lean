/- A part of the proof: the abstract executor and what goes through it (part 14). No condition. -/
import Derived.Test.YthndaonhmmlmcaaGreatDoorMq13
set_option maxRecDepth 100000
namespace Go.Proofs.YthndaonhmmlmcaaGreatDoor.AE
open Go.AE
theorem s99 (f:Nat→ABox):runF T.get XS72 400 (.fn 99 [] []) as99 (bx f 1 ++ hp99) = some (re99,bx f 1 ++ hr99,ee99):=by kernel_rfl
end Go.Proofs.YthndaonhmmlmcaaGreatDoor.AE
