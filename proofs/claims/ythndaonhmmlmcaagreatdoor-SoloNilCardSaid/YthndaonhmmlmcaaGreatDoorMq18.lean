/- A part of the proof: the abstract executor and what goes through it (part 18). No condition. -/
import Derived.Test.YthndaonhmmlmcaaGreatDoorMq13
set_option maxRecDepth 100000
namespace Go.Proofs.YthndaonhmmlmcaaGreatDoor.AE
open Go.AE
theorem s9 (f:Nat→ABox):runF T.get X4 400 (.fn 9 [] []) as9 (bx f 1 ++ hp9) = some (re9,bx f 1 ++ hr9,ee9):=by kernel_rfl
end Go.Proofs.YthndaonhmmlmcaaGreatDoor.AE
