/- A part of the proof: the abstract executor and what goes through it (part 16). No condition. -/
import Derived.Test.YthndaonhmmlmcaaGreatDoorMq13
set_option maxRecDepth 100000
namespace Go.Proofs.YthndaonhmmlmcaaGreatDoor.AE
open Go.AE
theorem s18 (f:Nat→ABox):runF T.get X2 400 (.fn 18 [] []) as18 (bx f 1 ++ hp18) = some (re18,bx f 1 ++ hr18,ee18):=by kernel_rfl
end Go.Proofs.YthndaonhmmlmcaaGreatDoor.AE
