/- A part of the proof: the abstract executor and what goes through it (part 32). No condition. -/
import Derived.Test.YtfmkpcgpkdnioaaGreatDoorMq30
set_option maxRecDepth 100000
namespace Go.Proofs.YtfmkpcgpkdnioaaGreatDoor.AE
open Go.AE
theorem aw2 (f:Nat→ABox):(runF T.get X 400 (.fn 4 [] []) [] (bx f 1 ++ aR)).map (·.1) = some (.ret (.bool true)):=by kernel_rfl
end Go.Proofs.YtfmkpcgpkdnioaaGreatDoor.AE
