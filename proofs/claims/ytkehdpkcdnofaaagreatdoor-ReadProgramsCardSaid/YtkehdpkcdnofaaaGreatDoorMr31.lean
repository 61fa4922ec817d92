/- A part of the proof. No condition. -/
import Derived.Test.YtkehdpkcdnofaaaGreatDoorMr6
import Derived.KernelRfl
set_option maxRecDepth 100000
namespace Go.Proofs.YtkehdpkcdnofaaaGreatDoor.AE
open Go.AE
theorem qqQ:run T.get X 400 (.fn 4 [] []) [] [] = some (.ret (.bool true),[],false):=zk
end Go.Proofs.YtkehdpkcdnofaaaGreatDoor.AE
