/- The abstract executor: a part of the proof of ReadLong. No condition. -/
import Derived.Test.YtlognicjhmcgjaaGreatDoorAeData
import Derived.KernelRfl
set_option maxRecDepth 100000
namespace Go.Proofs.YtlognicjhmcgjaaGreatDoor.AE
open Go.AE
theorem awake_run : run T.get X 400 (.fn 10 [] []) [] [] = some (.ret (.bool true), [], false) := by kernel_rfl
end Go.Proofs.YtlognicjhmcgjaaGreatDoor.AE
