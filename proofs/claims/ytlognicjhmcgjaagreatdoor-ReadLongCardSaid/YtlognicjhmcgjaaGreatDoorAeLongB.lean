/- The abstract executor: a part of the proof of ReadLong. No condition. -/
import Derived.Test.YtlognicjhmcgjaaGreatDoorAeData
import Derived.KernelRfl
set_option maxRecDepth 100000
namespace Go.Proofs.YtlognicjhmcgjaaGreatDoor.AE
open Go.AE
theorem long_run (f : Nat → UInt8) (r : List UInt8) : run T.get X 401 (.fn 5 [] []) [.str ((List.range 16385).map f ++ r)] [] = some (.ret (.bool true), [], false) := by kernel_rfl
end Go.Proofs.YtlognicjhmcgjaaGreatDoor.AE
