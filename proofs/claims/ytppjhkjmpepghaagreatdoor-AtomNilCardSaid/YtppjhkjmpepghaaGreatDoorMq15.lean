/- A part of the proof: the abstract executor and what goes through it (part 15). No condition. -/
import Derived.Test.YtppjhkjmpepghaaGreatDoorMq12
import Derived.Test.YtppjhkjmpepghaaGreatDoorMq13
import Derived.Test.YtppjhkjmpepghaaGreatDoorMq14
set_option maxRecDepth 100000
namespace Go.Proofs.YtppjhkjmpepghaaGreatDoor.AE
open Go.AE
theorem ext_Z {P : Program} (hmx : P.follows .mixedOrders = true) (hP : ProgOK P gl T.get) (e0 : Ext1 P gl T.get X) : Ext1 P gl T.get Z := by
  have e0 := e0
  have e1 : Ext1 P gl T.get X1 := Ext1.memo hmx hP e0 e0 (fn := c63) rfl (bx_all (p := fun H => runF T.get X 400 (.fn 63 [] []) as63 (H ++ hp63) = some (re63, H ++ hr63, ee63)) s63)
  have e2 : Ext1 P gl T.get X2 := Ext1.memo hmx hP e1 e1 (fn := c16) rfl (bx_all (p := fun H => runF T.get X1 400 (.fn 16 [] []) as16 (H ++ hp16) = some (re16, H ++ hr16, ee16)) s16)
  have e3 : Ext1 P gl T.get X3 := Ext1.memo hmx hP e2 e2 (fn := c17) rfl (bx_all (p := fun H => runF T.get X2 400 (.fn 17 [] []) as17 (H ++ hp17) = some (re17, H ++ hr17, ee17)) s17)
  exact e3
end Go.Proofs.YtppjhkjmpepghaaGreatDoor.AE
