/- A part of the proof: the abstract executor and what goes through it (part 24). No condition. -/
import Derived.Test.YtidgnmfahonmpaaGreatDoorMq12
import Derived.Test.YtidgnmfahonmpaaGreatDoorMq13
import Derived.Test.YtidgnmfahonmpaaGreatDoorMq14
import Derived.Test.YtidgnmfahonmpaaGreatDoorMq15
import Derived.Test.YtidgnmfahonmpaaGreatDoorMq16
import Derived.Test.YtidgnmfahonmpaaGreatDoorMq17
import Derived.Test.YtidgnmfahonmpaaGreatDoorMq18
import Derived.Test.YtidgnmfahonmpaaGreatDoorMq19
import Derived.Test.YtidgnmfahonmpaaGreatDoorMq20
import Derived.Test.YtidgnmfahonmpaaGreatDoorMq21
import Derived.Test.YtidgnmfahonmpaaGreatDoorMq22
import Derived.Test.YtidgnmfahonmpaaGreatDoorMq23
set_option maxRecDepth 100000
namespace Go.Proofs.YtidgnmfahonmpaaGreatDoor.AE
open Go.AE
theorem ext_Z {P : Program} (hmx : P.follows .mixedOrders = true) (hP : ProgOK P gl T.get) (e0 : Ext1 P gl T.get X) : Ext1 P gl T.get Z := by
  have ew : Ext1 P gl T.get W0 := Ext1.memoT hmx hP e0 e0 (fn := c134) rfl wall
  have e1 : Ext1 P gl T.get X1 := Ext1.memo hmx hP ew e0 (fn := c49) rfl (len0 (p := fun H => runF T.get W0 400 (.fn 49 [] []) as49 (H ++ hp49) = some (re49, H ++ hr49, ee49)) s49)
  have e2 : Ext1 P gl T.get X2 := Ext1.memo hmx hP e1 e1 (fn := c12) rfl (len0 (p := fun H => runF T.get X1 400 (.fn 12 [] []) as12 (H ++ hp12) = some (re12, H ++ hr12, ee12)) s12)
  have e3 : Ext1 P gl T.get X3 := Ext1.memo hmx hP e0 e2 (fn := c13) rfl (len0 (p := fun H => runF T.get X 400 (.fn 13 [] []) as13 (H ++ hp13) = some (re13, H ++ hr13, ee13)) s13)
  have e4 : Ext1 P gl T.get X4 := Ext1.memo hmx hP e0 e3 (fn := c14) rfl (len0 (p := fun H => runF T.get X 400 (.fn 14 [] []) as14 (H ++ hp14) = some (re14, H ++ hr14, ee14)) s14)
  have e5 : Ext1 P gl T.get (withMemo X 4 0 as4 hp4 re4 hr4 ee4) := Ext1.memo hmx hP e4 e0 (fn := c4) rfl (len0 (p := fun H => runF T.get X4 400 (.fn 4 [] []) as4 (H ++ hp4) = some (re4, H ++ hr4, ee4)) s4)
  have dw : Ext1 P gl T.get W3 := Ext1.memoT hmx hP e0 e0 (fn := c134) rfl wallb
  have d1 : Ext1 P gl T.get Y1 := Ext1.memo hmx hP dw e0 (fn := c49) rfl (len3 (p := fun H => runF T.get W3 400 (.fn 49 [] []) as49b (H ++ hp49b) = some (re49b, H ++ hr49b, ee49b)) s49b)
  have d2 : Ext1 P gl T.get Y2 := Ext1.memo hmx hP d1 d1 (fn := c12) rfl (len3 (p := fun H => runF T.get Y1 400 (.fn 12 [] []) as12b (H ++ hp12b) = some (re12b, H ++ hr12b, ee12b)) s12b)
  have d3 : Ext1 P gl T.get Y3 := Ext1.memo hmx hP e0 d2 (fn := c13) rfl (len3 (p := fun H => runF T.get X 400 (.fn 13 [] []) as13b (H ++ hp13b) = some (re13b, H ++ hr13b, ee13b)) s13b)
  have d4 : Ext1 P gl T.get Y4 := Ext1.memo hmx hP e0 d3 (fn := c14) rfl (len3 (p := fun H => runF T.get X 400 (.fn 14 [] []) as14b (H ++ hp14b) = some (re14b, H ++ hr14b, ee14b)) s14b)
  have d5 : Ext1 P gl T.get (withMemo X 4 3 as4b hp4b re4b hr4b ee4b) := Ext1.memo hmx hP d4 e0 (fn := c4) rfl (len3 (p := fun H => runF T.get Y4 400 (.fn 4 [] []) as4b (H ++ hp4b) = some (re4b, H ++ hr4b, ee4b)) s4b)
  exact Ext1.either e5 d5 e0
end Go.Proofs.YtidgnmfahonmpaaGreatDoor.AE
