/- A part of the proof: the abstract executor and what goes through it (part 19). No condition. -/
import Derived.Test.YtnlhdflceelacaaGreatDoorMq14
import Derived.Test.YtnlhdflceelacaaGreatDoorMq15
import Derived.Test.YtnlhdflceelacaaGreatDoorMq16
import Derived.Test.YtnlhdflceelacaaGreatDoorMq17
import Derived.Test.YtnlhdflceelacaaGreatDoorMq18
set_option maxRecDepth 100000
namespace Go.Proofs.YtnlhdflceelacaaGreatDoor.AE
open Go.AE
theorem qyk {P:Program} (hmx:P.follows .mixedOrders = true) (hP:qcn P gl T.get) (e0:qcI P gl T.get X):qcI P gl T.get Z:=by
 have e0a:=e0
 have e1:qcI P gl T.get X1:=qcI.memo hmx hP e0 e0 (fn:=c59) rfl (qgT (p:=fun H=>qfy T.get X 400 (.fn 59 [] []) qx8 (H ++ qyq) = some (qCE,H ++ qyu,qyi)) s59)
 have e2:qcI P gl T.get X2:=qcI.memo hmx hP e1 e1 (fn:=c9) rfl (qgT (p:=fun H=>qfy T.get X1 400 (.fn 9 [] []) as9 (H ++ hp9) = some (re9,H ++ hr9,ee9)) s9)
 have e3:qcI P gl T.get X3:=qcI.memo hmx hP e2 e2 (fn:=c10) rfl (qgT (p:=fun H=>qfy T.get X2 400 (.fn 10 [] []) qx5 (H ++ qyn) = some (qCB,H ++ qyr,qyf)) s10)
 have e4:qcI P gl T.get X4:=qcI.memo hmx hP e3 e3 (fn:=c11) rfl (qgT (p:=fun H=>qfy T.get X3 400 (.fn 11 [] []) qx6 (H ++ qyo) = some (qCC,H ++ qys,qyg)) s11)
 have e5:qcI P gl T.get X5:=qcI.memo hmx hP e4 e4 (fn:=c12) rfl (qgT (p:=fun H=>qfy T.get X4 400 (.fn 12 [] []) qx7 (H ++ qyp) = some (qCD,H ++ qyt,qyh)) s12)
 exact e5
end Go.Proofs.YtnlhdflceelacaaGreatDoor.AE
