/- A part of the proof: the abstract executor and what goes through it (part 20). No condition. -/
import Derived.Test.YthndaonhmmlmcaaGreatDoorMq14
import Derived.Test.YthndaonhmmlmcaaGreatDoorMq15
import Derived.Test.YthndaonhmmlmcaaGreatDoorMq16
import Derived.Test.YthndaonhmmlmcaaGreatDoorMq17
import Derived.Test.YthndaonhmmlmcaaGreatDoorMq18
import Derived.Test.YthndaonhmmlmcaaGreatDoorMq19
set_option maxRecDepth 100000
namespace Go.Proofs.YthndaonhmmlmcaaGreatDoor.AE
open Go.AE
theorem sp72n (H:List ABox):run T.get X 400 (.fn 72 [] []) [.nils] H = some (.ret (.lst [] .full),H,false):=by
 have e:run T.get X 400 (.fn 72 [] []) [.nils] H = some (leave H.length (.ret (.lst [] .full)) H false):=by kernel_rfl
 rw [e]
 simp [leave,AVal.lower,lowerL]
theorem sp72e (H:List ABox):run T.get X 400 (.fn 72 [] []) [.empt] H = some (.ret (.lst [] .full),H,false):=by
 have e:run T.get X 400 (.fn 72 [] []) [.empt] H = some (leave H.length (.ret (.lst [] .full)) H false):=by kernel_rfl
 rw [e]
 simp [leave,AVal.lower,lowerL]
theorem ext_Z {P:Program} (hmx:P.follows .mixedOrders = true) (hP:ProgOK P gl T.get) (e0:Ext1 P gl T.get X):Ext1 P gl T.get Z:=by
 have e0a:=e0
 have e0:Ext1 P gl T.get XS72:=Ext1.split hmx hP e0a e0 (fn:=c72) rfl sp72n sp72e
 have e1:Ext1 P gl T.get X1:=Ext1.memo hmx hP e0 e0 (fn:=c99) rfl (bx_all (p:=fun H=>runF T.get XS72 400 (.fn 99 [] []) as99 (H ++ hp99) = some (re99,H ++ hr99,ee99)) s99)
 have e2:Ext1 P gl T.get X2:=Ext1.memo hmx hP e1 e1 (fn:=c17) rfl (bx_all (p:=fun H=>runF T.get X1 400 (.fn 17 [] []) as17 (H ++ hp17) = some (re17,H ++ hr17,ee17)) s17)
 have e3:Ext1 P gl T.get X3:=Ext1.memo hmx hP e2 e2 (fn:=c18) rfl (bx_all (p:=fun H=>runF T.get X2 400 (.fn 18 [] []) as18 (H ++ hp18) = some (re18,H ++ hr18,ee18)) s18)
 have e4:Ext1 P gl T.get X4:=Ext1.memo hmx hP e3 e3 (fn:=c19) rfl (bx_all (p:=fun H=>runF T.get X3 400 (.fn 19 [] []) as19 (H ++ hp19) = some (re19,H ++ hr19,ee19)) s19)
 have e5:Ext1 P gl T.get X5:=Ext1.memoR hmx hP e4 e4 (fn:=c9) rfl (bx_all (p:=fun H=>runF T.get X4 400 (.fn 9 [] []) as9 (H ++ hp9) = some (re9,H ++ hr9,ee9)) s9)
 have e6:Ext1 P gl T.get X6:=Ext1.memoR hmx hP e5 e5 (fn:=c6) rfl (bx_all (p:=fun H=>runF T.get X5 400 (.fn 6 [] []) as6 (H ++ hp6) = some (re6,H ++ hr6,ee6)) s6)
 have r5:Ext1 P gl T.get XR5:=Ext1.put (n:=400) hmx hP e6 e6 (fn:=c5) rfl (fun _ _ _ _ h=>h)
 exact r5
end Go.Proofs.YthndaonhmmlmcaaGreatDoor.AE
