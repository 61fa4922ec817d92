/- A part of the proof: the abstract executor and what goes through it (part 23). No condition. -/
import Derived.Test.YthndaonhmmlmcaaGreatDoorMq22
set_option maxRecDepth 100000
namespace Go.Proofs.YthndaonhmmlmcaaGreatDoor.AE
open Go.AE
theorem list_act (xs:List AVal):listV 6 [.bool false,.int .i64 0,.int .i64 0,.lst [] .full,.str [],.lst [] .full] 1 [(0,.agg [.bool false,.int .i64 0,.int .i64 0,.lst xs .no,.str [],.lst [] .full])] = some (.lst [.agg [.bool false,.int .i64 0,.int .i64 0,.lst xs .no,.str [],.lst [] .full]] .full):=list_agg1 rfl (by decide) rfl (by simp [AVal.storable]) (by decide)
theorem rest_ok (a b c id:Int) (xs:List AVal) (r:Int):∃st,execW 0 Wd rest ⟨mids a b c id xs r,[.cells [.int .i64 a,.int .i64 b,.int .i64 c]],false⟩ = some (.ret,st)∧lkp st.t 6 = .bool true:=by
 obtain ⟨⟨x,st⟩,h1,h2⟩:=Option.map_eq_some_iff.1 (rest_all a b c id xs r)
 simp only [Prod.mk.injEq] at h2
 obtain ⟨rfl,h2⟩:=h2
 exact ⟨st,(execW_iff _).2 ⟨400,exec_mono (le_limc (run_mono xfine.mono) 400) (Nat.le_refl _) _ _ _ h1⟩,h2⟩
theorem leave_0 (b:Bool) (H:List ABox) (e:Bool):leave 0 (.ret (.bool b)) H e = (.ret (.bool b),[],e):=by simp [leave,AVal.lower]
theorem law_ok (a b c id:Int) (xs:List AVal) (hxs:∀x ∈ xs,MF x):∃h' e',Wd (.fn 3 [] []) [.agg [.int .i64 a,.int .i64 b,.int .i64 c],.lst xs .no,.int .i64 id] [] = some (.ret (.bool true),h',e'):=by
 obtain ⟨r,hr⟩:=small_ex xs hxs [.cells [.int .i64 a,.int .i64 b,.int .i64 c]]
 obtain ⟨R,e,hA⟩:=aw (.cells [.int .i64 a,.int .i64 b,.int .i64 c])
 rw [actV] at hr
 generalize hw:Wd _ _ [] = w
 rw [Wd_fn rfl (show T.get 3 = some c3 by kernel_rfl),code_eq] at hw
 cases hz:(r == 0) with
 | true=>
  simp only [headOf,midOf,c3,sT.1,sC.1,sTA.1,sCA.1,noApp,provA,provE,Src.isTmp,provOf,Src.hangs,AOpd.isT,srcOf,lookV,Nat.testBit,bne,simprocAttr,-Int.reduceNatCast',fillS,list_act,hr,hz,hA] at hw
  subst hw
  exact ⟨_,_,congrArg some (leave_0 _ _ _)⟩
 | false=>
  simp only [headOf,midOf,c3,sT.1,sC.1,sTA.1,sCA.1,noApp,provA,provE,Src.isTmp,provOf,Src.hangs,AOpd.isT,srcOf,lookV,Nat.testBit,bne,simprocAttr,-Int.reduceNatCast',fillS,list_act,hr,hz] at hw
  obtain ⟨st,h1,h2⟩:=rest_ok a b c id xs r
  have hw2:endR [.tmp 6] [] (execW 0 Wd rest ⟨mids a b c id xs r,[.cells [.int .i64 a,.int .i64 b,.int .i64 c]],false⟩) = w:=hw
  rw [h1] at hw2
  simp only [sT.1,sC.1,sTA.1,sCA.1,noApp,provA,provE,Src.isTmp,provOf,Src.hangs,AOpd.isT,srcOf,lookV,Nat.testBit,bne,simprocAttr,-Int.reduceNatCast',h2] at hw2
  subst hw2
  exact ⟨_,_,congrArg some (leave_0 _ _ _)⟩
end Go.Proofs.YthndaonhmmlmcaaGreatDoor.AE
