/- A part of the proof: the abstract executor and what goes through it (part 16). No condition. -/
import Derived.Test.YtfmkpcgpkdnioaaGreatDoorMq15
set_option maxRecDepth 100000
namespace Go.Proofs.YtfmkpcgpkdnioaaGreatDoor.AE
open Go.AE
def right:Nat→Exl→Bool
 | 0,_=>false
 | d + 1,.mk op n nm sub aS=>nodeB op n nm sub aS.length && aS.all (right d)
theorem ilt_not (a b:Int):ilt a b = !(ile b a):=by
 rw [ilt_eq,ile_eq]
 by_cases h:a < b
 ·rw [decide_eq_true h,decide_eq_false (by omega)];rfl
 ·rw [decide_eq_false h,decide_eq_true (by omega)];rfl
theorem ile3 (n:Int):ilt n 4 = ile n 3:=by
 rw [ilt_eq,ile_eq]
 by_cases h:n < 4
 ·rw [decide_eq_true h,decide_eq_true (by omega)]
 ·rw [decide_eq_false h,decide_eq_false (by omega)]
def Asks (d:Nat):Prop:=∀(e:Exl) (h:List ABox),(∃k,Fit k e)→Wd (.fn 8 [] []) [exV e,.int .i64 (d:Nat)] h = some (.ret (.bool (right d e)),h,false)
section
variable {d:Nat} {h:List ABox}
theorem ex_loop (hd:d < 100) (ih:Asks d) {n:Int} {op:Int} {nm sub:Str} {aS:List Exl} (hl:aS.length < 1000000000) (hf:∀a ∈ aS,∃k,Fit k a):∀k st,(∃tt i,st = ⟨tt,h ++ [.cells [.int .i64 op,.int .i64 n,.str nm,.str sub,.lst (aS.map exV) .no]],false⟩∧tt.length = 126∧lkp tt 1 = .int .i64 (d + 1:Nat)∧lkp tt 2 = .ptr h.length 0∧lkp tt 10 = .int .i64 (i:Nat)∧i + k = aS.length∧(aS.drop i).all (right d) = aS.all (right d))→
  ∃x st',execW h.length Wd (.loop l8_0) st = some (x,st')∧(∃tt,st' = ⟨tt,h ++ [.cells [.int .i64 op,.int .i64 n,.str nm,.str sub,.lst (aS.map exV) .no]],false⟩∧tt.length = 126∧((x = .exit 1∧aS.all (right d) = true)∨(x = .ret∧aS.all (right d) = false∧lkp tt 4 = .bool false))):=by
 obtain ⟨G,hG⟩ :∃G,G = h ++ [ABox.cells [.int .i64 op,.int .i64 n,.str nm,.str sub,.lst (aS.map exV) .no]]:=⟨_,rfl⟩
 have hbx:G[h.length]? = some (.cells [.int .i64 op,.int .i64 n,.str nm,.str sub,.lst (aS.map exV) .no]):=by rw [hG,get_at];rfl
 rw [←hG]
 refine loop_rule _ (fun x st'=>∃tt,st' = ⟨tt,G,false⟩∧tt.length = 126∧((x = .exit 1∧aS.all (right d) = true)∨(x = .ret∧aS.all (right d) = false∧lkp tt 4 = .bool false))) ?_
 rintro k st ⟨tt,i,rfl,ht,e1,e2,e10,hik,hR⟩
 generalize he:execW h.length Wd l8_0 _ = r
 rcases Nat.lt_or_ge i aS.length with hi | hi
 ·have c1:ilt (i:Int) (aS.length:Int) = true:=by rw [ilt_eq];simp;omega
  have w:=wrap_succ (n:=i) (by omega)
  have wd:IntKind.i64.wrap (((d + 1:Nat):Int) - 1) = ((d:Nat):Int):=by rw [wrap_id (by omega) (by omega)];omega
  have hr':=ih aS[i] G (hf _ (List.getElem_mem hi))
  have hg:(aS.map exV)[i]? = some (exV aS[i]):=by rw [List.getElem?_map,List.getElem?_eq_getElem hi];rfl
  rw [List.drop_eq_getElem_cons hi,List.all_cons] at hR
  generalize aS[i] = y at hr' hg hR
  obtain ⟨op',n',nm',sb',as'⟩:=y
  rw [exV_mk] at hr' hg
  have hx:ixaV 5 (.lst (aS.map exV) .no) (.int .i64 (i:Nat)) = some (.iptr [.int .i64 op',.int .i64 n',.str nm',.str sb',.lst (as'.map exV) .no] 0):=ixaV_get hg rfl
  cases hb:right d (.mk op' n' nm' sb' as') with
  | true=>
   rw [hb,Bool.true_and] at hR
   rw [hb] at hr'
   simp only [l8_0,sT.1,sC.1,noApp,lookV,Nat.testBit,simprocAttr,-Int.reduceNatCast',ht,e1,e2,e10,c1,w,wd,hx,hbx,hr',List.length_map] at he
   subst he
   refine .inl ⟨_,k - 1,rfl,by omega,_,i + 1,rfl,by simp only [length_up,ht],?_,?_,?_,by omega,hR⟩
   ·simp only [sT.1,sC.1,noApp,lookV,Nat.testBit,simprocAttr,-Int.reduceNatCast',ht,e1]
   ·simp only [sT.1,sC.1,noApp,lookV,Nat.testBit,simprocAttr,-Int.reduceNatCast',ht,e2]
   ·simp only [sT.1,sC.1,noApp,lookV,Nat.testBit,simprocAttr,-Int.reduceNatCast',ht]
  | false=>
   rw [hb,Bool.false_and] at hR
   rw [hb] at hr'
   simp only [l8_0,sT.1,sC.1,noApp,lookV,Nat.testBit,simprocAttr,-Int.reduceNatCast',ht,e1,e2,e10,c1,w,wd,hx,hbx,hr',List.length_map] at he
   subst he
   exact .inr ⟨_,_,rfl,by simp,_,rfl,by simp only [length_up,ht],.inr ⟨rfl,hR.symm,by simp only [sT.1,sC.1,noApp,lookV,Nat.testBit,simprocAttr,-Int.reduceNatCast',ht]⟩⟩
 ·have c1:ilt (i:Int) (aS.length:Int) = false:=by rw [ilt_eq];simp;omega
  rw [List.drop_eq_nil_of_le hi,List.all_nil] at hR
  simp only [l8_0,sT.1,sC.1,noApp,lookV,Nat.testBit,simprocAttr,-Int.reduceNatCast',ht,e1,e2,e10,c1,hbx,List.length_map] at he
  subst he
  exact .inr ⟨_,_,rfl,by simp,_,rfl,by simp only [length_up,ht],.inl ⟨rfl,hR.symm⟩⟩
end
end Go.Proofs.YtfmkpcgpkdnioaaGreatDoor.AE
