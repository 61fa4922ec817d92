/- A part of the proof: the abstract executor and what goes through it (part 21). No condition. -/
import Derived.Test.YthndaonhmmlmcaaGreatDoorMq13
import Derived.Test.YthndaonhmmlmcaaGreatDoorMq3
import Derived.KernelRfl
import Derived.Laws.BitsLemmas
set_option maxRecDepth 100000
namespace Go.AE
theorem XFine.withX {Y:Exts} {f:FuncId} {g:Call→List AVal→List ABox→Option (CRes×List ABox×Bool)} (hY:XFine Y) (hg:∀c d aS h,g c aS h = g d aS h):XFine (withX Y f g) where
 mono i g' h:=by
  rcases withX_at h with ⟨_,rfl⟩ | h
  ·exact fun c d _ aS h x hx=>by rw [hg d c];exact hx
  ·exact hY.mono i g' h
 cont i g' h:=by
  rcases withX_at h with ⟨_,rfl⟩ | h
  ·exact fun c _ aS h x hx=>⟨0,by rw [hg (c 0) (limc c)];exact hx⟩
  ·exact hY.cont i g' h
end Go.AE
namespace Go.Proofs.YthndaonhmmlmcaaGreatDoor.AE
open Go.AE
theorem xfine0:XFine X where
 mono f g h:=by
  unfold X at h
  split at h
  all_goals first
   | (cases h;exact fun c d hc aS h=>gcall_mono hc (Nat.le_refl _))
   | (cases h;exact fun c d hc aS h x hx=>hx)
   | cases h
 cont f g h:=by
  unfold X at h
  split at h
  all_goals first
   | (cases h;exact fun c hc aS h x hx=>gcall_cont hc hx)
   | (cases h;exact fun c hc aS h x hx=>⟨0,hx⟩)
   | cases h
theorem xfine:XFine Z:=by
 repeat (first | exact xfine0 | refine XFine.withX ?_ (fun _ _ _ _=>rfl))
noncomputable def Wd:AE.Call:=W T.get Z
theorem Wd_fn {f:FuncId} {first args cap:List AVal} {h:List ABox} {fn:AFunc} (h1:Z f = none) (h2:T.get f = some fn) :
  Wd (.fn f first cap) args h = endR fn.results h (execW h.length Wd fn.code ⟨(first ++ args ++ cap).map AVal.dim ++ List.replicate (fn.ntmps - ((first ++ args ++ cap).map AVal.dim).length) (.tup []),h,false⟩):=W_go xfine h1 h2
theorem wrap_id {n:Int} (h1:-9223372036854775808 ≤ n) (h2:n ≤ 9223372036854775807):IntKind.i64.wrap n = n:=by
 rw [IntKind.wrap_i64]
 omega
theorem wrap_succ {n:Nat} (h:n < 9223372036854775807):IntKind.i64.wrap ((n:Int) + 1) = ((n + 1:Nat):Int):=by
 rw [wrap_id (by omega) (by omega)]
 rfl
abbrev Str:=List UInt8
theorem name_ex (s:Str) (h:List ABox):∃b,Wd (.fn 45 [] []) [.str s] h = some (.ret (.bool b),h,false):=by
 have loop:∀k st,(∃tt i,st = ⟨tt,h,false⟩∧tt.length = 50∧lkp tt 0 = .str s∧lkp tt 3 = .int .i64 (i:Nat)∧i + k = s.length∧s.length ≤ 16)→
   ∃x st',execW h.length Wd (.loop l45_0) st = some (x,st')∧(∃tt,st' = ⟨tt,h,false⟩∧tt.length = 50∧(x = .exit 0∨(x = .ret∧lkp tt 2 = .bool false))):=by
  refine loop_rule _ (fun x st'=>∃tt,st' = ⟨tt,h,false⟩∧tt.length = 50∧(x = .exit 0∨(x = .ret∧lkp tt 2 = .bool false))) ?_
  rintro k st ⟨tt,i,rfl,ht,e0,e3,hik,hl⟩
  generalize he:execW h.length Wd l45_0 _ = r
  rcases Nat.lt_or_ge i s.length with hi | hi
  ·have c1:ilt (i:Int) (s.length:Int) = true:=by rw [ilt_eq];simp;omega
   have hx:ixSV (.str s) (.int .i64 (i:Nat)) = some (.int .u8 (s[i].toNat:Nat)):=ixSV_get (List.getElem?_eq_getElem hi)
   have w:=wrap_succ (n:=i) (by omega)
   have hz:((i:Int) == 0) = (i == 0):=by rw [Bool.eq_iff_iff];simp
   simp only [l45_0,sT.1,sC.1,noApp,lookV,Nat.testBit,simprocAttr,-Int.reduceNatCast',ht,e0,e3,c1,hx,w,hz] at he
   cases hb:(!(ile 97 (s[i].toNat:Int) && ile (s[i].toNat:Int) 122) && (i == 0 || !(ile 48 (s[i].toNat:Int) && ile (s[i].toNat:Int) 57))) with
   | true=>
    simp only [hb,sT.1,sC.1,noApp,lookV,Nat.testBit,simprocAttr,-Int.reduceNatCast',ht] at he
    subst he
    refine .inr ⟨_,_,rfl,by simp,_,rfl,by simp only [length_up,ht],.inr ⟨rfl,?_⟩⟩
    simp only [sT.1,sC.1,noApp,lookV,Nat.testBit,simprocAttr,-Int.reduceNatCast',ht]
   | false=>
    simp only [hb,sT.1,sC.1,noApp,lookV,Nat.testBit,simprocAttr,-Int.reduceNatCast',ht,e3,w] at he
    subst he
    refine .inl ⟨_,k - 1,rfl,by omega,_,i + 1,rfl,by simp only [length_up,ht],?_,?_,by omega,hl⟩
    ·simp only [sT.1,sC.1,noApp,lookV,Nat.testBit,simprocAttr,-Int.reduceNatCast',ht,e0]
    ·simp only [sT.1,sC.1,noApp,lookV,Nat.testBit,simprocAttr,-Int.reduceNatCast',ht]
  ·have c1:ilt (i:Int) (s.length:Int) = false:=by rw [ilt_eq];simp;omega
   simp only [l45_0,sT.1,sC.1,noApp,lookV,Nat.testBit,simprocAttr,-Int.reduceNatCast',ht,e0,e3,c1] at he
   subst he
   exact .inr ⟨_,_,rfl,by simp,_,rfl,by simp only [length_up,ht],.inl rfl⟩
 generalize hw:Wd _ _ h = w
 rw [Wd_fn rfl (show T.get 45 = some c45 by kernel_rfl)] at hw
 by_cases g1:1 ≤ s.length∧s.length ≤ 16
 ·have d1:ilt (s.length:Int) 1 = false:=by rw [ilt_eq];simp;omega
  have d2:ilt 16 (s.length:Int) = false:=by rw [ilt_eq];simp;omega
  simp only [c45,sT.1,sC.1,noApp,lookV,Nat.testBit,simprocAttr,-Int.reduceNatCast',d1,d2] at hw
  generalize hr:execW h.length Wd (.loop l45_0) _ = r at hw
  obtain ⟨x,st',rfl,tt,rfl,ht,rfl | ⟨rfl,e2⟩⟩:=known hr (loop s.length _ ⟨_,0,rfl,by simp only [sT.1,sC.1,noApp,lookV,Nat.testBit,simprocAttr,-Int.reduceNatCast'],by simp only [sT.1,sC.1,noApp,lookV,Nat.testBit,simprocAttr,-Int.reduceNatCast'],by simp only [sT.1,sC.1,noApp,lookV,Nat.testBit,simprocAttr,-Int.reduceNatCast',Int.natCast_zero],by omega,g1.2⟩)
  ·simp only [sT.1,sC.1,noApp,lookV,Nat.testBit,simprocAttr,-Int.reduceNatCast',ht] at hw
   subst hw
   exact ⟨_,rfl⟩
  ·simp only [sT.1,sC.1,noApp,lookV,Nat.testBit,simprocAttr,-Int.reduceNatCast',ht,e2] at hw
   subst hw
   exact ⟨_,rfl⟩
 ·have d1:(ilt (s.length:Int) 1 || ilt 16 (s.length:Int)) = true:=by rw [ilt_eq,ilt_eq];simp;omega
  simp only [c45,sT.1,sC.1,noApp,lookV,Nat.testBit,simprocAttr,-Int.reduceNatCast',d1] at hw
  subst hw
  exact ⟨_,rfl⟩
inductive VF:AVal→Prop
 | mk (k n:Int) (s:Str) (ys:List AVal):(∀y ∈ ys,VF y)→VF (.agg [.int .i64 k,.int .i64 n,.str s,.lst ys .no])
set_option maxHeartbeats 1000000 in
theorem right_ex:∀(d:Nat),d ≤ 3→∀x,VF x→∀h,∃b,Wd (.fn 16 [] []) [x,.int .i64 (d:Nat)] h = some (.ret (.bool b),h,false):=by
 intro d
 induction d with
 | zero=>
  rintro _ x ⟨k,n,s,ys,hys⟩ h
  obtain ⟨b,hb⟩:=name_ex s (h ++ [.cells [.int .i64 k,.int .i64 n,.str s,.lst ys .no]])
  have z0:(((0:Nat):Int) == 0) = true:=by kernel_rfl
  generalize hw:Wd _ _ h = w
  rw [Wd_fn rfl (show T.get 16 = some c16 by kernel_rfl)] at hw
  cases e0:(k == 0) with
  | true=>
   simp only [c16,sT.1,sC.1,noApp,lookV,Nat.testBit,simprocAttr,-Int.reduceNatCast',e0] at hw
   subst hw
   exact ⟨_,rfl⟩
  | false=>
   cases e1:(k == 1) with
   | true=>
    simp only [c16,sT.1,sC.1,noApp,lookV,Nat.testBit,simprocAttr,-Int.reduceNatCast',e0,e1] at hw
    subst hw
    exact ⟨_,rfl⟩
   | false=>
    cases e2:(k == 2) with
    | true=>
     simp only [c16,sT.1,sC.1,noApp,lookV,Nat.testBit,simprocAttr,-Int.reduceNatCast',e0,e1,e2,hb] at hw
     subst hw
     exact ⟨_,rfl⟩
    | false=>
     simp only [c16,sT.1,sC.1,noApp,lookV,Nat.testBit,simprocAttr,-Int.reduceNatCast',e0,e1,e2,z0,Bool.or_true,Bool.true_or] at hw
     subst hw
     exact ⟨_,rfl⟩
 | succ d ih=>
  rintro hd x ⟨k,n,s,ys,hys⟩ h
  obtain ⟨b,hb⟩:=name_ex s (h ++ [.cells [.int .i64 k,.int .i64 n,.str s,.lst ys .no]])
  have hlt:h.length < (h ++ [ABox.cells [.int .i64 k,.int .i64 n,.str s,.lst ys .no]]).length:=by simp
  have hbx:(h ++ [ABox.cells [.int .i64 k,.int .i64 n,.str s,.lst ys .no]])[h.length]? = some (.cells [.int .i64 k,.int .i64 n,.str s,.lst ys .no]):=by simp
  have htk:(h ++ [ABox.cells [.int .i64 k,.int .i64 n,.str s,.lst ys .no]]).take h.length = h:=by simp
  have loop:ys.length ≤ 4→∀m st,(∃tt i,st = ⟨tt,h ++ [ABox.cells [.int .i64 k,.int .i64 n,.str s,.lst ys .no]],false⟩∧tt.length = 102∧lkp tt 1 = .int .i64 (d + 1:Nat)∧lkp tt 2 = .ptr h.length 0∧lkp tt 5 = .int .i64 (i:Nat)∧i + m = ys.length)→
    ∃x st',execW h.length Wd (.loop l16_0) st = some (x,st')∧(∃tt,st' = ⟨tt,h ++ [ABox.cells [.int .i64 k,.int .i64 n,.str s,.lst ys .no]],false⟩∧tt.length = 102∧(x = .exit 0∨(x = .ret∧lkp tt 4 = .bool false))):=by
   intro hl
   refine loop_rule _ (fun x st'=>∃tt,st' = ⟨tt,h ++ [ABox.cells [.int .i64 k,.int .i64 n,.str s,.lst ys .no]],false⟩∧tt.length = 102∧(x = .exit 0∨(x = .ret∧lkp tt 4 = .bool false))) ?_
   rintro m st ⟨tt,i,rfl,ht,e1,e2,e5,him⟩
   generalize he:execW h.length Wd l16_0 _ = r
   rcases Nat.lt_or_ge i ys.length with hi | hi
   ·have c1:ilt (i:Int) (ys.length:Int) = true:=by rw [ilt_eq];simp;omega
    have w:=wrap_succ (n:=i) (by omega)
    have w1:IntKind.i64.wrap (((d + 1:Nat):Int) - 1) = ((d:Nat):Int):=by rw [wrap_id (by omega) (by omega)];omega
    have hy:=hys _ (List.getElem_mem hi)
    obtain ⟨q,hq⟩:=ih (by omega) _ hy (h ++ [ABox.cells [.int .i64 k,.int .i64 n,.str s,.lst ys .no]])
    have hg:=List.getElem?_eq_getElem hi
    generalize ys[i] = y at hy hq hg
    obtain ⟨k',n',s',zs,hzs⟩:=hy
    have hx:ixaV 4 (.lst ys .no) (.int .i64 (i:Nat)) = some (.iptr [.int .i64 k',.int .i64 n',.str s',.lst zs .no] 0):=ixaV_get hg rfl
    cases q <;> simp only [l16_0,sT.1,sC.1,noApp,lookV,Nat.testBit,simprocAttr,-Int.reduceNatCast',ht,e1,e2,e5,c1,w,w1,hx,hq,hlt,hbx] at he <;> subst he
    ·refine .inr ⟨_,_,rfl,by simp,_,rfl,by simp only [length_up,ht],.inr ⟨rfl,?_⟩⟩
     simp only [sT.1,sC.1,noApp,lookV,Nat.testBit,simprocAttr,-Int.reduceNatCast',ht]
    ·refine .inl ⟨_,m - 1,rfl,by omega,_,i + 1,rfl,by simp only [length_up,ht],?_,?_,?_,by omega⟩
     ·simp only [sT.1,sC.1,noApp,lookV,Nat.testBit,simprocAttr,-Int.reduceNatCast',ht,e1]
     ·simp only [sT.1,sC.1,noApp,lookV,Nat.testBit,simprocAttr,-Int.reduceNatCast',ht,e2]
     ·simp only [sT.1,sC.1,noApp,lookV,Nat.testBit,simprocAttr,-Int.reduceNatCast',ht]
   ·have c1:ilt (i:Int) (ys.length:Int) = false:=by rw [ilt_eq];simp;omega
    simp only [l16_0,sT.1,sC.1,noApp,lookV,Nat.testBit,simprocAttr,-Int.reduceNatCast',ht,e1,e2,e5,c1,hlt,hbx] at he
    subst he
    exact .inr ⟨_,_,rfl,by simp,_,rfl,by simp only [length_up,ht],.inl rfl⟩
  generalize hw:Wd _ _ h = w
  rw [Wd_fn rfl (show T.get 16 = some c16 by kernel_rfl)] at hw
  cases e0:(k == 0) with
  | true=>
   simp only [c16,sT.1,sC.1,noApp,lookV,Nat.testBit,simprocAttr,-Int.reduceNatCast',e0] at hw
   subst hw
   exact ⟨_,rfl⟩
  | false=>
   cases e1:(k == 1) with
   | true=>
    simp only [c16,sT.1,sC.1,noApp,lookV,Nat.testBit,simprocAttr,-Int.reduceNatCast',e0,e1] at hw
    subst hw
    exact ⟨_,rfl⟩
   | false=>
    cases e2:(k == 2) with
    | true=>
     simp only [c16,sT.1,sC.1,noApp,lookV,Nat.testBit,simprocAttr,-Int.reduceNatCast',e0,e1,e2,hb] at hw
     subst hw
     exact ⟨_,rfl⟩
    | false=>
     cases hc:(!(k == 3) || !(n == 0) || !(s == []) || ((d + 1:Nat):Int) == 0 || ilt (ys.length:Int) 1 || ilt 4 (ys.length:Int)) with
     | true=>
      simp only [c16,sT.1,sC.1,noApp,lookV,Nat.testBit,simprocAttr,-Int.reduceNatCast',e0,e1,e2,hc] at hw
      subst hw
      exact ⟨_,rfl⟩
     | false=>
      have hl:ys.length ≤ 4:=by
       simp only [Bool.or_eq_false_iff] at hc
       have:=hc.2
       rw [ilt_eq] at this
       simp at this
       omega
      simp only [c16,sT.1,sC.1,noApp,lookV,Nat.testBit,simprocAttr,-Int.reduceNatCast',e0,e1,e2,hc] at hw
      generalize hr:execW h.length Wd (.loop l16_0) _ = r at hw
      obtain ⟨x,st',rfl,tt,rfl,ht,rfl | ⟨rfl,e4⟩⟩:=known hr (loop hl ys.length _ ⟨_,0,rfl,by simp only [sT.1,sC.1,noApp,lookV,Nat.testBit,simprocAttr,-Int.reduceNatCast'],by simp only [sT.1,sC.1,noApp,lookV,Nat.testBit,simprocAttr,-Int.reduceNatCast'],by simp only [sT.1,sC.1,noApp,lookV,Nat.testBit,simprocAttr,-Int.reduceNatCast'],by simp only [sT.1,sC.1,noApp,lookV,Nat.testBit,simprocAttr,-Int.reduceNatCast',Int.natCast_zero],by omega⟩)
      ·simp only [sT.1,sC.1,noApp,lookV,Nat.testBit,simprocAttr,-Int.reduceNatCast',ht,htk] at hw
       subst hw
       exact ⟨_,rfl⟩
      ·simp only [sT.1,sC.1,noApp,lookV,Nat.testBit,simprocAttr,-Int.reduceNatCast',ht,e4,htk] at hw
       subst hw
       exact ⟨_,rfl⟩
def MF (x:AVal):Prop:=∃(p:Str) (k n:Int) (s:Str) (ys:List AVal),x = .agg [.str p,.int .i64 k,.int .i64 n,.str s,.lst ys .no]∧∀y ∈ ys,VF y
def actV (xs:List AVal):AVal:=.agg [.bool false,.int .i64 0,.int .i64 0,.lst xs .no,.str [],.lst [] .full]
theorem small_ex (xs:List AVal) (hxs:∀x ∈ xs,MF x) (h:List ABox):∃r:Int,Wd (.fn 4 [] []) [.lst [actV xs] .full] h = some (.ret (.int .i64 r),h,false):=by
 have z1:((1:Nat):Int) = 1:=by kernel_rfl
 have z8:(ilt 8 ((0:Nat):Int) || ilt 300 ((0:Nat):Int)) = false:=by kernel_rfl
 have z30:ilt 30 1 = false:=by kernel_rfl
 have z01:ilt 0 1 = true:=by kernel_rfl
 have z11:ilt 1 1 = false:=by kernel_rfl
 have w0:IntKind.i64.wrap 1 = 1:=by kernel_rfl
 have zz:((0:Nat):Int) = 0:=by kernel_rfl
 have hx0:ixaV 6 (.lst [.agg [.bool false,.int .i64 0,.int .i64 0,.lst xs .no,.str [],.lst [] .full]] .full) (.int .i64 0) = some (.iptr [.bool false,.int .i64 0,.int .i64 0,.lst xs .no,.str [],.lst [] .full] 0):=by kernel_rfl
 have inner:xs.length ≤ 30→∀m st,(∃tt i g,st = ⟨tt,g,false⟩∧tt.length = 74∧lkp tt 0 = .lst [actV xs] .full∧lkp tt 3 = .int .i64 0∧lkp tt 4 = .int .i64 (i:Nat)∧i + m = xs.length∧h.length ≤ g.length∧g.take h.length = h)→
   ∃x st',execW h.length Wd (.loop l4_0) st = some (x,st')∧(∃tt g,st' = ⟨tt,g,false⟩∧tt.length = 74∧lkp tt 0 = .lst [actV xs] .full∧lkp tt 3 = .int .i64 0∧h.length ≤ g.length∧g.take h.length = h∧(x = .exit 2∨(x = .ret∧lkp tt 2 = .int .i64 0))):=by
  intro hl
  refine loop_rule _ (fun x st'=>∃tt g,st' = ⟨tt,g,false⟩∧tt.length = 74∧lkp tt 0 = .lst [actV xs] .full∧lkp tt 3 = .int .i64 0∧h.length ≤ g.length∧g.take h.length = h∧(x = .exit 2∨(x = .ret∧lkp tt 2 = .int .i64 0))) ?_
  rintro m st ⟨tt,i,g,rfl,ht,e0,e3,e4,him,hg1,hg2⟩
  rw [actV] at e0
  generalize he:execW h.length Wd l4_0 _ = r
  rcases Nat.lt_or_ge i xs.length with hi | hi
  ·have c1:ilt (i:Int) (xs.length:Int) = true:=by rw [ilt_eq];simp;omega
   have w:=wrap_succ (n:=i) (by omega)
   have hm:=hxs _ (List.getElem_mem hi)
   have hg:=List.getElem?_eq_getElem hi
   generalize xs[i] = y at hm hg
   obtain ⟨p,k,n,s,ys,rfl,hys⟩:=hm
   have hx:ixaV 5 (.lst xs .no) (.int .i64 (i:Nat)) = some (.iptr [.str p,.int .i64 k,.int .i64 n,.str s,.lst ys .no] 0):=ixaV_get hg rfl
   obtain ⟨q,hq⟩:=right_ex 3 (by omega) _ (VF.mk k n s ys hys) (g ++ [.cells [.int .i64 k,.int .i64 n,.str s,.lst ys .no]])
   have c3:((3:Nat):Int) = 3:=by kernel_rfl
   rw [c3] at hq
   have hb:Nat.ble h.length g.length = true:=ble_true hg1
   have e0':∀v w,lkp (up (up tt 2 v) 5 w) 0 = .lst [actV xs] .full:=fun v w=>by simp only [sT.1,sC.1,noApp,lookV,Nat.testBit,simprocAttr,-Int.reduceNatCast',ht,e0,actV]
   have hg3:h.length ≤ (g ++ [ABox.cells [.int .i64 k,.int .i64 n,.str s,.lst ys .no]]).length:=by simp;omega
   have hg4:(g ++ [ABox.cells [.int .i64 k,.int .i64 n,.str s,.lst ys .no]]).take h.length = h:=by rw [List.take_append_of_le_length hg1,hg2]
   cases hc:(ilt 100 (s.length:Int) || ilt 20 (ys.length:Int)) with
   | true=>
    simp only [l4_0,sT.1,sC.1,noApp,lookV,Nat.testBit,simprocAttr,-Int.reduceNatCast',ht,e0,e3,e4,c1,w,hx0,hx,hb,hc] at he
    subst he
    refine .inr ⟨_,_,rfl,by simp,_,_,rfl,by simp only [length_up,ht],?_,?_,hg3,hg4,.inr ⟨rfl,?_⟩⟩
    ·simp only [sT.1,sC.1,noApp,lookV,Nat.testBit,simprocAttr,-Int.reduceNatCast',ht,e0,actV]
    ·simp only [sT.1,sC.1,noApp,lookV,Nat.testBit,simprocAttr,-Int.reduceNatCast',ht,e3]
    ·simp only [sT.1,sC.1,noApp,lookV,Nat.testBit,simprocAttr,-Int.reduceNatCast',ht]
   | false=>
    cases q with
    | true=>
     simp only [l4_0,sT.1,sC.1,noApp,lookV,Nat.testBit,simprocAttr,-Int.reduceNatCast',ht,e0,e3,e4,c1,w,hx0,hx,hb,hc,hq] at he
     subst he
     refine .inl ⟨_,m - 1,rfl,by omega,_,i + 1,_,rfl,by simp only [length_up,ht],?_,?_,?_,by omega,hg3,hg4⟩
     ·simp only [sT.1,sC.1,noApp,lookV,Nat.testBit,simprocAttr,-Int.reduceNatCast',ht,e0,actV]
     ·simp only [sT.1,sC.1,noApp,lookV,Nat.testBit,simprocAttr,-Int.reduceNatCast',ht,e3]
     ·simp only [sT.1,sC.1,noApp,lookV,Nat.testBit,simprocAttr,-Int.reduceNatCast',ht]
    | false=>
     simp only [l4_0,sT.1,sC.1,noApp,lookV,Nat.testBit,simprocAttr,-Int.reduceNatCast',ht,e0,e3,e4,c1,w,hx0,hx,hb,hc,hq] at he
     subst he
     refine .inr ⟨_,_,rfl,by simp,_,_,rfl,by simp only [length_up,ht],?_,?_,hg3,hg4,.inr ⟨rfl,?_⟩⟩
     ·simp only [sT.1,sC.1,noApp,lookV,Nat.testBit,simprocAttr,-Int.reduceNatCast',ht,e0,actV]
     ·simp only [sT.1,sC.1,noApp,lookV,Nat.testBit,simprocAttr,-Int.reduceNatCast',ht,e3]
     ·simp only [sT.1,sC.1,noApp,lookV,Nat.testBit,simprocAttr,-Int.reduceNatCast',ht]
  ·have c1:ilt (i:Int) (xs.length:Int) = false:=by rw [ilt_eq];simp;omega
   simp only [l4_0,sT.1,sC.1,noApp,lookV,Nat.testBit,simprocAttr,-Int.reduceNatCast',ht,e0,e3,e4,c1,hx0] at he
   subst he
   exact .inr ⟨_,_,rfl,by simp,_,g,rfl,by simp only [length_up,ht],by simp only [sT.1,sC.1,noApp,lookV,Nat.testBit,simprocAttr,-Int.reduceNatCast',ht,e0,actV],by simp only [sT.1,sC.1,noApp,lookV,Nat.testBit,simprocAttr,-Int.reduceNatCast',ht,e3],hg1,hg2,.inl rfl⟩
 generalize hw:Wd _ _ h = w
 rw [Wd_fn rfl (show T.get 4 = some c4 by kernel_rfl),actV] at hw
 cases hc:ilt 30 (xs.length:Int) with
 | true=>
  simp only [c4,execW_loop,l4_1,sT.1,sC.1,noApp,lookV,Nat.testBit,simprocAttr,-Int.reduceNatCast',z1,z8,z30,z01,z11,w0,hx0,hc] at hw
  subst hw
  exact ⟨_,rfl⟩
 | false=>
  have hl:xs.length ≤ 30:=by rw [ilt_eq] at hc;simp at hc;omega
  generalize hL:(ACode.loop l4_0) = L at inner
  simp only [c4,execW_loop,l4_1,hL,sT.1,sC.1,noApp,lookV,Nat.testBit,simprocAttr,-Int.reduceNatCast',z1,z8,z30,z01,z11,w0,hx0,hc] at hw
  generalize hr:execW h.length Wd L _ = r at hw
  obtain ⟨x,st',rfl,tt,g,rfl,ht,e0,e3,hg1,hg2,rfl | ⟨rfl,e2⟩⟩:=known hr (inner hl xs.length _ ⟨_,0,h,rfl,by simp only [sT.1,sC.1,noApp,lookV,Nat.testBit,simprocAttr,-Int.reduceNatCast'],by simp only [sT.1,sC.1,noApp,lookV,Nat.testBit,simprocAttr,-Int.reduceNatCast',actV],by simp only [sT.1,sC.1,noApp,lookV,Nat.testBit,simprocAttr,-Int.reduceNatCast'],by simp only [sT.1,sC.1,noApp,lookV,Nat.testBit,simprocAttr,-Int.reduceNatCast',Int.natCast_zero],by omega,Nat.le_refl _,by simp⟩)
  ·rw [actV] at e0
   simp only [execW_loop,sT.1,sC.1,noApp,lookV,Nat.testBit,simprocAttr,-Int.reduceNatCast',ht,e0,e3,z1,z01,z11,w0,hg2] at hw
   subst hw
   exact ⟨_,congrArg some (leave_cut hg2 rfl)⟩
  ·simp only [sT.1,sC.1,noApp,lookV,Nat.testBit,simprocAttr,-Int.reduceNatCast',ht,e2,hg2] at hw
   subst hw
   exact ⟨_,congrArg some (leave_cut hg2 rfl)⟩
end Go.Proofs.YthndaonhmmlmcaaGreatDoor.AE
