/- A part of the proof: the abstract executor and what goes through it (part 17). No condition. -/
import Derived.Test.YtkmlapholimbcaaGreatDoorMp16
import Derived.Test.YtkmlapholimbcaaGreatDoorMp14
import Derived.Test.YtkmlapholimbcaaGreatDoorMp2
import Derived.Test.YtkmlapholimbcaaGreatDoorProg
import Derived.KernelRfl
set_option maxRecDepth 100000
namespace Go.Proofs.YtkmlapholimbcaaGreatDoor.AE
open Go.AE
structure Smr (P A:Nat) (i:Nat) (tt:List qf):Prop where
 len:tt.length = 171
 r1:lkp tt 1 = .ptr P 0
 r4:lkp tt 4 = .int .i64 (i:Nat)
 r5:lkp tt 5 = .ptr A 0
section
variable {P A j:Nat} {G:List qq} {m:qy}
set_option maxHeartbeats 2000000 in
theorem qt9 (hG:G[A]? = some (.cells m.cs)) (hn:qdB m.ta) {room:Int} :
  ∀q st,(∃(tt:List qf) (i:Nat) (rm:Int),st = ⟨tt,G,false⟩∧Smr P A j tt∧lkp tt 3 = .int .i64 rm∧lkp tt 6 = .int .i64 (i:Nat)∧i + q = m.ta.length∧-1 ≤ rm∧rm ≤ 600∧(0 ≤ rm→(∀e ∈ m.ta.take i,Go1 e)∧rm + i ≤ room))→
   ∃x st',qx P Wd (.loop qiT) st = some (x,st')∧(x = .exit 2∧∃(tt:List qf) (rm:Int),st' = ⟨tt,G,false⟩∧Smr P A j tt∧lkp tt 3 = .int .i64 rm∧-1 ≤ rm∧rm ≤ 600∧(0 ≤ rm→(∀e ∈ m.ta,Go1 e)∧rm + m.ta.length ≤ room)):=by
 refine qD _ (fun x st'=>x = .exit 2∧∃(tt:List qf) (rm:Int),st' = ⟨tt,G,false⟩∧Smr P A j tt∧lkp tt 3 = .int .i64 rm∧-1 ≤ rm∧rm ≤ 600∧(0 ≤ rm→(∀e ∈ m.ta,Go1 e)∧rm + m.ta.length ≤ room)) ?_
 rintro q st ⟨tt,i,rm,rfl,⟨ht,e1,e4,e5⟩,e3,e6,hiq,hr1,hr2,hfit⟩
 have hA:=(List.getElem?_eq_some_iff.1 hG).1
 rw [qy.cs] at hG
 generalize he:qx P Wd qiT _ = r
 rcases Nat.lt_or_ge i m.ta.length with hi | hi
 ·have c1:ilt (i:Int) (m.ta.length:Int) = true:=qcK (by omega)
  by_cases hrm:0 ≤ rm
  ·have c2:ile 0 rm = true:=qli hrm
   have w:=qE (n:=i) (by have:=hn;unfold qdB at this;omega)
   obtain ⟨r',hr',b1,b2,b3⟩:=e40 m.ta[i] hr1 hr2 G
   have hfit2:0 ≤ r'→(∀e ∈ m.ta.take (i + 1),Go1 e)∧r' + ((i + 1:Nat):Int) ≤ room:=fun h0=>by
    have f1:=hfit hrm
    have f2:=b3 h0
    rw [List.take_succ_eq_append_getElem hi]
    refine ⟨fun s hs=>?_,by omega⟩
    rcases List.mem_append.1 hs with hs | hs
    ·exact f1.1 s hs
    ·rw [List.mem_singleton] at hs
     subst hs
     exact f2.1
   have hg:(m.ta.map exV)[i]? = some (exV m.ta[i]):=by rw [List.getElem?_map,List.getElem?_eq_getElem hi];rfl
   generalize m.ta[i] = y at hr' hg
   obtain ⟨op,n,m2,sb,aS⟩:=y
   rw [ql] at hr' hg
   have hx:qa3 5 (.lst (m.ta.map exV) .no) (.int .i64 (i:Nat)) = some (.iptr [.int .i64 op,.int .i64 n,.str m2,.str sb,.lst (aS.map exV) .no] 0):=qu hg rfl
   simp only [qiT,sT.1,sC.1,qe,qd,Nat.testBit,simprocAttr,-Int.reduceNatCast',ht,e1,e3,e4,e5,e6,c1,c2,w,hx,hG,hr',List.length_map] at he
   subst he
   refine .inl ⟨_,q - 1,rfl,by omega,_,i + 1,r',rfl,⟨by simp only [qh,ht],?_,?_,?_⟩,?_,?_,by omega,b1,b2,hfit2⟩
   all_goals simp only [sT.1,sC.1,qe,qd,Nat.testBit,simprocAttr,-Int.reduceNatCast',ht,e1,e4,e5]
  ·have c2:ile 0 rm = false:=qoF hrm
   simp only [qiT,sT.1,sC.1,qe,qd,Nat.testBit,simprocAttr,-Int.reduceNatCast',ht,e1,e3,e4,e5,e6,c1,c2,hG,List.length_map] at he
   subst he
   exact .inr ⟨_,_,rfl,by simp,rfl,_,rm,rfl,⟨by simp only [qh,ht],by simp only [sT.1,sC.1,qe,qd,Nat.testBit,simprocAttr,-Int.reduceNatCast',ht,e1],by simp only [sT.1,sC.1,qe,qd,Nat.testBit,simprocAttr,-Int.reduceNatCast',ht,e4],by simp only [sT.1,sC.1,qe,qd,Nat.testBit,simprocAttr,-Int.reduceNatCast',ht,e5]⟩,by simp only [sT.1,sC.1,qe,qd,Nat.testBit,simprocAttr,-Int.reduceNatCast',ht,e3],hr1,hr2,fun h0=>absurd h0 hrm⟩
 ·have c1:ilt (i:Int) (m.ta.length:Int) = false:=qcJ (by omega)
  rw [List.take_of_length_le hi] at hfit
  simp only [qiT,sT.1,sC.1,qe,qd,Nat.testBit,simprocAttr,-Int.reduceNatCast',ht,e1,e3,e4,e5,e6,c1,hG,List.length_map] at he
  subst he
  exact .inr ⟨_,_,rfl,by simp,rfl,_,rm,rfl,⟨by simp only [qh,ht],by simp only [sT.1,sC.1,qe,qd,Nat.testBit,simprocAttr,-Int.reduceNatCast',ht,e1],by simp only [sT.1,sC.1,qe,qd,Nat.testBit,simprocAttr,-Int.reduceNatCast',ht,e4],by simp only [sT.1,sC.1,qe,qd,Nat.testBit,simprocAttr,-Int.reduceNatCast',ht,e5]⟩,by simp only [sT.1,sC.1,qe,qd,Nat.testBit,simprocAttr,-Int.reduceNatCast',ht,e3],hr1,hr2,fun h0=>⟨(hfit h0).1,by have:=(hfit h0).2;omega⟩⟩
set_option maxHeartbeats 2000000 in
theorem qqX (hG:G[A]? = some (.cells m.cs)) {k:Nat} {pt:Str} {op n:Int} {m2 sb:Str} {aS:List qf} {l:List Exl} (hx7:qa3 7 (.lst (m.emits.map qam.enc) .no) (.int .i64 (k:Nat)) = some (.iptr [.str pt,.int .i64 op,.int .i64 n,.str m2,.str sb,.lst aS .no,.lst (l.map exV) .no] 0)) (hn:qdB l) {room:Int} :
  ∀q st,(∃(tt:List qf) (i:Nat) (rm:Int),st = ⟨tt,G,false⟩∧Smr P A j tt∧lkp tt 3 = .int .i64 rm∧lkp tt 7 = .int .i64 (k:Nat)∧lkp tt 8 = .int .i64 (i:Nat)∧i + q = l.length∧-1 ≤ rm∧rm ≤ 600∧(0 ≤ rm→(∀e ∈ l.take i,Go1 e)∧rm + i ≤ room))→
   ∃x st',qx P Wd (.loop qiU) st = some (x,st')∧(x = .exit 6∧∃(tt:List qf) (rm:Int),st' = ⟨tt,G,false⟩∧Smr P A j tt∧lkp tt 3 = .int .i64 rm∧lkp tt 7 = .int .i64 (k:Nat)∧-1 ≤ rm∧rm ≤ 600∧(0 ≤ rm→(∀e ∈ l,Go1 e)∧rm + l.length ≤ room)):=by
 refine qD _ (fun x st'=>x = .exit 6∧∃(tt:List qf) (rm:Int),st' = ⟨tt,G,false⟩∧Smr P A j tt∧lkp tt 3 = .int .i64 rm∧lkp tt 7 = .int .i64 (k:Nat)∧-1 ≤ rm∧rm ≤ 600∧(0 ≤ rm→(∀e ∈ l,Go1 e)∧rm + l.length ≤ room)) ?_
 rintro q st ⟨tt,i,rm,rfl,⟨ht,e1,e4,e5⟩,e3,e7,e8,hiq,hr1,hr2,hfit⟩
 have hA:=(List.getElem?_eq_some_iff.1 hG).1
 rw [qy.cs] at hG
 generalize he:qx P Wd qiU _ = r
 rcases Nat.lt_or_ge i l.length with hi | hi
 ·have c1:ilt (i:Int) (l.length:Int) = true:=qcK (by omega)
  by_cases hrm:0 ≤ rm
  ·have c2:ile 0 rm = true:=qli hrm
   have w:=qE (n:=i) (by have:=hn;unfold qdB at this;omega)
   obtain ⟨r',hr',b1,b2,b3⟩:=e40 l[i] hr1 hr2 G
   have hfit2:0 ≤ r'→(∀e ∈ l.take (i + 1),Go1 e)∧r' + ((i + 1:Nat):Int) ≤ room:=fun h0=>by
    have f1:=hfit hrm
    have f2:=b3 h0
    rw [List.take_succ_eq_append_getElem hi]
    refine ⟨fun s hs=>?_,by omega⟩
    rcases List.mem_append.1 hs with hs | hs
    ·exact f1.1 s hs
    ·rw [List.mem_singleton] at hs
     subst hs
     exact f2.1
   have hg:(l.map exV)[i]? = some (exV l[i]):=by rw [List.getElem?_map,List.getElem?_eq_getElem hi];rfl
   generalize l[i] = y at hr' hg
   obtain ⟨op,n,m2,sb,aS⟩:=y
   rw [ql] at hr' hg
   have hx:qa3 5 (.lst (l.map exV) .no) (.int .i64 (i:Nat)) = some (.iptr [.int .i64 op,.int .i64 n,.str m2,.str sb,.lst (aS.map exV) .no] 0):=qu hg rfl
   simp only [qiU,sT.1,sC.1,qe,qd,Nat.testBit,simprocAttr,-Int.reduceNatCast',ht,e1,e3,e4,e5,e7,e8,c1,c2,w,hx,hx7,hG,hr',List.length_map] at he
   subst he
   refine .inl ⟨_,q - 1,rfl,by omega,_,i + 1,r',rfl,⟨by simp only [qh,ht],?_,?_,?_⟩,?_,?_,?_,by omega,b1,b2,hfit2⟩
   all_goals simp only [sT.1,sC.1,qe,qd,Nat.testBit,simprocAttr,-Int.reduceNatCast',ht,e1,e4,e5,e7]
  ·have c2:ile 0 rm = false:=qoF hrm
   simp only [qiU,sT.1,sC.1,qe,qd,Nat.testBit,simprocAttr,-Int.reduceNatCast',ht,e1,e3,e4,e5,e7,e8,c1,c2,hx7,hG,List.length_map] at he
   subst he
   exact .inr ⟨_,_,rfl,by simp,rfl,_,rm,rfl,⟨by simp only [qh,ht],by simp only [sT.1,sC.1,qe,qd,Nat.testBit,simprocAttr,-Int.reduceNatCast',ht,e1],by simp only [sT.1,sC.1,qe,qd,Nat.testBit,simprocAttr,-Int.reduceNatCast',ht,e4],by simp only [sT.1,sC.1,qe,qd,Nat.testBit,simprocAttr,-Int.reduceNatCast',ht,e5]⟩,by simp only [sT.1,sC.1,qe,qd,Nat.testBit,simprocAttr,-Int.reduceNatCast',ht,e3],by simp only [sT.1,sC.1,qe,qd,Nat.testBit,simprocAttr,-Int.reduceNatCast',ht,e7],hr1,hr2,fun h0=>absurd h0 hrm⟩
 ·have c1:ilt (i:Int) (l.length:Int) = false:=qcJ (by omega)
  rw [List.take_of_length_le hi] at hfit
  simp only [qiU,sT.1,sC.1,qe,qd,Nat.testBit,simprocAttr,-Int.reduceNatCast',ht,e1,e3,e4,e5,e7,e8,c1,hx7,hG,List.length_map] at he
  subst he
  exact .inr ⟨_,_,rfl,by simp,rfl,_,rm,rfl,⟨by simp only [qh,ht],by simp only [sT.1,sC.1,qe,qd,Nat.testBit,simprocAttr,-Int.reduceNatCast',ht,e1],by simp only [sT.1,sC.1,qe,qd,Nat.testBit,simprocAttr,-Int.reduceNatCast',ht,e4],by simp only [sT.1,sC.1,qe,qd,Nat.testBit,simprocAttr,-Int.reduceNatCast',ht,e5]⟩,by simp only [sT.1,sC.1,qe,qd,Nat.testBit,simprocAttr,-Int.reduceNatCast',ht,e3],by simp only [sT.1,sC.1,qe,qd,Nat.testBit,simprocAttr,-Int.reduceNatCast',ht,e7],hr1,hr2,fun h0=>⟨(hfit h0).1,by have:=(hfit h0).2;omega⟩⟩
set_option maxHeartbeats 2000000 in
theorem qjv (hG:G[A]? = some (.cells m.cs)) (hn:qdB m.rules) {room:Int} :
  ∀q st,(∃(tt:List qf) (i:Nat) (rm:Int),st = ⟨tt,G,false⟩∧Smr P A j tt∧lkp tt 3 = .int .i64 rm∧lkp tt 9 = .int .i64 (i:Nat)∧i + q = m.rules.length∧-1 ≤ rm∧rm ≤ 600∧(0 ≤ rm→(∀r ∈ m.rules.take i,Go1 r.e∧r.acts.length ≤ 100)∧rm + i ≤ room))→
   ∃x st',qx P Wd (.loop qhL) st = some (x,st')∧((x = .exit 8∧∃(tt:List qf) (rm:Int),st' = ⟨tt,G,false⟩∧Smr P A j tt∧lkp tt 3 = .int .i64 rm∧-1 ≤ rm∧rm ≤ 600∧(0 ≤ rm→(∀r ∈ m.rules,Go1 r.e∧r.acts.length ≤ 100)∧rm + m.rules.length ≤ room))∨(x = .ret∧∃tt,st' = ⟨tt,G,false⟩∧tt.length = 171∧lkp tt 2 = .int .i64 0)):=by
 refine qD _ (fun x st'=>(x = .exit 8∧∃(tt:List qf) (rm:Int),st' = ⟨tt,G,false⟩∧Smr P A j tt∧lkp tt 3 = .int .i64 rm∧-1 ≤ rm∧rm ≤ 600∧(0 ≤ rm→(∀r ∈ m.rules,Go1 r.e∧r.acts.length ≤ 100)∧rm + m.rules.length ≤ room))∨(x = .ret∧∃tt,st' = ⟨tt,G,false⟩∧tt.length = 171∧lkp tt 2 = .int .i64 0)) ?_
 rintro q st ⟨tt,i,rm,rfl,⟨ht,e1,e4,e5⟩,e3,e9,hiq,hr1,hr2,hfit⟩
 have hA:=(List.getElem?_eq_some_iff.1 hG).1
 rw [qy.cs] at hG
 generalize he:qx P Wd qhL _ = r
 rcases Nat.lt_or_ge i m.rules.length with hi | hi
 ·have c1:ilt (i:Int) (m.rules.length:Int) = true:=qcK (by omega)
  by_cases hrm:0 ≤ rm
  ·have c2:ile 0 rm = true:=qli hrm
   have w:=qE (n:=i) (by have:=hn;unfold qdB at this;omega)
   obtain ⟨r',hr',b1,b2,b3⟩:=e40 m.rules[i].e hr1 hr2 G
   have hfit2:0 ≤ r'→m.rules[i].acts.length ≤ 100→(∀r ∈ m.rules.take (i + 1),Go1 r.e∧r.acts.length ≤ 100)∧r' + ((i + 1:Nat):Int) ≤ room:=fun h0 ha=>by
    have f1:=hfit hrm
    have f2:=b3 h0
    rw [List.take_succ_eq_append_getElem hi]
    refine ⟨fun s hs=>?_,by omega⟩
    rcases List.mem_append.1 hs with hs | hs
    ·exact f1.1 s hs
    ·rw [List.mem_singleton] at hs
     subst hs
     exact ⟨f2.1,ha⟩
   have hg:(m.rules.map qab.enc)[i]? = some m.rules[i].enc:=by rw [List.getElem?_map,List.getElem?_eq_getElem hi];rfl
   generalize m.rules[i] = y at hr' hg hfit2
   obtain ⟨⟨op,n,m2,sb,aS⟩,acts⟩:=y
   rw [ql] at hr'
   rw [qab.enc,exC] at hg
   have hx:=qu (k:=6) (f:=.no) (j:=.i64) hg rfl
   change qa3 6 (.lst (m.rules.map qab.enc) .no) _ = _ at hx
   cases c3:ilt 100 (acts.length:Nat) with
   | true=>
    simp only [qhL,sT.1,sC.1,qe,qd,Nat.testBit,simprocAttr,-Int.reduceNatCast',ht,e1,e3,e4,e5,e9,c1,c2,c3,w,hx,hG,hr',List.length_map,qf.cells] at he
    subst he
    exact .inr ⟨_,_,rfl,by simp,.inr ⟨rfl,_,rfl,by simp only [qh,ht],by simp only [sT.1,sC.1,qe,qd,Nat.testBit,simprocAttr,-Int.reduceNatCast',ht]⟩⟩
   | false=>
    have ha:=qer c3
    simp only [qhL,sT.1,sC.1,qe,qd,Nat.testBit,simprocAttr,-Int.reduceNatCast',ht,e1,e3,e4,e5,e9,c1,c2,c3,w,hx,hG,hr',List.length_map,qf.cells] at he
    subst he
    refine .inl ⟨_,q - 1,rfl,by omega,_,i + 1,r',rfl,⟨by simp only [qh,ht],?_,?_,?_⟩,?_,?_,by omega,b1,b2,fun h0=>hfit2 h0 (by simp only;omega)⟩
    all_goals simp only [sT.1,sC.1,qe,qd,Nat.testBit,simprocAttr,-Int.reduceNatCast',ht,e1,e4,e5]
  ·have c2:ile 0 rm = false:=qoF hrm
   simp only [qhL,sT.1,sC.1,qe,qd,Nat.testBit,simprocAttr,-Int.reduceNatCast',ht,e1,e3,e4,e5,e9,c1,c2,hG,List.length_map] at he
   subst he
   exact .inr ⟨_,_,rfl,by simp,.inl ⟨rfl,_,rm,rfl,⟨by simp only [qh,ht],by simp only [sT.1,sC.1,qe,qd,Nat.testBit,simprocAttr,-Int.reduceNatCast',ht,e1],by simp only [sT.1,sC.1,qe,qd,Nat.testBit,simprocAttr,-Int.reduceNatCast',ht,e4],by simp only [sT.1,sC.1,qe,qd,Nat.testBit,simprocAttr,-Int.reduceNatCast',ht,e5]⟩,by simp only [sT.1,sC.1,qe,qd,Nat.testBit,simprocAttr,-Int.reduceNatCast',ht,e3],hr1,hr2,fun h0=>absurd h0 hrm⟩⟩
 ·have c1:ilt (i:Int) (m.rules.length:Int) = false:=qcJ (by omega)
  rw [List.take_of_length_le hi] at hfit
  simp only [qhL,sT.1,sC.1,qe,qd,Nat.testBit,simprocAttr,-Int.reduceNatCast',ht,e1,e3,e4,e5,e9,c1,hG,List.length_map] at he
  subst he
  exact .inr ⟨_,_,rfl,by simp,.inl ⟨rfl,_,rm,rfl,⟨by simp only [qh,ht],by simp only [sT.1,sC.1,qe,qd,Nat.testBit,simprocAttr,-Int.reduceNatCast',ht,e1],by simp only [sT.1,sC.1,qe,qd,Nat.testBit,simprocAttr,-Int.reduceNatCast',ht,e4],by simp only [sT.1,sC.1,qe,qd,Nat.testBit,simprocAttr,-Int.reduceNatCast',ht,e5]⟩,by simp only [sT.1,sC.1,qe,qd,Nat.testBit,simprocAttr,-Int.reduceNatCast',ht,e3],hr1,hr2,fun h0=>⟨(hfit h0).1,by have:=(hfit h0).2;omega⟩⟩⟩
end
end Go.Proofs.YtkmlapholimbcaaGreatDoor.AE
namespace Go.Proofs.YtkmlapholimbcaaGreatDoor.AE
open Go.AE
section
variable {P A j:Nat} {G:List qq} {m:qy}
def qrt (x:qam):Prop:=Go1 x.e∧(∀e ∈ x.ifs,Go1 e)∧x.ifs.length ≤ 600
set_option maxHeartbeats 2000000 in
theorem qju (hG:G[A]? = some (.cells m.cs)) (hn:qdB m.emits) (hi2:∀x ∈ m.emits,qdB x.ifs) {room:Int} (hroom:room ≤ 600) :
  ∀q st,(∃(tt:List qf) (i:Nat) (rm:Int),st = ⟨tt,G,false⟩∧Smr P A j tt∧lkp tt 3 = .int .i64 rm∧lkp tt 7 = .int .i64 (i:Nat)∧i + q = m.emits.length∧-1 ≤ rm∧rm ≤ 600∧(0 ≤ rm→(∀x ∈ m.emits.take i,qrt x)∧rm + i ≤ room))→
   ∃x st',qx P Wd (.loop qiV) st = some (x,st')∧(x = .exit 4∧∃(tt:List qf) (rm:Int),st' = ⟨tt,G,false⟩∧Smr P A j tt∧lkp tt 3 = .int .i64 rm∧-1 ≤ rm∧rm ≤ 600∧(0 ≤ rm→(∀x ∈ m.emits,qrt x)∧rm + m.emits.length ≤ room)):=by
 refine qD _ (fun x st'=>x = .exit 4∧∃(tt:List qf) (rm:Int),st' = ⟨tt,G,false⟩∧Smr P A j tt∧lkp tt 3 = .int .i64 rm∧-1 ≤ rm∧rm ≤ 600∧(0 ≤ rm→(∀x ∈ m.emits,qrt x)∧rm + m.emits.length ≤ room)) ?_
 rintro q st ⟨tt,i,rm,rfl,⟨ht,e1,e4,e5⟩,e3,e7,hiq,hr1,hr2,hfit⟩
 have hA:=(List.getElem?_eq_some_iff.1 hG).1
 have hG':=hG
 rw [qy.cs] at hG
 generalize he:qx P Wd qiV _ = r
 rcases Nat.lt_or_ge i m.emits.length with hi | hi
 ·have c1:ilt (i:Int) (m.emits.length:Int) = true:=qcK (by omega)
  by_cases hrm:0 ≤ rm
  ·have c2:ile 0 rm = true:=qli hrm
   have w:=qE (n:=i) (by have:=hn;unfold qdB at this;omega)
   have hni:=hi2 m.emits[i] (List.getElem_mem hi)
   obtain ⟨r',hr',b1,b2,b3⟩:=e40 m.emits[i].e hr1 hr2 G
   have hstep:∀r'':Int,(0 ≤ r''→(∀e ∈ m.emits[i].ifs,Go1 e)∧r'' + m.emits[i].ifs.length ≤ r')→(0 ≤ r''→(∀x ∈ m.emits.take (i + 1),qrt x)∧r'' + ((i + 1:Nat):Int) ≤ room):=fun r'' hq h0=>by
    have f1:=hfit hrm
    have f3:=hq h0
    have f2:=b3 (by omega)
    rw [List.take_succ_eq_append_getElem hi]
    refine ⟨fun s hs=>?_,by omega⟩
    rcases List.mem_append.1 hs with hs | hs
    ·exact f1.1 s hs
    ·rw [List.mem_singleton] at hs
     subst hs
     exact ⟨f2.1,f3.1,by omega⟩
   have hg:(m.emits.map qam.enc)[i]? = some m.emits[i].enc:=by rw [List.getElem?_map,List.getElem?_eq_getElem hi];rfl
   generalize m.emits[i] = y at hr' hg hstep hni
   obtain ⟨pt,⟨op,n,m2,sb,aS⟩,ifs⟩:=y
   rw [ql] at hr'
   rw [qam.enc,exC] at hg
   have hx:=qu (k:=7) (f:=.no) (j:=.i64) hg rfl
   change qa3 7 (.lst (m.emits.map qam.enc) .no) _ = _ at hx
   simp only [qf.cells,List.cons_append,List.nil_append] at hx
   simp only [qiV,sT.1,sC.1,qe,qd,Nat.testBit,simprocAttr,-Int.reduceNatCast',ht,e1,e3,e4,e5,e7,c1,c2,w,hx,hG,hr',List.length_map] at he
   generalize hr:qx P Wd (.loop qiU) _ = r2 at he
   obtain ⟨x,st',rfl,rfl,tt2,rm2,rfl,⟨ht2,f1,f4,f5⟩,f3,f7,d1,d2,d3⟩:=qaT hr (qqX (j:=j) (m:=m) hG' hx hni (room:=r') ifs.length _ ⟨_,0,r',rfl,⟨by simp only [qh,ht],by simp only [sT.1,sC.1,qe,qd,Nat.testBit,simprocAttr,-Int.reduceNatCast',ht,e1],by simp only [sT.1,sC.1,qe,qd,Nat.testBit,simprocAttr,-Int.reduceNatCast',ht,e4],by simp only [sT.1,sC.1,qe,qd,Nat.testBit,simprocAttr,-Int.reduceNatCast',ht,e5]⟩,by simp only [sT.1,sC.1,qe,qd,Nat.testBit,simprocAttr,-Int.reduceNatCast',ht],by simp only [sT.1,sC.1,qe,qd,Nat.testBit,simprocAttr,-Int.reduceNatCast',ht,e7],by simp only [sT.1,sC.1,qe,qd,Nat.testBit,simprocAttr,-Int.reduceNatCast',ht,Int.natCast_zero],by omega,b1,b2,fun _=>⟨by simp,by omega⟩⟩)
   simp only [sT.1,sC.1,qe,qd,Nat.testBit,simprocAttr,-Int.reduceNatCast',ht2,f1,f3,f4,f5,f7,w] at he
   subst he
   refine .inl ⟨_,q - 1,rfl,by omega,_,i + 1,rm2,rfl,⟨by simp only [qh,ht2],?_,?_,?_⟩,?_,?_,by omega,d1,d2,hstep rm2 d3⟩
   all_goals simp only [sT.1,sC.1,qe,qd,Nat.testBit,simprocAttr,-Int.reduceNatCast',ht2,f1,f3,f4,f5]
  ·have c2:ile 0 rm = false:=qoF hrm
   simp only [qiV,sT.1,sC.1,qe,qd,Nat.testBit,simprocAttr,-Int.reduceNatCast',ht,e1,e3,e4,e5,e7,c1,c2,hG,List.length_map] at he
   subst he
   exact .inr ⟨_,_,rfl,by simp,rfl,_,rm,rfl,⟨by simp only [qh,ht],by simp only [sT.1,sC.1,qe,qd,Nat.testBit,simprocAttr,-Int.reduceNatCast',ht,e1],by simp only [sT.1,sC.1,qe,qd,Nat.testBit,simprocAttr,-Int.reduceNatCast',ht,e4],by simp only [sT.1,sC.1,qe,qd,Nat.testBit,simprocAttr,-Int.reduceNatCast',ht,e5]⟩,by simp only [sT.1,sC.1,qe,qd,Nat.testBit,simprocAttr,-Int.reduceNatCast',ht,e3],hr1,hr2,fun h0=>absurd h0 hrm⟩
 ·have c1:ilt (i:Int) (m.emits.length:Int) = false:=qcJ (by omega)
  rw [List.take_of_length_le hi] at hfit
  simp only [qiV,sT.1,sC.1,qe,qd,Nat.testBit,simprocAttr,-Int.reduceNatCast',ht,e1,e3,e4,e5,e7,c1,hG,List.length_map] at he
  subst he
  exact .inr ⟨_,_,rfl,by simp,rfl,_,rm,rfl,⟨by simp only [qh,ht],by simp only [sT.1,sC.1,qe,qd,Nat.testBit,simprocAttr,-Int.reduceNatCast',ht,e1],by simp only [sT.1,sC.1,qe,qd,Nat.testBit,simprocAttr,-Int.reduceNatCast',ht,e4],by simp only [sT.1,sC.1,qe,qd,Nat.testBit,simprocAttr,-Int.reduceNatCast',ht,e5]⟩,by simp only [sT.1,sC.1,qe,qd,Nat.testBit,simprocAttr,-Int.reduceNatCast',ht,e3],hr1,hr2,fun h0=>⟨(hfit h0).1,by have:=(hfit h0).2;omega⟩⟩
end
end Go.Proofs.YtkmlapholimbcaaGreatDoor.AE
namespace Go.Proofs.YtkmlapholimbcaaGreatDoor.AE
open Go.AE
structure qAr (m:qy):Prop where
 ins:qdB m.ins
 outs:qdB m.outs
 vars:qdB m.vars
 ta:qdB m.ta
 emits:qdB m.emits∧∀x ∈ m.emits,qdB x.ifs
 int:qdB m.int
 ext:qdB m.ext
 own:qdB m.own
 rules:qdB m.rules
def MG (m:qy):Prop:=qux m∧qd9 Go1 m
section
variable {h:List qq}
set_option maxHeartbeats 4000000 in
theorem qms {l:List qy} (hl:l.length ≤ 60) (hN:∀m ∈ l,qAr m) {root:Str} :
  ∀q st,(∃(tt:List qf) (i:Nat) (rm:Int) (junk:List qq),st = ⟨tt,h ++ .cells [.lst (l.map qy.enc) .no,.str root] :: junk,false⟩∧tt.length = 171∧lkp tt 1 = .ptr h.length 0∧lkp tt 3 = .int .i64 rm∧lkp tt 4 = .int .i64 (i:Nat)∧i + q = l.length∧-1 ≤ rm∧rm ≤ 600∧(0 ≤ rm→∀m ∈ l.take i,MG m))→
   ∃x st',qx h.length Wd (.loop qhM) st = some (x,st')∧(∃(tt:List qf) (junk:List qq),st' = ⟨tt,h ++ .cells [.lst (l.map qy.enc) .no,.str root] :: junk,false⟩∧tt.length = 171∧((x = .exit 0∧∃rm:Int,lkp tt 3 = .int .i64 rm∧(0 ≤ rm→∀m ∈ l,MG m))∨(x = .ret∧lkp tt 2 = .int .i64 0))):=by
 refine qD _ (fun x st'=>∃(tt:List qf) (junk:List qq),st' = ⟨tt,h ++ .cells [.lst (l.map qy.enc) .no,.str root] :: junk,false⟩∧tt.length = 171∧((x = .exit 0∧∃rm:Int,lkp tt 3 = .int .i64 rm∧(0 ≤ rm→∀m ∈ l,MG m))∨(x = .ret∧lkp tt 2 = .int .i64 0))) ?_
 rintro q st ⟨tt,i,rm,junk,rfl,ht,e1,e3,e4,hiq,hr1,hr2,hfit⟩
 generalize he:qx h.length Wd qhM _ = r
 obtain ⟨pb,hpb⟩ :∃pb,pb = qq.cells [.lst (l.map qy.enc) .no,.str root]:=⟨_,rfl⟩
 rcases Nat.lt_or_ge i l.length with hi | hi
 ·have c1:ilt (i:Int) (l.length:Int) = true:=qcK (by omega)
  by_cases hrm:0 ≤ rm
  ·have c2:ile 0 rm = true:=qli hrm
   have w:=qE (n:=i) (by omega)
   have wr:IntKind.i64.wrap (rm - 1) = rm - 1:=qbG (by omega) (by omega)
   have hM:=hN l[i] (List.getElem_mem hi)
   have hg:(l.map qy.enc)[i]? = some l[i].enc:=by rw [List.getElem?_map,List.getElem?_eq_getElem hi];rfl
   have hstep:MG l[i]→∀m ∈ l.take (i + 1),MG m:=fun h0=>by
    rw [List.take_succ_eq_append_getElem hi]
    intro s hs
    rcases List.mem_append.1 hs with hs | hs
    ·exact hfit hrm s hs
    ·rw [List.mem_singleton] at hs
     subst hs
     exact h0
   generalize l[i] = m at hM hg hstep
   obtain ⟨G,hG⟩ :∃G,G = h ++ .cells [.lst (l.map qy.enc) .no,.str root] :: (junk ++ [.cells m.cs]):=⟨_,rfl⟩
   have hA:G[h.length + (junk.length + 1)]? = some (.cells m.cs):=by rw [hG,qcY];simp
   obtain ⟨r1,x1,y1,z1,f1⟩:=qki hM.ins (show -1 ≤ rm - 1 by omega) (by omega) G
   obtain ⟨r2,x2,y2,z2,f2⟩:=qki hM.outs y1 z1 G
   obtain ⟨r3,x3,y3,z3,f3⟩:=qg4 hM.vars y2 z2 G
   obtain ⟨r4,x4,y4,z4,f4⟩:=qg4 hM.int y3 z3 G
   obtain ⟨r5,x5,y5,z5,f5⟩:=qg4 hM.ext y4 z4 G
   obtain ⟨r6,x6,y6,z6,f6⟩:=qg4 hM.own y5 z5 G
   have L0:=qt9 (P:=h.length) (A:=h.length + (junk.length + 1)) (j:=i) hA hM.ta (room:=r6)
   have L2:=fun r7 (z:r7 ≤ 600)=>qju (P:=h.length) (A:=h.length + (junk.length + 1)) (j:=i) hA hM.emits.1 hM.emits.2 (room:=r7) z
   have L3:=fun r8=>qjv (P:=h.length) (A:=h.length + (junk.length + 1)) (j:=i) hA hM.rules (room:=r8)
   have hb1:Nat.ble h.length (h.length + (junk.length + 1)) = true:=qas (by omega)
   have hln:∀b:qq,(h ++ b :: junk).length = h.length + (junk.length + 1):=fun b=>by simp
   obtain ⟨nm,cp,ins,outs,vars,ta,emits,int,ext,con,own,parts,links,rules⟩:=m
   rw [qy.enc] at hg
   simp only [qy.cs] at hg hA hG L0 L2 L3
   have hx:=qu (k:=14) (f:=.no) (j:=.i64) hg rfl
   change qa3 14 (.lst (l.map qy.enc) .no) _ = _ at hx
   simp only [qf.cells] at hx
   simp only at x1 x2 x3 x4 x5 x6 f1 f2 f3 f4 f5 f6
   rw [hG] at x1 x2 x3 x4 x5 x6 L0 L2 L3
   cases c5:(ilt 100 (parts.length:Nat) || (ilt 300 (links.length:Nat) || (ilt 100 (rules.length:Nat) || (ilt 100 (emits.length:Nat) || ilt 100 (ta.length:Nat))))) with
   | true=>
    simp only [qhM,sT.1,sC.1,sTA.1,sCA.1,qe,qj,qk,Src.isTmp,qg,Src.hangs,qn.isT,qi,qd,Nat.testBit,bne,simprocAttr,-Int.reduceNatCast',ht,e1,e3,e4,c1,c2,hx,hln,hb1,c5,Bool.or_assoc,Bool.true_or,List.append_assoc,List.length_map] at he
    subst he
    exact .inr ⟨_,_,rfl,by simp,_,_,rfl,by simp only [qh,ht],.inr ⟨rfl,by simp only [sT.1,sC.1,sTA.1,sCA.1,qe,qj,qk,Src.isTmp,qg,Src.hangs,qn.isT,qi,qd,Nat.testBit,bne,simprocAttr,-Int.reduceNatCast',ht]⟩⟩
   | false=>
    simp only [qhM,sT.1,sC.1,sTA.1,sCA.1,qe,qj,qk,Src.isTmp,qg,Src.hangs,qn.isT,qi,qd,Nat.testBit,bne,simprocAttr,-Int.reduceNatCast',ht,e1,e3,e4,c1,c2,w,wr,hx,hln,hb1,c5,x1,x2,x3,x4,x5,x6,Bool.or_assoc,Bool.true_or,List.append_assoc,List.length_map] at he
    generalize hq:qx h.length Wd (.loop qiT) _ = q1 at he
    obtain ⟨x,st',rfl,rfl,t1,r7,rfl,⟨ht1,g1,g4,g5⟩,g3,y7,z7,f7⟩:=qaT hq (L0 ta.length _ ⟨_,0,r6,rfl,⟨by simp only [qh,ht],by simp only [sT.1,sC.1,sTA.1,sCA.1,qe,qj,qk,Src.isTmp,qg,Src.hangs,qn.isT,qi,qd,Nat.testBit,bne,simprocAttr,-Int.reduceNatCast',ht,e1],by simp only [sT.1,sC.1,sTA.1,sCA.1,qe,qj,qk,Src.isTmp,qg,Src.hangs,qn.isT,qi,qd,Nat.testBit,bne,simprocAttr,-Int.reduceNatCast',ht,e4],by simp only [sT.1,sC.1,sTA.1,sCA.1,qe,qj,qk,Src.isTmp,qg,Src.hangs,qn.isT,qi,qd,Nat.testBit,bne,simprocAttr,-Int.reduceNatCast',ht]⟩,by simp only [sT.1,sC.1,sTA.1,sCA.1,qe,qj,qk,Src.isTmp,qg,Src.hangs,qn.isT,qi,qd,Nat.testBit,bne,simprocAttr,-Int.reduceNatCast',ht],by simp only [sT.1,sC.1,sTA.1,sCA.1,qe,qj,qk,Src.isTmp,qg,Src.hangs,qn.isT,qi,qd,Nat.testBit,bne,simprocAttr,-Int.reduceNatCast',ht,Int.natCast_zero],by omega,y6,z6,fun _=>⟨by simp,by omega⟩⟩)
    simp only [sT.1,sC.1,sTA.1,sCA.1,qe,qj,qk,Src.isTmp,qg,Src.hangs,qn.isT,qi,qd,Nat.testBit,bne,simprocAttr,-Int.reduceNatCast',ht1,g1,g3,g4,g5] at he
    generalize hq2:qx h.length Wd (.loop qiV) _ = q2 at he
    obtain ⟨x,st',rfl,rfl,t2,r8,rfl,⟨ht2,k1,k4,k5⟩,k3,y8,z8,f8⟩:=qaT hq2 (L2 r7 z7 emits.length _ ⟨_,0,r7,rfl,⟨by simp only [qh,ht1],by simp only [sT.1,sC.1,sTA.1,sCA.1,qe,qj,qk,Src.isTmp,qg,Src.hangs,qn.isT,qi,qd,Nat.testBit,bne,simprocAttr,-Int.reduceNatCast',ht1,g1],by simp only [sT.1,sC.1,sTA.1,sCA.1,qe,qj,qk,Src.isTmp,qg,Src.hangs,qn.isT,qi,qd,Nat.testBit,bne,simprocAttr,-Int.reduceNatCast',ht1,g4],by simp only [sT.1,sC.1,sTA.1,sCA.1,qe,qj,qk,Src.isTmp,qg,Src.hangs,qn.isT,qi,qd,Nat.testBit,bne,simprocAttr,-Int.reduceNatCast',ht1,g5]⟩,by simp only [sT.1,sC.1,sTA.1,sCA.1,qe,qj,qk,Src.isTmp,qg,Src.hangs,qn.isT,qi,qd,Nat.testBit,bne,simprocAttr,-Int.reduceNatCast',ht1,g3],by simp only [sT.1,sC.1,sTA.1,sCA.1,qe,qj,qk,Src.isTmp,qg,Src.hangs,qn.isT,qi,qd,Nat.testBit,bne,simprocAttr,-Int.reduceNatCast',ht1,Int.natCast_zero],by omega,y7,z7,fun _=>⟨by simp,by omega⟩⟩)
    simp only [sT.1,sC.1,sTA.1,sCA.1,qe,qj,qk,Src.isTmp,qg,Src.hangs,qn.isT,qi,qd,Nat.testBit,bne,simprocAttr,-Int.reduceNatCast',ht2,k1,k3,k4,k5] at he
    generalize hq3:qx h.length Wd (.loop qhL) _ = q3 at he
    obtain ⟨x,st',rfl,hR⟩:=qaT hq3 (L3 r8 rules.length _ ⟨_,0,r8,rfl,⟨by simp only [qh,ht2],by simp only [sT.1,sC.1,sTA.1,sCA.1,qe,qj,qk,Src.isTmp,qg,Src.hangs,qn.isT,qi,qd,Nat.testBit,bne,simprocAttr,-Int.reduceNatCast',ht2,k1],by simp only [sT.1,sC.1,sTA.1,sCA.1,qe,qj,qk,Src.isTmp,qg,Src.hangs,qn.isT,qi,qd,Nat.testBit,bne,simprocAttr,-Int.reduceNatCast',ht2,k4],by simp only [sT.1,sC.1,sTA.1,sCA.1,qe,qj,qk,Src.isTmp,qg,Src.hangs,qn.isT,qi,qd,Nat.testBit,bne,simprocAttr,-Int.reduceNatCast',ht2,k5]⟩,by simp only [sT.1,sC.1,sTA.1,sCA.1,qe,qj,qk,Src.isTmp,qg,Src.hangs,qn.isT,qi,qd,Nat.testBit,bne,simprocAttr,-Int.reduceNatCast',ht2,k3],by simp only [sT.1,sC.1,sTA.1,sCA.1,qe,qj,qk,Src.isTmp,qg,Src.hangs,qn.isT,qi,qd,Nat.testBit,bne,simprocAttr,-Int.reduceNatCast',ht2,Int.natCast_zero],by omega,y8,z8,fun _=>⟨by simp,by omega⟩⟩)
    rcases hR with ⟨rfl,t3,r9,rfl,⟨ht3,n1,n4,n5⟩,n3,y9,z9,f9⟩ | ⟨rfl,t3,rfl,ht3,n2⟩
    ·simp only [sT.1,sC.1,sTA.1,sCA.1,qe,qj,qk,Src.isTmp,qg,Src.hangs,qn.isT,qi,qd,Nat.testBit,bne,simprocAttr,-Int.reduceNatCast',ht3,n1,n3,n4,w] at he
     subst he
     refine .inl ⟨_,q - 1,rfl,by omega,_,i + 1,r9,_,rfl,by simp only [qh,ht3],?_,?_,?_,by omega,y9,z9,fun h0=>hstep ?_⟩
     ·simp only [sT.1,sC.1,sTA.1,sCA.1,qe,qj,qk,Src.isTmp,qg,Src.hangs,qn.isT,qi,qd,Nat.testBit,bne,simprocAttr,-Int.reduceNatCast',ht3,n1]
     ·simp only [sT.1,sC.1,sTA.1,sCA.1,qe,qj,qk,Src.isTmp,qg,Src.hangs,qn.isT,qi,qd,Nat.testBit,bne,simprocAttr,-Int.reduceNatCast',ht3,n3]
     ·simp only [sT.1,sC.1,sTA.1,sCA.1,qe,qj,qk,Src.isTmp,qg,Src.hangs,qn.isT,qi,qd,Nat.testBit,bne,simprocAttr,-Int.reduceNatCast',ht3]
     ·have f9:=f9 h0
      have f8:=f8 (by omega)
      have f7:=f7 (by omega)
      have f6:=f6 (by omega)
      have f5:=f5 (by omega)
      have f4:=f4 (by omega)
      have f3:=f3 (by omega)
      have f2:=f2 (by omega)
      have f1:=f1 (by omega)
      simp only [Bool.or_eq_false_iff] at c5
      have p1:=qer c5.1
      have p2:=qer c5.2.1
      exact ⟨⟨by simp only;omega,by simp only;omega,by simp only;omega,by simp only;omega,⟨by simp only;omega,fun x hx=>(f8.1 x hx).2.2⟩,by simp only;omega,by simp only;omega,by simp only;omega,by simp only;omega,by simp only;omega,⟨by simp only;omega,fun r hr=>by have:=(f9.1 r hr).2;omega⟩⟩,⟨f3.1,f7.1,fun x hx=>⟨(f8.1 x hx).1,(f8.1 x hx).2.1⟩,f4.1,f5.1,f6.1,fun r hr=>(f9.1 r hr).1⟩⟩
    ·simp only [sT.1,sC.1,sTA.1,sCA.1,qe,qj,qk,Src.isTmp,qg,Src.hangs,qn.isT,qi,qd,Nat.testBit,bne,simprocAttr,-Int.reduceNatCast',ht3,n2] at he
     subst he
     exact .inr ⟨_,_,rfl,by simp,_,_,rfl,ht3,.inr ⟨rfl,n2⟩⟩
  ·have c2:ile 0 rm = false:=qoF hrm
   simp only [qhM,sT.1,sC.1,sTA.1,sCA.1,qe,qj,qk,Src.isTmp,qg,Src.hangs,qn.isT,qi,qd,Nat.testBit,bne,simprocAttr,-Int.reduceNatCast',ht,e1,e3,e4,c1,c2,List.length_map] at he
   subst he
   exact .inr ⟨_,_,rfl,by simp,_,junk,rfl,by simp only [qh,ht],.inl ⟨rfl,rm,by simp only [sT.1,sC.1,sTA.1,sCA.1,qe,qj,qk,Src.isTmp,qg,Src.hangs,qn.isT,qi,qd,Nat.testBit,bne,simprocAttr,-Int.reduceNatCast',ht,e3],fun h0=>absurd h0 hrm⟩⟩
 ·have c1:ilt (i:Int) (l.length:Int) = false:=qcJ (by omega)
  rw [List.take_of_length_le hi] at hfit
  simp only [qhM,sT.1,sC.1,sTA.1,sCA.1,qe,qj,qk,Src.isTmp,qg,Src.hangs,qn.isT,qi,qd,Nat.testBit,bne,simprocAttr,-Int.reduceNatCast',ht,e1,e3,e4,c1,List.length_map] at he
  subst he
  exact .inr ⟨_,_,rfl,by simp,_,junk,rfl,by simp only [qh,ht],.inl ⟨rfl,rm,by simp only [sT.1,sC.1,sTA.1,sCA.1,qe,qj,qk,Src.isTmp,qg,Src.hangs,qn.isT,qi,qd,Nat.testBit,bne,simprocAttr,-Int.reduceNatCast',ht,e3],hfit⟩⟩
end
end Go.Proofs.YtkmlapholimbcaaGreatDoor.AE
namespace Go.Proofs.YtkmlapholimbcaaGreatDoor.AE
open Go.AE
theorem qrx {p:qaP} (hN:∀m ∈ p.models,qAr m) (h:List qq):∃r:Int,Wd (.fn 13 [] []) [p.enc] h = some (.ret (.int .i64 r),h,false)∧(r ≠ 0→p.models.length ≤ 60∧∀m ∈ p.models,MG m):=by
 obtain ⟨l,root⟩:=p
 simp only at hN
 rw [qaP.enc,qaP.cs]
 simp only
 generalize hw:Wd _ _ h = w
 rw [qt rfl (show T.get 13 = some c13 by kernel_rfl)] at hw
 cases c1:ilt 60 (l.length:Nat) with
 | true=>
  simp only [c13,sT.1,sC.1,sTA.1,sCA.1,qe,qj,qk,Src.isTmp,qg,Src.hangs,qn.isT,qi,qd,Nat.testBit,bne,simprocAttr,-Int.reduceNatCast',List.length_map,c1] at hw
  subst hw
  exact ⟨0,rfl,fun e=>absurd rfl e⟩
 | false=>
  have h60:=qer c1
  simp only [c13,sT.1,sC.1,sTA.1,sCA.1,qe,qj,qk,Src.isTmp,qg,Src.hangs,qn.isT,qi,qd,Nat.testBit,bne,simprocAttr,-Int.reduceNatCast',List.length_map,c1] at hw
  generalize hr:qx h.length Wd (.loop qhM) _ = r at hw
  obtain ⟨x,st',rfl,tt,junk,rfl,ht,⟨rfl,rm,e3,hf⟩ | ⟨rfl,e2⟩⟩:=qaT hr (qms (h:=h) (root:=root) (by omega) hN l.length _ ⟨_,0,600,[],rfl,by simp only [sT.1,sC.1,sTA.1,sCA.1,qe,qj,qk,Src.isTmp,qg,Src.hangs,qn.isT,qi,qd,Nat.testBit,bne,simprocAttr,-Int.reduceNatCast'],by simp only [sT.1,sC.1,sTA.1,sCA.1,qe,qj,qk,Src.isTmp,qg,Src.hangs,qn.isT,qi,qd,Nat.testBit,bne,simprocAttr,-Int.reduceNatCast'],by simp only [sT.1,sC.1,sTA.1,sCA.1,qe,qj,qk,Src.isTmp,qg,Src.hangs,qn.isT,qi,qd,Nat.testBit,bne,simprocAttr,-Int.reduceNatCast'],by simp only [sT.1,sC.1,sTA.1,sCA.1,qe,qj,qk,Src.isTmp,qg,Src.hangs,qn.isT,qi,qd,Nat.testBit,bne,simprocAttr,-Int.reduceNatCast',Int.natCast_zero],by omega,by omega,by omega,fun _=>by simp⟩)
  ·cases c2:ilt rm 0 with
   | true=>
    simp only [sT.1,sC.1,sTA.1,sCA.1,qe,qj,qk,Src.isTmp,qg,Src.hangs,qn.isT,qi,qd,Nat.testBit,bne,simprocAttr,-Int.reduceNatCast',ht,e3,c2] at hw
    subst hw
    exact ⟨0,rfl,fun e=>absurd rfl e⟩
   | false=>
    simp only [sT.1,sC.1,sTA.1,sCA.1,qe,qj,qk,Src.isTmp,qg,Src.hangs,qn.isT,qi,qd,Nat.testBit,bne,simprocAttr,-Int.reduceNatCast',ht,e3,c2] at hw
    subst hw
    exact ⟨1,rfl,fun _=>⟨by omega,hf (qer c2)⟩⟩
  ·simp only [sT.1,sC.1,sTA.1,sCA.1,qe,qj,qk,Src.isTmp,qg,Src.hangs,qn.isT,qi,qd,Nat.testBit,bne,simprocAttr,-Int.reduceNatCast',ht,e2] at hw
   subst hw
   exact ⟨0,rfl,fun e=>absurd rfl e⟩
structure qz5 (m:qy):Prop where
 num:qAr m
 ints:qd9 OkN m
 acts:qyd m
theorem exG {m:qy} (h1:qd9 Go1 m) (h2:qd9 OkN m):qd9 ExG m:=
 ⟨fun s h=>⟨h1.vars s h,h2.vars s h⟩,fun s h=>⟨h1.ta s h,h2.ta s h⟩,fun s h=>⟨⟨(h1.emits s h).1,(h2.emits s h).1⟩,fun e he=>⟨(h1.emits s h).2 e he,(h2.emits s h).2 e he⟩⟩,fun s h=>⟨h1.int s h,h2.int s h⟩,fun s h=>⟨h1.ext s h,h2.ext s h⟩,fun s h=>⟨h1.own s h,h2.own s h⟩,fun s h=>⟨h1.rules s h,h2.rules s h⟩⟩
end Go.Proofs.YtkmlapholimbcaaGreatDoor.AE
namespace Go.Proofs.YtkmlapholimbcaaGreatDoor.AE
open Go.AE
theorem qAA (h:List qq):Wd (.fn 6 [] []) [] h = some (.ret (.bool true),h,false):=by
 rw [show Wd = W T.get X from rfl,qin qg8 (show X 6 = some qdQ from rfl)]
 rfl
end Go.Proofs.YtkmlapholimbcaaGreatDoor.AE
namespace Go.Proofs.YtkmlapholimbcaaGreatDoor.AE
open Go.AE
theorem qyH {m:qy} (h:qbJ m = true) (ho:qbB m):qmN m:=by
 rw [qj9] at h
 simp only [Bool.and_eq_true] at h
 obtain ⟨_,_,_,hb⟩:=h
 refine ⟨ho,fun hc=>?_,fun hc=>?_⟩
 ·rw [hc,cond_true,qnu] at hb
  simp only [Bool.and_eq_true,List.all_eq_true] at hb
  intro r hr a ha
  have:=hb.2.2.2 r hr
  rw [qd5] at this
  simp only [Bool.and_eq_true,List.all_eq_true] at this
  have:=this.2 a ha
  rw [qhk] at this
  cases k0:a.kind == 0 with
  | true=>exact .inl (beq_iff_eq.1 k0)
  | false=>
   cases k1:a.kind == 1 with
   | true=>exact .inr (.inl (beq_iff_eq.1 k1))
   | false=>
    rw [k0,k1,cond_false,cond_false] at this
    simp only [Bool.and_eq_true,Bool.or_eq_true,beq_iff_eq] at this
    rcases this.1 with h2 | h3
    ·exact .inr (.inr (.inl h2))
    ·exact .inr (.inr (.inr h3))
 ·rw [hc,cond_false,qmZ] at hb
  simp only [Bool.and_eq_true,Bool.not_eq_true',qrF,Bool.or_eq_false_iff,Bool.not_eq_false',beq_iff_eq] at hb
  omega
theorem qzU {p:qaP} {b:Bool} {sm:Int} (h:List qq) (hsm:Wd (.fn 13 [] []) [p.enc] (h ++ [.cells p.cs]) = some (.ret (.int .i64 sm),h ++ [.cells p.cs],false)) (hR:sm ≠ 0→∀G,Wd (.fn 29 [] []) [p.enc] G = some (.ret (.bool b),G,false)) (hD:sm ≠ 0→∀G,Wd (.fn 15 [] []) [p.enc] G = some (.ret (.bool b),G,false)) (hp:sm ≠ 0→b = true→qe2 p∧∀m ∈ p.models,qmN m) :
  ∃g e,Wd (.fn 4 [] []) [p.enc] h = some (.ret (.bool true),g,e):=by
 have haw:=fun G=>qAA G
 generalize hw:Wd _ _ h = w
 rw [qt rfl (show T.get 4 = some c4 by kernel_rfl)] at hw
 cases c0:sm == 0 with
 | true=>
  obtain ⟨l,r⟩:=p
  rw [qaP.enc,qaP.cs] at *
  simp only [c4,sT.1,sC.1,sTA.1,sCA.1,qe,qj,qk,Src.isTmp,qg,Src.hangs,qn.isT,qi,qd,Nat.testBit,bne,simprocAttr,-Int.reduceNatCast',haw,hsm,c0] at hw
  subst hw
  exact ⟨_,_,rfl⟩
 | false=>
  have hne:sm ≠ 0:=beq_eq_false_iff_ne.1 c0
  have hR:=hR hne
  have hD:=hD hne
  have hp:=hp hne
  have hT:=fun G=>qkx hR (fun hb=>(hp hb).1) G
  cases b with
  | false=>
   rw [qtV,cond_false] at hT
   have z1:((1:Int) == 1) = true:=by kernel_rfl
   obtain ⟨l,r⟩:=p
   rw [qaP.enc,qaP.cs] at *
   simp only [c4,sT.1,sC.1,sTA.1,sCA.1,qe,qj,qk,Src.isTmp,qg,Src.hangs,qn.isT,qi,qd,Nat.testBit,bne,simprocAttr,-Int.reduceNatCast',haw,hsm,c0,hT,hD,qa4,List.map_nil,List.flatten_nil,cond_false,z1,beq_self_eq_true] at hw
   subst hw
   exact ⟨_,_,rfl⟩
  | true=>
   obtain ⟨ho,hd⟩:=hp rfl
   have hX:=fun G=>qml ho hd G
   rw [qtV,cond_true] at hT
   have z1:((0:Int) == 0) = true:=by kernel_rfl
   generalize qa4 (qb3 p) = s at *
   have ss:(s == s) = true:=by simp
   clear hp ho hd hR
   obtain ⟨l,r⟩:=p
   rw [qaP.enc,qaP.cs] at *
   simp only [c4,sT.1,sC.1,sTA.1,sCA.1,qe,qj,qk,Src.isTmp,qg,Src.hangs,qn.isT,qi,qd,Nat.testBit,bne,simprocAttr,-Int.reduceNatCast',haw,hsm,c0,hT,hD,hX,cond_true,z1,ss] at hw
   subst hw
   exact ⟨_,_,rfl⟩
theorem qfB {p:qaP} (hA:∀m ∈ p.models,qz5 m) (h:List qq) :
  ∃g e,Wd (.fn 4 [] []) [p.enc] h = some (.ret (.bool true),g,e):=by
 obtain ⟨sm,hsm,hS⟩:=qrx (fun m hm=>(hA m hm).num) (h ++ [.cells p.cs])
 have hG:sm ≠ 0→∀m ∈ p.models,qd9 ExG m:=fun hs m hm=>exG ((hS hs).2 m hm).2 (hA m hm).ints
 have hM:sm ≠ 0→∀m ∈ p.models,qe0 m:=fun hs m hm=>qp3 ((hS hs).2 m hm).1 (hG hs m hm) (hA m hm).acts
 refine qzU (b:=qh2 p) h hsm (fun hs G=>qtT (by have:=(hS hs).1;omega) (hM hs) G) (fun hs G=>qtU (hM hs) G) fun hs hb=>?_
 have ho:=qtS hb (hG hs)
 refine ⟨ho,fun m hm=>qyH ?_ (ho.models.2 m hm)⟩
 simp only [qh2,Bool.and_eq_true,List.all_eq_true] at hb
 exact hb.2.2.2 m hm
end Go.Proofs.YtkmlapholimbcaaGreatDoor.AE
namespace Go.Proofs.YtkmlapholimbcaaGreatDoor
theorem mxl {n:Nat} (h:n ≤ Go.maxLen):n ≤ 9223372036854775807:=h
theorem qhz {n:Nat} {ws:List Go.AE.qf} (h:Go.AE.qcH Tryz.prog n 3 ws):∃z,ws = [.int .i64 z]∧z ≤ 9223372036854775807:=by
 cases n with
 | zero=>exact h.elim
 | succ n=>
  simp only [Go.AE.qcH,Tryz.underlying3] at h
  obtain ⟨z,rfl,hz⟩:=h
  simp [Lit.wf,IntKind.min,IntKind.max,IntKind.bits,IntKind.signed] at hz
  exact ⟨z,rfl,by omega⟩
theorem qaI {P:Program} {n:Nat} {t:TypeId} {ws:List Go.AE.qf} {fs:Array Field} (h:Go.AE.qcH P n t ws) (hu:P.underlying t = some (.struct fs)):∃m ass,n = m + 1∧ws = List.flatten ass∧Go.AE.qgD (Go.AE.qcH P m) (fs.toList.map (·.type)) ass:=by
 cases n with
 | zero=>exact h.elim
 | succ n=>
  simp only [Go.AE.qcH,hu] at h
  obtain ⟨ass,h1,h2⟩:=h
  exact ⟨n,ass,rfl,h1,h2⟩
theorem qbd {P:Program} {n:Nat} {t:TypeId} {ws:List Go.AE.qf} (h:Go.AE.qcH P n t ws) (hu:P.underlying t = some .string):∃s,ws = [.str s]∧AE.qik s:=by
 cases n with
 | zero=>exact h.elim
 | succ n=>
  simp only [Go.AE.qcH,hu] at h
  exact ⟨_,h.choose_spec.1,mxl h.choose_spec.2⟩
theorem qoe {P:Program} {n:Nat} {t:TypeId} {ws:List Go.AE.qf} (h:Go.AE.qcH P n t ws) (hu:P.underlying t = some .bool):∃b,ws = [.bool b]:=by
 cases n with
 | zero=>exact h.elim
 | succ n=>
  simp only [Go.AE.qcH,hu] at h
  exact h
theorem qyI {P:Program} {e:TypeId} (h:Go.AE.qbU P e = true) (x:List Go.AE.qf):Go.AE.el P e x = .agg x:=by
 unfold Go.AE.el
 rw [h]
 rfl
theorem quR {α β γ:Type} {f:α→β} {g:γ→β} {Q:γ→Prop}:∀xs:List α,(∀x ∈ xs,∃y,f x = g y∧Q y)→∃ys:List γ,xs.map f = ys.map g∧∀y ∈ ys,Q y
 | [],_=>⟨[],rfl,fun _ h=>by cases h⟩
 | x :: xs,h=>by
  obtain ⟨y,h1,h2⟩:=h x List.mem_cons_self
  obtain ⟨ys,h3,h4⟩:=quR xs fun z hz=>h z (List.mem_cons_of_mem _ hz)
  refine ⟨y :: ys,by rw [List.map_cons,List.map_cons,h1,h3],fun z hz=>?_⟩
  rcases List.mem_cons.1 hz with rfl | hz
  ·exact h2
  ·exact h4 z hz
theorem qcn {n:Nat} {t e:TypeId} {ws:List Go.AE.qf} {γ:Type} {g:γ→Go.AE.qf} {Q:γ→Prop} (h:Go.AE.qcH Tryz.prog n t ws) (hu:Tryz.prog.underlying t = some (.slice e)) (hs:Go.AE.qbU Tryz.prog e = true) (hk:∀m,m < n→∀x,Go.AE.qcH Tryz.prog m e x→∃y,Go.AE.qf.agg x = g y∧Q y):∃ys:List γ,ws = [.lst (ys.map g) .no]∧AE.qdB ys∧∀y ∈ ys,Q y:=by
 cases n with
 | zero=>exact h.elim
 | succ m=>
  simp only [Go.AE.qcH,hu] at h
  obtain ⟨xs,rfl,hl,hx⟩:=h
  obtain ⟨ys,h1,h2⟩:=quR (f:=Go.AE.el Tryz.prog e) (g:=g) (Q:=Q) xs fun x hxs=>by
   rw [qyI hs]
   exact hk m (by omega) x (hx x hxs)
  have:xs.length = ys.length:=by have:=congrArg List.length h1;simpa using this
  exact ⟨ys,by rw [h1],mxl (this▸hl),h2⟩
theorem qei (n:Nat):∀ws:List Go.AE.qf,Go.AE.qcH Tryz.prog n 24 ws→∃e:AE.Exl,ws = AE.exC e∧AE.OkN e:=by
 induction n using Nat.strongRecOn with
 | ind n ih=>
  intro ws h
  obtain ⟨m,ass,rfl,rfl,h1⟩:=qaI h Tryz.underlying24
  match ass,h1 with
  | [p,q,r,r2,l],⟨h2,h3,h4,h4',h5,_⟩=>
   obtain ⟨z1,rfl,_⟩:=qhz h2
   obtain ⟨z2,rfl,hz⟩:=qhz h3
   obtain ⟨s,rfl,_⟩:=qbd h4 Tryz.underlying9
   obtain ⟨s2,rfl,_⟩:=qbd h4' Tryz.underlying9
   obtain ⟨ys,rfl,_,hy⟩:=qcn (g:=AE.exV) (Q:=AE.OkN) h5 Tryz.underlying22 (by kernel_rfl) fun k hk x hx=>by
    obtain ⟨e,rfl,h6⟩:=ih k (by omega) x hx
    exact ⟨e,(AE.qyJ e).symm,h6⟩
   refine ⟨.mk z1 z2 s s2 ys,rfl,?_⟩
   rw [AE.OkN]
   exact ⟨hz,hy⟩
theorem qrj (n:Nat):∀ws:List Go.AE.qf,Go.AE.qcH Tryz.prog n 98 ws→∃t:AE.Tp,ws = t.enc:=by
 induction n using Nat.strongRecOn with
 | ind n ih=>
  intro ws h
  obtain ⟨m,ass,rfl,rfl,h1⟩:=qaI h Tryz.underlying98
  match ass,h1 with
  | [p,l],⟨h2,h5,_⟩=>
   obtain ⟨z1,rfl,_⟩:=qhz h2
   obtain ⟨ys,rfl,_⟩:=qcn (g:=AE.tpV) (Q:=fun _=>True) h5 Tryz.underlying96 (by kernel_rfl) fun k hk x hx=>by
    obtain ⟨e,rfl⟩:=ih k (by omega) x hx
    exact ⟨e,rfl,trivial⟩
   exact ⟨.mk z1 ys,by rw [AE.Tp.enc];rfl⟩
section
variable {n:Nat} {ws:List Go.AE.qf}
theorem qgj (h:Go.AE.qcH Tryz.prog n 22 ws):∃l:List AE.Exl,ws = [.lst (l.map AE.exV) .no]∧AE.qdB l∧∀y ∈ l,AE.OkN y:=
 qcn h Tryz.underlying22 (by kernel_rfl) fun k hk x hx=>by
  obtain ⟨e,rfl,h6⟩:=qei k x hx
  exact ⟨e,(AE.qyJ e).symm,h6⟩
theorem qgu (h:Go.AE.qcH Tryz.prog n 47 ws):∃l:List AE.qJ,ws = [.lst (l.map AE.qJ.enc) .no]∧AE.qdB l∧∀y ∈ l,True:=
 qcn h Tryz.underlying47 (by kernel_rfl) fun k hk x hx=>by
  obtain ⟨m,ass,rfl,rfl,h1⟩:=qaI hx Tryz.underlying100
  match ass,h1 with
  | [p,t],⟨h2,h3,_⟩=>
   obtain ⟨s,rfl,_⟩:=qbd h2 Tryz.underlying9
   obtain ⟨t,rfl⟩:=qrj _ _ h3
   exact ⟨⟨s,t⟩,by simp [AE.qJ.enc],trivial⟩
theorem qeC (h:Go.AE.qcH Tryz.prog n 48 ws):∃l:List AE.qM,ws = [.lst (l.map AE.qM.enc) .no]∧AE.qdB l∧∀y ∈ l,AE.OkN y.e:=
 qcn h Tryz.underlying48 (by kernel_rfl) fun k hk x hx=>by
  obtain ⟨m,ass,rfl,rfl,h1⟩:=qaI hx Tryz.underlying102
  match ass,h1 with
  | [p,t],⟨h2,h3,_⟩=>
   obtain ⟨s,rfl,_⟩:=qbd h2 Tryz.underlying9
   obtain ⟨t,rfl,ho⟩:=qei _ _ h3
   exact ⟨⟨s,t⟩,by simp [AE.qM.enc],ho⟩
theorem qkT (h:Go.AE.qcH Tryz.prog n 49 ws):∃l:List AE.qam,ws = [.lst (l.map AE.qam.enc) .no]∧AE.qdB l∧∀y ∈ l,AE.qdB y.ifs∧AE.OkN y.e∧∀e ∈ y.ifs,AE.OkN e:=
 qcn h Tryz.underlying49 (by kernel_rfl) fun k hk x hx=>by
  obtain ⟨m,ass,rfl,rfl,h1⟩:=qaI hx Tryz.underlying66
  match ass,h1 with
  | [p,t,u],⟨h2,h3,h4,_⟩=>
   obtain ⟨s,rfl,_⟩:=qbd h2 Tryz.underlying9
   obtain ⟨t,rfl,ho⟩:=qei _ _ h3
   obtain ⟨l,rfl,hn,hl⟩:=qgj h4
   exact ⟨⟨s,t,l⟩,by simp [AE.qam.enc],hn,ho,hl⟩
theorem qma (h:Go.AE.qcH Tryz.prog n 50 ws):∃l:List AE.qaw,ws = [.lst (l.map AE.qaw.enc) .no]∧AE.qdB l∧∀y ∈ l,True:=
 qcn h Tryz.underlying50 (by kernel_rfl) fun k hk x hx=>by
  obtain ⟨m,ass,rfl,rfl,h1⟩:=qaI hx Tryz.underlying113
  match ass,h1 with
  | [p,t],⟨h2,h3,_⟩=>
   obtain ⟨s,rfl,_⟩:=qbd h2 Tryz.underlying9
   obtain ⟨t,rfl,_⟩:=qbd h3 Tryz.underlying9
   exact ⟨⟨s,t⟩,rfl,trivial⟩
theorem qjP (h:Go.AE.qcH Tryz.prog n 116 ws):∃l:AE.qdN,ws = [.str l.part,.str l.port]∧AE.qik l.part∧AE.qik l.port:=by
 obtain ⟨m,ass,rfl,rfl,h1⟩:=qaI h Tryz.underlying116
 match ass,h1 with
 | [p,t],⟨h2,h3,_⟩=>
  obtain ⟨s,rfl,hs⟩:=qbd h2 Tryz.underlying9
  obtain ⟨t,rfl,ht⟩:=qbd h3 Tryz.underlying9
  exact ⟨⟨s,t⟩,rfl,hs,ht⟩
theorem qhP (h:Go.AE.qcH Tryz.prog n 118 ws):∃l:AE.qZ,ws = [.str l.frm.part,.str l.frm.port,.str l.to.part,.str l.to.port]∧(AE.qik l.frm.part∧AE.qik l.frm.port)∧AE.qik l.to.part∧AE.qik l.to.port:=by
 obtain ⟨m,ass,rfl,rfl,h1⟩:=qaI h Tryz.underlying118
 match ass,h1 with
 | [p,t],⟨h2,h3,_⟩=>
  obtain ⟨s,rfl,hs⟩:=qjP h2
  obtain ⟨t,rfl,ht⟩:=qjP h3
  exact ⟨⟨s,t⟩,rfl,hs,ht⟩
theorem qlT (h:Go.AE.qcH Tryz.prog n 51 ws):∃l:List AE.qZ,ws = [.lst (l.map AE.qZ.enc) .no]∧AE.qdB l∧∀y ∈ l,True:=
 qcn h Tryz.underlying51 (by kernel_rfl) fun k hk x hx=>by
  obtain ⟨l,rfl,_⟩:=qhP hx
  exact ⟨l,rfl,trivial⟩
theorem qmV (h:Go.AE.qcH Tryz.prog n 67 ws):∃l:List AE.qbW,ws = [.lst (l.map AE.qbW.enc) .no]∧AE.qdB l∧∀y ∈ l,AE.qu8 y:=
 qcn h Tryz.underlying67 (by kernel_rfl) fun k hk x hx=>by
  obtain ⟨m,ass,rfl,rfl,h1⟩:=qaI hx Tryz.underlying121
  match ass,h1 with
  | [p,q,t,u],⟨h2,h3,h4,h5,_⟩=>
   obtain ⟨z,rfl,_⟩:=qhz h2
   obtain ⟨s,rfl,_⟩:=qbd h3 Tryz.underlying9
   obtain ⟨t,rfl,_⟩:=qbd h4 Tryz.underlying9
   obtain ⟨l,rfl,⟨a,b⟩,c,d⟩:=qhP h5
   exact ⟨⟨z,s,t,l⟩,rfl,⟨a,b,c,d⟩⟩
theorem qmq (h:Go.AE.qcH Tryz.prog n 52 ws):∃l:List AE.qab,ws = [.lst (l.map AE.qab.enc) .no]∧AE.qdB l∧∀y ∈ l,AE.OkN y.e∧∀a ∈ y.acts,AE.qu8 a:=
 qcn h Tryz.underlying52 (by kernel_rfl) fun k hk x hx=>by
  obtain ⟨m,ass,rfl,rfl,h1⟩:=qaI hx Tryz.underlying69
  match ass,h1 with
  | [p,t],⟨h2,h3,_⟩=>
   obtain ⟨s,rfl,ho⟩:=qei _ _ h2
   obtain ⟨t,rfl,_,ht⟩:=qmV h3
   exact ⟨⟨s,t⟩,by simp [AE.qab.enc],ho,ht⟩
theorem ql1 (h:Go.AE.qcH Tryz.prog n 54 ws):∃m:AE.qy,Go.AE.qf.agg ws = m.enc∧AE.qz5 m:=by
 obtain ⟨m,ass,rfl,rfl,h1⟩:=qaI h Tryz.underlying54
 match ass,h1 with
 | [a,b,c,d,e,f,g,i,j,k,l,p,q,r],⟨ha,hb,hc,hd,he,hf,hg,hi,hj,hk,hl,hp,hq,hr,_⟩=>
  obtain ⟨nm,rfl,_⟩:=qbd ha Tryz.underlying9
  obtain ⟨cb,rfl⟩:=qoe hb Tryz.underlying4
  obtain ⟨ins,rfl,n1,_⟩:=qgu hc
  obtain ⟨outs,rfl,n2,_⟩:=qgu hd
  obtain ⟨vars,rfl,n3,o3⟩:=qeC he
  obtain ⟨ta,rfl,n4,o4⟩:=qgj hf
  obtain ⟨ems,rfl,n5,o5⟩:=qkT hg
  obtain ⟨int,rfl,n6,o6⟩:=qeC hi
  obtain ⟨ext,rfl,n7,o7⟩:=qeC hj
  obtain ⟨con,rfl,_⟩:=qhz hk
  obtain ⟨own,rfl,n8,o8⟩:=qeC hl
  obtain ⟨pas,rfl,_,_⟩:=qma hp
  obtain ⟨lks,rfl,_,_⟩:=qlT hq
  obtain ⟨rus,rfl,n9,o9⟩:=qmq hr
  exact ⟨⟨nm,cb,ins,outs,vars,ta,ems,int,ext,con,own,pas,lks,rus⟩,rfl,⟨n1,n2,n3,n4,⟨n5,fun x hx=>(o5 x hx).1⟩,n6,n7,n8,n9⟩,⟨o3,o4,fun x hx=>(o5 x hx).2,o6,o7,o8,fun r hr=>(o9 r hr).1⟩,fun r hr=>(o9 r hr).2⟩
theorem qqz (h:Go.AE.qcH Tryz.prog n 38 ws):∃p:AE.qaP,Go.AE.qf.agg ws = p.enc∧∀m ∈ p.models,AE.qz5 m:=by
 obtain ⟨m,ass,rfl,rfl,h1⟩:=qaI h Tryz.underlying38
 match ass,h1 with
 | [a,b],⟨ha,hb,_⟩=>
  obtain ⟨ms,rfl,_,hm⟩:=qcn (g:=AE.qy.enc) (Q:=AE.qz5) ha Tryz.underlying36 (by kernel_rfl) fun k hk x hx=>ql1 hx
  obtain ⟨s,rfl,_⟩:=qbd hb Tryz.underlying9
  exact ⟨⟨ms,s⟩,rfl,hm⟩
end
end Go.Proofs.YtkmlapholimbcaaGreatDoor
