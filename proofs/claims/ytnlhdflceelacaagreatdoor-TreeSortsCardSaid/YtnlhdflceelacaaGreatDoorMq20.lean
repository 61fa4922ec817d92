/- A part of the proof: the abstract executor and what goes through it (part 20). No condition. -/
import Derived.Test.YtnlhdflceelacaaGreatDoorMq13
import Derived.Test.YtnlhdflceelacaaGreatDoorMq3
import Derived.KernelRfl
import Derived.Laws.BitsLemmas
set_option maxRecDepth 100000
namespace Go.AE
theorem qfq.withX {Y:qcJ} {f:FuncId} {g:Call→List qa→List qg→Option (qaL×List qg×Bool)} (hY:qfq Y) (hg:∀c d aS h,g c aS h = g d aS h):qfq (withX Y f g) where
 mono i g' h:=by
  rcases qc1 h with ⟨_,rfl⟩ | h
  ·exact fun c d _ aS h x hx=>by rw [hg d c];exact hx
  ·exact hY.mono i g' h
 cont i g' h:=by
  rcases qc1 h with ⟨_,rfl⟩ | h
  ·exact fun c _ aS h x hx=>⟨0,by rw [hg (c 0) (qlk c)];exact hx⟩
  ·exact hY.cont i g' h
end Go.AE
namespace Go.Proofs.YtnlhdflceelacaaGreatDoor.AE
open Go.AE
theorem qxD:qfq X where
 mono f g h:=by
  unfold X at h
  split at h
  all_goals first
   | (cases h;exact fun c d hc aS h=>qj2 hc (Nat.le_refl _))
   | (cases h;exact fun c d hc aS h x hx=>hx)
   | cases h
 cont f g h:=by
  unfold X at h
  split at h
  all_goals first
   | (cases h;exact fun c hc aS h x hx=>qj1 hc hx)
   | (cases h;exact fun c hc aS h x hx=>⟨0,hx⟩)
   | cases h
theorem quG:qfq Z:=by
 repeat (first | exact qxD | refine qfq.withX ?_ (fun _ _ _ _=>rfl))
noncomputable def Wd:AE.Call:=W T.get Z
theorem qab {f:FuncId} {first args cap:List qa} {h:List qg} {fn:qf} (h1:Z f = none) (h2:T.get f = some fn) :
  Wd (.fn f first cap) args h = qtg fn.results h (qy h.length Wd fn.code ⟨(first ++ args ++ cap).map qa.dim ++ List.replicate (fn.ntmps - ((first ++ args ++ cap).map qa.dim).length) (.tup []),h,false⟩):=qFV quG h1 h2
theorem qM {n:Int} (h1:-9223372036854775808 ≤ n) (h2:n ≤ 9223372036854775807):IntKind.i64.wrap n = n:=by
 rw [IntKind.wrap_i64]
 omega
theorem qP {n:Nat} (h:n < 9223372036854775807):IntKind.i64.wrap ((n:Int) + 1) = ((n + 1:Nat):Int):=by
 rw [qM (by omega) (by omega)]
 rfl
abbrev Str:=List UInt8
def qxH (i:Nat) (c:UInt8):Bool:=!(ile 97 (c.toNat:Int) && ile (c.toNat:Int) 122) && (i == 0 || !(ile 48 (c.toNat:Int) && ile (c.toNat:Int) 57))
def qsi (s:Str):Prop:=1 ≤ s.length∧s.length ≤ 16∧∀i (hi:i < s.length),qxH i s[i] = false
theorem qn8 (s:Str) (h:List qg):∃b,Wd (.fn 52 [] []) [.str s] h = some (.ret (.bool b),h,false)∧(b = true→qsi s):=by
 have loop:∀k st,(∃tt i,st = ⟨tt,h,false⟩∧tt.length = 50∧lkp tt 0 = .str s∧lkp tt 3 = .int .i64 (i:Nat)∧i + k = s.length∧s.length ≤ 16∧∀j (hj:j < s.length),j < i→qxH j s[j] = false)→
   ∃x st',qy h.length Wd (.loop qku) st = some (x,st')∧(∃tt,st' = ⟨tt,h,false⟩∧tt.length = 50∧((x = .exit 0∧∀j (hj:j < s.length),qxH j s[j] = false)∨(x = .ret∧lkp tt 2 = .bool false))):=by
  refine qK _ (fun x st'=>∃tt,st' = ⟨tt,h,false⟩∧tt.length = 50∧((x = .exit 0∧∀j (hj:j < s.length),qxH j s[j] = false)∨(x = .ret∧lkp tt 2 = .bool false))) ?_
  rintro k st ⟨tt,i,rfl,ht,e0,e3,hik,hl,hgood⟩
  generalize he:qy h.length Wd qku _ = r
  rcases Nat.lt_or_ge i s.length with hi | hi
  ·have c1:ilt (i:Int) (s.length:Int) = true:=by rw [qr];simp;omega
   have hx:qgJ (.str s) (.int .i64 (i:Nat)) = some (.int .u8 (s[i].toNat:Nat)):=qjd (List.getElem?_eq_getElem hi)
   have w:=qP (n:=i) (by omega)
   have hz:((i:Int) == 0) = (i == 0):=by rw [Bool.eq_iff_iff];simp
   simp only [qku,sT.1,sC.1,qd,qc,Nat.testBit,simprocAttr,-Int.reduceNatCast',ht,e0,e3,c1,hx,w,hz] at he
   cases hb:(!(ile 97 (s[i].toNat:Int) && ile (s[i].toNat:Int) 122) && (i == 0 || !(ile 48 (s[i].toNat:Int) && ile (s[i].toNat:Int) 57))) with
   | true=>
    simp only [hb,sT.1,sC.1,qd,qc,Nat.testBit,simprocAttr,-Int.reduceNatCast',ht] at he
    subst he
    refine .inr ⟨_,_,rfl,by simp,_,rfl,by simp only [qi,ht],.inr ⟨rfl,?_⟩⟩
    simp only [sT.1,sC.1,qd,qc,Nat.testBit,simprocAttr,-Int.reduceNatCast',ht]
   | false=>
    simp only [hb,sT.1,sC.1,qd,qc,Nat.testBit,simprocAttr,-Int.reduceNatCast',ht,e3,w] at he
    subst he
    refine .inl ⟨_,k - 1,rfl,by omega,_,i + 1,rfl,by simp only [qi,ht],?_,?_,by omega,hl,?_⟩
    ·simp only [sT.1,sC.1,qd,qc,Nat.testBit,simprocAttr,-Int.reduceNatCast',ht,e0]
    ·simp only [sT.1,sC.1,qd,qc,Nat.testBit,simprocAttr,-Int.reduceNatCast',ht]
    ·intro j hj hji
     by_cases e:j = i
     ·subst e
      exact hb
     ·exact hgood j hj (by omega)
  ·have c1:ilt (i:Int) (s.length:Int) = false:=by rw [qr];simp;omega
   simp only [qku,sT.1,sC.1,qd,qc,Nat.testBit,simprocAttr,-Int.reduceNatCast',ht,e0,e3,c1] at he
   subst he
   exact .inr ⟨_,_,rfl,by simp,_,rfl,by simp only [qi,ht],.inl ⟨rfl,fun j hj=>hgood j hj (by omega)⟩⟩
 generalize hw:Wd _ _ h = w
 rw [qab rfl (show T.get 52 = some c52 by kernel_rfl)] at hw
 by_cases g1:1 ≤ s.length∧s.length ≤ 16
 ·have d1:ilt (s.length:Int) 1 = false:=by rw [qr];simp;omega
  have d2:ilt 16 (s.length:Int) = false:=by rw [qr];simp;omega
  simp only [c52,sT.1,sC.1,qd,qc,Nat.testBit,simprocAttr,-Int.reduceNatCast',d1,d2] at hw
  generalize hr:qy h.length Wd (.loop qku) _ = r at hw
  obtain ⟨x,st',rfl,tt,rfl,ht,⟨rfl,hall⟩ | ⟨rfl,e2⟩⟩:=qbU hr (loop s.length _ ⟨_,0,rfl,by simp only [sT.1,sC.1,qd,qc,Nat.testBit,simprocAttr,-Int.reduceNatCast'],by simp only [sT.1,sC.1,qd,qc,Nat.testBit,simprocAttr,-Int.reduceNatCast'],by simp only [sT.1,sC.1,qd,qc,Nat.testBit,simprocAttr,-Int.reduceNatCast',Int.natCast_zero],by omega,g1.2,by omega⟩)
  ·simp only [sT.1,sC.1,qd,qc,Nat.testBit,simprocAttr,-Int.reduceNatCast',ht] at hw
   subst hw
   exact ⟨_,rfl,fun _=>⟨g1.1,g1.2,hall⟩⟩
  ·simp only [sT.1,sC.1,qd,qc,Nat.testBit,simprocAttr,-Int.reduceNatCast',ht,e2] at hw
   subst hw
   exact ⟨_,rfl,fun h=>by cases h⟩
 ·have d1:(ilt (s.length:Int) 1 || ilt 16 (s.length:Int)) = true:=by rw [qr,qr];simp;omega
  simp only [c52,sT.1,sC.1,qd,qc,Nat.testBit,simprocAttr,-Int.reduceNatCast',d1] at hw
  subst hw
  exact ⟨_,rfl,fun h=>by cases h⟩
inductive Val where
 | mk (k n:Int) (s:Str) (l:List Val)
def Val.enc:Val→List qa
 | .mk k n s l=>[.int .i64 k,.int .i64 n,.str s,.lst (l.map fun v=>.agg v.enc) .no]
def qal (v:Val):qa:=.agg v.enc
theorem qfE (k n:Int) (s:Str) (l:List Val):(Val.mk k n s l).enc = [.int .i64 k,.int .i64 n,.str s,.lst (l.map qal) .no]:=by rw [Val.enc];rfl
theorem qam (k n:Int) (s:Str) (l:List Val):qal (.mk k n s l) = .agg [.int .i64 k,.int .i64 n,.str s,.lst (l.map qal) .no]:=by rw [qal,qfE]
def qln (k n:Int) (s:Str) (l:List Val):Prop:=(k = 0∧s = []∧l = [])∨(k = 1∧s = []∧l = []∧0 ≤ n∧n ≤ 1)∨(k = 2∧qsi s∧n = 0∧l = [])
def OK:Nat→Val→Prop
 | 0,.mk k n s l=>qln k n s l
 | d + 1,.mk k n s l=>qln k n s l∨(k = 3∧n = 0∧s = []∧1 ≤ l.length∧l.length ≤ 4∧∀x ∈ l,OK d x)
theorem qdX {d:Nat} {k n:Int} {s:Str} {l:List Val} (h:qln k n s l):OK d (.mk k n s l):=by
 cases d with
 | zero=>exact h
 | succ d=>exact .inl h
set_option maxHeartbeats 1000000 in
theorem qrs:∀(d:Nat),d ≤ 3→∀x h,∃b,Wd (.fn 18 [] []) [qal x,.int .i64 (d:Nat)] h = some (.ret (.bool b),h,false)∧(b = true→OK d x):=by
 intro d
 induction d with
 | zero=>
  rintro _ ⟨k,n,s,l⟩ h
  obtain ⟨b,hb,hname⟩:=qn8 s (h ++ [.cells [.int .i64 k,.int .i64 n,.str s,.lst (l.map qal) .no]])
  have z0:(((0:Nat):Int) == 0) = true:=by kernel_rfl
  rw [qam]
  generalize hw:Wd _ _ h = w
  rw [qab rfl (show T.get 18 = some c18 by kernel_rfl)] at hw
  cases e0:(k == 0) with
  | true=>
   simp only [c18,sT.1,sC.1,qd,qc,Nat.testBit,simprocAttr,-Int.reduceNatCast',e0,List.length_map] at hw
   subst hw
   refine ⟨_,rfl,fun hh=>qdX (.inl ?_)⟩
   simp only [Bool.and_eq_true,beq_iff_eq] at hh e0
   exact ⟨e0,hh.1,List.length_eq_zero_iff.1 (by have:=hh.2;omega)⟩
  | false=>
   cases e1:(k == 1) with
   | true=>
    simp only [c18,sT.1,sC.1,qd,qc,Nat.testBit,simprocAttr,-Int.reduceNatCast',e0,e1,List.length_map] at hw
    subst hw
    refine ⟨_,rfl,fun hh=>qdX (.inr (.inl ?_))⟩
    simp only [Bool.and_eq_true,beq_iff_eq,qbH,decide_eq_true_eq] at hh e1
    exact ⟨e1,hh.1.1.1,List.length_eq_zero_iff.1 (by have:=hh.1.1.2;omega),hh.1.2,hh.2⟩
   | false=>
    cases e2:(k == 2) with
    | true=>
     simp only [c18,sT.1,sC.1,qd,qc,Nat.testBit,simprocAttr,-Int.reduceNatCast',e0,e1,e2,hb,List.length_map] at hw
     subst hw
     refine ⟨_,rfl,fun hh=>qdX (.inr (.inr ?_))⟩
     simp only [Bool.and_eq_true,beq_iff_eq] at hh e2
     exact ⟨e2,hname hh.1.1,hh.1.2,List.length_eq_zero_iff.1 (by have:=hh.2;omega)⟩
    | false=>
     simp only [c18,sT.1,sC.1,qd,qc,Nat.testBit,simprocAttr,-Int.reduceNatCast',e0,e1,e2,z0,Bool.or_true,Bool.true_or] at hw
     subst hw
     exact ⟨_,rfl,fun h=>by cases h⟩
 | succ d ih=>
  rintro hd ⟨k,n,s,l⟩ h
  obtain ⟨b,hb,hname⟩:=qn8 s (h ++ [.cells [.int .i64 k,.int .i64 n,.str s,.lst (l.map qal) .no]])
  have hlt:h.length < (h ++ [qg.cells [.int .i64 k,.int .i64 n,.str s,.lst (l.map qal) .no]]).length:=by simp
  have hbx:(h ++ [qg.cells [.int .i64 k,.int .i64 n,.str s,.lst (l.map qal) .no]])[h.length]? = some (.cells [.int .i64 k,.int .i64 n,.str s,.lst (l.map qal) .no]):=by simp
  have htk:(h ++ [qg.cells [.int .i64 k,.int .i64 n,.str s,.lst (l.map qal) .no]]).take h.length = h:=by simp
  have loop:l.length ≤ 4→∀m st,(∃tt i,st = ⟨tt,h ++ [qg.cells [.int .i64 k,.int .i64 n,.str s,.lst (l.map qal) .no]],false⟩∧tt.length = 102∧lkp tt 1 = .int .i64 (d + 1:Nat)∧lkp tt 2 = .ptr h.length 0∧lkp tt 5 = .int .i64 (i:Nat)∧i + m = l.length∧∀j (hj:j < l.length),j < i→OK d l[j])→
    ∃x st',qy h.length Wd (.loop qks) st = some (x,st')∧(∃tt,st' = ⟨tt,h ++ [qg.cells [.int .i64 k,.int .i64 n,.str s,.lst (l.map qal) .no]],false⟩∧tt.length = 102∧((x = .exit 0∧∀j (hj:j < l.length),OK d l[j])∨(x = .ret∧lkp tt 4 = .bool false))):=by
   intro hl
   refine qK _ (fun x st'=>∃tt,st' = ⟨tt,h ++ [qg.cells [.int .i64 k,.int .i64 n,.str s,.lst (l.map qal) .no]],false⟩∧tt.length = 102∧((x = .exit 0∧∀j (hj:j < l.length),OK d l[j])∨(x = .ret∧lkp tt 4 = .bool false))) ?_
   rintro m st ⟨tt,i,rfl,ht,e1,e2,e5,him,hgood⟩
   generalize he:qy h.length Wd qks _ = r
   rcases Nat.lt_or_ge i l.length with hi | hi
   ·have c1:ilt (i:Int) (l.length:Int) = true:=by rw [qr];simp;omega
    have w:=qP (n:=i) (by omega)
    have w1:IntKind.i64.wrap (((d + 1:Nat):Int) - 1) = ((d:Nat):Int):=by rw [qM (by omega) (by omega)];omega
    obtain ⟨q,hq,hq2⟩:=ih (by omega) l[i] (h ++ [qg.cells [.int .i64 k,.int .i64 n,.str s,.lst (l.map qal) .no]])
    have hg:(l.map qal)[i]? = some (qal l[i]):=by rw [List.getElem?_map,List.getElem?_eq_getElem hi];rfl
    have hgood2:q = true→∀j (hj:j < l.length),j < i + 1→OK d l[j]:=fun hqt j hj hji=>by
     by_cases e:j = i
     ·subst e
      exact hq2 hqt
     ·exact hgood j hj (by omega)
    generalize l[i] = y at hq hg
    obtain ⟨k',n',s',zs⟩:=y
    rw [qam] at hq hg
    have hx:qbr 4 (.lst (l.map qal) .no) (.int .i64 (i:Nat)) = some (.iptr [.int .i64 k',.int .i64 n',.str s',.lst (zs.map qal) .no] 0):=qbi hg rfl
    cases q <;> simp only [qks,sT.1,sC.1,qd,qc,Nat.testBit,simprocAttr,-Int.reduceNatCast',ht,e1,e2,e5,c1,w,w1,hx,hq,hlt,hbx,List.length_map] at he <;> subst he
    ·refine .inr ⟨_,_,rfl,by simp,_,rfl,by simp only [qi,ht],.inr ⟨rfl,?_⟩⟩
     simp only [sT.1,sC.1,qd,qc,Nat.testBit,simprocAttr,-Int.reduceNatCast',ht]
    ·refine .inl ⟨_,m - 1,rfl,by omega,_,i + 1,rfl,by simp only [qi,ht],?_,?_,?_,by omega,hgood2 rfl⟩
     ·simp only [sT.1,sC.1,qd,qc,Nat.testBit,simprocAttr,-Int.reduceNatCast',ht,e1]
     ·simp only [sT.1,sC.1,qd,qc,Nat.testBit,simprocAttr,-Int.reduceNatCast',ht,e2]
     ·simp only [sT.1,sC.1,qd,qc,Nat.testBit,simprocAttr,-Int.reduceNatCast',ht]
   ·have c1:ilt (i:Int) (l.length:Int) = false:=by rw [qr];simp;omega
    simp only [qks,sT.1,sC.1,qd,qc,Nat.testBit,simprocAttr,-Int.reduceNatCast',ht,e1,e2,e5,c1,hlt,hbx,List.length_map] at he
    subst he
    exact .inr ⟨_,_,rfl,by simp,_,rfl,by simp only [qi,ht],.inl ⟨rfl,fun j hj=>hgood j hj (by omega)⟩⟩
  rw [qam]
  generalize hw:Wd _ _ h = w
  rw [qab rfl (show T.get 18 = some c18 by kernel_rfl)] at hw
  cases e0:(k == 0) with
  | true=>
   simp only [c18,sT.1,sC.1,qd,qc,Nat.testBit,simprocAttr,-Int.reduceNatCast',e0,List.length_map] at hw
   subst hw
   refine ⟨_,rfl,fun hh=>qdX (.inl ?_)⟩
   simp only [Bool.and_eq_true,beq_iff_eq] at hh e0
   exact ⟨e0,hh.1,List.length_eq_zero_iff.1 (by have:=hh.2;omega)⟩
  | false=>
   cases e1:(k == 1) with
   | true=>
    simp only [c18,sT.1,sC.1,qd,qc,Nat.testBit,simprocAttr,-Int.reduceNatCast',e0,e1,List.length_map] at hw
    subst hw
    refine ⟨_,rfl,fun hh=>qdX (.inr (.inl ?_))⟩
    simp only [Bool.and_eq_true,beq_iff_eq,qbH,decide_eq_true_eq] at hh e1
    exact ⟨e1,hh.1.1.1,List.length_eq_zero_iff.1 (by have:=hh.1.1.2;omega),hh.1.2,hh.2⟩
   | false=>
    cases e2:(k == 2) with
    | true=>
     simp only [c18,sT.1,sC.1,qd,qc,Nat.testBit,simprocAttr,-Int.reduceNatCast',e0,e1,e2,hb,List.length_map] at hw
     subst hw
     refine ⟨_,rfl,fun hh=>qdX (.inr (.inr ?_))⟩
     simp only [Bool.and_eq_true,beq_iff_eq] at hh e2
     exact ⟨e2,hname hh.1.1,hh.1.2,List.length_eq_zero_iff.1 (by have:=hh.2;omega)⟩
    | false=>
     cases hc:(!(k == 3) || !(n == 0) || !(s == []) || ((d + 1:Nat):Int) == 0 || ilt (l.length:Int) 1 || ilt 4 (l.length:Int)) with
     | true=>
      simp only [c18,sT.1,sC.1,qd,qc,Nat.testBit,simprocAttr,-Int.reduceNatCast',e0,e1,e2,hc,List.length_map] at hw
      subst hw
      exact ⟨_,rfl,fun h=>by cases h⟩
     | false=>
      have hl:l.length ≤ 4:=by
       simp only [Bool.or_eq_false_iff] at hc
       have:=hc.2
       rw [qr] at this
       simp at this
       omega
      simp only [c18,sT.1,sC.1,qd,qc,Nat.testBit,simprocAttr,-Int.reduceNatCast',e0,e1,e2,hc,List.length_map] at hw
      generalize hr:qy h.length Wd (.loop qks) _ = r at hw
      obtain ⟨x,st',rfl,tt,rfl,ht,⟨rfl,hall⟩ | ⟨rfl,e4⟩⟩:=qbU hr (loop hl l.length _ ⟨_,0,rfl,by simp only [sT.1,sC.1,qd,qc,Nat.testBit,simprocAttr,-Int.reduceNatCast'],by simp only [sT.1,sC.1,qd,qc,Nat.testBit,simprocAttr,-Int.reduceNatCast'],by simp only [sT.1,sC.1,qd,qc,Nat.testBit,simprocAttr,-Int.reduceNatCast'],by simp only [sT.1,sC.1,qd,qc,Nat.testBit,simprocAttr,-Int.reduceNatCast',Int.natCast_zero],by omega,by omega⟩)
      ·simp only [sT.1,sC.1,qd,qc,Nat.testBit,simprocAttr,-Int.reduceNatCast',ht,htk] at hw
       subst hw
       refine ⟨_,rfl,fun _=>.inr ?_⟩
       simp only [Bool.or_eq_false_iff,Bool.not_eq_false',beq_iff_eq,qr,decide_eq_false_iff_not] at hc
       obtain ⟨⟨⟨⟨⟨c1,c2⟩,c3⟩,_⟩,c5⟩,c6⟩:=hc
       refine ⟨c1,c2,c3,by omega,by omega,fun x hx=>?_⟩
       obtain ⟨j,hj,rfl⟩:=List.getElem_of_mem hx
       exact hall j hj
      ·simp only [sT.1,sC.1,qd,qc,Nat.testBit,simprocAttr,-Int.reduceNatCast',ht,e4,htk] at hw
       subst hw
       exact ⟨_,rfl,fun h=>by cases h⟩
end Go.Proofs.YtnlhdflceelacaaGreatDoor.AE
