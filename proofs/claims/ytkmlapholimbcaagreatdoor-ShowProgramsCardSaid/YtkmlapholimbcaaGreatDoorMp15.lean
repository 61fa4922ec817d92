/- A part of the proof: the abstract executor and what goes through it (part 15). No condition. -/
import Derived.Test.YtkmlapholimbcaaGreatDoorMp14
set_option maxRecDepth 100000
namespace Go.Proofs.YtkmlapholimbcaaGreatDoor.AE
open Go.AE
theorem qbr {base:Nat} {call:AE.Call} {p:qcj} {s:St} (d:Option Nat) (sh:qcC) (n:Bool) (x y:qn):qz base call p d (.eqs sh n x y) s = qfl d s ((qrp sh (ev s.t x) (ev s.t y)).map fun r=>.bool (r != n)):=qaX _ _ rfl (by simp) (by simp) (by simp)
theorem qbq (sh:qcC) (n:Bool) (x y:qn):(AOp.eqs sh n x y).plain = true:=Eq.trans rfl rfl
theorem qbT (sh:qcC) (n:Bool) (x y:qn):(AOp.eqs sh n x y).effs = false:=Eq.trans rfl rfl
theorem qbp (sh:qcC) (n:Bool) (x y:qn):(AOp.eqs sh n x y).isApp = false:=Eq.trans rfl rfl
def qik (s:Str):Prop:=s.length ≤ 9223372036854775807
structure qu8 (a:qbW):Prop where
 s1:qik a.link.frm.part
 s2:qik a.link.frm.port
 s3:qik a.link.to.part
 s4:qik a.link.to.port
theorem qn5 {a b c d:Str} (ha:qik a) (hb:qik b) (hc:qik c) (hd:qik d):qrp ⟨true,4,[(0,.s),(1,.s),(2,.s),(3,.s)]⟩ (.agg [.str a,.str b,.str c,.str d]) (.agg [.str [],.str [],.str [],.str []]) = some (a == [] && (b == [] && (c == [] && d == []))):=by
 have h0:Nat.ble 0 9223372036854775807 = true:=rfl
 unfold qrp
 rw [if_pos]
 ·refine congrArg some ?_
  simp only [qf.cells,qdV,List.getElem?_cons_zero,List.getElem?_cons_succ,qjJ]
  cases a == [] <;> cases b == [] <;> cases c == [] <;> cases d == [] <;> rfl
 ·simp only [qel,qdZ,List.all_cons,List.all_nil,qdY,List.getElem?_cons_zero,List.getElem?_cons_succ,qas ha,qas hb,qas hc,qas hd,h0,List.length_nil,List.length_cons,Bool.and_self,Bool.and_true]
  rfl
section
variable {h:List qq}
set_option maxHeartbeats 4000000 in
theorem qvf {a:qbW} (hs:qu8 a) (h:List qq):Wd (.fn 138 [] []) [a.enc] h = some (.ret (.bool (qhk a)),h,false):=by
 obtain ⟨k,nm,md,l⟩:=a
 have hl:=fun h=>qj1 l h
 have he:=qn5 hs.s1 hs.s2 hs.s3 hs.s4
 simp only at he
 rw [qhk,qbW.enc,qt rfl (show T.get 138 = some quB by kernel_rfl)]
 rw [qZ.enc] at hl
 rw [qtC]
 simp only
 cases k0:k == 0 with
 | true=>
  cases h1:qG nm <;> cases h2:qG md <;> simp only [quB,sT.1,sC.1,sTA.1,sCA.1,qe,qj,qk,Src.isTmp,qg,Src.hangs,qn.isT,qi,qd,Nat.testBit,bne,simprocAttr,-Int.reduceNatCast',qb0,qbq,qbT,qbp,qbr,he,Option.map_some,Bool.bne_false,Bool.not_not,qK,k0,h1,h2,Bool.true_and,Bool.false_and,cond_true,cond_false]
 | false=>
  cases k1:k == 1 with
  | true=>
   cases h1:qG nm <;> cases h2:md == [] <;> simp only [quB,sT.1,sC.1,sTA.1,sCA.1,qe,qj,qk,Src.isTmp,qg,Src.hangs,qn.isT,qi,qd,Nat.testBit,bne,simprocAttr,-Int.reduceNatCast',qb0,qbq,qbT,qbp,qbr,he,Option.map_some,Bool.bne_false,Bool.not_not,qK,k0,k1,h1,h2,Bool.true_and,Bool.false_and,cond_true,cond_false]
  | false=>
   cases k2:k == 2 with
   | true=>cases h1:nm == [] <;> cases h2:md == [] <;> simp only [quB,sT.1,sC.1,sTA.1,sCA.1,qe,qj,qk,Src.isTmp,qg,Src.hangs,qn.isT,qi,qd,Nat.testBit,bne,simprocAttr,-Int.reduceNatCast',qb0,qbq,qbT,qbp,qbr,he,Option.map_some,Bool.bne_false,Bool.not_not,hl,k0,k1,k2,h1,h2,Bool.true_and,Bool.false_and,Bool.true_or,Bool.or_true,Bool.or_false,Bool.and_false,cond_true,cond_false]
   | false=>
    cases k3:k == 3 with
    | true=>cases h1:nm == [] <;> cases h2:md == [] <;> simp only [quB,sT.1,sC.1,sTA.1,sCA.1,qe,qj,qk,Src.isTmp,qg,Src.hangs,qn.isT,qi,qd,Nat.testBit,bne,simprocAttr,-Int.reduceNatCast',qb0,qbq,qbT,qbp,qbr,he,Option.map_some,Bool.bne_false,Bool.not_not,hl,k0,k1,k2,k3,h1,h2,Bool.true_and,Bool.false_and,Bool.true_or,Bool.or_true,Bool.or_false,Bool.and_false,cond_true,cond_false]
    | false=>simp only [quB,sT.1,sC.1,sTA.1,sCA.1,qe,qj,qk,Src.isTmp,qg,Src.hangs,qn.isT,qi,qd,Nat.testBit,bne,simprocAttr,-Int.reduceNatCast',qb0,qbq,qbT,qbp,qbr,he,Option.map_some,Bool.bne_false,Bool.not_not,hl,k0,k1,k2,k3,Bool.true_and,Bool.false_and,Bool.true_or,Bool.or_true,Bool.or_false,Bool.and_false,cond_true,cond_false]
structure qrw (r:qab):Prop where
 e:ExF r.e
 n:r.acts.length ≤ 100000
 a:∀a ∈ r.acts,qu8 a
theorem qt5 {r:qab} (hs:qrw r) (h:List qq):Wd (.fn 106 [] []) [r.enc] h = some (.ret (.bool (qd5 r)),h,false):=by
 obtain ⟨e,l⟩:=r
 have hE:=fun h=>qsD e h hs.e
 have hA:=fun h=>qea (k:=7) (bf:=qhk) (F:=137) (g:=138) (z:=[.int .i64 0,.str [],.str [],.str [],.str [],.str [],.str []]) rfl (by kernel_rfl) rfl rfl (fun s _=>qmU s) hs.n (fun s hm h=>qvf (hs.a s hm) h) h
 rw [qd5]
 simp only at *
 generalize right 20 e = b at *
 generalize l.all qhk = b2 at *
 clear hs
 rw [qab.enc]
 obtain ⟨op,n,m2,sb,aS⟩:=e
 rw [ql] at hE
 rw [exC,qt rfl (show T.get 106 = some qAa by kernel_rfl)]
 cases hc:ile (l.length:Nat) 5 <;> cases b <;> simp only [qAa,sT.1,sC.1,sTA.1,sCA.1,qe,qj,qk,Src.isTmp,qg,Src.hangs,qn.isT,qi,qd,Nat.testBit,bne,simprocAttr,-Int.reduceNatCast',hc,hE,hA,List.length_map,Bool.true_and,Bool.false_and]
end
end Go.Proofs.YtkmlapholimbcaaGreatDoor.AE
namespace Go.Proofs.YtkmlapholimbcaaGreatDoor.AE
open Go.AE
theorem qh5 (t:List qf) (sh:qcC) (n:Bool) (x y:qn):pureV t (.eqs sh n x y) = (qrp sh (ev t x) (ev t y)).map fun r=>.bool (r != n):=Eq.trans rfl rfl
theorem qb9 {α:Type} {l:List α} {f:α→Bool} {i:Nat} (hi:i < l.length):(l.drop i).all f = (f l[i] && (l.drop (i + 1)).all f):=by
 rw [List.drop_eq_getElem_cons hi,List.all_cons]
theorem qb8 {α:Type} {l:List α} {f:α→Bool} {i:Nat} (hi:l.length ≤ i):(l.drop i).all f = true:=by
 rw [List.drop_of_length_le hi];rfl
section
variable {h:List qq}
theorem qn2 (p:qdN) (h:List qq):Wd (.fn 88 [] []) [p.enc] h = some (.ret (.bool (qro p)),h,false):=by
 rw [qro,qdN.enc,qt rfl (show T.get 88 = some c88 by kernel_rfl)]
 cases hn:qG p.port <;> cases hc:p.part == [] <;> simp only [c88,sT.1,sC.1,sTA.1,sCA.1,qe,qj,qk,Src.isTmp,qg,Src.hangs,qn.isT,qi,qd,Nat.testBit,bne,simprocAttr,-Int.reduceNatCast',qH,hn,hc,Bool.true_and,Bool.false_and,Bool.true_or,Bool.false_or]
theorem qj2 (l:qZ) (h:List qq):Wd (.fn 54 [] []) [l.enc] h = some (.ret (.bool (qc7 l)),h,false):=by
 have h1:=fun h=>qn2 l.frm h
 have h2:=fun h=>qn2 l.to h
 rw [qc7,qZ.enc,qt rfl (show T.get 54 = some c54 by kernel_rfl)]
 rw [qdN.enc] at h1 h2
 cases hn:qro l.frm <;> rw [hn] at h1 <;> simp only [c54,sT.1,sC.1,sTA.1,sCA.1,qe,qj,qk,Src.isTmp,qg,Src.hangs,qn.isT,qi,qd,Nat.testBit,bne,simprocAttr,-Int.reduceNatCast',h1,h2,Bool.true_and,Bool.false_and]
set_option maxHeartbeats 4000000 in
theorem qvg {a:qbW} (hs:qu8 a) (h:List qq):Wd (.fn 55 [] []) [a.enc] h = some (.ret (.bool (qhk a)),h,false):=by
 obtain ⟨k,nm,md,l⟩:=a
 have hl:=fun h=>qj2 l h
 have he:=qn5 hs.s1 hs.s2 hs.s3 hs.s4
 simp only at he
 rw [qhk,qbW.enc,qt rfl (show T.get 55 = some c55 by kernel_rfl)]
 rw [qZ.enc] at hl
 rw [qtC]
 simp only
 cases k0:k == 0 with
 | true=>
  cases h1:qG nm <;> cases h2:qG md <;> simp only [c55,sT.1,sC.1,sTA.1,sCA.1,qe,qj,qk,Src.isTmp,qg,Src.hangs,qn.isT,qi,qd,Nat.testBit,bne,simprocAttr,-Int.reduceNatCast',qb0,qbq,qbT,qbp,qbr,qh5,qbL,he,Option.map_some,Bool.bne_false,Bool.not_not,qH,k0,h1,h2,Bool.true_and,Bool.false_and,cond_true,cond_false]
 | false=>
  cases k1:k == 1 with
  | true=>
   cases h1:qG nm <;> cases h2:md == [] <;> simp only [c55,sT.1,sC.1,sTA.1,sCA.1,qe,qj,qk,Src.isTmp,qg,Src.hangs,qn.isT,qi,qd,Nat.testBit,bne,simprocAttr,-Int.reduceNatCast',qb0,qbq,qbT,qbp,qbr,qh5,qbL,he,Option.map_some,Bool.bne_false,Bool.not_not,qH,k0,k1,h1,h2,Bool.true_and,Bool.false_and,cond_true,cond_false]
  | false=>
   cases k2:k == 2 with
   | true=>cases h1:nm == [] <;> cases h2:md == [] <;> simp only [c55,sT.1,sC.1,sTA.1,sCA.1,qe,qj,qk,Src.isTmp,qg,Src.hangs,qn.isT,qi,qd,Nat.testBit,bne,simprocAttr,-Int.reduceNatCast',qb0,qbq,qbT,qbp,qbr,qh5,qbL,he,Option.map_some,Bool.bne_false,Bool.not_not,hl,k0,k1,k2,h1,h2,Bool.true_and,Bool.false_and,Bool.true_or,Bool.or_true,Bool.or_false,Bool.and_false,cond_true,cond_false]
   | false=>
    cases k3:k == 3 with
    | true=>cases h1:nm == [] <;> cases h2:md == [] <;> simp only [c55,sT.1,sC.1,sTA.1,sCA.1,qe,qj,qk,Src.isTmp,qg,Src.hangs,qn.isT,qi,qd,Nat.testBit,bne,simprocAttr,-Int.reduceNatCast',qb0,qbq,qbT,qbp,qbr,qh5,qbL,he,Option.map_some,Bool.bne_false,Bool.not_not,hl,k0,k1,k2,k3,h1,h2,Bool.true_and,Bool.false_and,Bool.true_or,Bool.or_true,Bool.or_false,Bool.and_false,cond_true,cond_false]
    | false=>simp only [c55,sT.1,sC.1,sTA.1,sCA.1,qe,qj,qk,Src.isTmp,qg,Src.hangs,qn.isT,qi,qd,Nat.testBit,bne,simprocAttr,-Int.reduceNatCast',qb0,qbq,qbT,qbp,qbr,qh5,qbL,he,Option.map_some,Bool.bne_false,Bool.not_not,hl,k0,k1,k2,k3,Bool.true_and,Bool.false_and,Bool.true_or,Bool.or_true,Bool.or_false,Bool.and_false,cond_true,cond_false]
theorem qz1:∀d,d ≤ 3→∀(v:Tp) g,Wd (.fn 87 [] []) [tpV v,.int .i64 (d:Nat)] g = some (.ret (.bool (tyB d v)),g,false):=by
 intro d
 induction d with
 | zero=>
  rintro _ ⟨k,l⟩ g
  have d1:(((0:Nat):Int) == 0) = true:=by kernel_rfl
  rw [tyB,qa9,qt rfl (show T.get 87 = some c87 by kernel_rfl)]
  by_cases hk:k = 0∨k = 1∨k = 2
  ·have c1:ile 0 k = true:=qli (by omega)
   have c2:ile k 2 = true:=qli (by omega)
   have e:(k == 0 || (k == 1 || k == 2)) = true:=by simpa using hk
   simp only [c87,sT.1,sC.1,qe,qd,Nat.testBit,simprocAttr,-Int.reduceNatCast',List.length_map,qpo,c1,c2,e,Bool.true_and]
  ·have e:(k == 0 || (k == 1 || k == 2)) = false:=by simpa using hk
   have c12:(ile 0 k && ile k 2) = false:=by rw [qaL,qaL];simp;omega
   cases c1:ile 0 k with
   | true=>
    rw [c1,Bool.true_and] at c12
    cases h3:k == 3 <;> simp only [c87,sT.1,sC.1,qe,qd,Nat.testBit,simprocAttr,-Int.reduceNatCast',List.length_map,qpo,c1,c12,e,d1,h3,bne,Bool.not_true,Bool.not_false,Bool.false_and]
   | false=>cases h3:k == 3 <;> simp only [c87,sT.1,sC.1,qe,qd,Nat.testBit,simprocAttr,-Int.reduceNatCast',List.length_map,qpo,c1,e,d1,h3,bne,Bool.not_true,Bool.not_false,Bool.false_and]
 | succ d ih=>
  rintro hd ⟨k,l⟩ g
  have d1:(((d + 1:Nat):Int) == 0) = false:=by rw [beq_eq_false_iff_ne];omega
  rw [tyB,qa9]
  by_cases hk:k = 0∨k = 1∨k = 2
  ·have c1:ile 0 k = true:=qli (by omega)
   have c2:ile k 2 = true:=qli (by omega)
   have e:(k == 0 || (k == 1 || k == 2)) = true:=by simpa using hk
   have h3:(k == 3) = false:=by rw [beq_eq_false_iff_ne];omega
   rw [qt rfl (show T.get 87 = some c87 by kernel_rfl)]
   simp only [c87,sT.1,sC.1,qe,qd,Nat.testBit,simprocAttr,-Int.reduceNatCast',List.length_map,qpo,c1,c2,e,h3,Bool.true_and,Bool.false_and,Bool.or_false]
  ·have e:(k == 0 || (k == 1 || k == 2)) = false:=by simpa using hk
   have c12:(ile 0 k && ile k 2) = false:=by rw [qaL,qaL];simp;omega
   have hpre:(ile 0 k = false∧ile k 2 = true)∨(ile 0 k = true∧ile k 2 = false):=by
    rw [qaL,qaL] at *
    by_cases h0:0 ≤ k
    ·exact .inr ⟨decide_eq_true h0,decide_eq_false (by omega)⟩
    ·exact .inl ⟨decide_eq_false h0,decide_eq_true (by omega)⟩
   rw [e,Bool.false_and,Bool.false_or]
   cases h3:k == 3 with
   | false=>
    rw [qt rfl (show T.get 87 = some c87 by kernel_rfl)]
    obtain ⟨c1,c2⟩ | ⟨c1,c2⟩:=hpre <;> simp only [c87,sT.1,sC.1,qe,qd,Nat.testBit,simprocAttr,-Int.reduceNatCast',List.length_map,c1,c2,h3,bne,Bool.not_false,Bool.false_and]
   | true=>
    rw [Bool.true_and]
    cases l1:decide (1 ≤ l.length) with
    | false=>
     have q1:ilt (l.length:Nat) 1 = true:=by rw [qaj];have:=of_decide_eq_false l1;exact decide_eq_true (by omega)
     rw [qt rfl (show T.get 87 = some c87 by kernel_rfl)]
     obtain ⟨c1,c2⟩ | ⟨c1,c2⟩:=hpre <;> simp only [c87,sT.1,sC.1,qe,qd,Nat.testBit,simprocAttr,-Int.reduceNatCast',List.length_map,c1,c2,h3,d1,q1,bne,Bool.not_true,Bool.false_and]
    | true=>
     have q1:ilt (l.length:Nat) 1 = false:=by rw [qaj];have:=of_decide_eq_true l1;exact decide_eq_false (by omega)
     cases l4:decide (l.length ≤ 4) with
     | false=>
      have q4:ilt 4 (l.length:Nat) = true:=by rw [qaj];have:=of_decide_eq_false l4;exact decide_eq_true (by omega)
      rw [qt rfl (show T.get 87 = some c87 by kernel_rfl)]
      obtain ⟨c1,c2⟩ | ⟨c1,c2⟩:=hpre <;> simp only [c87,sT.1,sC.1,qe,qd,Nat.testBit,simprocAttr,-Int.reduceNatCast',List.length_map,c1,c2,h3,d1,q1,q4,bne,Bool.not_true,Bool.false_and,Bool.true_and]
     | true=>
      have hl:=of_decide_eq_true l4
      have q4:ilt 4 (l.length:Nat) = false:=by rw [qaj];exact decide_eq_false (by omega)
      have wd:IntKind.i64.wrap (((d + 1:Nat):Int) - 1) = ((d:Nat):Int):=by rw [qbG (by omega) (by omega)];omega
      rw [Bool.true_and,Bool.true_and]
      obtain ⟨H,hH⟩ :∃H,H = g ++ [qq.cells [.int .i64 k,.lst (l.map tpV) .no]]:=⟨_,rfl⟩
      have hbx:H[g.length]? = some (.cells [.int .i64 k,.lst (l.map tpV) .no]):=by rw [hH,qbD];rfl
      have loop:∀q st,(∃tt i,st = ⟨tt,H,false⟩∧tt.length = 53∧lkp tt 1 = .int .i64 (d + 1:Nat)∧lkp tt 2 = .ptr g.length 0∧lkp tt 5 = .int .i64 (i:Nat)∧i + q = l.length∧l.all (tyB d) = (l.drop i).all (tyB d))→
        ∃x st',qx g.length Wd (.loop qi8) st = some (x,st')∧(∃tt,st' = ⟨tt,H,false⟩∧tt.length = 53∧((x = .exit 0∧l.all (tyB d) = true)∨(x = .ret∧l.all (tyB d) = false∧lkp tt 4 = .bool false))):=by
       refine qD _ (fun x st'=>∃tt,st' = ⟨tt,H,false⟩∧tt.length = 53∧((x = .exit 0∧l.all (tyB d) = true)∨(x = .ret∧l.all (tyB d) = false∧lkp tt 4 = .bool false))) ?_
       rintro q st ⟨tt,i,rfl,ht,e1,e2,e5,hiq,hR⟩
       generalize he:qx g.length Wd qi8 _ = r
       rcases Nat.lt_or_ge i l.length with hi | hi
       ·have c1:ilt (i:Int) (l.length:Int) = true:=qcK (by omega)
        have w:=qE (n:=i) (by omega)
        have hr':=ih (by omega) l[i] H
        have hg:(l.map tpV)[i]? = some (tpV l[i]):=by rw [List.getElem?_map,List.getElem?_eq_getElem hi];rfl
        rw [qb9 hi] at hR
        generalize l[i] = y at hr' hg hR
        obtain ⟨k',l'⟩:=y
        rw [qa9] at hr' hg
        have hx:qa3 2 (.lst (l.map tpV) .no) (.int .i64 (i:Nat)) = some (.iptr [.int .i64 k',.lst (l'.map tpV) .no] 0):=qu hg rfl
        cases hb:tyB d (.mk k' l') with
        | true=>
         rw [hb,Bool.true_and] at hR
         rw [hb] at hr'
         simp only [qi8,sT.1,sC.1,qe,qd,Nat.testBit,simprocAttr,-Int.reduceNatCast',ht,e1,e2,e5,c1,w,wd,hx,hbx,hr',List.length_map] at he
         subst he
         refine .inl ⟨_,q - 1,rfl,by omega,_,i + 1,rfl,by simp only [qh,ht],?_,?_,?_,by omega,hR⟩
         all_goals simp only [sT.1,sC.1,qe,qd,Nat.testBit,simprocAttr,-Int.reduceNatCast',ht,e1,e2,w]
        | false=>
         rw [hb,Bool.false_and] at hR
         rw [hb] at hr'
         simp only [qi8,sT.1,sC.1,qe,qd,Nat.testBit,simprocAttr,-Int.reduceNatCast',ht,e1,e2,e5,c1,w,wd,hx,hbx,hr',List.length_map] at he
         subst he
         refine .inr ⟨_,_,rfl,by simp,_,rfl,by simp only [qh,ht],.inr ⟨rfl,hR,?_⟩⟩
         simp only [sT.1,sC.1,qe,qd,Nat.testBit,simprocAttr,-Int.reduceNatCast',ht]
       ·have c1:ilt (i:Int) (l.length:Int) = false:=qcJ (by omega)
        rw [qb8 hi] at hR
        simp only [qi8,sT.1,sC.1,qe,qd,Nat.testBit,simprocAttr,-Int.reduceNatCast',ht,e1,e2,e5,c1,hbx,List.length_map] at he
        subst he
        exact .inr ⟨_,_,rfl,by simp,_,rfl,by simp only [qh,ht],.inl ⟨rfl,hR⟩⟩
      generalize hw:Wd _ _ g = w
      rw [qt rfl (show T.get 87 = some c87 by kernel_rfl)] at hw
      obtain ⟨c1,c2⟩ | ⟨c1,c2⟩:=hpre <;> simp only [c87,sT.1,sC.1,qe,qd,Nat.testBit,simprocAttr,-Int.reduceNatCast',List.length_map,c1,c2,h3,d1,q1,q4,bne,Bool.not_true] at hw <;>
      rw [←hH] at hw <;>
      generalize hr:qx g.length Wd (.loop qi8) _ = r at hw <;>
      (obtain ⟨x,st',rfl,tt,rfl,ht,⟨rfl,hR⟩ | ⟨rfl,hR,e4⟩⟩:=qaT hr (loop l.length _ ⟨_,0,rfl,by simp only [sT.1,sC.1,qe,qd,Nat.testBit,simprocAttr,-Int.reduceNatCast'],by simp only [sT.1,sC.1,qe,qd,Nat.testBit,simprocAttr,-Int.reduceNatCast'],by simp only [sT.1,sC.1,qe,qd,Nat.testBit,simprocAttr,-Int.reduceNatCast'],by simp only [sT.1,sC.1,qe,qd,Nat.testBit,simprocAttr,-Int.reduceNatCast',Int.natCast_zero],by omega,rfl⟩)
       ·simp only [sT.1,sC.1,qe,qd,Nat.testBit,simprocAttr,-Int.reduceNatCast',ht] at hw
        subst hw
        rw [hR,hH]
        simp only [sT.1,sC.1,qe,qd,Nat.testBit,simprocAttr,-Int.reduceNatCast']
       ·simp only [sT.1,sC.1,qe,qd,Nat.testBit,simprocAttr,-Int.reduceNatCast',ht,e4] at hw
        subst hw
        rw [hR,hH]
        simp only [sT.1,sC.1,qe,qd,Nat.testBit,simprocAttr,-Int.reduceNatCast'])
end
end Go.Proofs.YtkmlapholimbcaaGreatDoor.AE
namespace Go.Proofs.YtkmlapholimbcaaGreatDoor.AE
open Go.AE
def okL (l:List qM):Bool:=!ilt 10 (l.length:Nat) && l.all qia
def qgG (m:qy):Bool:=
 !(ilt 0 (m.parts.length:Nat) || (ilt 0 (m.links.length:Nat) || (ilt 0 (m.rules.length:Nat) || (ilt m.con 0 || ilt 2 m.con)))) && (!(ilt 0 (m.own.length:Nat) && !(m.con == 2)) && (okL m.vars && (okL m.int && (okL m.ext && (okL m.own && ((((m.ta.length:Nat):Int) == 1) && (m.ta.all (right 20) && (ile (m.emits.length:Nat) 8 && m.emits.all qde))))))))
def qgJ (m:qy):Bool:=
 !(ilt 0 (m.vars.length:Nat) || (ilt 0 (m.ta.length:Nat) || (ilt 0 (m.emits.length:Nat) || !(m.con == 0)))) && (!(ilt 0 (m.int.length:Nat) || (ilt 0 (m.ext.length:Nat) || ilt 0 (m.own.length:Nat))) && (ile (m.parts.length:Nat) 32 && (m.parts.all qd2 && (ile (m.links.length:Nat) 200 && (m.links.all qc7 && (ile (m.rules.length:Nat) 4 && m.rules.all qd5))))))
def qbJ (m:qy):Bool:=!(!qG m.name || (ilt 8 (m.ins.length:Nat) || ilt 8 (m.outs.length:Nat))) && ((m.ins.all qcr && m.outs.all qcr) && bif m.coupled then qgJ m else qgG m)
def qh2 (p:qaP):Bool:=ile 1 (p.models.length:Nat) && (ile (p.models.length:Nat) 24 && (qG p.root && p.models.all qbJ))
structure qu9 (x:qam):Prop where
 e:ExF x.e
 n:x.ifs.length ≤ 100000
 i:∀e ∈ x.ifs,ExF e
structure qe0 (m:qy):Prop where
 ins:m.ins.length ≤ 100000
 outs:m.outs.length ≤ 100000
 vars:m.vars.length ≤ 100000∧∀s ∈ m.vars,ExF s.e
 ta:m.ta.length ≤ 100000∧∀e ∈ m.ta,ExF e
 emits:m.emits.length ≤ 100000∧∀s ∈ m.emits,qu9 s
 int:m.int.length ≤ 100000∧∀s ∈ m.int,ExF s.e
 ext:m.ext.length ≤ 100000∧∀s ∈ m.ext,ExF s.e
 own:m.own.length ≤ 100000∧∀s ∈ m.own,ExF s.e
 parts:m.parts.length ≤ 100000
 links:m.links.length ≤ 100000
 rules:m.rules.length ≤ 100000∧∀s ∈ m.rules,qrw s
theorem qpK (a b c d:List qf):qlU 1 [.lst [] .full] 4 [(0,.lst a .no),(1,.lst b .no),(2,.lst c .no),(3,.lst d .no)] = some (.lst [.lst a .no,.lst b .no,.lst c .no,.lst d .no] .full):=by
 simp [qlU,qb0,qf.cells,qf.storable,splice,elems,List.range,List.range.loop]
section
variable {h:List qq}
theorem qg3 {l:List qM} (hl:l.length ≤ 100000∧∀s ∈ l,ExF s.e) (h:List qq):Wd (.fn 107 [] []) [.lst (l.map qM.enc) .no,.fn 108 [] []] h = some (.ret (.bool (l.all qia)),h,false):=
 qea (k:=6) (z:=[.str [],.int .i64 0,.int .i64 0,.str [],.str [],.lst [] .full]) rfl (by kernel_rfl) rfl rfl (fun s _=>qjt s) hl.1 (fun s hs h=>qxN (hl.2 s hs) h) h
theorem qkh {l:List qJ} (hl:l.length ≤ 100000) (h:List qq):Wd (.fn 77 [] []) [.lst (l.map qJ.enc) .no,.fn 78 [] []] h = some (.ret (.bool (l.all qcr)),h,false):=
 qea (k:=3) (z:=[.str [],.int .i64 0,.lst [] .full]) rfl (by kernel_rfl) rfl rfl (fun s _=>qkg s) hl (fun s _ h=>qtQ s h) h
theorem qsx {l:List qam} (hl:l.length ≤ 100000∧∀s ∈ l,qu9 s) (h:List qq):Wd (.fn 109 [] []) [.lst (l.map qam.enc) .no,.fn 110 [] []] h = some (.ret (.bool (l.all qde)),h,false):=
 qea (k:=7) (z:=[.str [],.int .i64 0,.int .i64 0,.str [],.str [],.lst [] .full,.lst [] .full]) rfl (by kernel_rfl) rfl rfl (fun s _=>qjO s) hl.1 (fun s hs h=>qsu (hl.2 s hs).e (hl.2 s hs).n (hl.2 s hs).i h) h
theorem qtJ {l:List qaw} (hl:l.length ≤ 100000) (h:List qq):Wd (.fn 101 [] []) [.lst (l.map qaw.enc) .no,.fn 102 [] []] h = some (.ret (.bool (l.all qd2)),h,false):=
 qea (k:=2) (z:=[.str [],.str []]) rfl (by kernel_rfl) rfl rfl (fun s _=>qkd s) hl (fun s _ h=>qtG s h) h
theorem qtm {l:List qZ} (hl:l.length ≤ 100000) (h:List qq):Wd (.fn 103 [] []) [.lst (l.map qZ.enc) .no,.fn 104 [] []] h = some (.ret (.bool (l.all qc7)),h,false):=
 qea (k:=4) (z:=[.str [],.str [],.str [],.str []]) rfl (by kernel_rfl) rfl rfl (fun s _=>qj4 s) hl (fun s _ h=>qj1 s h) h
theorem qt7 {l:List qab} (hl:l.length ≤ 100000∧∀s ∈ l,qrw s) (h:List qq):Wd (.fn 105 [] []) [.lst (l.map qab.enc) .no,.fn 106 [] []] h = some (.ret (.bool (l.all qd5)),h,false):=
 qea (k:=6) (z:=[.int .i64 0,.int .i64 0,.str [],.str [],.lst [] .full,.lst [] .full]) rfl (by kernel_rfl) rfl rfl (fun s _=>qt6 s) hl.1 (fun s hs h=>qt5 (hl.2 s hs) h) h
set_option maxHeartbeats 4000000 in
theorem qrO {m:qy} (hm:qe0 m) (h:List qq):Wd (.fn 79 [] []) [m.enc] h = some (.ret (.bool (qgJ m)),h,false):=by
 have a1:=fun h=>qtJ hm.parts h
 have a2:=fun h=>qtm hm.links h
 have a3:=fun h=>qt7 hm.rules h
 clear hm
 obtain ⟨nm,cp,ins,outs,vars,ta,emits,int,ext,con,own,parts,links,rules⟩:=m
 rw [qgJ,qy.enc,qy.cs,qt rfl (show T.get 79 = some c79 by kernel_rfl)]
 simp only at *
 cases c1:(ilt 0 (vars.length:Nat) || (ilt 0 (ta.length:Nat) || (ilt 0 (emits.length:Nat) || !(con == 0)))) with
 | true=>simp only [c79,sT.1,sC.1,sTA.1,sCA.1,qe,qj,qk,Src.isTmp,qg,Src.hangs,qn.isT,qi,qd,Nat.testBit,bne,simprocAttr,-Int.reduceNatCast',List.length_map,Bool.or_assoc,c1,Bool.not_true,Bool.false_and]
 | false=>
  cases c2:(ilt 0 (int.length:Nat) || (ilt 0 (ext.length:Nat) || ilt 0 (own.length:Nat))) with
  | true=>simp only [c79,sT.1,sC.1,sTA.1,sCA.1,qe,qj,qk,Src.isTmp,qg,Src.hangs,qn.isT,qi,qd,Nat.testBit,bne,simprocAttr,-Int.reduceNatCast',List.length_map,Bool.or_assoc,c1,c2,Bool.not_true,Bool.not_false,Bool.false_and,Bool.true_and]
  | false=>
   cases d1:ile (parts.length:Nat) 32 <;> cases d2:parts.all qd2 <;> cases d3:ile (links.length:Nat) 200 <;> cases d4:links.all qc7 <;> cases d5:ile (rules.length:Nat) 4 <;> rw [d2] at a1 <;> rw [d4] at a2 <;> simp only [c79,sT.1,sC.1,sTA.1,sCA.1,qe,qj,qk,Src.isTmp,qg,Src.hangs,qn.isT,qi,qd,Nat.testBit,bne,simprocAttr,-Int.reduceNatCast',List.length_map,Bool.or_assoc,c1,c2,d1,d3,d5,a1,a2,a3,Bool.not_true,Bool.not_false,Bool.false_and,Bool.true_and]
set_option maxHeartbeats 8000000 in
theorem qrE {m:qy} (hm:qe0 m) (h:List qq):Wd (.fn 80 [] []) [m.enc] h = some (.ret (.bool (qgG m)),h,false):=by
 have a1:=fun h=>qg3 hm.vars h
 have a2:=fun h=>qg3 hm.int h
 have a3:=fun h=>qg3 hm.ext h
 have a4:=fun h=>qg3 hm.own h
 have aT:=fun h=>quH hm.ta.1 hm.ta.2 h
 have aE:=fun h=>qsx hm.emits h
 clear hm
 obtain ⟨nm,cp,ins,outs,vars,ta,emits,int,ext,con,own,parts,links,rules⟩:=m
 rw [qgG,okL,okL,okL,okL,qy.enc,qy.cs,qt rfl (show T.get 80 = some c80 by kernel_rfl)]
 simp only at *
 have i0:=qu (k:=1) (f:=.full) (j:=.i64) (n:=0) (xs:=[.lst (vars.map qM.enc) .no,.lst (int.map qM.enc) .no,.lst (ext.map qM.enc) .no,.lst (own.map qM.enc) .no]) rfl rfl
 have i1:=qu (k:=1) (f:=.full) (j:=.i64) (n:=1) (xs:=[.lst (vars.map qM.enc) .no,.lst (int.map qM.enc) .no,.lst (ext.map qM.enc) .no,.lst (own.map qM.enc) .no]) rfl rfl
 have i2:=qu (k:=1) (f:=.full) (j:=.i64) (n:=2) (xs:=[.lst (vars.map qM.enc) .no,.lst (int.map qM.enc) .no,.lst (ext.map qM.enc) .no,.lst (own.map qM.enc) .no]) rfl rfl
 have i3:=qu (k:=1) (f:=.full) (j:=.i64) (n:=3) (xs:=[.lst (vars.map qM.enc) .no,.lst (int.map qM.enc) .no,.lst (ext.map qM.enc) .no,.lst (own.map qM.enc) .no]) rfl rfl
 have n0:((0:Nat):Int) = 0:=rfl
 have n1:((1:Nat):Int) = 1:=rfl
 have n2:((2:Nat):Int) = 2:=rfl
 have n3:((3:Nat):Int) = 3:=rfl
 have n4:((4:Nat):Int) = 4:=rfl
 rw [n0] at i0
 rw [n1] at i1
 rw [n2] at i2
 rw [n3] at i3
 have l0:ilt 0 4 = true:=by kernel_rfl
 have l1:ilt 1 4 = true:=by kernel_rfl
 have l2:ilt 2 4 = true:=by kernel_rfl
 have l3:ilt 3 4 = true:=by kernel_rfl
 have l4:ilt 4 4 = false:=by kernel_rfl
 have w0:IntKind.i64.wrap 1 = 1:=by kernel_rfl
 have w1:IntKind.i64.wrap 2 = 2:=by kernel_rfl
 have w2:IntKind.i64.wrap 3 = 3:=by kernel_rfl
 have w3:IntKind.i64.wrap 4 = 4:=by kernel_rfl
 cases c1:(ilt 0 (parts.length:Nat) || (ilt 0 (links.length:Nat) || (ilt 0 (rules.length:Nat) || (ilt con 0 || ilt 2 con)))) with
 | true=>simp only [c80,sT.1,sC.1,sTA.1,sCA.1,qe,qj,qk,Src.isTmp,qg,Src.hangs,qn.isT,qi,qd,Nat.testBit,bne,simprocAttr,-Int.reduceNatCast',List.length_map,Bool.or_assoc,c1,Bool.not_true,Bool.false_and]
 | false=>
  cases c2:(ilt 0 (own.length:Nat) && !(con == 2)) with
  | true=>simp only [c80,sT.1,sC.1,sTA.1,sCA.1,qe,qj,qk,Src.isTmp,qg,Src.hangs,qn.isT,qi,qd,Nat.testBit,bne,simprocAttr,-Int.reduceNatCast',List.length_map,Bool.or_assoc,c1,c2,Bool.not_true,Bool.not_false,Bool.false_and,Bool.true_and]
  | false=>
   cases b1:ilt 10 (vars.length:Nat) <;> cases v1:vars.all qia <;> rw [v1] at a1 <;> try (simp only [c80,qlH,sT.1,sC.1,sTA.1,sCA.1,qe,qj,qk,Src.isTmp,qg,Src.hangs,qn.isT,qi,qd,Nat.testBit,bne,simprocAttr,-Int.reduceNatCast',qcf,qpK,List.length_map,Bool.or_assoc,c1,c2,b1,a1,i0,n0,n1,n2,n3,n4,l0,l1,l2,l3,l4,w0,w1,w2,w3,Bool.not_true,Bool.not_false,Bool.false_and,Bool.true_and,Bool.and_false];done)
   cases b2:ilt 10 (int.length:Nat) <;> cases v2:int.all qia <;> rw [v2] at a2 <;> try (simp only [c80,qlH,sT.1,sC.1,sTA.1,sCA.1,qe,qj,qk,Src.isTmp,qg,Src.hangs,qn.isT,qi,qd,Nat.testBit,bne,simprocAttr,-Int.reduceNatCast',qcf,qpK,List.length_map,Bool.or_assoc,c1,c2,b1,a1,b2,a2,i0,i1,n0,n1,n2,n3,n4,l0,l1,l2,l3,l4,w0,w1,w2,w3,Bool.not_true,Bool.not_false,Bool.false_and,Bool.true_and,Bool.and_false];done)
   cases b3:ilt 10 (ext.length:Nat) <;> cases v3:ext.all qia <;> rw [v3] at a3 <;> try (simp only [c80,qlH,sT.1,sC.1,sTA.1,sCA.1,qe,qj,qk,Src.isTmp,qg,Src.hangs,qn.isT,qi,qd,Nat.testBit,bne,simprocAttr,-Int.reduceNatCast',qcf,qpK,List.length_map,Bool.or_assoc,c1,c2,b1,a1,b2,a2,b3,a3,i0,i1,i2,n0,n1,n2,n3,n4,l0,l1,l2,l3,l4,w0,w1,w2,w3,Bool.not_true,Bool.not_false,Bool.false_and,Bool.true_and,Bool.and_false];done)
   cases b4:ilt 10 (own.length:Nat) <;> cases v4:own.all qia <;> rw [v4] at a4 <;> try (simp only [c80,qlH,sT.1,sC.1,sTA.1,sCA.1,qe,qj,qk,Src.isTmp,qg,Src.hangs,qn.isT,qi,qd,Nat.testBit,bne,simprocAttr,-Int.reduceNatCast',qcf,qpK,List.length_map,Bool.or_assoc,c1,c2,b1,a1,b2,a2,b3,a3,b4,a4,i0,i1,i2,i3,n0,n1,n2,n3,n4,l0,l1,l2,l3,l4,w0,w1,w2,w3,Bool.not_true,Bool.not_false,Bool.false_and,Bool.true_and,Bool.and_false];done)
   cases d1:((ta.length:Nat):Int) == 1 <;> cases d2:ta.all (right 20) <;> cases d3:ile (emits.length:Nat) 8 <;> rw [d2] at aT <;> simp only [c80,qlH,sT.1,sC.1,sTA.1,sCA.1,qe,qj,qk,Src.isTmp,qg,Src.hangs,qn.isT,qi,qd,Nat.testBit,bne,simprocAttr,-Int.reduceNatCast',qcf,qpK,List.length_map,Bool.or_assoc,c1,c2,b1,a1,b2,a2,b3,a3,b4,a4,aT,aE,d1,d3,i0,i1,i2,i3,n0,n1,n2,n3,n4,l0,l1,l2,l3,l4,w0,w1,w2,w3,Bool.not_true,Bool.not_false,Bool.false_and,Bool.true_and,Bool.and_false]
set_option maxHeartbeats 4000000 in
theorem qp1 {m:qy} (hm:qe0 m) (h:List qq):Wd (.fn 48 [] []) [m.enc] h = some (.ret (.bool (qbJ m)),h,false):=by
 have a1:=fun h=>qkh hm.ins h
 have a2:=fun h=>qkh hm.outs h
 have a3:=fun h=>qrO hm h
 have a4:=fun h=>qrE hm h
 clear hm
 rw [qbJ]
 generalize qgJ m = bc at *
 generalize qgG m = ba at *
 obtain ⟨nm,cp,ins,outs,vars,ta,emits,int,ext,con,own,parts,links,rules⟩:=m
 rw [qy.enc,qy.cs] at *
 rw [qt rfl (show T.get 48 = some c48 by kernel_rfl)]
 simp only at *
 cases c1:(!qG nm || (ilt 8 (ins.length:Nat) || ilt 8 (outs.length:Nat))) with
 | true=>simp only [c48,sT.1,sC.1,sTA.1,sCA.1,qe,qj,qk,Src.isTmp,qg,Src.hangs,qn.isT,qi,qd,Nat.testBit,bne,simprocAttr,-Int.reduceNatCast',qK,List.length_map,Bool.or_assoc,c1,Bool.not_true,Bool.false_and]
 | false=>
  cases v1:ins.all qcr <;> rw [v1] at a1 <;> cases v2:outs.all qcr <;> rw [v2] at a2 <;> cases cp <;> simp only [c48,sT.1,sC.1,sTA.1,sCA.1,qe,qj,qk,Src.isTmp,qg,Src.hangs,qn.isT,qi,qd,Nat.testBit,bne,simprocAttr,-Int.reduceNatCast',qK,List.length_map,Bool.or_assoc,c1,a1,a2,a3,a4,Bool.not_true,Bool.not_false,Bool.false_and,Bool.true_and,Bool.and_false,cond_true,cond_false]
theorem qtT {p:qaP} (hl:p.models.length ≤ 100000) (hm:∀m ∈ p.models,qe0 m) (h:List qq):Wd (.fn 29 [] []) [p.enc] h = some (.ret (.bool (qh2 p)),h,false):=by
 have a1:=fun h=>qea (k:=14) (en:=qy.enc) (l:=p.models) (bf:=qbJ) (F:=47) (g:=48) (z:=[.str [],.bool false,.lst [] .full,.lst [] .full,.lst [] .full,.lst [] .full,.lst [] .full,.lst [] .full,.lst [] .full,.int .i64 0,.lst [] .full,.lst [] .full,.lst [] .full,.lst [] .full]) rfl (by kernel_rfl) rfl rfl (fun s _=>qeD rfl rfl rfl) hl (fun s hs h=>qp1 (hm s hs) h) h
 rw [qh2]
 obtain ⟨l,r⟩:=p
 rw [qaP.enc,qaP.cs]
 simp only at *
 generalize l.all qbJ = b at *
 rw [qt rfl (show T.get 29 = some c29 by kernel_rfl)]
 cases c1:ile 1 (l.length:Nat) <;> cases c2:ile (l.length:Nat) 24 <;> cases c3:qG r <;> simp only [c29,sT.1,sC.1,sTA.1,sCA.1,qe,qj,qk,Src.isTmp,qg,Src.hangs,qn.isT,qi,qd,Nat.testBit,bne,simprocAttr,-Int.reduceNatCast',qK,List.length_map,c1,c2,c3,a1,Bool.not_true,Bool.not_false,Bool.false_and,Bool.true_and,Bool.and_false]
end
end Go.Proofs.YtkmlapholimbcaaGreatDoor.AE
namespace Go.Proofs.YtkmlapholimbcaaGreatDoor.AE
open Go.AE
theorem qhx {e:Exl} (hf:ExF e) (h:List qq):Wd (.fn 9 [] []) [exV e,.int .i64 20] h = some (.ret (.bool (right 20 e)),h,false):=qEg 20 (by omega) e h hf
section
variable {h:List qq}
set_option maxHeartbeats 2000000 in
theorem qfw {l:List qM} (hf:∀s ∈ l,ExF s.e) (h:List qq):Wd (.fn 53 [] []) [.lst (l.map qM.enc) .no] h = some (.ret (.bool (okL l)),h,false):=by
 rw [okL]
 cases c10:ilt 10 (l.length:Nat) with
 | true=>
  rw [qt rfl (show T.get 53 = some c53 by kernel_rfl)]
  simp only [c53,sT.1,sC.1,qe,qd,Nat.testBit,simprocAttr,-Int.reduceNatCast',List.length_map,c10,Bool.not_true,Bool.false_and]
 | false=>
  have hl:l.length ≤ 10:=by rw [qaj] at c10;have:=of_decide_eq_false c10;omega
  rw [Bool.not_false,Bool.true_and]
  have loop:∀q st,(∃tt i,st = ⟨tt,h,false⟩∧tt.length = 29∧lkp tt 0 = .lst (l.map qM.enc) .no∧lkp tt 3 = .int .i64 (i:Nat)∧i + q = l.length∧l.all qia = (l.drop i).all qia)→
    ∃x st',qx h.length Wd (.loop qlD) st = some (x,st')∧(∃tt,st' = ⟨tt,h,false⟩∧tt.length = 29∧((x = .exit 0∧l.all qia = true)∨(x = .ret∧l.all qia = false∧lkp tt 2 = .bool false))):=by
   refine qD _ (fun x st'=>∃tt,st' = ⟨tt,h,false⟩∧tt.length = 29∧((x = .exit 0∧l.all qia = true)∨(x = .ret∧l.all qia = false∧lkp tt 2 = .bool false))) ?_
   rintro q st ⟨tt,i,rfl,ht,e0,e3,hiq,hR⟩
   generalize he:qx h.length Wd qlD _ = r
   rcases Nat.lt_or_ge i l.length with hi | hi
   ·have c1:ilt (i:Int) (l.length:Int) = true:=qcK (by omega)
    have w:=qE (n:=i) (by omega)
    have hE:=fun h=>qhx (hf _ (List.getElem_mem hi)) h
    have hg:(l.map qM.enc)[i]? = some (qM.enc l[i]):=by rw [List.getElem?_map,List.getElem?_eq_getElem hi];rfl
    rw [qb9 hi,qia] at hR
    generalize l[i] = y at hE hg hR
    obtain ⟨nm,op,n,m2,sb,aS⟩:=y
    simp only at hE hR
    generalize right 20 (Exl.mk op n m2 sb aS) = b at hE hR
    rw [ql] at hE
    rw [qM.enc,exC] at hg
    have hx:qa3 6 (.lst (l.map qM.enc) .no) (.int .i64 (i:Nat)) = some (.iptr [.str nm,.int .i64 op,.int .i64 n,.str m2,.str sb,.lst (aS.map exV) .no] 0):=qu hg rfl
    cases hn:qG nm <;> cases b <;> rw [hn] at hR <;>
    simp only [qlD,sT.1,sC.1,qe,qd,Nat.testBit,simprocAttr,-Int.reduceNatCast',ht,e0,e3,c1,w,hx,qH,hn,hE,List.length_map] at he <;>
    subst he
    ·refine .inr ⟨_,_,rfl,by simp,_,rfl,by simp only [qh,ht],.inr ⟨rfl,hR,?_⟩⟩
     simp only [sT.1,sC.1,qe,qd,Nat.testBit,simprocAttr,-Int.reduceNatCast',ht]
    ·refine .inr ⟨_,_,rfl,by simp,_,rfl,by simp only [qh,ht],.inr ⟨rfl,hR,?_⟩⟩
     simp only [sT.1,sC.1,qe,qd,Nat.testBit,simprocAttr,-Int.reduceNatCast',ht]
    ·refine .inr ⟨_,_,rfl,by simp,_,rfl,by simp only [qh,ht],.inr ⟨rfl,hR,?_⟩⟩
     simp only [sT.1,sC.1,qe,qd,Nat.testBit,simprocAttr,-Int.reduceNatCast',ht]
    ·refine .inl ⟨_,q - 1,rfl,by omega,_,i + 1,rfl,by simp only [qh,ht],?_,?_,by omega,by rw [hR,Bool.true_and,Bool.true_and]⟩
     all_goals simp only [sT.1,sC.1,qe,qd,Nat.testBit,simprocAttr,-Int.reduceNatCast',ht,e0,w]
   ·have c1:ilt (i:Int) (l.length:Int) = false:=qcJ (by omega)
    rw [qb8 hi] at hR
    simp only [qlD,sT.1,sC.1,qe,qd,Nat.testBit,simprocAttr,-Int.reduceNatCast',ht,e0,e3,c1,List.length_map] at he
    subst he
    exact .inr ⟨_,_,rfl,by simp,_,rfl,by simp only [qh,ht],.inl ⟨rfl,hR⟩⟩
  generalize hw:Wd _ _ h = w
  rw [qt rfl (show T.get 53 = some c53 by kernel_rfl)] at hw
  simp only [c53,sT.1,sC.1,qe,qd,Nat.testBit,simprocAttr,-Int.reduceNatCast',List.length_map,c10] at hw
  generalize hr:qx h.length Wd (.loop qlD) _ = r at hw
  obtain ⟨x,st',rfl,tt,rfl,ht,⟨rfl,hR⟩ | ⟨rfl,hR,e4⟩⟩:=qaT hr (loop l.length _ ⟨_,0,rfl,by simp only [sT.1,sC.1,qe,qd,Nat.testBit,simprocAttr,-Int.reduceNatCast'],by simp only [sT.1,sC.1,qe,qd,Nat.testBit,simprocAttr,-Int.reduceNatCast'],by simp only [sT.1,sC.1,qe,qd,Nat.testBit,simprocAttr,-Int.reduceNatCast',Int.natCast_zero],by omega,rfl⟩)
  ·simp only [sT.1,sC.1,qe,qd,Nat.testBit,simprocAttr,-Int.reduceNatCast',ht] at hw
   subst hw
   rw [hR]
  ·simp only [sT.1,sC.1,qe,qd,Nat.testBit,simprocAttr,-Int.reduceNatCast',ht,e4] at hw
   subst hw
   rw [hR]
set_option maxHeartbeats 2000000 in
theorem qh1 (l:List qJ) (h:List qq):Wd (.fn 52 [] []) [.lst (l.map qJ.enc) .no] h = some (.ret (.bool (!ilt 8 (l.length:Nat) && l.all qcr)),h,false):=by
 cases c10:ilt 8 (l.length:Nat) with
 | true=>
  rw [qt rfl (show T.get 52 = some c52 by kernel_rfl)]
  simp only [c52,sT.1,sC.1,qe,qd,Nat.testBit,simprocAttr,-Int.reduceNatCast',List.length_map,c10,Bool.not_true,Bool.false_and]
 | false=>
  have hl:l.length ≤ 8:=by rw [qaj] at c10;have:=of_decide_eq_false c10;omega
  rw [Bool.not_false,Bool.true_and]
  have loop:∀q st,(∃tt i,st = ⟨tt,h,false⟩∧tt.length = 29∧lkp tt 0 = .lst (l.map qJ.enc) .no∧lkp tt 3 = .int .i64 (i:Nat)∧i + q = l.length∧l.all qcr = (l.drop i).all qcr)→
    ∃x st',qx h.length Wd (.loop qlC) st = some (x,st')∧(∃tt,st' = ⟨tt,h,false⟩∧tt.length = 29∧((x = .exit 0∧l.all qcr = true)∨(x = .ret∧l.all qcr = false∧lkp tt 2 = .bool false))):=by
   refine qD _ (fun x st'=>∃tt,st' = ⟨tt,h,false⟩∧tt.length = 29∧((x = .exit 0∧l.all qcr = true)∨(x = .ret∧l.all qcr = false∧lkp tt 2 = .bool false))) ?_
   rintro q st ⟨tt,i,rfl,ht,e0,e3,hiq,hR⟩
   generalize he:qx h.length Wd qlC _ = r
   rcases Nat.lt_or_ge i l.length with hi | hi
   ·have c1:ilt (i:Int) (l.length:Int) = true:=qcK (by omega)
    have w:=qE (n:=i) (by omega)
    have hE:=fun h=>qz1 3 (by omega) l[i].t h
    have hg:(l.map qJ.enc)[i]? = some (qJ.enc l[i]):=by rw [List.getElem?_map,List.getElem?_eq_getElem hi];rfl
    rw [qb9 hi,qcr] at hR
    generalize l[i] = y at hE hg hR
    obtain ⟨nm,k,aS⟩:=y
    simp only at hE hR
    generalize tyB 3 (Tp.mk k aS) = b at hE hR
    rw [qa9] at hE
    rw [show ((3:Nat):Int) = 3 from rfl] at hE
    rw [qJ.enc,Tp.enc,show (aS.map fun v=>qf.agg v.enc) = aS.map tpV from rfl] at hg
    have hx:qa3 3 (.lst (l.map qJ.enc) .no) (.int .i64 (i:Nat)) = some (.iptr [.str nm,.int .i64 k,.lst (aS.map tpV) .no] 0):=qu hg rfl
    cases hn:qG nm <;> cases b <;> rw [hn] at hR <;>
    simp only [qlC,sT.1,sC.1,qe,qd,Nat.testBit,simprocAttr,-Int.reduceNatCast',ht,e0,e3,c1,w,hx,qH,hn,hE,List.length_map] at he <;>
    subst he
    ·refine .inr ⟨_,_,rfl,by simp,_,rfl,by simp only [qh,ht],.inr ⟨rfl,hR,?_⟩⟩
     simp only [sT.1,sC.1,qe,qd,Nat.testBit,simprocAttr,-Int.reduceNatCast',ht]
    ·refine .inr ⟨_,_,rfl,by simp,_,rfl,by simp only [qh,ht],.inr ⟨rfl,hR,?_⟩⟩
     simp only [sT.1,sC.1,qe,qd,Nat.testBit,simprocAttr,-Int.reduceNatCast',ht]
    ·refine .inr ⟨_,_,rfl,by simp,_,rfl,by simp only [qh,ht],.inr ⟨rfl,hR,?_⟩⟩
     simp only [sT.1,sC.1,qe,qd,Nat.testBit,simprocAttr,-Int.reduceNatCast',ht]
    ·refine .inl ⟨_,q - 1,rfl,by omega,_,i + 1,rfl,by simp only [qh,ht],?_,?_,by omega,by rw [hR,Bool.true_and,Bool.true_and]⟩
     all_goals simp only [sT.1,sC.1,qe,qd,Nat.testBit,simprocAttr,-Int.reduceNatCast',ht,e0,w]
   ·have c1:ilt (i:Int) (l.length:Int) = false:=qcJ (by omega)
    rw [qb8 hi] at hR
    simp only [qlC,sT.1,sC.1,qe,qd,Nat.testBit,simprocAttr,-Int.reduceNatCast',ht,e0,e3,c1,List.length_map] at he
    subst he
    exact .inr ⟨_,_,rfl,by simp,_,rfl,by simp only [qh,ht],.inl ⟨rfl,hR⟩⟩
  generalize hw:Wd _ _ h = w
  rw [qt rfl (show T.get 52 = some c52 by kernel_rfl)] at hw
  simp only [c52,sT.1,sC.1,qe,qd,Nat.testBit,simprocAttr,-Int.reduceNatCast',List.length_map,c10] at hw
  generalize hr:qx h.length Wd (.loop qlC) _ = r at hw
  obtain ⟨x,st',rfl,tt,rfl,ht,⟨rfl,hR⟩ | ⟨rfl,hR,e4⟩⟩:=qaT hr (loop l.length _ ⟨_,0,rfl,by simp only [sT.1,sC.1,qe,qd,Nat.testBit,simprocAttr,-Int.reduceNatCast'],by simp only [sT.1,sC.1,qe,qd,Nat.testBit,simprocAttr,-Int.reduceNatCast'],by simp only [sT.1,sC.1,qe,qd,Nat.testBit,simprocAttr,-Int.reduceNatCast',Int.natCast_zero],by omega,rfl⟩)
  ·simp only [sT.1,sC.1,qe,qd,Nat.testBit,simprocAttr,-Int.reduceNatCast',ht] at hw
   subst hw
   rw [hR]
  ·simp only [sT.1,sC.1,qe,qd,Nat.testBit,simprocAttr,-Int.reduceNatCast',ht,e4] at hw
   subst hw
   rw [hR]
end
end Go.Proofs.YtkmlapholimbcaaGreatDoor.AE
namespace Go.Proofs.YtkmlapholimbcaaGreatDoor.AE
open Go.AE
section
variable {nm:Str} {cp:Bool} {ins outs:List qJ} {vars int ext own:List qM} {ta:List Exl} {emits:List qam} {con:Int} {parts:List qaw} {links:List qZ} {rules:List qab} {G:List qq} {P b:Nat}
set_option maxHeartbeats 4000000 in
theorem qtw (hbx:G[P]? = some (.cells [.str nm,.bool cp,.lst (ins.map qJ.enc) .no,.lst (outs.map qJ.enc) .no,.lst (vars.map qM.enc) .no,.lst (ta.map exV) .no,.lst (emits.map qam.enc) .no,.lst (int.map qM.enc) .no,.lst (ext.map qM.enc) .no,.int .i64 con,.lst (own.map qM.enc) .no,.lst (parts.map qaw.enc) .no,.lst (links.map qZ.enc) .no,.lst (rules.map qab.enc) .no])) (hl:parts.length ≤ 100000):∀q st,(∃tt i,st = ⟨tt,G,false⟩∧tt.length = 287∧lkp tt 1 = .ptr P 0∧lkp tt 5 = .int .i64 (i:Nat)∧i + q = parts.length∧parts.all qd2 = (parts.drop i).all qd2)→
  ∃x st',qx b Wd (.loop qlv) st = some (x,st')∧(∃tt,st' = ⟨tt,G,false⟩∧tt.length = 287∧lkp tt 1 = .ptr P 0∧((x = .exit 2∧parts.all qd2 = true)∨(x = .ret∧parts.all qd2 = false∧lkp tt 2 = .bool false))):=by
 refine qD _ (fun x st'=>∃tt,st' = ⟨tt,G,false⟩∧tt.length = 287∧lkp tt 1 = .ptr P 0∧((x = .exit 2∧parts.all qd2 = true)∨(x = .ret∧parts.all qd2 = false∧lkp tt 2 = .bool false))) ?_
 rintro q st ⟨tt,i,rfl,ht,e1,e5,hiq,hR⟩
 generalize he:qx b Wd qlv _ = r
 rcases Nat.lt_or_ge i parts.length with hi | hi
 ·have c1:ilt (i:Int) (parts.length:Int) = true:=qcK (by omega)
  have w:=qE (n:=i) (by omega)
  rw [qb9 hi] at hR
  have hg:(parts.map qaw.enc)[i]? = some (qaw.enc parts[i]):=by rw [List.getElem?_map,List.getElem?_eq_getElem hi];rfl
  rw [qd2] at hR
  generalize parts[i] = y at hg hR
  obtain ⟨a,c⟩:=y
  simp only at hR
  rw [qaw.enc] at hg
  have hx:qa3 2 (.lst (parts.map qaw.enc) .no) (.int .i64 (i:Nat)) = some (.iptr [.str a,.str c] 0):=qu hg rfl
  cases hn:qG a <;> cases hm:qG c <;> rw [hn,hm] at hR <;> simp only [qlv,sT.1,sC.1,qe,qd,Nat.testBit,simprocAttr,-Int.reduceNatCast',ht,e1,e5,c1,w,hbx,hx,qH,hn,hm,List.length_map] at he <;> subst he
  ·refine .inr ⟨_,_,rfl,by simp,_,rfl,by simp only [qh,ht],?_,.inr ⟨rfl,hR,?_⟩⟩
   all_goals simp only [sT.1,sC.1,qe,qd,Nat.testBit,simprocAttr,-Int.reduceNatCast',ht,e1]
  ·refine .inr ⟨_,_,rfl,by simp,_,rfl,by simp only [qh,ht],?_,.inr ⟨rfl,hR,?_⟩⟩
   all_goals simp only [sT.1,sC.1,qe,qd,Nat.testBit,simprocAttr,-Int.reduceNatCast',ht,e1]
  ·refine .inr ⟨_,_,rfl,by simp,_,rfl,by simp only [qh,ht],?_,.inr ⟨rfl,hR,?_⟩⟩
   all_goals simp only [sT.1,sC.1,qe,qd,Nat.testBit,simprocAttr,-Int.reduceNatCast',ht,e1]
  ·refine .inl ⟨_,q - 1,rfl,by omega,_,i + 1,rfl,by simp only [qh,ht],?_,?_,by omega,by simpa only [Bool.true_and,Bool.and_true] using hR⟩
   all_goals simp only [sT.1,sC.1,qe,qd,Nat.testBit,simprocAttr,-Int.reduceNatCast',ht,e1,w]
 ·have c1:ilt (i:Int) (parts.length:Int) = false:=qcJ (by omega)
  rw [qb8 hi] at hR
  simp only [qlv,sT.1,sC.1,qe,qd,Nat.testBit,simprocAttr,-Int.reduceNatCast',ht,e1,e5,c1,hbx,List.length_map] at he
  subst he
  refine .inr ⟨_,_,rfl,by simp,_,rfl,by simp only [qh,ht],?_,.inl ⟨rfl,hR⟩⟩
  all_goals simp only [sT.1,sC.1,qe,qd,Nat.testBit,simprocAttr,-Int.reduceNatCast',ht,e1]
set_option maxHeartbeats 4000000 in
theorem qtv (hbx:G[P]? = some (.cells [.str nm,.bool cp,.lst (ins.map qJ.enc) .no,.lst (outs.map qJ.enc) .no,.lst (vars.map qM.enc) .no,.lst (ta.map exV) .no,.lst (emits.map qam.enc) .no,.lst (int.map qM.enc) .no,.lst (ext.map qM.enc) .no,.int .i64 con,.lst (own.map qM.enc) .no,.lst (parts.map qaw.enc) .no,.lst (links.map qZ.enc) .no,.lst (rules.map qab.enc) .no])) (hl:links.length ≤ 100000):∀q st,(∃tt i,st = ⟨tt,G,false⟩∧tt.length = 287∧lkp tt 1 = .ptr P 0∧lkp tt 6 = .int .i64 (i:Nat)∧i + q = links.length∧links.all qc7 = (links.drop i).all qc7)→
  ∃x st',qx b Wd (.loop qlw) st = some (x,st')∧(∃tt,st' = ⟨tt,G,false⟩∧tt.length = 287∧lkp tt 1 = .ptr P 0∧((x = .exit 4∧links.all qc7 = true)∨(x = .ret∧links.all qc7 = false∧lkp tt 2 = .bool false))):=by
 refine qD _ (fun x st'=>∃tt,st' = ⟨tt,G,false⟩∧tt.length = 287∧lkp tt 1 = .ptr P 0∧((x = .exit 4∧links.all qc7 = true)∨(x = .ret∧links.all qc7 = false∧lkp tt 2 = .bool false))) ?_
 rintro q st ⟨tt,i,rfl,ht,e1,e5,hiq,hR⟩
 generalize he:qx b Wd qlw _ = r
 rcases Nat.lt_or_ge i links.length with hi | hi
 ·have c1:ilt (i:Int) (links.length:Int) = true:=qcK (by omega)
  have w:=qE (n:=i) (by omega)
  rw [qb9 hi] at hR
  have hg:(links.map qZ.enc)[i]? = some (qZ.enc links[i]):=by rw [List.getElem?_map,List.getElem?_eq_getElem hi];rfl
  have hE:=fun h=>qj2 links[i] h
  generalize links[i] = y at hE hg hR
  generalize qc7 y = v at hE hR
  obtain ⟨⟨a,c⟩,⟨d,e⟩⟩:=y
  rw [qZ.enc] at hg hE
  simp only at hg hE
  have hx:qa3 4 (.lst (links.map qZ.enc) .no) (.int .i64 (i:Nat)) = some (.iptr [.str a,.str c,.str d,.str e] 0):=qu hg rfl
  cases v <;> simp only [qlw,sT.1,sC.1,qe,qd,Nat.testBit,simprocAttr,-Int.reduceNatCast',ht,e1,e5,c1,w,hbx,hx,hE,List.length_map] at he <;> subst he
  ·refine .inr ⟨_,_,rfl,by simp,_,rfl,by simp only [qh,ht],?_,.inr ⟨rfl,hR,?_⟩⟩
   all_goals simp only [sT.1,sC.1,qe,qd,Nat.testBit,simprocAttr,-Int.reduceNatCast',ht,e1]
  ·refine .inl ⟨_,q - 1,rfl,by omega,_,i + 1,rfl,by simp only [qh,ht],?_,?_,by omega,by simpa only [Bool.true_and,Bool.and_true] using hR⟩
   all_goals simp only [sT.1,sC.1,qe,qd,Nat.testBit,simprocAttr,-Int.reduceNatCast',ht,e1,w]
 ·have c1:ilt (i:Int) (links.length:Int) = false:=qcJ (by omega)
  rw [qb8 hi] at hR
  simp only [qlw,sT.1,sC.1,qe,qd,Nat.testBit,simprocAttr,-Int.reduceNatCast',ht,e1,e5,c1,hbx,List.length_map] at he
  subst he
  refine .inr ⟨_,_,rfl,by simp,_,rfl,by simp only [qh,ht],?_,.inl ⟨rfl,hR⟩⟩
  all_goals simp only [sT.1,sC.1,qe,qd,Nat.testBit,simprocAttr,-Int.reduceNatCast',ht,e1]
set_option maxHeartbeats 4000000 in
theorem qwT (hbx:G[P]? = some (.cells [.str nm,.bool cp,.lst (ins.map qJ.enc) .no,.lst (outs.map qJ.enc) .no,.lst (vars.map qM.enc) .no,.lst (ta.map exV) .no,.lst (emits.map qam.enc) .no,.lst (int.map qM.enc) .no,.lst (ext.map qM.enc) .no,.int .i64 con,.lst (own.map qM.enc) .no,.lst (parts.map qaw.enc) .no,.lst (links.map qZ.enc) .no,.lst (rules.map qab.enc) .no])) {j:Nat} {op n:Int} {m2 sb:Str} {aS:List Exl} {acts:List qbW} (hxr:qa3 6 (.lst (rules.map qab.enc) .no) (.int .i64 (j:Nat)) = some (.iptr [.int .i64 op,.int .i64 n,.str m2,.str sb,.lst (aS.map exV) .no,.lst (acts.map qbW.enc) .no] 0)) (hl:acts.length ≤ 100000) (ha:∀a ∈ acts,qu8 a):∀q st,(∃tt i,st = ⟨tt,G,false⟩∧tt.length = 287∧lkp tt 1 = .ptr P 0∧lkp tt 8 = .int .i64 (i:Nat)∧i + q = acts.length∧lkp tt 7 = .int .i64 (j:Nat)∧acts.all qhk = (acts.drop i).all qhk)→
  ∃x st',qx b Wd (.loop qlx) st = some (x,st')∧(∃tt,st' = ⟨tt,G,false⟩∧tt.length = 287∧lkp tt 1 = .ptr P 0∧lkp tt 7 = .int .i64 (j:Nat)∧((x = .exit 8∧acts.all qhk = true)∨(x = .ret∧acts.all qhk = false∧lkp tt 2 = .bool false))):=by
 refine qD _ (fun x st'=>∃tt,st' = ⟨tt,G,false⟩∧tt.length = 287∧lkp tt 1 = .ptr P 0∧lkp tt 7 = .int .i64 (j:Nat)∧((x = .exit 8∧acts.all qhk = true)∨(x = .ret∧acts.all qhk = false∧lkp tt 2 = .bool false))) ?_
 rintro q st ⟨tt,i,rfl,ht,e1,e5,hiq,s7,hR⟩
 generalize he:qx b Wd qlx _ = r
 rcases Nat.lt_or_ge i acts.length with hi | hi
 ·have c1:ilt (i:Int) (acts.length:Int) = true:=qcK (by omega)
  have w:=qE (n:=i) (by omega)
  rw [qb9 hi] at hR
  have hg:(acts.map qbW.enc)[i]? = some (qbW.enc acts[i]):=by rw [List.getElem?_map,List.getElem?_eq_getElem hi];rfl
  have hE:=fun h=>qvg (ha _ (List.getElem_mem hi)) h
  generalize acts[i] = y at hE hg hR
  generalize qhk y = v at hE hR
  obtain ⟨k,a,c,⟨d,e⟩,⟨f,g⟩⟩:=y
  rw [qbW.enc] at hg hE
  simp only at hg hE
  have hx:qa3 7 (.lst (acts.map qbW.enc) .no) (.int .i64 (i:Nat)) = some (.iptr [.int .i64 k,.str a,.str c,.str d,.str e,.str f,.str g] 0):=qu hg rfl
  cases v <;> simp only [qlx,sT.1,sC.1,qe,qd,Nat.testBit,simprocAttr,-Int.reduceNatCast',ht,e1,e5,s7,c1,w,hbx,hxr,hx,hE,List.length_map] at he <;> subst he
  ·refine .inr ⟨_,_,rfl,by simp,_,rfl,by simp only [qh,ht],?_,?_,.inr ⟨rfl,hR,?_⟩⟩
   all_goals simp only [sT.1,sC.1,qe,qd,Nat.testBit,simprocAttr,-Int.reduceNatCast',ht,e1,s7]
  ·refine .inl ⟨_,q - 1,rfl,by omega,_,i + 1,rfl,by simp only [qh,ht],?_,?_,by omega,?_,by simpa only [Bool.true_and,Bool.and_true] using hR⟩
   all_goals simp only [sT.1,sC.1,qe,qd,Nat.testBit,simprocAttr,-Int.reduceNatCast',ht,e1,s7,w]
 ·have c1:ilt (i:Int) (acts.length:Int) = false:=qcJ (by omega)
  rw [qb8 hi] at hR
  simp only [qlx,sT.1,sC.1,qe,qd,Nat.testBit,simprocAttr,-Int.reduceNatCast',ht,e1,e5,s7,c1,hbx,hxr,List.length_map] at he
  subst he
  refine .inr ⟨_,_,rfl,by simp,_,rfl,by simp only [qh,ht],?_,?_,.inl ⟨rfl,hR⟩⟩
  all_goals simp only [sT.1,sC.1,qe,qd,Nat.testBit,simprocAttr,-Int.reduceNatCast',ht,e1,s7]
set_option maxHeartbeats 4000000 in
theorem qtx (hbx:G[P]? = some (.cells [.str nm,.bool cp,.lst (ins.map qJ.enc) .no,.lst (outs.map qJ.enc) .no,.lst (vars.map qM.enc) .no,.lst (ta.map exV) .no,.lst (emits.map qam.enc) .no,.lst (int.map qM.enc) .no,.lst (ext.map qM.enc) .no,.int .i64 con,.lst (own.map qM.enc) .no,.lst (parts.map qaw.enc) .no,.lst (links.map qZ.enc) .no,.lst (rules.map qab.enc) .no])) (hl:rules.length ≤ 100000) (hr:∀r ∈ rules,qrw r):∀q st,(∃tt i,st = ⟨tt,G,false⟩∧tt.length = 287∧lkp tt 1 = .ptr P 0∧lkp tt 7 = .int .i64 (i:Nat)∧i + q = rules.length∧rules.all qd5 = (rules.drop i).all qd5)→
  ∃x st',qx b Wd (.loop qhO) st = some (x,st')∧(∃tt,st' = ⟨tt,G,false⟩∧tt.length = 287∧lkp tt 1 = .ptr P 0∧((x = .exit 6∧rules.all qd5 = true)∨(x = .ret∧rules.all qd5 = false∧lkp tt 2 = .bool false))):=by
 refine qD _ (fun x st'=>∃tt,st' = ⟨tt,G,false⟩∧tt.length = 287∧lkp tt 1 = .ptr P 0∧((x = .exit 6∧rules.all qd5 = true)∨(x = .ret∧rules.all qd5 = false∧lkp tt 2 = .bool false))) ?_
 rintro q st ⟨tt,i,rfl,ht,e1,e5,hiq,hR⟩
 generalize he:qx b Wd qhO _ = r
 rcases Nat.lt_or_ge i rules.length with hi | hi
 ·have c1:ilt (i:Int) (rules.length:Int) = true:=qcK (by omega)
  have w:=qE (n:=i) (by omega)
  rw [qb9 hi] at hR
  have hg:(rules.map qab.enc)[i]? = some (qab.enc rules[i]):=by rw [List.getElem?_map,List.getElem?_eq_getElem hi];rfl
  have hS:=hr _ (List.getElem_mem hi)
  have hE:=fun h=>qhx hS.e h
  rw [qd5] at hR
  generalize rules[i] = y at hE hg hR hS
  obtain ⟨e,acts⟩:=y
  have ha:=hS.a
  have hla:=hS.n
  simp only at hR hE ha hla
  generalize right 20 e = v at hE hR
  obtain ⟨op,n,m2,sb,aS⟩:=e
  rw [ql] at hE
  rw [qab.enc,exC] at hg
  simp only [List.cons_append,List.nil_append] at hg
  have hx:qa3 6 (.lst (rules.map qab.enc) .no) (.int .i64 (i:Nat)) = some (.iptr [.int .i64 op,.int .i64 n,.str m2,.str sb,.lst (aS.map exV) .no,.lst (acts.map qbW.enc) .no] 0):=qu hg rfl
  have hile:ile (acts.length:Nat) 5 = !ilt 5 (acts.length:Nat):=by rw [qeQ,Bool.not_not]
  rw [hile] at hR
  cases v with
  | false=>
   rw [Bool.and_false,Bool.false_and] at hR
   simp only [qhO,sT.1,sC.1,qe,qd,Nat.testBit,simprocAttr,-Int.reduceNatCast',ht,e1,e5,c1,w,hbx,hx,hE,List.length_map] at he
   subst he
   refine .inr ⟨_,_,rfl,by simp,_,rfl,by simp only [qh,ht],?_,.inr ⟨rfl,hR,?_⟩⟩
   all_goals simp only [sT.1,sC.1,qe,qd,Nat.testBit,simprocAttr,-Int.reduceNatCast',ht,e1]
  | true=>
   cases c5:ilt 5 (acts.length:Nat) with
   | true=>
    rw [c5] at hR
    simp only [qhO,sT.1,sC.1,qe,qd,Nat.testBit,simprocAttr,-Int.reduceNatCast',ht,e1,e5,c1,w,hbx,hx,hE,c5,List.length_map] at he
    subst he
    refine .inr ⟨_,_,rfl,by simp,_,rfl,by simp only [qh,ht],?_,.inr ⟨rfl,hR,?_⟩⟩
    all_goals simp only [sT.1,sC.1,qe,qd,Nat.testBit,simprocAttr,-Int.reduceNatCast',ht,e1]
   | false=>
    rw [c5,Bool.not_false,Bool.true_and,Bool.true_and] at hR
    simp only [qhO,sT.1,sC.1,qe,qd,Nat.testBit,simprocAttr,-Int.reduceNatCast',ht,e1,e5,c1,w,hbx,hx,hE,c5,List.length_map] at he
    generalize hr3:qx b Wd (.loop qlx) _ = r3 at he
    obtain ⟨x,st',rfl,tt',rfl,ht',e1',e7',⟨rfl,hA⟩ | ⟨rfl,hA,e2'⟩⟩:=qaT hr3 (qwT (b:=b) hbx hx hla ha acts.length _ ⟨_,0,rfl,by simp only [qh,ht],by simp only [sT.1,sC.1,qe,qd,Nat.testBit,simprocAttr,-Int.reduceNatCast',ht,e1],by simp only [sT.1,sC.1,qe,qd,Nat.testBit,simprocAttr,-Int.reduceNatCast',ht,Int.natCast_zero],by omega,by simp only [sT.1,sC.1,qe,qd,Nat.testBit,simprocAttr,-Int.reduceNatCast',ht,e5],rfl⟩)
    ·rw [hA,Bool.true_and] at hR
     simp only [sT.1,sC.1,qe,qd,Nat.testBit,simprocAttr,-Int.reduceNatCast',ht',e1',e7',w] at he
     subst he
     refine .inl ⟨_,q - 1,rfl,by omega,_,i + 1,rfl,by simp only [qh,ht'],?_,?_,by omega,hR⟩
     all_goals simp only [sT.1,sC.1,qe,qd,Nat.testBit,simprocAttr,-Int.reduceNatCast',ht',e1',w]
    ·rw [hA,Bool.false_and] at hR
     simp only [sT.1,sC.1,qe,qd,Nat.testBit,simprocAttr,-Int.reduceNatCast',ht',e1',e2'] at he
     subst he
     exact .inr ⟨_,_,rfl,by simp,_,rfl,ht',e1',.inr ⟨rfl,hR,e2'⟩⟩
 ·have c1:ilt (i:Int) (rules.length:Int) = false:=qcJ (by omega)
  rw [qb8 hi] at hR
  simp only [qhO,sT.1,sC.1,qe,qd,Nat.testBit,simprocAttr,-Int.reduceNatCast',ht,e1,e5,c1,hbx,List.length_map] at he
  subst he
  refine .inr ⟨_,_,rfl,by simp,_,rfl,by simp only [qh,ht],?_,.inl ⟨rfl,hR⟩⟩
  all_goals simp only [sT.1,sC.1,qe,qd,Nat.testBit,simprocAttr,-Int.reduceNatCast',ht,e1]
set_option maxHeartbeats 8000000 in
theorem qtu {h:List qq} (hl:emits.length ≤ 100000) (hr:∀x ∈ emits,qu9 x):∀q st,(∃tt G i,st = ⟨tt,G,false⟩∧G[h.length]? = some (.cells [.str nm,.bool cp,.lst (ins.map qJ.enc) .no,.lst (outs.map qJ.enc) .no,.lst (vars.map qM.enc) .no,.lst (ta.map exV) .no,.lst (emits.map qam.enc) .no,.lst (int.map qM.enc) .no,.lst (ext.map qM.enc) .no,.int .i64 con,.lst (own.map qM.enc) .no,.lst (parts.map qaw.enc) .no,.lst (links.map qZ.enc) .no,.lst (rules.map qab.enc) .no])∧h.length < G.length∧G.take h.length = h∧tt.length = 287∧lkp tt 1 = .ptr h.length 0∧lkp tt 3 = .int .i64 (i:Nat)∧i + q = emits.length∧emits.all qde = (emits.drop i).all qde)→
  ∃x st',qx h.length Wd (.loop qfS) st = some (x,st')∧(∃tt G,st' = ⟨tt,G,false⟩∧G[h.length]? = some (.cells [.str nm,.bool cp,.lst (ins.map qJ.enc) .no,.lst (outs.map qJ.enc) .no,.lst (vars.map qM.enc) .no,.lst (ta.map exV) .no,.lst (emits.map qam.enc) .no,.lst (int.map qM.enc) .no,.lst (ext.map qM.enc) .no,.int .i64 con,.lst (own.map qM.enc) .no,.lst (parts.map qaw.enc) .no,.lst (links.map qZ.enc) .no,.lst (rules.map qab.enc) .no])∧h.length < G.length∧G.take h.length = h∧tt.length = 287∧lkp tt 1 = .ptr h.length 0∧((x = .exit 0∧emits.all qde = true)∨(x = .ret∧emits.all qde = false∧lkp tt 2 = .bool false))):=by
 refine qD _ (fun x st'=>∃tt G,st' = ⟨tt,G,false⟩∧G[h.length]? = some (.cells [.str nm,.bool cp,.lst (ins.map qJ.enc) .no,.lst (outs.map qJ.enc) .no,.lst (vars.map qM.enc) .no,.lst (ta.map exV) .no,.lst (emits.map qam.enc) .no,.lst (int.map qM.enc) .no,.lst (ext.map qM.enc) .no,.int .i64 con,.lst (own.map qM.enc) .no,.lst (parts.map qaw.enc) .no,.lst (links.map qZ.enc) .no,.lst (rules.map qab.enc) .no])∧h.length < G.length∧G.take h.length = h∧tt.length = 287∧lkp tt 1 = .ptr h.length 0∧((x = .exit 0∧emits.all qde = true)∨(x = .ret∧emits.all qde = false∧lkp tt 2 = .bool false))) ?_
 rintro q st ⟨tt,G,i,rfl,hbx,hlt,htk,ht,e1,e5,hiq,hR⟩
 generalize he:qx h.length Wd qfS _ = r
 have hbl:Nat.ble h.length G.length = true:=qas (by omega)
 rcases Nat.lt_or_ge i emits.length with hi | hi
 ·have c1:ilt (i:Int) (emits.length:Int) = true:=qcK (by omega)
  have w:=qE (n:=i) (by omega)
  rw [qb9 hi] at hR
  have hg:(emits.map qam.enc)[i]? = some (qam.enc emits[i]):=by rw [List.getElem?_map,List.getElem?_eq_getElem hi];rfl
  have hS:=hr _ (List.getElem_mem hi)
  have hE:=fun h=>qhx hS.e h
  rw [qde] at hR
  generalize emits[i] = y at hE hg hR hS
  obtain ⟨pn,e,ifs⟩:=y
  have hi2:=hS.i
  simp only at hR hE hi2
  generalize right 20 e = v at hE hR
  obtain ⟨op,n,m2,sb,aS⟩:=e
  rw [ql] at hE
  rw [qam.enc,exC] at hg
  simp only [List.cons_append,List.nil_append] at hg
  have hx:qa3 7 (.lst (emits.map qam.enc) .no) (.int .i64 (i:Nat)) = some (.iptr [.str pn,.int .i64 op,.int .i64 n,.str m2,.str sb,.lst (aS.map exV) .no,.lst (ifs.map exV) .no] 0):=qu hg rfl
  have nb:∀X:List qq,(G ++ X)[h.length]? = some (.cells [.str nm,.bool cp,.lst (ins.map qJ.enc) .no,.lst (outs.map qJ.enc) .no,.lst (vars.map qM.enc) .no,.lst (ta.map exV) .no,.lst (emits.map qam.enc) .no,.lst (int.map qM.enc) .no,.lst (ext.map qM.enc) .no,.int .i64 con,.lst (own.map qM.enc) .no,.lst (parts.map qaw.enc) .no,.lst (links.map qZ.enc) .no,.lst (rules.map qab.enc) .no]):=fun X=>by rw [List.getElem?_append_left hlt];exact hbx
  have nt:∀X:List qq,(G ++ X).take h.length = h:=fun X=>by rw [List.take_append_of_le_length (by omega)];exact htk
  have no:∀tt',tt'.length = 287→lkp tt' 1 = .ptr h.length 0→lkp tt' 2 = .bool false→emits.all qde = false→∀X:List qq,(∃tt G',(⟨tt',G ++ X,false⟩ :St) = ⟨tt,G',false⟩∧G'[h.length]? = some (.cells [.str nm,.bool cp,.lst (ins.map qJ.enc) .no,.lst (outs.map qJ.enc) .no,.lst (vars.map qM.enc) .no,.lst (ta.map exV) .no,.lst (emits.map qam.enc) .no,.lst (int.map qM.enc) .no,.lst (ext.map qM.enc) .no,.int .i64 con,.lst (own.map qM.enc) .no,.lst (parts.map qaw.enc) .no,.lst (links.map qZ.enc) .no,.lst (rules.map qab.enc) .no])∧h.length < G'.length∧G'.take h.length = h∧tt.length = 287∧lkp tt 1 = .ptr h.length 0∧((Ex.ret = .exit 0∧emits.all qde = true)∨(Ex.ret = .ret∧emits.all qde = false∧lkp tt 2 = .bool false))):=fun tt' a1 a2 a3 a4 X=>⟨tt',G ++ X,rfl,nb X,by simp;omega,nt X,a1,a2,.inr ⟨rfl,a4,a3⟩⟩
  cases hn:qG pn with
  | false=>
   rw [hn,Bool.false_and,Bool.false_and,Bool.false_and,Bool.false_and] at hR
   simp only [qfS,sT.1,sC.1,qe,qd,Nat.testBit,simprocAttr,-Int.reduceNatCast',ht,e1,e5,c1,w,hbx,hx,hbl,qH,hn,List.length_map] at he
   subst he
   refine .inr ⟨_,_,rfl,by simp,no _ ?_ ?_ ?_ hR _⟩
   all_goals simp only [qh,sT.1,sC.1,qe,qd,Nat.testBit,simprocAttr,-Int.reduceNatCast',ht,e1]
  | true=>
   cases v with
   | false=>
    rw [Bool.and_false,Bool.false_and,Bool.false_and] at hR
    simp only [qfS,sT.1,sC.1,qe,qd,Nat.testBit,simprocAttr,-Int.reduceNatCast',ht,e1,e5,c1,w,hbx,hx,hbl,qH,hn,hE,List.length_map] at he
    subst he
    refine .inr ⟨_,_,rfl,by simp,no _ ?_ ?_ ?_ hR _⟩
    all_goals simp only [qh,sT.1,sC.1,qe,qd,Nat.testBit,simprocAttr,-Int.reduceNatCast',ht,e1]
   | true=>
    rw [hn,Bool.true_and,Bool.and_true] at hR
    match ifs,hi2 with
    | [],_=>
     have d1:ile (([]:List Exl).length:Nat) 1 = true:=by kernel_rfl
     have d2:ilt 1 (0:Int) = false:=by kernel_rfl
     have d3:((0:Int) == 1) = false:=by kernel_rfl
     rw [d1,List.all_nil,Bool.true_and,Bool.true_and] at hR
     simp only [qfS,sT.1,sC.1,qe,qd,Nat.testBit,simprocAttr,-Int.reduceNatCast',ht,e1,e5,c1,w,hbx,hx,hbl,qH,hn,hE,d2,d3,cc0,List.length_map] at he
     subst he
     refine .inl ⟨_,q - 1,rfl,by omega,_,_,i + 1,rfl,nb _,by simp;omega,nt _,by simp only [qh,ht],?_,?_,by omega,hR⟩
     all_goals simp only [sT.1,sC.1,qe,qd,Nat.testBit,simprocAttr,-Int.reduceNatCast',ht,e1,w]
    | [a],hi2=>
     have hF:=fun h=>qhx (hi2 a (by simp)) h
     have d1:ile (([a]:List Exl).length:Nat) 1 = true:=Eq.trans rfl rfl
     have d2:ilt 1 (1:Int) = false:=by kernel_rfl
     rw [d1,List.all_cons,List.all_nil,Bool.true_and,Bool.and_true] at hR
     have hx0:∀o p q r s,qa3 5 (.lst [.agg [.int .i64 o,.int .i64 p,.str q,.str r,s]] .no) (.int .i64 0) = some (.iptr [.int .i64 o,.int .i64 p,.str q,.str r,s] 0):=fun o p q r s=>by
      have:=qu (k:=5) (xs:=[.agg [.int .i64 o,.int .i64 p,.str q,.str r,s]]) (f:=.no) (j:=.i64) (n:=0) rfl rfl
      exact this
     generalize right 20 a = v at hF hR
     obtain ⟨op',n',m2',sb',as'⟩:=a
     rw [List.map_cons,List.map_nil,ql] at hx
     rw [ql] at hF
     cases v with
     | true=>
      rw [Bool.true_and] at hR
      simp only [qfS,sT.1,sC.1,qe,qd,Nat.testBit,simprocAttr,-Int.reduceNatCast',ht,e1,e5,c1,w,hbx,hx,hx0,hbl,qH,hn,hE,hF,d2,cc1,beq_self_eq_true,List.length_map] at he
      subst he
      refine .inl ⟨_,q - 1,rfl,by omega,_,_,i + 1,rfl,nb _,by simp;omega,nt _,by simp only [qh,ht],?_,?_,by omega,hR⟩
      all_goals simp only [sT.1,sC.1,qe,qd,Nat.testBit,simprocAttr,-Int.reduceNatCast',ht,e1,w]
     | false=>
      rw [Bool.false_and] at hR
      simp only [qfS,sT.1,sC.1,qe,qd,Nat.testBit,simprocAttr,-Int.reduceNatCast',ht,e1,e5,c1,w,hbx,hx,hx0,hbl,qH,hn,hE,hF,d2,cc1,beq_self_eq_true,List.length_map] at he
      subst he
      refine .inr ⟨_,_,rfl,by simp,no _ ?_ ?_ ?_ hR _⟩
      all_goals simp only [qh,sT.1,sC.1,qe,qd,Nat.testBit,simprocAttr,-Int.reduceNatCast',ht,e1]
    | a :: c :: l,_=>
     have d1:ile ((a :: c :: l).length:Nat) 1 = false:=qoF (by simp;omega)
     have d2:ilt 1 ((l.length + 1 + 1:Nat):Int) = true:=qcK (by omega)
     rw [d1,Bool.false_and,Bool.false_and] at hR
     simp only [qfS,sT.1,sC.1,qe,qd,Nat.testBit,simprocAttr,-Int.reduceNatCast',ht,e1,e5,c1,w,hbx,hx,hbl,qH,hn,hE,d2,List.length_cons,List.length_map] at he
     subst he
     refine .inr ⟨_,_,rfl,by simp,no _ ?_ ?_ ?_ hR _⟩
     all_goals simp only [qh,sT.1,sC.1,qe,qd,Nat.testBit,simprocAttr,-Int.reduceNatCast',ht,e1]
 ·have c1:ilt (i:Int) (emits.length:Int) = false:=qcJ (by omega)
  rw [qb8 hi] at hR
  simp only [qfS,sT.1,sC.1,qe,qd,Nat.testBit,simprocAttr,-Int.reduceNatCast',ht,e1,e5,c1,hbx,cc1,List.length_map] at he
  subst he
  refine .inr ⟨_,_,rfl,by simp,_,G,rfl,hbx,hlt,htk,by simp only [qh,ht],?_,.inl ⟨rfl,hR⟩⟩
  all_goals simp only [sT.1,sC.1,qe,qd,Nat.testBit,simprocAttr,-Int.reduceNatCast',ht,e1]
end
end Go.Proofs.YtkmlapholimbcaaGreatDoor.AE
