/- A part of the proof: the abstract executor and what goes through it (part 11). No condition. -/
import Derived.Test.YtkmlapholimbcaaGreatDoorMp10
set_option maxRecDepth 100000
namespace Go.Proofs.YtkmlapholimbcaaGreatDoor.AE
open Go.AE
theorem qrH {op n:Int} {nm sb:Str} {aS:List Exl} {f:Exl→Str} (hb:qhX op n nm sb aS.length = true) (hn:n ≤ 9223372036854775807) (hl:(ntx op n nm sb (aS.map fun a=>(a.op,f a))).length ≤ 50000) (h:∀a ∈ aS,qdo a (f a)):qdo (.mk op n nm sb aS) (ntx op n nm sb (aS.map fun a=>(a.op,f a))):=by
 have ho:0 ≤ op∧op ≤ 25:=Decidable.byContradiction fun hc=>by rw [qex hc] at hb;cases hb
 refine ⟨ho,hl,fun G=>?_⟩
 clear hl
 have an:∀{a b:Bool},(a && b) = true→a = true∧b = true:=fun h=>(Bool.and_eq_true _ _).mp h
 have:op = 0∨op = 1∨op = 2∨op = 3∨op = 4∨op = 5∨op = 6∨op = 7∨op = 8∨op = 9∨op = 10∨op = 11∨op = 12∨op = 13∨op = 14∨op = 15∨op = 16∨op = 17∨op = 18∨op = 19∨op = 20∨op = 21∨op = 22∨op = 23∨op = 24∨op = 25:=by omega
 rcases this with rfl | rfl | rfl | rfl | rfl | rfl | rfl | rfl | rfl | rfl | rfl | rfl | rfl | rfl | rfl | rfl | rfl | rfl | rfl | rfl | rfl | rfl | rfl | rfl | rfl | rfl
 ·obtain ⟨h1,h2⟩:=an (show (fB _ _ _ _ _ n nm sb aS.length && ile 0 n) = true from hb)
  have hl:aS = []:=List.length_eq_zero_iff.1 (by have:=qO h1;omega)
  subst hl
  rw [qaL] at h2
  exact qEj (of_decide_eq_true h2) hn
 ·have h1:fB false false false 0 0 n nm sb aS.length = true:=hb
  have hl:aS = []:=List.length_eq_zero_iff.1 (by have:=qO h1;omega)
  subst hl
  exact qEk
 ·have h1:fB false false false 0 0 n nm sb aS.length = true:=hb
  have hl:aS = []:=List.length_eq_zero_iff.1 (by have:=qO h1;omega)
  subst hl
  exact qEl
 ·obtain ⟨h1,h2⟩:=an (show (fB _ _ _ _ _ n nm sb aS.length && qcs nm) = true from hb)
  have hl:aS = []:=List.length_eq_zero_iff.1 (by have:=qO h1;omega)
  subst hl
  exact qEm (qeH h2).2
 ·obtain ⟨h1,h2⟩:=an (show (fB _ _ _ _ _ n nm sb aS.length && qG nm) = true from hb)
  have hl:aS = []:=List.length_eq_zero_iff.1 (by have:=qO h1;omega)
  subst hl
  exact qEn
 ·obtain ⟨h1,h2⟩:=an (show (fB _ _ _ _ _ n nm sb aS.length && (qG nm && qG sb)) = true from hb)
  obtain ⟨h2,h3⟩:=an h2
  have hl:aS = []:=List.length_eq_zero_iff.1 (by have:=qO h1;omega)
  subst hl
  exact qEo (qal h2).2 (qal h3).2
 ·have h1:fB false false false 1 4 n nm sb aS.length = true:=hb
  have:=qO h1
  cases aS with
  | nil=>simp at this
  | cons a aS=>exact qEp h (by simp at this;omega)
 ·obtain ⟨h1,h2⟩:=an (show (fB _ _ _ _ _ n nm sb aS.length && qG nm) = true from hb)
  have hl:aS = []:=List.length_eq_zero_iff.1 (by have:=qO h1;omega)
  subst hl
  exact qEq (qal h2).2
 ·obtain ⟨h1,h2⟩:=an (show (fB _ _ _ _ _ n nm sb aS.length && qG nm) = true from hb)
  have hl:aS = []:=List.length_eq_zero_iff.1 (by have:=qO h1;omega)
  subst hl
  exact qEr (qal h2).2
 ·obtain ⟨h1,h2⟩:=an (show (fB _ _ _ _ _ n nm sb aS.length && qG nm) = true from hb)
  have hl:aS = []:=List.length_eq_zero_iff.1 (by have:=qO h1;omega)
  subst hl
  exact qEs (qal h2).2
 ·obtain ⟨h1,h2⟩:=an (show (fB _ _ _ 1 1 n nm sb aS.length && qG nm) = true from hb)
  obtain ⟨a,rfl⟩:=qcq (l:=aS) (by have:=qO h1;omega)
  exact qAB (h a (by simp)) (qal h2).2
 ·have h1:fB false false false 0 0 n nm sb aS.length = true:=hb
  have hl:aS = []:=List.length_eq_zero_iff.1 (by have:=qO h1;omega)
  subst hl
  exact qAC
 ·obtain ⟨h1,h2⟩:=an (show (fB _ _ _ 1 1 n nm sb aS.length && (ile 0 n && ilt n 4)) = true from hb)
  obtain ⟨a,rfl⟩:=qcq (l:=aS) (by have:=qO h1;omega)
  simp only [Bool.and_eq_true,qaL,qaj,decide_eq_true_eq] at h2
  have ha:=h a (by simp)
  have e:ntx 12 n nm sb ([a].map fun a=>(a.op,f a)) = inn (bif a.op == 0 then 10 else 8) (a.op,f a) ++ (46 :: Lib.itoa n):=rfl
  rw [e]
  cases hc:a.op == 0 with
  | true=>
   have e2:inn 10 (a.op,f a) = 40 :: (f a ++ [41]):=by
    rw [inn,beq_iff_eq.1 hc]
    rfl
   rw [cond_true,e2]
   exact qyw ha hc h2.1 (by omega)
  | false=>
   rw [cond_false]
   exact qyv ha hc h2.1 (by omega)
 ·have h1:fB false false false 1 1 n nm sb aS.length = true:=hb
  obtain ⟨a,rfl⟩:=qcq (l:=aS) (by have:=qO h1;omega)
  exact qAD (h a (by simp))
 ·have h1:fB false false false 1 1 n nm sb aS.length = true:=hb
  obtain ⟨a,rfl⟩:=qcq (l:=aS) (by have:=qO h1;omega)
  exact qAE (h a (by simp))
 ·have h1:fB false false false 2 2 n nm sb aS.length = true:=hb
  obtain ⟨a,b,rfl⟩:=qbt (l:=aS) (by have:=qO h1;omega)
  exact qAF (h a (by simp)) (h b (by simp))
 ·have h1:fB false false false 2 2 n nm sb aS.length = true:=hb
  obtain ⟨a,b,rfl⟩:=qbt (l:=aS) (by have:=qO h1;omega)
  exact qAG (h a (by simp)) (h b (by simp))
 ·have h1:fB false false false 2 2 n nm sb aS.length = true:=hb
  obtain ⟨a,b,rfl⟩:=qbt (l:=aS) (by have:=qO h1;omega)
  exact qAH (h a (by simp)) (h b (by simp))
 ·have h1:fB false false false 2 2 n nm sb aS.length = true:=hb
  obtain ⟨a,b,rfl⟩:=qbt (l:=aS) (by have:=qO h1;omega)
  exact qAI (h a (by simp)) (h b (by simp))
 ·have h1:fB false false false 2 2 n nm sb aS.length = true:=hb
  obtain ⟨a,b,rfl⟩:=qbt (l:=aS) (by have:=qO h1;omega)
  exact qAJ (h a (by simp)) (h b (by simp))
 ·have h1:fB false false false 2 2 n nm sb aS.length = true:=hb
  obtain ⟨a,b,rfl⟩:=qbt (l:=aS) (by have:=qO h1;omega)
  exact qAK (h a (by simp)) (h b (by simp))
 ·have h1:fB false false false 2 2 n nm sb aS.length = true:=hb
  obtain ⟨a,b,rfl⟩:=qbt (l:=aS) (by have:=qO h1;omega)
  exact qAL (h a (by simp)) (h b (by simp))
 ·have h1:fB false false false 2 2 n nm sb aS.length = true:=hb
  obtain ⟨a,b,rfl⟩:=qbt (l:=aS) (by have:=qO h1;omega)
  exact qAM (h a (by simp)) (h b (by simp))
 ·have h1:fB false false false 2 2 n nm sb aS.length = true:=hb
  obtain ⟨a,b,rfl⟩:=qbt (l:=aS) (by have:=qO h1;omega)
  exact qAN (h a (by simp)) (h b (by simp))
 ·have h1:fB false false false 2 2 n nm sb aS.length = true:=hb
  obtain ⟨a,b,rfl⟩:=qbt (l:=aS) (by have:=qO h1;omega)
  exact qAO (h a (by simp)) (h b (by simp))
 ·have h1:fB false false false 3 3 n nm sb aS.length = true:=hb
  obtain ⟨a,b,c,rfl⟩:=qg6 (l:=aS) (by have:=qO h1;omega)
  exact qAP (h a (by simp)) (h b (by simp)) (h c (by simp))
theorem quz:∀(d:Nat) (e:Exl),right d e = true→OkN e→sz d e ≤ 1100→qdo e (tx d e)
 | 0,_,h,_,_=>by rw [right] at h;cases h
 | d + 1,.mk op n nm sb aS,h,hn,hs=>by
  have hl:=(qku (d + 1) (.mk op n nm sb aS) h hn).2
  rw [right,Bool.and_eq_true,List.all_eq_true] at h
  obtain ⟨h1,h2⟩:=qmQ hn
  rw [tx] at *
  refine qrH h.1 h1 (by omega) fun a ha=>quz d a (h.2 a ha) (h2 a ha) ?_
  rw [sz] at hs
  have:sz d a ≤ (aS.map (sz d)).sum:=by
   clear h hn h2 hl hs
   induction aS with
   | nil=>cases ha
   | cons b l ih=>
    simp only [List.map_cons,List.sum_cons]
    rcases List.mem_cons.1 ha with rfl | ha
    ·omega
    ·have:=ih ha;omega
  omega
theorem qeO {e:Exl} (h:qhc e) (G:List qq):Wd (.fn 10 [] []) [exV e,.int .i64 0] G = some (.ret (.str (eT e)),G,false):=by
 have hb:=quz 20 e h.1 h.2.1 (by have:=h.2.2;omega)
 have:=qhd hb 0 G
 have e2:inn 0 (e.op,tx 20 e) = tx 20 e:=by
  rw [inn]
  have hk:∀k:Nat,k ≤ 25→ile 0 (rk (k:Nat)) = true:=by decide
  have h1:=hb.1
  have:=hk e.op.toNat (by omega)
  rw [show ((e.op.toNat:Nat):Int) = e.op by omega] at this
  simp only [this,cond_true]
 rw [e2] at this
 exact this
end Go.Proofs.YtkmlapholimbcaaGreatDoor.AE
namespace Go.Proofs.YtkmlapholimbcaaGreatDoor.AE
open Go.AE
theorem quO (l:List Str):Lib.join l [44,32] = qaS l:=by
 cases l with
 | nil=>rfl
 | cons x r=>rw [Lib.join_cons,qaS,Lib.joinTail];rfl
theorem qzZ {l:List Str}:qrg l = 40 :: (qaS l ++ (bif l.length == 1 then [44,41] else [41])):=by
 rw [qrg,quO]
 cases l with
 | nil=>rfl
 | cons x r=>
  cases r with
  | nil=>simp [qaS]
  | cons y r=>rfl
theorem qta (l:List Str) (b:Nat) (hb:∀x ∈ l,x.length ≤ b):(qaS l).length ≤ l.length * (b + 2):=by
 have:=Lib.join_cons
 rw [←quO]
 exact qgQ [44,32] l b hb
section
variable {G:List qq}
theorem qri (k:Int) (l:List Tp) (hk:k = 0∨k = 1∨k = 2):Wd (.fn 89 [] []) [tpV (.mk k l)] G = some (.ret (.str (bif k == 0 then [105,110,116] else bif k == 1 then [98,111,111,108] else [115,121,109])),G,false):=by
 rw [qa9,qt rfl (show T.get 89 = some c89 by kernel_rfl)]
 rcases hk with rfl | rfl | rfl
 ·have e0:((0:Int) == 0) = true:=by kernel_rfl
  simp only [c89,sT.1,sC.1,qe,qd,Nat.testBit,simprocAttr,-Int.reduceNatCast',e0,cond_true]
 ·have e0:((1:Int) == 0) = false:=by kernel_rfl
  have e1:((1:Int) == 1) = true:=by kernel_rfl
  simp only [c89,sT.1,sC.1,qe,qd,Nat.testBit,simprocAttr,-Int.reduceNatCast',e0,e1,cond_true,cond_false]
 ·have e0:((2:Int) == 0) = false:=by kernel_rfl
  have e1:((2:Int) == 1) = false:=by kernel_rfl
  have e2:((2:Int) == 2) = true:=by kernel_rfl
  simp only [c89,sT.1,sC.1,qe,qd,Nat.testBit,simprocAttr,-Int.reduceNatCast',e0,e1,e2,cond_true,cond_false]
set_option maxHeartbeats 4000000 in
theorem qzY:∀d,d ≤ 3→∀(v:Tp),tyB d v = true→∀G,Wd (.fn 89 [] []) [tpV v] G = some (.ret (.str (ttx d v)),G,false):=by
 intro d
 induction d with
 | zero=>
  rintro _ ⟨k,l⟩ hv G
  rw [tyB,Bool.and_eq_true] at hv
  have hk:k = 0∨k = 1∨k = 2:=by simpa using hv.1
  rw [ttx]
  exact qri k l hk
 | succ d ih=>
  rintro hd ⟨k,l⟩ hv G
  by_cases hk:k = 0∨k = 1∨k = 2
  ·have e:ttx (d + 1) (.mk k l) = bif k == 0 then [105,110,116] else bif k == 1 then [98,111,111,108] else [115,121,109]:=by
    rw [ttx]
    rcases hk with rfl | rfl | rfl <;> rfl
   rw [e]
   exact qri k l hk
  ·have n0:(k == 0) = false:=by rw [beq_eq_false_iff_ne];omega
   have n1:(k == 1) = false:=by rw [beq_eq_false_iff_ne];omega
   have n2:(k == 2) = false:=by rw [beq_eq_false_iff_ne];omega
   rw [tyB,n0,n1,n2] at hv
   simp only [Bool.or_false,Bool.false_and,Bool.false_or,Bool.and_eq_true,decide_eq_true_eq,List.all_eq_true] at hv
   obtain ⟨_,⟨l1,l4⟩,hall⟩:=hv
   have hb:∀x ∈ l.map (ttx d),x.length ≤ 512:=fun x hx=>by
    obtain ⟨y,hy,rfl⟩:=List.mem_map.1 hx
    have:=(qjB d (by omega) y (hall y hy)).2
    have hp3:8 ^ (d + 1) ≤ 512:=by
     have:=Nat.pow_le_pow_right (n:=8) (by omega) (show d + 1 ≤ 3 by omega)
     simpa using this
    omega
   have e:ttx (d + 1) (.mk k l) = qrg (l.map (ttx d)):=by rw [ttx,n0,n1,n2];rfl
   rw [e,qzZ,List.length_map]
   have hlen:∀i,(qaS ((l.take i).map (ttx d))).length ≤ 3000:=fun i=>by
    have:=qta ((l.take i).map (ttx d)) 512 (fun x hx=>hb x (by
     obtain ⟨y,hy,rfl⟩:=List.mem_map.1 hx
     exact List.mem_map_of_mem (List.mem_of_mem_take hy)))
    have h3:((l.take i).map (ttx d)).length ≤ 4:=by rw [List.length_map,List.length_take];omega
    have:((l.take i).map (ttx d)).length * 514 ≤ 4 * 514:=Nat.mul_le_mul_right _ h3
    omega
   obtain ⟨H,hH⟩ :∃H,H = G ++ [qq.cells [.int .i64 k,.lst (l.map tpV) .no]]:=⟨_,rfl⟩
   have hbx:H[G.length]? = some (.cells [.int .i64 k,.lst (l.map tpV) .no]):=by rw [hH,qbD];rfl
   have htk:H.take G.length = G:=by rw [hH,List.take_left]
   have loop:∀q st,(∃tt i,st = ⟨tt,H,false⟩∧tt.length = 41∧lkp tt 1 = .ptr G.length 0∧lkp tt 3 = .str (40 :: qaS ((l.take i).map (ttx d)))∧lkp tt 4 = .int .i64 (i:Nat)∧i + q = l.length)→
     ∃x st',qx G.length Wd (.loop qi9) st = some (x,st')∧(∃tt,st' = ⟨tt,H,false⟩∧tt.length = 41∧lkp tt 1 = .ptr G.length 0∧lkp tt 3 = .str (40 :: qaS (l.map (ttx d)))∧x = .exit 0):=by
    refine qD _ (fun x st'=>∃tt,st' = ⟨tt,H,false⟩∧tt.length = 41∧lkp tt 1 = .ptr G.length 0∧lkp tt 3 = .str (40 :: qaS (l.map (ttx d)))∧x = .exit 0) ?_
    rintro q st ⟨tt,i,rfl,ht,e1,e3,e4,hiq⟩
    generalize he:qx G.length Wd qi9 _ = r
    rcases Nat.lt_or_ge i l.length with hi | hi
    ·have c1:ilt (i:Int) (l.length:Int) = true:=qcK (by omega)
     have w:=qE (n:=i) (by omega)
     have hr':=fun G=>ih (by omega) l[i] (hall _ (List.getElem_mem hi)) G
     have hg:(l.map tpV)[i]? = some (tpV l[i]):=by rw [List.getElem?_map,List.getElem?_eq_getElem hi];rfl
     have hl1:∀k,3000 ≤ k→(qaS ((l.take i).map (ttx d))).length ≤ k:=fun k hk=>by have:=hlen i;omega
     have hl2:∀k,512 ≤ k→(ttx d l[i]).length ≤ k:=fun k hk=>by have:=hb _ (List.mem_map_of_mem (List.getElem_mem hi));omega
     have hS:qaS ((l.take (i + 1)).map (ttx d)) = bif ((l.take i).map (ttx d)).isEmpty then ttx d l[i] else qaS ((l.take i).map (ttx d)) ++ (44 :: 32 :: ttx d l[i]):=by
      rw [List.take_succ_eq_append_getElem hi,List.map_append,List.map_cons,List.map_nil,qeS]
     have hne:((l.take i).map (ttx d)).isEmpty = !ilt 0 (i:Int):=by
      rw [qaj]
      cases i with
      | zero=>rfl
      | succ i=>cases l with
       | nil=>simp at hi
       | cons b r=>simp
     rw [hne] at hS
     have hj0:ilt 0 (i:Int) = false→qaS ((l.take i).map (ttx d)) = []:=fun hq=>by
      rw [hq] at hne
      rw [List.isEmpty_iff.1 hne,qaS]
     generalize ttx d l[i] = u at *
     generalize l[i] = y at hr' hg
     obtain ⟨k',l'⟩:=y
     rw [qa9] at hr' hg
     have hx:qa3 2 (.lst (l.map tpV) .no) (.int .i64 (i:Nat)) = some (.iptr [.int .i64 k',.lst (l'.map tpV) .no] 0):=qu hg rfl
     cases c2:ilt 0 (i:Int) with
     | false=>
      rw [c2,Bool.not_false,cond_true] at hS
      rw [hj0 c2] at e3
      simp (maxDischargeDepth:=9) only [qi9,sT.1,sC.1,sTA.1,sCA.1,qe,qj,qk,Src.isTmp,qg,Src.hangs,qn.isT,qi,qd,Nat.testBit,bne,simprocAttr,-Int.reduceNatCast',ht,e1,e3,e4,c1,c2,w,hx,hbx,hr',hl2,qb5,qb6,if_true,List.length_map,List.append_assoc,List.cons_append,List.nil_append] at he
      subst he
      refine .inl ⟨_,q - 1,rfl,by omega,_,i + 1,rfl,by simp only [qh,ht],?_,?_,?_,by omega⟩
      ·simp only [sT.1,sC.1,sTA.1,sCA.1,qe,qj,qk,Src.isTmp,qg,Src.hangs,qn.isT,qi,qd,Nat.testBit,bne,simprocAttr,-Int.reduceNatCast',ht,e1]
      ·rw [hS];simp only [sT.1,sC.1,sTA.1,sCA.1,qe,qj,qk,Src.isTmp,qg,Src.hangs,qn.isT,qi,qd,Nat.testBit,bne,simprocAttr,-Int.reduceNatCast',ht]
      ·simp only [sT.1,sC.1,sTA.1,sCA.1,qe,qj,qk,Src.isTmp,qg,Src.hangs,qn.isT,qi,qd,Nat.testBit,bne,simprocAttr,-Int.reduceNatCast',ht,w]
     | true=>
      rw [c2,Bool.not_true,cond_false] at hS
      generalize qaS ((l.take i).map (ttx d)) = W at *
      simp (maxDischargeDepth:=9) only [qi9,sT.1,sC.1,sTA.1,sCA.1,qe,qj,qk,Src.isTmp,qg,Src.hangs,qn.isT,qi,qd,Nat.testBit,bne,simprocAttr,-Int.reduceNatCast',ht,e1,e3,e4,c1,c2,w,hx,hbx,hr',hl1,hl2,qb5,qb6,if_true,List.length_map,List.append_assoc,List.cons_append,List.nil_append] at he
      subst he
      refine .inl ⟨_,q - 1,rfl,by omega,_,i + 1,rfl,by simp only [qh,ht],?_,?_,?_,by omega⟩
      ·simp only [sT.1,sC.1,sTA.1,sCA.1,qe,qj,qk,Src.isTmp,qg,Src.hangs,qn.isT,qi,qd,Nat.testBit,bne,simprocAttr,-Int.reduceNatCast',ht,e1]
      ·rw [hS];simp only [sT.1,sC.1,sTA.1,sCA.1,qe,qj,qk,Src.isTmp,qg,Src.hangs,qn.isT,qi,qd,Nat.testBit,bne,simprocAttr,-Int.reduceNatCast',ht,List.append_assoc,List.cons_append,List.nil_append]
      ·simp only [sT.1,sC.1,sTA.1,sCA.1,qe,qj,qk,Src.isTmp,qg,Src.hangs,qn.isT,qi,qd,Nat.testBit,bne,simprocAttr,-Int.reduceNatCast',ht,w]
    ·have c1:ilt (i:Int) (l.length:Int) = false:=qcJ (by omega)
     rw [List.take_of_length_le hi] at e3
     simp only [qi9,sT.1,sC.1,sTA.1,sCA.1,qe,qj,qk,Src.isTmp,qg,Src.hangs,qn.isT,qi,qd,Nat.testBit,bne,simprocAttr,-Int.reduceNatCast',ht,e1,e3,e4,c1,hbx,List.length_map] at he
     subst he
     refine .inr ⟨_,_,rfl,by simp,_,rfl,by simp only [qh,ht],?_,?_,rfl⟩
     all_goals simp only [sT.1,sC.1,sTA.1,sCA.1,qe,qj,qk,Src.isTmp,qg,Src.hangs,qn.isT,qi,qd,Nat.testBit,bne,simprocAttr,-Int.reduceNatCast',ht,e1,e3]
   have hl1:∀k,3000 ≤ k→(qaS (l.map (ttx d))).length ≤ k:=fun k hk=>by have:=hlen l.length;rw [List.take_length] at this;omega
   have hc1:(((l.length:Nat):Int) == 1) = (l.length == 1):=by rw [Bool.eq_iff_iff];simp;omega
   generalize hw:Wd _ _ G = w
   rw [qa9,qt rfl (show T.get 89 = some c89 by kernel_rfl)] at hw
   simp only [c89,sT.1,sC.1,sTA.1,sCA.1,qe,qj,qk,Src.isTmp,qg,Src.hangs,qn.isT,qi,qd,Nat.testBit,bne,simprocAttr,-Int.reduceNatCast',n0,n1,n2] at hw
   rw [←hH] at hw
   generalize hr1:qx G.length Wd (.loop qi9) _ = r at hw
   obtain ⟨x,st',rfl,tt,rfl,ht,e1,e3,rfl⟩:=qaT hr1 (loop l.length _ ⟨_,0,rfl,by simp only [sT.1,sC.1,sTA.1,sCA.1,qe,qj,qk,Src.isTmp,qg,Src.hangs,qn.isT,qi,qd,Nat.testBit,bne,simprocAttr,-Int.reduceNatCast'],by simp only [sT.1,sC.1,sTA.1,sCA.1,qe,qj,qk,Src.isTmp,qg,Src.hangs,qn.isT,qi,qd,Nat.testBit,bne,simprocAttr,-Int.reduceNatCast'],by simp only [sT.1,sC.1,sTA.1,sCA.1,qe,qj,qk,Src.isTmp,qg,Src.hangs,qn.isT,qi,qd,Nat.testBit,bne,simprocAttr,-Int.reduceNatCast',List.take_zero,List.map_nil,qaS],by simp only [sT.1,sC.1,sTA.1,sCA.1,qe,qj,qk,Src.isTmp,qg,Src.hangs,qn.isT,qi,qd,Nat.testBit,bne,simprocAttr,-Int.reduceNatCast',Int.natCast_zero],by omega⟩)
   generalize qaS (l.map (ttx d)) = W at *
   cases hc:l.length == 1 <;> rw [hc] at hc1 <;>
   simp (maxDischargeDepth:=9) only [sT.1,sC.1,sTA.1,sCA.1,qe,qj,qk,Src.isTmp,qg,Src.hangs,qn.isT,qi,qd,Nat.testBit,bne,simprocAttr,-Int.reduceNatCast',ht,e1,e3,hbx,hc1,hl1,qb5,qb6,if_true,List.length_map,cond_true,cond_false,List.append_assoc,List.cons_append,List.nil_append] at hw <;>
   subst hw <;> exact congrArg some (qac htk rfl)
theorem qht {p:qdN} (h:p.short) (G:List qq):Wd (.fn 90 [] []) [p.enc] G = some (.ret (.str p.txt),G,false):=by
 obtain ⟨a,b⟩:=p
 obtain ⟨h1,h2⟩:=h
 simp only at h1 h2
 have l1:∀k,16 ≤ k→a.length ≤ k:=fun k hk=>by omega
 have l2:∀k,16 ≤ k→b.length ≤ k:=fun k hk=>by omega
 rw [qdN.txt,qdN.enc,qt rfl (show T.get 90 = some c90 by kernel_rfl)]
 simp only
 cases hc:a == [] with
 | true=>
  have:a = []:=by simpa using hc
  subst this
  simp only [c90,sT.1,sC.1,sTA.1,sCA.1,qe,qj,qk,Src.isTmp,qg,Src.hangs,qn.isT,qi,qd,Nat.testBit,bne,simprocAttr,-Int.reduceNatCast',List.isEmpty_nil,cond_true,beq_self_eq_true]
 | false=>
  have he:a.isEmpty = false:=by cases a with
   | nil=>cases hc
   | cons x r=>rfl
  simp (maxDischargeDepth:=9) only [c90,sT.1,sC.1,sTA.1,sCA.1,qe,qj,qk,Src.isTmp,qg,Src.hangs,qn.isT,qi,qd,Nat.testBit,bne,simprocAttr,-Int.reduceNatCast',hc,he,l1,l2,qb5,qb6,if_true,cond_false,List.append_assoc,List.cons_append,List.nil_append]
theorem qeT {l:qZ} (h1:l.frm.short) (h2:l.to.short) (G:List qq):Wd (.fn 58 [] []) [l.enc] G = some (.ret (.str (l.txt ++ [10])),G,false):=by
 have f1:=fun G=>qht h1 G
 have f2:=fun G=>qht h2 G
 have b1:=h1.txt
 have b2:=h2.txt
 rw [qZ.txt,qZ.enc]
 obtain ⟨⟨a,b⟩,⟨c,d⟩⟩:=l
 rw [qdN.enc] at f1 f2
 simp only at *
 generalize qdN.txt ⟨a,b⟩ = u at *
 generalize qdN.txt ⟨c,d⟩ = v at *
 have l1:∀k,40 ≤ k→u.length ≤ k:=fun k hk=>by omega
 have l2:∀k,40 ≤ k→v.length ≤ k:=fun k hk=>by omega
 generalize hw:Wd _ _ G = w
 rw [qt rfl (show T.get 58 = some c58 by kernel_rfl)] at hw
 simp (maxDischargeDepth:=9) only [c58,sT.1,sC.1,sTA.1,sCA.1,qe,qj,qk,Src.isTmp,qg,Src.hangs,qn.isT,qi,qd,Nat.testBit,bne,simprocAttr,-Int.reduceNatCast',f1,f2,l1,l2,qb5,qb6,if_true,List.append_assoc,List.cons_append,List.nil_append] at hw
 subst hw
 simp only [List.append_assoc,List.cons_append,List.nil_append]
end
end Go.Proofs.YtkmlapholimbcaaGreatDoor.AE
namespace Go.Proofs.YtkmlapholimbcaaGreatDoor.AE
open Go.AE
theorem qfr {l:List Exl} (h:∀e ∈ l,qhc e):(qhH l).length ≤ 50000 * l.length:=by
 induction l with
 | nil=>simp [qhH]
 | cons a l ih=>
  have h1:=qbn (h a (by simp))
  have h2:=ih fun e he=>h e (by simp [he])
  simp only [qhH,List.map_cons,List.flatten_cons,List.length_append,List.length_cons,List.length_nil] at h2 ⊢
  omega
set_option maxHeartbeats 1000000 in
theorem qsv {x:qam} (hn:x.port.length ≤ 16) (he:qhc x.e) (hi:x.ifs.length ≤ 100) (hI:∀e ∈ x.ifs,qhc e) (G:List qq):Wd (.fn 125 [] []) [x.enc] G = some (.ret (.str x.txt),G,false):=by
 obtain ⟨pt,e,l⟩:=x
 simp only at hn he hi hI
 have hT:=fun G=>qnQ he G
 have hl:=qbn he
 rw [qam.txt,qam.enc]
 simp only
 generalize eT e = u at *
 obtain ⟨op,n,m2,sb,aS⟩:=e
 rw [ql] at hT
 rw [exC]
 obtain ⟨S,hS⟩ :∃S:Str,S = 101 :: 109 :: 105 :: 116 :: 32 :: (pt ++ 32 :: u):=⟨_,rfl⟩
 have hSl:S.length ≤ 44100:=by rw [hS];simp;omega
 have loop:∀k st,(∃(tt:List qf) (i:Nat) (junk:List qq),st = ⟨tt,G ++ junk,false⟩∧tt.length = 29∧lkp tt 3 = .str (S ++ qhH (l.take i))∧lkp tt 15 = .lst (l.map exV) .no∧lkp tt 16 = .int .i64 (l.length:Nat)∧lkp tt 17 = .int .i64 (i:Nat)∧i + k = l.length)→
   ∃y st',qx G.length Wd (.loop qgm) st = some (y,st')∧(∃(tt:List qf) (junk:List qq),st' = ⟨tt,G ++ junk,false⟩∧tt.length = 29∧lkp tt 3 = .str (S ++ qhH l)∧y = .exit 0):=by
  refine qD _ (fun y st'=>∃(tt:List qf) (junk:List qq),st' = ⟨tt,G ++ junk,false⟩∧tt.length = 29∧lkp tt 3 = .str (S ++ qhH l)∧y = .exit 0) ?_
  rintro k st ⟨tt,i,junk,rfl,ht,e3,e15,e16,e17,hik⟩
  generalize hr:qx G.length Wd qgm _ = r
  rcases Nat.lt_or_ge i l.length with hil | hil
  ·have c1:ilt (i:Int) (l.length:Int) = true:=qcK (by omega)
   have w:=qE (n:=i) (by omega)
   have hTi:=fun G=>qnQ (hI l[i] (List.getElem_mem hil)) G
   have hli:=qbn (hI l[i] (List.getElem_mem hil))
   have htk:qhH (l.take (i + 1)) = qhH (l.take i) ++ 32 :: 105 :: 102 :: 32 :: eT l[i]:=by rw [List.take_succ_eq_append_getElem hil,qhH,List.map_append,List.flatten_append];simp [qhH]
   have hlt:=qfr (l:=l.take i) fun e he=>hI e (List.mem_of_mem_take he)
   have htl:(l.take i).length ≤ 100:=by simp;omega
   have hg:(l.map exV)[i]? = some (exV l[i]):=by rw [List.getElem?_map,List.getElem?_eq_getElem hil];rfl
   generalize eT l[i] = w2 at *
   generalize qhH (l.take i) = I at *
   generalize l[i] = v at hTi hg
   obtain ⟨op',n',m',sb',as'⟩:=v
   rw [ql] at hTi hg
   have hx:qa3 5 (.lst (l.map exV) .no) (.int .i64 (i:Nat)) = some (.iptr [.int .i64 op',.int .i64 n',.str m',.str sb',.lst (as'.map exV) .no] 0):=qu hg rfl
   have hlen:(G ++ junk).length = G.length + junk.length:=by simp
   have hb1:Nat.ble G.length (G.length + junk.length) = true:=qas (by omega)
   have q1:4 + w2.length ≤ qo:=by unfold qo;omega
   have q2:w2.length + 4 ≤ qo:=by unfold qo;omega
   have q3:S.length + I.length + (w2.length + 4) ≤ qo:=by unfold qo;omega
   have q4:S.length + I.length + (w2.length + 1 + 1 + 1 + 1) ≤ qo:=by unfold qo;omega
   have q5:S.length + (I.length + (w2.length + 1 + 1 + 1 + 1)) ≤ qo:=by unfold qo;omega
   simp only [qgm,sT.1,sC.1,sTA.1,sCA.1,qe,qj,qk,Src.isTmp,qg,Src.hangs,qn.isT,qi,qd,Nat.testBit,bne,simprocAttr,-Int.reduceNatCast',ht,e3,e15,e16,e17,c1,w,hx,hlen,hb1,hTi,q1,q2,q3,q4,q5,if_true,Bool.true_or,List.append_assoc] at hr
   subst hr
   refine .inl ⟨_,k - 1,rfl,by omega,_,i + 1,junk ++ [.cells [.int .i64 op',.int .i64 n',.str m',.str sb',.lst (as'.map exV) .no]],rfl,by simp only [qh,ht],?_,?_,?_,?_,by omega⟩
   ·simp only [sT.1,sC.1,sTA.1,sCA.1,qe,qj,qk,Src.isTmp,qg,Src.hangs,qn.isT,qi,qd,Nat.testBit,bne,simprocAttr,-Int.reduceNatCast',ht,htk]
   ·simp only [sT.1,sC.1,sTA.1,sCA.1,qe,qj,qk,Src.isTmp,qg,Src.hangs,qn.isT,qi,qd,Nat.testBit,bne,simprocAttr,-Int.reduceNatCast',ht,e15]
   ·simp only [sT.1,sC.1,sTA.1,sCA.1,qe,qj,qk,Src.isTmp,qg,Src.hangs,qn.isT,qi,qd,Nat.testBit,bne,simprocAttr,-Int.reduceNatCast',ht,e16]
   ·simp only [sT.1,sC.1,sTA.1,sCA.1,qe,qj,qk,Src.isTmp,qg,Src.hangs,qn.isT,qi,qd,Nat.testBit,bne,simprocAttr,-Int.reduceNatCast',ht]
  ·have c1:ilt (i:Int) (l.length:Int) = false:=qcJ (by omega)
   rw [List.take_of_length_le hil] at e3
   simp only [qgm,sT.1,sC.1,sTA.1,sCA.1,qe,qj,qk,Src.isTmp,qg,Src.hangs,qn.isT,qi,qd,Nat.testBit,bne,simprocAttr,-Int.reduceNatCast',ht,e16,e17,c1] at hr
   subst hr
   exact .inr ⟨_,_,rfl,by simp,_,junk,rfl,by simp only [qh,ht],by simp only [sT.1,sC.1,sTA.1,sCA.1,qe,qj,qk,Src.isTmp,qg,Src.hangs,qn.isT,qi,qd,Nat.testBit,bne,simprocAttr,-Int.reduceNatCast',ht,e3],rfl⟩
 have q1:pt.length + 5 ≤ qo:=by unfold qo;omega
 have q2:5 + pt.length ≤ qo:=by unfold qo;omega
 have q3:pt.length + 1 + 1 + 1 + 1 + 1 + 1 ≤ qo:=by unfold qo;omega
 have q4:pt.length + 1 + 1 + 1 + 1 + 1 + 1 + u.length ≤ qo:=by unfold qo;omega
 have q5:pt.length + (u.length + 1) + 1 + 1 + 1 + 1 + 1 ≤ qo:=by unfold qo;omega
 have q6:pt.length + 1 + 1 + 1 + 1 + 1 ≤ qo:=by unfold qo;omega
 have q7:pt.length + (1 + u.length) + 1 + 1 + 1 + 1 + 1 ≤ qo:=by unfold qo;omega
 have hfl:=qfr hI
 generalize hw:Wd _ _ G = w
 rw [qt rfl (show T.get 125 = some qAi by kernel_rfl)] at hw
 simp only [qAi,sT.1,sC.1,sTA.1,sCA.1,qe,qj,qk,Src.isTmp,qg,Src.hangs,qn.isT,qi,qd,Nat.testBit,bne,simprocAttr,-Int.reduceNatCast',hT,q1,q2,q3,q4,q5,q6,q7,if_true,List.append_assoc,List.length_map] at hw
 generalize hr:qx G.length Wd (.loop qgm) _ = r at hw
 obtain ⟨y,st',rfl,tt,junk,rfl,ht,e3,rfl⟩:=qaT hr (loop l.length _ ⟨_,0,[_],rfl,by simp only [sT.1,sC.1,sTA.1,sCA.1,qe,qj,qk,Src.isTmp,qg,Src.hangs,qn.isT,qi,qd,Nat.testBit,bne,simprocAttr,-Int.reduceNatCast'],by simp only [sT.1,sC.1,sTA.1,sCA.1,qe,qj,qk,Src.isTmp,qg,Src.hangs,qn.isT,qi,qd,Nat.testBit,bne,simprocAttr,-Int.reduceNatCast',hS,List.take_zero,qhH,List.flatten_nil,List.append_assoc],by simp only [sT.1,sC.1,sTA.1,sCA.1,qe,qj,qk,Src.isTmp,qg,Src.hangs,qn.isT,qi,qd,Nat.testBit,bne,simprocAttr,-Int.reduceNatCast'],by simp only [sT.1,sC.1,sTA.1,sCA.1,qe,qj,qk,Src.isTmp,qg,Src.hangs,qn.isT,qi,qd,Nat.testBit,bne,simprocAttr,-Int.reduceNatCast'],by simp only [sT.1,sC.1,sTA.1,sCA.1,qe,qj,qk,Src.isTmp,qg,Src.hangs,qn.isT,qi,qd,Nat.testBit,bne,simprocAttr,-Int.reduceNatCast',Int.natCast_zero],by omega⟩)
 have q8:S.length + (qhH l).length + 1 ≤ qo:=by unfold qo;omega
 have q9:S.length + ((qhH l).length + 1) ≤ qo:=by unfold qo;omega
 simp only [sT.1,sC.1,sTA.1,sCA.1,qe,qj,qk,Src.isTmp,qg,Src.hangs,qn.isT,qi,qd,Nat.testBit,bne,simprocAttr,-Int.reduceNatCast',ht,e3,q8,q9,if_true] at hw
 subst hw
 rw [hS]
 simp
theorem SL.row {G:List qq} {M:List Str} {W:qf} (h:SL G M W) (hne:M ≠ []):qdD 1 G W = some (M.map .str,M.length):=by
 rcases h with ⟨rfl,_⟩ | ⟨id,rfl,_,hid⟩
 ·exact absurd rfl hne
 ·have:(M.map qf.str).take M.length = M.map qf.str:=List.take_of_length_le (by simp)
  simp only [qdD,hid,List.length_map,Nat.zero_add,Nat.mul_one,Nat.le_refl,if_true,List.drop_zero,this,(qcN M).dims]
theorem SL.cat {G:List qq} {L M:List Str} {V W:qf} (h:SL G L V) (hw:SL G M W) (hne:M ≠ []) (hl:L.length + M.length ≤ 100000) (b:Nat) :
  ∃G',hop b (.app 1) [V,W] G = some (.sl G.length 0 (L.length + M.length) (L.length + M.length) 1,G',false)∧SL G' (L ++ M) (.sl G.length 0 (L.length + M.length) (L.length + M.length) 1)∧G'.length = G.length + 1∧∀i,i < G.length→qdt V ≠ some i→G'[i]? = G[i]?:=by
 have e2:=hw.row hne
 have hm:M.length ≠ 0:=fun h=>hne (List.length_eq_zero_iff.1 h)
 have hlim:L.length + M.length ≤ qo:=by unfold qo;omega
 rcases h with ⟨rfl,rfl⟩ | ⟨id,rfl,hL,hid⟩
 ·have e:qdD 1 G (.lst [] .full) = some ([],0):=rfl
  have q0:0 + M.length ≤ qo:=by unfold qo;omega
  refine ⟨G ++ [.cells (M.map .str)],by simp only [hop,qfe,e2,(qcN M).all,e,hm,q0,List.length_nil,Bool.not_true,Bool.false_eq_true,if_false,if_true,List.nil_append],.inr ⟨G.length,by simp,by simp [hne],?_⟩,by simp,fun i hi _=>by rw [List.getElem?_append_left hi]⟩
  rw [qbD];simp
 ·have e:qdD 1 G (.sl id 0 L.length L.length 1) = some (L.map .str,L.length):=SL.row (.inr ⟨id,rfl,hL,hid⟩) hL
  have hl2:¬ L.length + M.length ≤ L.length:=by omega
  refine ⟨G.set id .dead ++ [.cells (L.map .str ++ M.map .str)],?_,.inr ⟨G.length,by simp,by simp [hL],?_⟩,by simp,fun i hi hn=>?_⟩
  ·simp only [hop,qfe,e2,(qcN M).all,e,hm,hlim,hl2,hid,Bool.not_true,Bool.false_eq_true,if_false,if_true]
   simp
  ·rw [qiN (by simp)];simp
  ·have:id ≠ i:=fun e=>hn (by rw [e];rfl)
   rw [List.getElem?_append_left (by simp;omega),List.getElem?_set_ne this]
end Go.Proofs.YtkmlapholimbcaaGreatDoor.AE
namespace Go.Proofs.YtkmlapholimbcaaGreatDoor.AE
open Go.AE
structure qy where (name:Str) (coupled:Bool) (ins outs:List qJ) (vars:List qM) (ta:List Exl) (emits:List qam) (int ext:List qM) (con:Int) (own:List qM) (parts:List qaw) (links:List qZ) (rules:List qab)
def qy.cs (m:qy):List qf:=[.str m.name,.bool m.coupled,.lst (m.ins.map qJ.enc) .no,.lst (m.outs.map qJ.enc) .no,.lst (m.vars.map qM.enc) .no,.lst (m.ta.map exV) .no,.lst (m.emits.map qam.enc) .no,.lst (m.int.map qM.enc) .no,.lst (m.ext.map qM.enc) .no,.int .i64 m.con,.lst (m.own.map qM.enc) .no,.lst (m.parts.map qaw.enc) .no,.lst (m.links.map qZ.enc) .no,.lst (m.rules.map qab.enc) .no]
def qy.enc (m:qy):qf:=.agg m.cs
def qeK (s:qM):Prop:=s.name.length ≤ 16∧qhc s.e
def qe1 (p:qJ):Prop:=p.name.length ≤ 16∧tyB 3 p.t = true
def qhb (x:qam):Prop:=x.port.length ≤ 16∧qhc x.e∧x.ifs.length ≤ 1∧∀e ∈ x.ifs,qhc e
def qhi (p:qaw):Prop:=p.name.length ≤ 16∧p.model.length ≤ 16
def qhh (l:qZ):Prop:=l.frm.short∧l.to.short
def qjE (r:qab):Prop:=qhc r.e∧r.acts.length ≤ 1000∧∀a ∈ r.acts,a.short
theorem qeD {k:Nat} {cs:List qf} (h:cs.length = k) (h2:cs.all qf.storable = true) (h3:cs.map qf.dim = cs):Shp k (.agg cs):=⟨cs,rfl,h,h2,h3⟩
theorem quG (e:Exl):Shp 5 (exV e):=by cases e;rw [ql];exact qeD rfl rfl rfl
theorem qjt (s:qM):Shp 6 s.enc:=by obtain ⟨_,e⟩:=s;cases e;exact qeD rfl rfl rfl
theorem qkg (s:qJ):Shp 3 s.enc:=by obtain ⟨_,e⟩:=s;cases e;rw [qJ.enc,Tp.enc];exact qeD rfl rfl rfl
theorem qjO (s:qam):Shp 7 s.enc:=by obtain ⟨_,e,_⟩:=s;cases e;exact qeD rfl rfl rfl
theorem qkd (s:qaw):Shp 2 s.enc:=qeD rfl rfl rfl
theorem qj4 (s:qZ):Shp 4 s.enc:=qeD rfl rfl rfl
theorem qmU (s:qbW):Shp 7 s.enc:=qeD rfl rfl rfl
theorem qt6 (s:qab):Shp 6 s.enc:=by obtain ⟨e,_⟩:=s;cases e;exact qeD rfl rfl rfl
def Mid (h:List qq) (V:qf) (x:qq) (G:List qq) (W:qf) (L:List Str):Prop:=
 SL G L W∧h.length < G.length∧G[h.length]? = some x∧(∀i,i < h.length→qdt V ≠ some i→G[i]? = h[i]?)∧(W = V∨∀id,qdt W = some id→h.length < id)
section
variable {h G:List qq} {V W:qf} {x:qq} {L L':List Str}
theorem Mid.start (hS:SL h L V):Mid h V x (h ++ [x]) V L:=⟨hS.more _,by simp,by rw [qbD];rfl,fun i hi _=>by rw [List.getElem?_append_left hi],.inl rfl⟩
theorem Mid.own (hm:Mid h V x G W L) (hV:∀id,qdt V = some id→id < h.length) {i:Nat} (hi:i ≤ h.length) (hn:qdt V ≠ some i):qdt W ≠ some i:=fun e=>by
 rcases hm.2.2.2.2 with rfl | hW
 ·exact hn e
 ·have:=hW i e;omega
theorem Mid.step (hm:Mid h V x G W L) (hV:∀id,qdt V = some id→id < h.length) {r:Option (qcS×List qq×Bool)} (hr:Ln G W L' r):∃G' W',r = some (.ret W',G',false)∧Mid h V x G' W' L':=by
 obtain ⟨G',W',rfl,hS,hl,hk,hW'⟩:=hr
 have hn:qdt V ≠ some h.length:=fun e=>by have:=hV _ e;omega
 refine ⟨G',W',rfl,hS,by have:=hm.2.1;omega,?_,fun i hi hi2=>?_,?_⟩
 ·rw [hk _ hm.2.1 (hm.own hV (Nat.le_refl _) hn)];exact hm.2.2.1
 ·rw [hk i (by have:=hm.2.1;omega) (hm.own hV (by omega) hi2)];exact hm.2.2.2.1 i hi hi2
 ·rcases hW' with rfl | hW'
  ·exact hm.2.2.2.2
  ·exact .inr fun id hid=>by have:=hW' id hid;have:=hm.2.1;omega
theorem Mid.leave (hm:Mid h V x G W L):Ln h V L (some (Go.AE.leave h.length (.ret W) G false)):=
 Ln.leave hm.1 (Nat.le_of_lt hm.2.1) hm.2.2.2.1 (hm.2.2.2.2.imp id fun hW id hid=>Nat.le_of_lt (hW id hid))
theorem qhl (hS:SL G L W) (hl:L.length ≤ 100000) (b:Nat) (u:Str):∃G' W',hop b (.lit 1 [.str []] 1 [0]) [.str u] G = some (.sl G.length 0 1 1 0,G ++ [.cells [.str u]],false)∧hop b (.app 1) [W,.sl G.length 0 1 1 0] (G ++ [.cells [.str u]]) = some (W',G',false)∧Ln G W (L ++ [u]) (some (.ret W',G',false)):=by
 obtain ⟨G',h1,h2,h3,h4⟩:=hS.app hl b u
 exact ⟨G',_,qAn b u G,h1,G',_,rfl,h2,by omega,h4,.inr fun id hid=>by cases hid;omega⟩
end
section
variable {h:List qq} {V:qf} {L:List Str} (hS:SL h L V) (hL:L.length ≤ 40000)
include hS hL
theorem qqW {l:List qM} (hl:l.length ≤ 1000) (ho:∀s ∈ l,qeK s) (ah:Str) (ha:ah.length ≤ 100):Ln h V (L ++ l.map fun s=>ah ++ s.txt) (Wd (.fn 120 [] []) [V,.str ah,.lst (l.map qM.enc) .no,.fn 121 [] []] h):=
 qdT (k:=6) (z:=[.str [],.int .i64 0,.int .i64 0,.str [],.str [],.lst [] .full]) rfl (show T.get 120 = _ by kernel_rfl) rfl rfl (fun s _=>qjt s) hl (fun s hs h=>qqS (ho s hs).1 (ho s hs).2) (fun s hs=>by have:=qbn (ho s hs).2;have:=(ho s hs).1;unfold qM.txt qo;simp;omega) (by omega) hS
theorem qun {l:List Exl} (hl:l.length ≤ 1000) (ho:∀s ∈ l,qhc s) (ah:Str) (ha:ah.length ≤ 100):Ln h V (L ++ l.map fun s=>ah ++ taT s) (Wd (.fn 122 [] []) [V,.str ah,.lst (l.map exV) .no,.fn 123 [] []] h):=
 qdT (k:=5) (z:=[.int .i64 0,.int .i64 0,.str [],.str [],.lst [] .full]) rfl (show T.get 122 = _ by kernel_rfl) rfl rfl (fun s _=>quG s) hl (fun s hs h=>qzW (ho s hs)) (fun s hs=>by have:=qbn (ho s hs);unfold taT qo;simp;omega) (by omega) hS
theorem qkS {l:List qam} (hl:l.length ≤ 1000) (ho:∀s ∈ l,qhb s) (ah:Str) (ha:ah.length ≤ 100):Ln h V (L ++ l.map fun s=>ah ++ s.txt) (Wd (.fn 124 [] []) [V,.str ah,.lst (l.map qam.enc) .no,.fn 125 [] []] h):=
 qdT (k:=7) (z:=[.str [],.int .i64 0,.int .i64 0,.str [],.str [],.lst [] .full,.lst [] .full]) rfl (show T.get 124 = _ by kernel_rfl) rfl rfl (fun s _=>qjO s) hl (fun s hs h=>qsv (ho s hs).1 (ho s hs).2.1 (Nat.le_trans (ho s hs).2.2.1 (by omega)) (ho s hs).2.2.2 h) (fun s hs=>by have:=qbn (ho s hs).2.1;have:=(ho s hs).1;have:=qfr (ho s hs).2.2.2;have:=(ho s hs).2.2.1;unfold qam.txt qo;simp;omega) (by omega) hS
theorem ql9 {l:List qaw} (hl:l.length ≤ 1000) (ho:∀s ∈ l,qhi s) (ah:Str) (ha:ah.length ≤ 100):Ln h V (L ++ l.map fun s=>ah ++ s.txt) (Wd (.fn 114 [] []) [V,.str ah,.lst (l.map qaw.enc) .no,.fn 115 [] []] h):=
 qdT (k:=2) (z:=[.str [],.str []]) rfl (show T.get 114 = _ by kernel_rfl) rfl rfl (fun s _=>qkd s) hl (fun s hs h=>qtH (ho s hs).1 (ho s hs).2) (fun s hs=>by have:=(ho s hs).1;have:=(ho s hs).2;unfold qaw.txt qo;simp;omega) (by omega) hS
theorem qlS {l:List qZ} (hl:l.length ≤ 1000) (ho:∀s ∈ l,qhh s) (ah:Str) (ha:ah.length ≤ 100):Ln h V (L ++ l.map fun s=>ah ++ s.txt) (Wd (.fn 116 [] []) [V,.str ah,.lst (l.map qZ.enc) .no,.fn 117 [] []] h):=
 qdT (k:=4) (z:=[.str [],.str [],.str [],.str []]) rfl (show T.get 116 = _ by kernel_rfl) rfl rfl (fun s _=>qj4 s) hl (fun s hs h=>qj3 (ho s hs).1 (ho s hs).2) (fun s hs=>by have:=qZ.len (ho s hs).1 (ho s hs).2;unfold qo;omega) (by omega) hS
theorem qgt {l:List qJ} (hl:l.length ≤ 1000) (ho:∀s ∈ l,qe1 s) (ah:Str) (ha:ah.length ≤ 100):Ln h V (L ++ l.map fun s=>ah ++ s.txt) (Wd (.fn 83 [] []) [V,.str ah,.lst (l.map qJ.enc) .no,.fn 84 [] []] h):=
 qdT (k:=3) (z:=[.str [],.int .i64 0,.lst [] .full]) rfl (show T.get 83 = _ by kernel_rfl) rfl rfl (fun s _=>qkg s) hl (fun s hs h=>qtR (ho s hs).1 (ho s hs).2) (fun s hs=>by have:=(qjB 3 (by omega) s.t (ho s hs).2).2;have:=(ho s hs).1;unfold qJ.txt qo;simp;omega) (by omega) hS
theorem qeX {l:List qM} (hl:l.length ≤ 1000) (ho:∀s ∈ l,qeK s) (ah hd:Str) (ha:ah.length ≤ 100) (hh:hd.length ≤ 100):Ln h V (L ++ qbi ah hd (l.map qM.txt)) (Wd (.fn 126 [] []) [V,.str ah,.str hd,.lst (l.map qM.enc) .no,.fn 121 [] []] h):=
 qjG (k:=6) (z:=[.str [],.int .i64 0,.int .i64 0,.str [],.str [],.lst [] .full]) (F:=120) rfl (show T.get 126 = _ by kernel_rfl) rfl (show T.get 120 = _ by kernel_rfl) rfl rfl (fun s _=>qjt s) hl (fun s hs h=>qqS (ho s hs).1 (ho s hs).2) (fun s hs=>by have:=qbn (ho s hs).2;have:=(ho s hs).1;unfold qM.txt;simp;omega) (by omega) hL hS
theorem qky {l:List qbW} (hl:l.length ≤ 1000) (ho:∀s ∈ l,s.short) (ah hd:Str) (ha:ah.length ≤ 100) (hh:hd.length ≤ 100000):Ln h V (L ++ qbi ah hd (l.map qbW.txt)) (Wd (.fn 118 [] []) [V,.str ah,.str hd,.lst (l.map qbW.enc) .no,.fn 119 [] []] h):=
 qjG (k:=7) (z:=[.int .i64 0,.str [],.str [],.str [],.str [],.str [],.str []]) (F:=141) rfl (show T.get 118 = _ by kernel_rfl) rfl (show T.get 141 = _ by kernel_rfl) rfl rfl (fun s _=>qmU s) hl (fun s hs h=>qvh (ho s hs)) (fun s hs=>by
  obtain ⟨h1,h2,h3⟩:=ho s hs
  unfold qbW.txt
  cases c0:s.kind == 0 with
  | true=>simp;omega
  | false=>
   cases c1:s.kind == 1 with
   | true=>simp;omega
   | false=>
    have h4:=h3 (beq_eq_false_iff_ne.1 c0) (beq_eq_false_iff_ne.1 c1)
    have:=qZ.len h4.1 h4.2
    cases s.kind == 2 <;> simp <;> omega) (by omega) hL hS
end
end Go.Proofs.YtkmlapholimbcaaGreatDoor.AE
namespace Go.Proofs.YtkmlapholimbcaaGreatDoor.AE
open Go.AE
structure qbB (m:qy):Prop where
 name:m.name.length ≤ 16
 ins:m.ins.length ≤ 1000∧∀s ∈ m.ins,qe1 s
 outs:m.outs.length ≤ 1000∧∀s ∈ m.outs,qe1 s
 vars:m.vars.length ≤ 1000∧∀s ∈ m.vars,qeK s
 ta:m.ta.length ≤ 1000∧∀s ∈ m.ta,qhc s
 emits:m.emits.length ≤ 1000∧∀s ∈ m.emits,qhb s
 int:m.int.length ≤ 1000∧∀s ∈ m.int,qeK s
 ext:m.ext.length ≤ 1000∧∀s ∈ m.ext,qeK s
 own:m.own.length ≤ 1000∧∀s ∈ m.own,qeK s
 parts:m.parts.length ≤ 1000∧∀s ∈ m.parts,qhi s
 links:m.links.length ≤ 1000∧∀s ∈ m.links,qhh s
 rules:m.rules.length ≤ 20∧∀s ∈ m.rules,qjE s
 few:m.ins.length + m.outs.length + m.vars.length + m.ta.length + m.emits.length + m.int.length + m.ext.length + m.own.length + m.parts.length + m.links.length + (m.rules.map fun r=>r.acts.length + 2).sum ≤ 350
def qvP (con:Int) (own:List qM):List Str:=bif con == 1 then [[32,32,99,111,110,32,101,120,116,32,105,110,116,59]] else bif con == 2 then qbi [32,32] [99,111,110] (own.map qM.txt) else []
def qkz (m:qy):List Str:=(m.vars.map fun s=>[32,32,118,97,114,32] ++ s.txt) ++ ((m.ta.map fun s=>[32,32] ++ taT s) ++ ((m.emits.map fun s=>[32,32] ++ s.txt) ++ (qbi [32,32] [105,110,116] (m.int.map qM.txt) ++ (qbi [32,32] [101,120,116] (m.ext.map qM.txt) ++ qvP m.con m.own))))
theorem qbK (ah hd:Str) (l:List Str):(qbi ah hd l).length ≤ l.length + 2:=by
 unfold qbi
 cases l.isEmpty <;> simp
section
variable {h:List qq} {V:qf} {L:List Str}
set_option maxHeartbeats 2000000 in
theorem qm0 {m:qy} (hm:qbB m) (hS:SL h L V) (hL:L.length ≤ 30000):Ln h V (L ++ qkz m) (Wd (.fn 86 [] []) [V,m.enc] h):=by
 have hV:∀id,qdt V = some id→id < h.length:=fun id hi=>hS.lt hi
 have s0:=Mid.start (x:=.cells m.cs) hS
 have n1:=hm.vars.1
 have n2:=hm.ta.1
 have n3:=hm.emits.1
 have n4:=qbK [32,32] [105,110,116] (m.int.map qM.txt)
 have n5:=qbK [32,32] [101,120,116] (m.ext.map qM.txt)
 have n6:=hm.int.1
 have n7:=hm.ext.1
 simp only [List.length_map] at n4 n5
 obtain ⟨G1,W1,r1,s1⟩:=s0.step hV (qqW s0.1 (by omega) hm.vars.1 hm.vars.2 [32,32,118,97,114,32] (by simp))
 obtain ⟨G2,W2,r2,s2⟩:=s1.step hV (qun s1.1 (by simp;omega) hm.ta.1 hm.ta.2 [32,32] (by simp))
 obtain ⟨G3,W3,r3,s3⟩:=s2.step hV (qkS s2.1 (by simp;omega) hm.emits.1 hm.emits.2 [32,32] (by simp))
 obtain ⟨G4,W4,r4,s4⟩:=s3.step hV (qeX s3.1 (by simp;omega) hm.int.1 hm.int.2 [32,32] [105,110,116] (by simp) (by simp))
 obtain ⟨G5,W5,r5,s5⟩:=s4.step hV (qeX s4.1 (by simp;omega) hm.ext.1 hm.ext.2 [32,32] [101,120,116] (by simp) (by simp))
 obtain ⟨G6,W6,r6,s6⟩:=s5.step hV (qeX s5.1 (by simp;omega) hm.own.1 hm.own.2 [32,32] [99,111,110] (by simp) (by simp))
 obtain ⟨G7,W7,ra,rb,l7⟩:=qhl s5.1 (by simp;omega) h.length [32,32,99,111,110,32,101,120,116,32,105,110,116,59]
 obtain ⟨_,_,e7,s7⟩:=s5.step hV l7
 cases e7
 obtain ⟨d0,w0,_,_⟩:=hS.facts
 obtain ⟨d1,w1,_,_⟩:=s1.1.facts
 obtain ⟨d2,w2,_,_⟩:=s2.1.facts
 obtain ⟨d3,w3,_,_⟩:=s3.1.facts
 obtain ⟨d4,w4,_,_⟩:=s4.1.facts
 obtain ⟨d5,w5,_,_⟩:=s5.1.facts
 obtain ⟨d6,w6,_,_⟩:=s6.1.facts
 obtain ⟨d7,w7,_,_⟩:=s7.1.facts
 have b1:=s1.2.2.1
 have b2:=s2.2.2.1
 have b3:=s3.2.2.1
 have b4:=s4.2.2.1
 have b5:=s5.2.2.1
 have g1:=s1.2.1
 have g2:=s2.2.1
 have g3:=s3.2.1
 have g4:=s4.2.1
 have g5:=s5.2.1
 have a6:=s6.leave
 have a7:=s7.leave
 have a5:=s5.leave
 clear s0 s1 s2 s3 s4 s5 s6 s7 hm n1 n2 n3 n4 n5 n6 n7 l7
 obtain ⟨nm,cp,ins,outs,vars,ta,emits,int,ext,con,own,parts,links,rules⟩:=m
 simp only [qy.cs] at *
 generalize hw:Wd _ _ h = w
 rw [qt rfl (show T.get 86 = some c86 by kernel_rfl)] at hw
 rw [qy.enc,qy.cs] at hw
 rw [qkz,qvP]
 simp only
 cases c1:(con == 1) with
 | true=>
  simp only [c86,sT.1,sC.1,sTA.1,sCA.1,qe,qj,qk,Src.isTmp,qg,Src.hangs,qn.isT,qi,qd,Nat.testBit,bne,simprocAttr,-Int.reduceNatCast',qa6,qT,qV,qak,qU,qaN,qag,r1,r2,r3,r4,r5,ra,rb,d0,w0,d1,w1,d2,w2,d3,w3,d4,w4,d5,w5,d7,w7,b1,b2,b3,b4,b5,g1,g2,g3,g4,g5,c1] at hw
  subst hw
  simpa using a7
 | false=>
  cases c2:(con == 2) with
  | true=>
   simp only [c86,sT.1,sC.1,sTA.1,sCA.1,qe,qj,qk,Src.isTmp,qg,Src.hangs,qn.isT,qi,qd,Nat.testBit,bne,simprocAttr,-Int.reduceNatCast',r1,r2,r3,r4,r5,r6,d0,w0,d1,w1,d2,w2,d3,w3,d4,w4,d5,w5,d6,w6,b1,b2,b3,b4,b5,g1,g2,g3,g4,g5,c1,c2] at hw
   subst hw
   simpa using a6
  | false=>
   simp only [c86,sT.1,sC.1,sTA.1,sCA.1,qe,qj,qk,Src.isTmp,qg,Src.hangs,qn.isT,qi,qd,Nat.testBit,bne,simprocAttr,-Int.reduceNatCast',r1,r2,r3,r4,r5,d0,w0,d1,w1,d2,w2,d3,w3,d4,w4,d5,w5,b1,b2,b3,b4,b5,g1,g2,g3,g4,g5,c1,c2] at hw
   subst hw
   simpa using a5
theorem Mid.more {x:qq} {G:List qq} {W:qf} (hm:Mid h V x G W L) (c:qq):Mid h V x (G ++ [c]) W L:=
 ⟨hm.1.more _,by have:=hm.2.1;simp;omega,by rw [List.getElem?_append_left hm.2.1];exact hm.2.2.1,fun i hi hn=>by rw [List.getElem?_append_left (by have:=hm.2.1;omega)];exact hm.2.2.2.1 i hi hn,hm.2.2.2.2⟩
def qab.lines (r:qab):List Str:=qbi [32,32] ([114,117,108,101,32] ++ eT r.e) (r.acts.map qbW.txt)
def qnt (m:qy):List Str:=(m.parts.map fun s=>[32,32,112,97,114,116,32] ++ s.txt) ++ ((m.links.map fun s=>[32,32,108,105,110,107,32] ++ s.txt) ++ (m.rules.map qab.lines).flatten)
theorem qpJ {l:List qab} (ho:∀r ∈ l,qjE r):((l.map qab.lines).flatten).length ≤ l.length * 1002:=by
 induction l with
 | nil=>simp
 | cons r l ih=>
  have h1:=ih fun r hr=>ho r (by simp [hr])
  have h2:=qbK [32,32] ([114,117,108,101,32] ++ eT r.e) (r.acts.map qbW.txt)
  have h3:=(ho r (by simp)).2.1
  rw [List.length_map] at h2
  simp only [List.map_cons,List.flatten_cons,List.length_append,List.length_cons,qab.lines] at h1 ⊢
  omega
set_option maxHeartbeats 2000000 in
theorem qkI {m:qy} (hm:qbB m) (hS:SL h L V) (hL:L.length ≤ 10000):Ln h V (L ++ qnt m) (Wd (.fn 85 [] []) [V,m.enc] h):=by
 have hV:∀id,qdt V = some id→id < h.length:=fun id hi=>hS.lt hi
 have s0:=Mid.start (x:=.cells m.cs) hS
 have n1:=hm.parts.1
 have n2:=hm.links.1
 obtain ⟨G1,W1,r1,s1⟩:=s0.step hV (ql9 s0.1 (by omega) hm.parts.1 hm.parts.2 [32,32,112,97,114,116,32] (by simp))
 obtain ⟨G2,W2,r2,s2⟩:=s1.step hV (qlS s1.1 (by simp;omega) hm.links.1 hm.links.2 [32,32,108,105,110,107,32] (by simp))
 obtain ⟨L2,hL2⟩ :∃L2,L2 = (L ++ m.parts.map fun s=>[32,32,112,97,114,116,32] ++ s.txt) ++ m.links.map fun s=>[32,32,108,105,110,107,32] ++ s.txt:=⟨_,rfl⟩
 have hl2:L2.length ≤ 12000:=by rw [hL2];simp;omega
 rw [←hL2] at s2
 have loop:∀k st,(∃(tt:List qf) (i:Nat) (G:List qq) (W:qf),st = ⟨tt,G,false⟩∧tt.length = 32∧lkp tt 0 = W∧lkp tt 16 = .lst (m.rules.map qab.enc) .no∧lkp tt 17 = .int .i64 (m.rules.length:Nat)∧lkp tt 18 = .int .i64 (i:Nat)∧i + k = m.rules.length∧Mid h V (.cells m.cs) G W (L2 ++ ((m.rules.take i).map qab.lines).flatten))→
   ∃y st',qx h.length Wd (.loop qlI) st = some (y,st')∧(∃(tt:List qf) (G:List qq) (W:qf),st' = ⟨tt,G,false⟩∧tt.length = 32∧lkp tt 0 = W∧Mid h V (.cells m.cs) G W (L2 ++ (m.rules.map qab.lines).flatten)∧y = .exit 0):=by
  refine qD _ (fun y st'=>∃(tt:List qf) (G:List qq) (W:qf),st' = ⟨tt,G,false⟩∧tt.length = 32∧lkp tt 0 = W∧Mid h V (.cells m.cs) G W (L2 ++ (m.rules.map qab.lines).flatten)∧y = .exit 0) ?_
  rintro k st ⟨tt,i,G,W,rfl,ht,e0,e16,e17,e18,hik,hM⟩
  generalize hr:qx h.length Wd qlI _ = r
  have hR:=hm.rules
  generalize m.rules = l at *
  rcases Nat.lt_or_ge i l.length with hil | hil
  ·have c1:ilt (i:Int) (l.length:Int) = true:=qcK (by omega)
   have w:=qE (n:=i) (by omega)
   have ho:=hR.2 l[i] (List.getElem_mem hil)
   have hll:=qpJ (l:=l.take i) fun r hr=>hR.2 r (List.mem_of_mem_take hr)
   have htl:(l.take i).length ≤ 20:=by have:=hR.1;simp;omega
   have htk:((l.take (i + 1)).map qab.lines).flatten = ((l.take i).map qab.lines).flatten ++ l[i].lines:=by rw [List.take_succ_eq_append_getElem hil,List.map_append,List.flatten_append];simp
   have hmul:(l.take i).length * 1002 ≤ 20 * 1002:=Nat.mul_le_mul_right _ htl
   have hg:(l.map qab.enc)[i]? = some l[i].enc:=by rw [List.getElem?_map,List.getElem?_eq_getElem hil];rfl
   generalize l[i] = v at ho hg htk
   obtain ⟨e,acts⟩:=v
   have hT:=fun G=>qnQ ho.1 G
   have hel:=qbn ho.1
   rw [qab.enc] at hg
   have hv:qab.lines ⟨e,acts⟩ = qbi [32,32] ([114,117,108,101,32] ++ eT e) (acts.map qbW.txt):=rfl
   rw [hv] at htk
   simp only at hg hT hel
   have hM1:=hM.more (.cells (exC e ++ [.lst (acts.map qbW.enc) .no]))
   obtain ⟨G',W',rb,hM2⟩:=hM1.step hV (qky hM1.1 (by rw [List.length_append];omega) ho.2.1 ho.2.2 [32,32] ([114,117,108,101,32] ++ eT e) (by simp) (by simp;omega))
   simp only at rb
   generalize eT e = u at *
   clear ho
   obtain ⟨op,n,m2,sb,aS⟩:=e
   rw [ql] at hT
   rw [exC] at hg rb
   have hx:qa3 6 (.lst (l.map qab.enc) .no) (.int .i64 (i:Nat)) = some (.iptr [.int .i64 op,.int .i64 n,.str m2,.str sb,.lst (aS.map exV) .no,.lst (acts.map qbW.enc) .no] 0):=qu hg rfl
   obtain ⟨d0,w0,_,_⟩:=hM.1.facts
   obtain ⟨d1,w1,_,_⟩:=hM2.1.facts
   have hb1:Nat.ble h.length G.length = true:=qas (Nat.le_of_lt hM.2.1)
   have q1:5 + u.length ≤ qo:=by unfold qo;omega
   have q2:u.length + 5 ≤ qo:=by unfold qo;omega
   have q3:u.length + 1 + 1 + 1 + 1 + 1 ≤ qo:=by unfold qo;omega
   simp only [List.cons_append,List.nil_append] at rb
   simp only [qlI,sT.1,sC.1,sTA.1,sCA.1,qe,qj,qk,Src.isTmp,qg,Src.hangs,qn.isT,qi,qd,Nat.testBit,bne,simprocAttr,-Int.reduceNatCast',ht,e0,e16,e17,e18,c1,w,hx,hb1,hT,rb,d0,w0,d1,w1,q1,q2,q3,if_true,Bool.true_or,List.append_assoc] at hr
   subst hr
   refine .inl ⟨_,k - 1,rfl,by omega,_,i + 1,G',W',rfl,by simp only [qh,ht],?_,?_,?_,?_,by omega,?_⟩
   ·simp only [sT.1,sC.1,sTA.1,sCA.1,qe,qj,qk,Src.isTmp,qg,Src.hangs,qn.isT,qi,qd,Nat.testBit,bne,simprocAttr,-Int.reduceNatCast',ht,d1]
   ·simp only [sT.1,sC.1,sTA.1,sCA.1,qe,qj,qk,Src.isTmp,qg,Src.hangs,qn.isT,qi,qd,Nat.testBit,bne,simprocAttr,-Int.reduceNatCast',ht,e16]
   ·simp only [sT.1,sC.1,sTA.1,sCA.1,qe,qj,qk,Src.isTmp,qg,Src.hangs,qn.isT,qi,qd,Nat.testBit,bne,simprocAttr,-Int.reduceNatCast',ht,e17]
   ·simp only [sT.1,sC.1,sTA.1,sCA.1,qe,qj,qk,Src.isTmp,qg,Src.hangs,qn.isT,qi,qd,Nat.testBit,bne,simprocAttr,-Int.reduceNatCast',ht]
   ·rw [htk];simpa using hM2
  ·have c1:ilt (i:Int) (l.length:Int) = false:=qcJ (by omega)
   rw [List.take_of_length_le hil] at hM
   simp only [qlI,sT.1,sC.1,sTA.1,sCA.1,qe,qj,qk,Src.isTmp,qg,Src.hangs,qn.isT,qi,qd,Nat.testBit,bne,simprocAttr,-Int.reduceNatCast',ht,e17,e18,c1] at hr
   subst hr
   exact .inr ⟨_,_,rfl,by simp,_,G,W,rfl,by simp only [qh,ht],by simp only [sT.1,sC.1,sTA.1,sCA.1,qe,qj,qk,Src.isTmp,qg,Src.hangs,qn.isT,qi,qd,Nat.testBit,bne,simprocAttr,-Int.reduceNatCast',ht,e0],hM,rfl⟩
 obtain ⟨d0,w0,_,_⟩:=hS.facts
 obtain ⟨d1,w1,_,_⟩:=s1.1.facts
 obtain ⟨d2,w2,_,_⟩:=s2.1.facts
 have b1:=s1.2.2.1
 have b2:=s2.2.2.1
 have g1:=s1.2.1
 have g2:=s2.2.1
 clear s0 s1 hm n1 n2
 obtain ⟨nm,cp,ins,outs,vars,ta,emits,int,ext,con,own,parts,links,rules⟩:=m
 simp only [qy.cs] at *
 generalize hw:Wd _ _ h = w
 rw [qt rfl (show T.get 85 = some c85 by kernel_rfl)] at hw
 rw [qy.enc,qy.cs] at hw
 rw [qnt]
 simp only
 simp only [c85,sT.1,sC.1,sTA.1,sCA.1,qe,qj,qk,Src.isTmp,qg,Src.hangs,qn.isT,qi,qd,Nat.testBit,bne,simprocAttr,-Int.reduceNatCast',List.length_map,r1,r2,d0,w0,d1,w1,d2,w2,b1,b2,g1,g2] at hw
 generalize hr:qx h.length Wd (.loop qlI) _ = r at hw
 obtain ⟨y,st',rfl,tt,G3,W3,rfl,ht,e0,s3,rfl⟩:=qaT hr (loop rules.length _ ⟨_,0,G2,W2,rfl,by simp only [sT.1,sC.1,sTA.1,sCA.1,qe,qj,qk,Src.isTmp,qg,Src.hangs,qn.isT,qi,qd,Nat.testBit,bne,simprocAttr,-Int.reduceNatCast'],by simp only [sT.1,sC.1,sTA.1,sCA.1,qe,qj,qk,Src.isTmp,qg,Src.hangs,qn.isT,qi,qd,Nat.testBit,bne,simprocAttr,-Int.reduceNatCast',d2],by simp only [sT.1,sC.1,sTA.1,sCA.1,qe,qj,qk,Src.isTmp,qg,Src.hangs,qn.isT,qi,qd,Nat.testBit,bne,simprocAttr,-Int.reduceNatCast'],by simp only [sT.1,sC.1,sTA.1,sCA.1,qe,qj,qk,Src.isTmp,qg,Src.hangs,qn.isT,qi,qd,Nat.testBit,bne,simprocAttr,-Int.reduceNatCast'],by simp only [sT.1,sC.1,sTA.1,sCA.1,qe,qj,qk,Src.isTmp,qg,Src.hangs,qn.isT,qi,qd,Nat.testBit,bne,simprocAttr,-Int.reduceNatCast',Int.natCast_zero],by omega,by simpa using s2⟩)
 obtain ⟨d3,w3,_,_⟩:=s3.1.facts
 simp only [sT.1,sC.1,sTA.1,sCA.1,qe,qj,qk,Src.isTmp,qg,Src.hangs,qn.isT,qi,qd,Nat.testBit,bne,simprocAttr,-Int.reduceNatCast',ht,e0,d3,w3] at hw
 subst hw
 have:=s3.leave
 rw [hL2] at this
 simpa using this
end
end Go.Proofs.YtkmlapholimbcaaGreatDoor.AE
namespace Go.Proofs.YtkmlapholimbcaaGreatDoor.AE
open Go.AE
def qdh (m:qy):Str:=(bif m.coupled then [99,111,117,112,108,101,100,32] else [97,116,111,109,105,99,32]) ++ m.name
def inL (m:qy):List Str:=(m.ins.map fun s=>[32,32,105,110,32] ++ s.txt) ++ ((m.outs.map fun s=>[32,32,111,117,116,32] ++ s.txt) ++ (bif m.coupled then qnt m else qkz m))
def qbE (m:qy):List Str:=bif (inL m).isEmpty then [qdh m ++ [32,123,125]] else (qdh m ++ [32,123]) :: (inL m ++ [[125]])
theorem qqM (l:List qab):((l.map qab.lines).flatten).length ≤ (l.map fun r=>r.acts.length + 2).sum:=by
 induction l with
 | nil=>simp
 | cons r l ih=>
  have h2:=qbK [32,32] ([114,117,108,101,32] ++ eT r.e) (r.acts.map qbW.txt)
  rw [List.length_map] at h2
  simp only [List.map_cons,List.flatten_cons,List.length_append,List.sum_cons,qab.lines] at ih h2 ⊢
  omega
theorem qiR {m:qy} (hm:qbB m):(inL m).length ≤ 360:=by
 have h:=hm.few
 have h1:=qbK [32,32] [105,110,116] (m.int.map qM.txt)
 have h2:=qbK [32,32] [101,120,116] (m.ext.map qM.txt)
 have h3:=qbK [32,32] [99,111,110] (m.own.map qM.txt)
 have h4:=qqM m.rules
 have h5:(qvP m.con m.own).length ≤ m.own.length + 2:=by
  unfold qvP
  rw [List.length_map] at h3
  cases m.con == 1 <;> cases m.con == 2 <;> simp only [cond_true,cond_false,List.length_cons,List.length_nil] <;> omega
 rw [List.length_map] at h1 h2
 unfold inL qnt qkz
 cases m.coupled <;> simp only [cond_true,cond_false,List.length_append,List.length_map] <;> omega
theorem ql0 {m:qy} (hm:qbB m):(qbE m).length ≤ 362:=by
 have:=qiR hm
 unfold qbE
 cases (inL m).isEmpty <;> simp <;> omega
section
variable {h:List qq} {V:qf} {L:List Str}
theorem qyA {G:List qq} {W W2:qf} {M:List Str} (hS:SL G L W) (hw:SL G M W2) (hne:M ≠ []) (hl:L.length + M.length ≤ 100000) (b:Nat):∃G' W',hop b (.app 1) [W,W2] G = some (W',G',false)∧Ln G W (L ++ M) (some (.ret W',G',false)):=by
 obtain ⟨G',h1,h2,h3,h4⟩:=hS.cat hw hne hl b
 exact ⟨G',_,h1,G',_,rfl,h2,by omega,h4,.inr fun id hid=>by cases hid;omega⟩
theorem Ln.get {W W':qf} {G G':List qq} {L':List Str} (h:Ln G W L' (some (.ret W',G',false))):SL G' L' W'∧G.length ≤ G'.length∧(∀i,i < G.length→qdt W ≠ some i→G'[i]? = G[i]?)∧(W' = W∨∀id,qdt W' = some id→G.length ≤ id):=by
 obtain ⟨_,_,e,h1,h2,h3,h4⟩:=h
 cases e
 exact ⟨h1,h2,h3,h4⟩
set_option maxHeartbeats 4000000 in
theorem qtt {m:qy} (hm:qbB m) (hS:SL h L V) (hL:L.length ≤ 9000):Ln h V (L ++ qbE m) (Wd (.fn 51 [] []) [V,m.enc] h):=by
 obtain ⟨x,hx⟩ :∃x,x = qq.cells m.cs:=⟨_,rfl⟩
 obtain ⟨E,hE⟩ :∃E,E = qf.lst [] .full:=⟨_,rfl⟩
 have hVE:∀id,qdt E = some id→id < h.length:=fun id hi=>by rw [hE] at hi;cases hi
 have hEn:∀i,qdt E ≠ some i:=fun i hi=>by rw [hE] at hi;cases hi
 have s0:Mid h E x (h ++ [x]) E []:=Mid.start (.inl ⟨rfl,hE⟩)
 have hil:=qiR hm
 have n1:=hm.ins.1
 have n2:=hm.outs.1
 obtain ⟨G1,W1,r1,s1⟩:=s0.step hVE (qgt s0.1 (by simp) hm.ins.1 hm.ins.2 [32,32,105,110,32] (by simp))
 obtain ⟨G2,W2,r2,s2⟩:=s1.step hVE (qgt s1.1 (by simp;omega) hm.outs.1 hm.outs.2 [32,32,111,117,116,32] (by simp))
 obtain ⟨G3,W3,r3,s3⟩ :∃G3 W3,(bif m.coupled then Wd (.fn 85 [] []) [W2,m.enc] G2 else Wd (.fn 86 [] []) [W2,m.enc] G2) = some (.ret W3,G3,false)∧Mid h E x G3 W3 (inL m):=by
  unfold inL
  cases m.coupled with
  | true=>
   obtain ⟨G3,W3,r3,s3⟩:=s2.step hVE (qkI hm s2.1 (by simp;omega))
   exact ⟨G3,W3,r3,by simpa using s3⟩
  | false=>
   obtain ⟨G3,W3,r3,s3⟩:=s2.step hVE (qm0 hm s2.1 (by simp;omega))
   exact ⟨G3,W3,r3,by simpa using s3⟩
 obtain ⟨_,_,_,q3⟩:=s3.1.facts
 have hV:∀id,qdt V = some id→id < h.length:=fun id hi=>hS.lt hi
 have t3:Mid h V x G3 V L:=⟨hS.keep fun id hi=>s3.2.2.2.1 id (hS.lt hi) (hEn id),s3.2.1,s3.2.2.1,fun i hi _=>s3.2.2.2.1 i hi (hEn i),.inl rfl⟩
 have hh:(qdh m).length ≤ 30:=by
  have:=hm.name
  unfold qdh
  cases m.coupled <;> simp <;> omega
 rw [qbE]
 obtain ⟨G9,W9,ra,rb,l9⟩:=qhl t3.1 (by omega) h.length (qdh m ++ [32,123,125])
 obtain ⟨_,_,e9,t9⟩:=t3.step hV l9
 cases e9
 have a9:=t9.leave
 obtain ⟨G4,W4,rc,rd,l4⟩:=qhl t3.1 (by omega) h.length (qdh m ++ [32,123])
 obtain ⟨_,_,e4,t4⟩:=t3.step hV l4
 cases e4
 have k4:=l4.get
 have w4:SL G4 (inL m) W3:=s3.1.keep fun id hid=>k4.2.2.1 id (s3.1.lt hid) fun hv=>by
  have:=hV id hv
  rcases s3.2.2.2.2 with e | e
  ·rw [e] at hid;exact hEn id hid
  ·have:=e id hid;omega
 have fin:inL m ≠ []→∃G5 W5 G6 W6,hop h.length (.app 1) [W4,W3] G4 = some (W5,G5,false)∧hop h.length (.lit 1 [.str []] 1 [0]) [.str [125]] G5 = some (.sl G5.length 0 1 1 0,G5 ++ [.cells [.str [125]]],false)∧hop h.length (.app 1) [W5,.sl G5.length 0 1 1 0] (G5 ++ [.cells [.str [125]]]) = some (W6,G6,false)∧Mid h V x G5 W5 ((L ++ [qdh m ++ [32,123]]) ++ inL m)∧Mid h V x G6 W6 (((L ++ [qdh m ++ [32,123]]) ++ inL m) ++ [[125]]):=fun hne=>by
  obtain ⟨G5,W5,re,l5⟩:=qyA t4.1 w4 hne (by simp;omega) h.length
  obtain ⟨_,_,e5,t5⟩:=t4.step hV l5
  cases e5
  obtain ⟨G6,W6,rf,rg,l6⟩:=qhl t5.1 (by simp;omega) h.length [125]
  obtain ⟨_,_,e6,t6⟩:=t5.step hV l6
  cases e6
  exact ⟨G5,W5,G6,W6,re,rf,rg,t5,t6⟩
 obtain ⟨dV,wV,_,_⟩:=hS.facts
 obtain ⟨d1,w1,_,_⟩:=s1.1.facts
 obtain ⟨d2,w2,_,_⟩:=s2.1.facts
 obtain ⟨d3,w3,_,_⟩:=s3.1.facts
 obtain ⟨d4,w4',_,_⟩:=t4.1.facts
 obtain ⟨d9,w9,_,_⟩:=t9.1.facts
 have b1:=s1.2.2.1
 have b2:=s2.2.2.1
 have b3:=s3.2.2.1
 have g1:=s1.2.1
 have g2:=s2.2.1
 have g3:=s3.2.1
 clear s0 s1 s2 s3 t3 t4 t9 l9 l4 k4 w4 n1 n2 hil
 have hn:=hm.name
 clear hm
 subst hx hE
 rw [qdh] at *
 generalize inL m = M at *
 obtain ⟨nm,cp,ins,outs,vars,ta,emits,int,ext,con,own,parts,links,rules⟩:=m
 simp only [qy.cs,qy.enc] at *
 have q1:8 + nm.length ≤ qo:=by unfold qo;omega
 have q2:7 + nm.length ≤ qo:=by unfold qo;omega
 have p7:∀k,k ≤ 20→nm.length + 1 + 1 + 1 + 1 + 1 + 1 + 1 + k ≤ qo:=fun k hk=>by unfold qo;omega
 have p8:∀k,k ≤ 20→nm.length + 1 + 1 + 1 + 1 + 1 + 1 + 1 + 1 + k ≤ qo:=fun k hk=>by unfold qo;omega
 have p9:∀k,k ≤ 20→nm.length + k ≤ qo:=fun k hk=>by unfold qo;omega
 have pa:=p7 0 (by omega)
 have pb:=p8 0 (by omega)
 rw [Nat.add_zero] at pa pb
 generalize hw:Wd _ _ h = w
 rw [qt rfl (show T.get 51 = some c51 by kernel_rfl)] at hw
 cases hM:M.isEmpty with
 | true=>
  cases cp <;> simp only [cond_true,cond_false,List.cons_append,List.nil_append] at r3 ra rb a9 hw ⊢ <;> simp only [c51,sT.1,sC.1,sTA.1,sCA.1,qe,qj,qk,Src.isTmp,qg,Src.hangs,qn.isT,qi,qd,Nat.testBit,bne,simprocAttr,-Int.reduceNatCast',qa6,qT,qV,qak,qU,qaN,qag,qpo,hM,q3,r1,r2,r3,ra,rb,dV,wV,d1,w1,d2,w2,d3,w3,d9,w9,b1,b2,b3,g1,g2,g3,q1,q2,p7,p8,p9,pa,pb,if_true,List.append_assoc] at hw <;> subst hw <;> exact a9
 | false=>
  obtain ⟨G5,W5,G6,W6,re,rf,rg,t5,t6⟩:=fin (by rintro rfl;cases hM)
  obtain ⟨d5,w5,_,_⟩:=t5.1.facts
  obtain ⟨d6,w6,_,_⟩:=t6.1.facts
  have a6:=t6.leave
  cases cp <;> simp only [cond_true,cond_false,List.cons_append,List.nil_append] at r3 rc rd a6 hw ⊢ <;> simp only [c51,sT.1,sC.1,sTA.1,sCA.1,qe,qj,qk,Src.isTmp,qg,Src.hangs,qn.isT,qi,qd,Nat.testBit,bne,simprocAttr,-Int.reduceNatCast',qa6,qT,qV,qak,qU,qaN,qag,qpo,hM,q3,r1,r2,r3,rc,rd,re,rf,rg,dV,wV,d1,w1,d2,w2,d3,w3,d4,w4',d5,w5,d6,w6,b1,b2,b3,g1,g2,g3,q1,q2,p7,p8,p9,pa,pb,if_true,List.append_assoc] at hw <;> subst hw <;> simpa using a6
end
end Go.Proofs.YtkmlapholimbcaaGreatDoor.AE
