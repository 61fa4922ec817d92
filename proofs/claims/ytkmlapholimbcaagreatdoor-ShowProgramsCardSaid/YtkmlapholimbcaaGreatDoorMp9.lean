/- A part of the proof: the abstract executor and what goes through it (part 9). No condition. -/
import Derived.Test.YtkmlapholimbcaaGreatDoorMp8
set_option maxRecDepth 100000
namespace Go.Proofs.YtkmlapholimbcaaGreatDoor.AE
open Go.AE
section
variable {S:Str} {G:List qq} {id:Nat} {n:Int} {nm sb:Str}
set_option maxHeartbeats 4000000 in
theorem qGd (hS:S.length ≤ qo) {aS:List Exl} {f:Exl→Str} (h:∀a ∈ aS,qdb S a (f a)) (hl:aS.length ≤ 100) (hlt:id < G.length) (hb:isB G[id]? = true) (hp:bsO G[id]? ++ qmC (aS.map fun a=>(a.op,f a)) <+: S) :
  Wd (.fn 37 [] []) [.ptr id 0,exV (.mk 6 n nm sb aS)] G = some (.ret (.tup []),G.set id (BX (bsO G[id]? ++ qmC (aS.map fun a=>(a.op,f a)))),false):=by
 have e:=qaO hb
 generalize bsO G[id]? = s at *
 have hle:id < G.length + 1:=by omega
 have ht:=fun {G id}=>qur (G:=G) (id:=id) hS h hl
 generalize hw:Wd _ _ G = w
 rw [ql,qt rfl (show T.get 37 = some c37 by kernel_rfl)] at hw
 simp only [c37,sT.1,sC.1,qe,qd,Nat.testBit,simprocAttr,-Int.reduceNatCast',ht,hp,hlt,hle,e,qaA,qaF,List.getElem?_append_left,List.set_append_left,List.getElem?_set_self,List.length_set,List.length_append,List.length_cons,List.length_nil] at hw
 subst hw
 rfl
set_option maxHeartbeats 4000000 in
theorem qC2 (hS:S.length ≤ qo) {a:Exl} {t:Str} (h:qdb S a t) (hn0:0 ≤ n) (hn1:n ≤ 3) (hlt:id < G.length) (hb:isB G[id]? = true) (hp:bsO G[id]? ++ (inn (bif a.op == 0 then 10 else 8) (a.op,t) ++ (46 :: Lib.itoa n)) <+: S) :
  Wd (.fn 37 [] []) [.ptr id 0,exV (.mk 12 n nm sb [a])] G = some (.ret (.tup []),G.set id (BX (bsO G[id]? ++ (inn (bif a.op == 0 then 10 else 8) (a.op,t) ++ (46 :: Lib.itoa n)))),false):=by
 have e:=qaO hb
 generalize bsO G[id]? = s at *
 have hle:id < G.length + 1:=by omega
 have ht:=fun {G id}=>qwL hS h 12 n nm sb hn0 hn1 G id
 generalize inn (bif a.op == 0 then 10 else 8) (a.op,t) ++ (46 :: Lib.itoa n) = u at *
 rw [ql,List.map_cons,List.map_nil] at ht
 generalize hw:Wd _ _ G = w
 rw [ql,qt rfl (show T.get 37 = some c37 by kernel_rfl)] at hw
 simp only [c37,sT.1,sC.1,qe,qd,Nat.testBit,simprocAttr,-Int.reduceNatCast',ht,hp,hlt,hle,e,qaA,qaF,List.getElem?_append_left,List.set_append_left,List.getElem?_set_self,List.length_set,List.length_append,List.length_cons,List.length_nil] at hw
 subst hw
 rfl
end
def OkN:Exl→Prop
 | .mk _ n _ _ aS=>n ≤ 9223372036854775807∧∀a ∈ aS,OkN a
theorem qmQ {op n:Int} {nm sb:Str} {aS:List Exl} (h:OkN (.mk op n nm sb aS)):n ≤ 9223372036854775807∧∀a ∈ aS,OkN a:=by rw [OkN] at h;exact h
theorem qcq {α:Type} {l:List α} (h:l.length = 1):∃a,l = [a]:=by
 match l,h with
 | [a],_=>exact ⟨a,rfl⟩
theorem qbt {α:Type} {l:List α} (h:l.length = 2):∃a b,l = [a,b]:=by
 match l,h with
 | [a,b],_=>exact ⟨a,b,rfl⟩
theorem qg6 {α:Type} {l:List α} (h:l.length = 3):∃a b c,l = [a,b,c]:=by
 match l,h with
 | [a,b,c],_=>exact ⟨a,b,c,rfl⟩
theorem qrc {S:Str} (hS:S.length ≤ qo) {op n:Int} {nm sb:Str} {aS:List Exl} {f:Exl→Str} (hb:qhX op n nm sb aS.length = true) (hn:n ≤ 9223372036854775807) (h:∀a ∈ aS,qdb S a (f a)):qdb S (.mk op n nm sb aS) (ntx op n nm sb (aS.map fun a=>(a.op,f a))):=by
 have ho:0 ≤ op∧op ≤ 25:=Decidable.byContradiction fun hc=>by rw [qex hc] at hb;cases hb
 refine ⟨ho,fun G id hlt hB hp=>?_⟩
 have an:∀{a b:Bool},(a && b) = true→a = true∧b = true:=fun h=>(Bool.and_eq_true _ _).mp h
 have:op = 0∨op = 1∨op = 2∨op = 3∨op = 4∨op = 5∨op = 6∨op = 7∨op = 8∨op = 9∨op = 10∨op = 11∨op = 12∨op = 13∨op = 14∨op = 15∨op = 16∨op = 17∨op = 18∨op = 19∨op = 20∨op = 21∨op = 22∨op = 23∨op = 24∨op = 25:=by omega
 rcases this with rfl | rfl | rfl | rfl | rfl | rfl | rfl | rfl | rfl | rfl | rfl | rfl | rfl | rfl | rfl | rfl | rfl | rfl | rfl | rfl | rfl | rfl | rfl | rfl | rfl | rfl
 ·obtain ⟨h1,h2⟩:=an (show (fB _ _ _ _ _ n nm sb aS.length && ile 0 n) = true from hb)
  have hl:aS = []:=List.length_eq_zero_iff.1 (by have:=qO h1;omega)
  subst hl
  rw [qaL] at h2
  exact qF7 hS (of_decide_eq_true h2) hn hlt hB hp
 ·have h1:fB false false false 0 0 n nm sb aS.length = true:=hb
  have hl:aS = []:=List.length_eq_zero_iff.1 (by have:=qO h1;omega)
  subst hl
  exact qF8 hS hlt hB hp
 ·have h1:fB false false false 0 0 n nm sb aS.length = true:=hb
  have hl:aS = []:=List.length_eq_zero_iff.1 (by have:=qO h1;omega)
  subst hl
  exact qF9 hS hlt hB hp
 ·obtain ⟨h1,h2⟩:=an (show (fB _ _ _ _ _ n nm sb aS.length && qcs nm) = true from hb)
  have hl:aS = []:=List.length_eq_zero_iff.1 (by have:=qO h1;omega)
  subst hl
  exact qGa hS (qeH h2).2 hlt hB hp
 ·obtain ⟨h1,h2⟩:=an (show (fB _ _ _ _ _ n nm sb aS.length && qG nm) = true from hb)
  have hl:aS = []:=List.length_eq_zero_iff.1 (by have:=qO h1;omega)
  subst hl
  exact qGb hS (qal h2).2 hlt hB hp
 ·obtain ⟨h1,h2⟩:=an (show (fB _ _ _ _ _ n nm sb aS.length && (qG nm && qG sb)) = true from hb)
  obtain ⟨h2,h3⟩:=an h2
  have hl:aS = []:=List.length_eq_zero_iff.1 (by have:=qO h1;omega)
  subst hl
  exact qGc hS (qal h2).2 (qal h3).2 hlt hB hp
 ·have h1:fB false false false 1 4 n nm sb aS.length = true:=hb
  exact qGd hS h (by have:=qO h1;omega) hlt hB hp
 ·obtain ⟨h1,h2⟩:=an (show (fB _ _ _ _ _ n nm sb aS.length && qG nm) = true from hb)
  have hl:aS = []:=List.length_eq_zero_iff.1 (by have:=qO h1;omega)
  subst hl
  exact qGe hS (qal h2).2 hlt hB hp
 ·obtain ⟨h1,h2⟩:=an (show (fB _ _ _ _ _ n nm sb aS.length && qG nm) = true from hb)
  have hl:aS = []:=List.length_eq_zero_iff.1 (by have:=qO h1;omega)
  subst hl
  exact qGf hS (qal h2).2 hlt hB hp
 ·obtain ⟨h1,h2⟩:=an (show (fB _ _ _ _ _ n nm sb aS.length && qG nm) = true from hb)
  have hl:aS = []:=List.length_eq_zero_iff.1 (by have:=qO h1;omega)
  subst hl
  exact qGg hS (qal h2).2 hlt hB hp
 ·obtain ⟨h1,h2⟩:=an (show (fB _ _ _ 1 1 n nm sb aS.length && qG nm) = true from hb)
  obtain ⟨a,rfl⟩:=qcq (l:=aS) (by have:=qO h1;omega)
  exact qC0 hS (h a (by simp)) (qal h2).2 hlt hB hp
 ·have h1:fB false false false 0 0 n nm sb aS.length = true:=hb
  have hl:aS = []:=List.length_eq_zero_iff.1 (by have:=qO h1;omega)
  subst hl
  exact qC1 hS hlt hB hp
 ·obtain ⟨h1,h2⟩:=an (show (fB _ _ _ 1 1 n nm sb aS.length && (ile 0 n && ilt n 4)) = true from hb)
  obtain ⟨a,rfl⟩:=qcq (l:=aS) (by have:=qO h1;omega)
  simp only [Bool.and_eq_true,qaL,qaj,decide_eq_true_eq] at h2
  exact qC2 hS (h a (by simp)) h2.1 (by omega) hlt hB hp
 ·have h1:fB false false false 1 1 n nm sb aS.length = true:=hb
  obtain ⟨a,rfl⟩:=qcq (l:=aS) (by have:=qO h1;omega)
  exact qC3 hS (h a (by simp)) hlt hB hp
 ·have h1:fB false false false 1 1 n nm sb aS.length = true:=hb
  obtain ⟨a,rfl⟩:=qcq (l:=aS) (by have:=qO h1;omega)
  exact qC4 hS (h a (by simp)) hlt hB hp
 ·have h1:fB false false false 2 2 n nm sb aS.length = true:=hb
  obtain ⟨a,b,rfl⟩:=qbt (l:=aS) (by have:=qO h1;omega)
  exact qC5 hS (h a (by simp)) (h b (by simp)) hlt hB hp
 ·have h1:fB false false false 2 2 n nm sb aS.length = true:=hb
  obtain ⟨a,b,rfl⟩:=qbt (l:=aS) (by have:=qO h1;omega)
  exact qC6 hS (h a (by simp)) (h b (by simp)) hlt hB hp
 ·have h1:fB false false false 2 2 n nm sb aS.length = true:=hb
  obtain ⟨a,b,rfl⟩:=qbt (l:=aS) (by have:=qO h1;omega)
  exact qC7 hS (h a (by simp)) (h b (by simp)) hlt hB hp
 ·have h1:fB false false false 2 2 n nm sb aS.length = true:=hb
  obtain ⟨a,b,rfl⟩:=qbt (l:=aS) (by have:=qO h1;omega)
  exact qC8 hS (h a (by simp)) (h b (by simp)) hlt hB hp
 ·have h1:fB false false false 2 2 n nm sb aS.length = true:=hb
  obtain ⟨a,b,rfl⟩:=qbt (l:=aS) (by have:=qO h1;omega)
  exact qC9 hS (h a (by simp)) (h b (by simp)) hlt hB hp
 ·have h1:fB false false false 2 2 n nm sb aS.length = true:=hb
  obtain ⟨a,b,rfl⟩:=qbt (l:=aS) (by have:=qO h1;omega)
  exact qDa hS (h a (by simp)) (h b (by simp)) hlt hB hp
 ·have h1:fB false false false 2 2 n nm sb aS.length = true:=hb
  obtain ⟨a,b,rfl⟩:=qbt (l:=aS) (by have:=qO h1;omega)
  exact qDb hS (h a (by simp)) (h b (by simp)) hlt hB hp
 ·have h1:fB false false false 2 2 n nm sb aS.length = true:=hb
  obtain ⟨a,b,rfl⟩:=qbt (l:=aS) (by have:=qO h1;omega)
  exact qDc hS (h a (by simp)) (h b (by simp)) hlt hB hp
 ·have h1:fB false false false 2 2 n nm sb aS.length = true:=hb
  obtain ⟨a,b,rfl⟩:=qbt (l:=aS) (by have:=qO h1;omega)
  exact qDd hS (h a (by simp)) (h b (by simp)) hlt hB hp
 ·have h1:fB false false false 2 2 n nm sb aS.length = true:=hb
  obtain ⟨a,b,rfl⟩:=qbt (l:=aS) (by have:=qO h1;omega)
  exact qDe hS (h a (by simp)) (h b (by simp)) hlt hB hp
 ·have h1:fB false false false 3 3 n nm sb aS.length = true:=hb
  obtain ⟨a,b,c,rfl⟩:=qg6 (l:=aS) (by have:=qO h1;omega)
  exact qDf hS (h a (by simp)) (h b (by simp)) (h c (by simp)) hlt hB hp
theorem qrd {S:Str} (hS:S.length ≤ qo):∀(d:Nat) (e:Exl),right d e = true→OkN e→qdb S e (tx d e)
 | 0,_,h,_=>by rw [right] at h;cases h
 | d + 1,.mk op n nm sb aS,h,hn=>by
  rw [right,Bool.and_eq_true,List.all_eq_true] at h
  obtain ⟨h1,h2⟩:=qmQ hn
  rw [tx]
  exact qrc hS h.1 h1 fun a ha=>qrd hS d a (h.2 a ha) (h2 a ha)
end Go.Proofs.YtkmlapholimbcaaGreatDoor.AE
namespace Go.Proofs.YtkmlapholimbcaaGreatDoor.AE
open Go.AE
theorem qix:∀(k u:Nat),u < 10 ^ (k + 1)→1 ≤ (Lib.decDigits u).length∧(Lib.decDigits u).length ≤ k + 1
 | k,u,h=>by
  rw [Lib.decDigits]
  split
  ·simp
  ·cases k with
   | zero=>omega
   | succ k=>
    have:=qix k (u / 10) (by rw [Nat.pow_succ] at h;omega)
    simp
    omega
theorem qfs {n:Int} (h0:0 ≤ n) (h1:n ≤ 9223372036854775807):1 ≤ (Lib.itoa n).length∧(Lib.itoa n).length ≤ 19:=by
 rw [Lib.itoa,if_neg (by omega)]
 exact qix 18 n.toNat (by omega)
theorem qbM (k:Int) (p:Int×Str):(inn k p).length ≤ p.2.length + 2:=by
 rw [inn]
 cases ile k (rk p.1) <;> simp
theorem qpf (l:List Str):(qaS l).length ≤ (l.map fun t=>t.length + 2).sum:=by
 cases l with
 | nil=>simp [qaS]
 | cons x r=>
  simp only [qaS,List.length_append,List.map_cons,List.sum_cons]
  have:((r.map fun t=>44 :: 32 :: t).flatten).length = (r.map fun t=>t.length + 2).sum:=by
   rw [List.length_flatten,List.map_map]
   rfl
  omega
theorem qu6 {α:Type} {l:List α} {f g:α→Nat} (h:∀a ∈ l,f a ≤ g a):(l.map f).sum ≤ (l.map g).sum:=by
 induction l with
 | nil=>simp
 | cons a l ih=>
  simp only [List.map_cons,List.sum_cons]
  have:=h a (by simp)
  have:=ih fun b hb=>h b (by simp [hb])
  omega
theorem qxv {op n:Int} {nm sb:Str} {ps:List (Int×Str)} (hb:qhX op n nm sb ps.length = true) (hn:n ≤ 9223372036854775807):1 ≤ (ntx op n nm sb ps).length∧(ntx op n nm sb ps).length ≤ 40 + (ps.map fun p=>p.2.length + 4).sum:=by
 have ho:0 ≤ op∧op ≤ 25:=Decidable.byContradiction fun hc=>by rw [qex hc] at hb;cases hb
 have an:∀{a b:Bool},(a && b) = true→a = true∧b = true:=fun h=>(Bool.and_eq_true _ _).mp h
 have:op = 0∨op = 1∨op = 2∨op = 3∨op = 4∨op = 5∨op = 6∨op = 7∨op = 8∨op = 9∨op = 10∨op = 11∨op = 12∨op = 13∨op = 14∨op = 15∨op = 16∨op = 17∨op = 18∨op = 19∨op = 20∨op = 21∨op = 22∨op = 23∨op = 24∨op = 25:=by omega
 have two:∀{j k:Int} {w:Str},ps.length = 2→1 ≤ w.length→w.length ≤ 5→1 ≤ (inn j (ps.getD 0 (0,[])) ++ (w ++ inn k (ps.getD 1 (0,[])))).length∧(inn j (ps.getD 0 (0,[])) ++ (w ++ inn k (ps.getD 1 (0,[])))).length ≤ 40 + (ps.map fun p=>p.2.length + 4).sum:=fun {j k w} hl h1 h2=>by
  obtain ⟨a,b,rfl⟩:=qbt hl
  have:=qbM j a
  have:=qbM k b
  simp only [List.getD_cons_zero,List.getD_cons_succ,List.length_append,List.map_cons,List.map_nil,List.sum_cons,List.sum_nil]
  omega
 rcases this with rfl | rfl | rfl | rfl | rfl | rfl | rfl | rfl | rfl | rfl | rfl | rfl | rfl | rfl | rfl | rfl | rfl | rfl | rfl | rfl | rfl | rfl | rfl | rfl | rfl | rfl
 ·obtain ⟨h1,h2⟩:=an (show (fB _ _ _ _ _ n nm sb ps.length && ile 0 n) = true from hb)
  rw [qaL] at h2
  have:=qfs (of_decide_eq_true h2) hn
  rw [show ntx 0 n nm sb ps = Lib.itoa n from rfl]
  omega
 ·rw [show ntx 1 n nm sb ps = [116,114,117,101] from rfl]
  simp
  omega
 ·rw [show ntx 2 n nm sb ps = [102,97,108,115,101] from rfl]
  simp
  omega
 ·obtain ⟨h1,h2⟩:=an (show (fB _ _ _ _ _ n nm sb ps.length && qcs nm) = true from hb)
  have:=qeH h2
  rw [show ntx 3 n nm sb ps = 39 :: nm from rfl]
  simp only [List.length_cons]
  omega
 ·obtain ⟨h1,h2⟩:=an (show (fB _ _ _ _ _ n nm sb ps.length && qG nm) = true from hb)
  have:=qal h2
  rw [show ntx 4 n nm sb ps = nm from rfl]
  try simp only [List.length_cons,List.length_append,List.length_nil]
  omega
 ·obtain ⟨h1,h2⟩:=an (show (fB _ _ _ _ _ n nm sb ps.length && (qG nm && qG sb)) = true from hb)
  obtain ⟨h2,h3⟩:=an h2
  have:=qal h2
  have:=qal h3
  rw [show ntx 5 n nm sb ps = nm ++ (46 :: sb) from rfl]
  simp only [List.length_cons,List.length_append]
  omega
 ·rw [show ntx 6 n nm sb ps = qmC ps from rfl,qmC]
  have h1:=qpf (ps.map (inn 0))
  rw [List.map_map] at h1
  have h2:=qu6 (l:=ps) (f:=(fun t=>t.length + 2) ∘ inn 0) (g:=fun p=>p.2.length + 4) fun p _=>by have:=qbM 0 p;simp only [Function.comp];omega
  cases ps.length == 1 <;> simp only [cond_true,cond_false,List.length_cons,List.length_append,List.length_nil] <;> omega
 ·obtain ⟨h1,h2⟩:=an (show (fB _ _ _ _ _ n nm sb ps.length && qG nm) = true from hb)
  have:=qal h2
  rw [show ntx 7 n nm sb ps = [99,111,117,110,116,40] ++ (nm ++ [41]) from rfl]
  try simp only [List.length_cons,List.length_append,List.length_nil]
  omega
 ·obtain ⟨h1,h2⟩:=an (show (fB _ _ _ _ _ n nm sb ps.length && qG nm) = true from hb)
  have:=qal h2
  rw [show ntx 8 n nm sb ps = [104,97,115,40] ++ (nm ++ [41]) from rfl]
  try simp only [List.length_cons,List.length_append,List.length_nil]
  omega
 ·obtain ⟨h1,h2⟩:=an (show (fB _ _ _ _ _ n nm sb ps.length && qG nm) = true from hb)
  have:=qal h2
  rw [show ntx 9 n nm sb ps = [115,117,109,40] ++ (nm ++ [41]) from rfl]
  try simp only [List.length_cons,List.length_append,List.length_nil]
  omega
 ·obtain ⟨h1,h2⟩:=an (show (fB _ _ _ 1 1 n nm sb ps.length && qG nm) = true from hb)
  have:=qal h2
  obtain ⟨a,rfl⟩:=qcq (l:=ps) (by have:=qO h1;omega)
  rw [show ntx 10 n nm sb [a] = [108,101,97,115,116,40] ++ (nm ++ ([44,32] ++ (inn 0 a ++ [41]))) from rfl]
  have:=qbM 0 a
  simp only [List.length_cons,List.length_append,List.length_nil,List.map_cons,List.map_nil,List.sum_cons,List.sum_nil]
  omega
 ·rw [show ntx 11 n nm sb ps = [101,108,97,112,115,101,100] from rfl]
  simp
  omega
 ·obtain ⟨h1,h2⟩:=an (show (fB _ _ _ 1 1 n nm sb ps.length && (ile 0 n && ilt n 4)) = true from hb)
  obtain ⟨a,rfl⟩:=qcq (l:=ps) (by have:=qO h1;omega)
  simp only [Bool.and_eq_true,qaL,qaj,decide_eq_true_eq] at h2
  have:=qfs h2.1 hn
  rw [show ntx 12 n nm sb [a] = inn (bif a.1 == 0 then 10 else 8) a ++ (46 :: Lib.itoa n) from rfl]
  have:=qbM (bif a.1 == 0 then 10 else 8) a
  simp only [List.length_cons,List.length_append,List.map_cons,List.map_nil,List.sum_cons,List.sum_nil]
  omega
 ·have h1:fB false false false 1 1 n nm sb ps.length = true:=hb
  obtain ⟨a,rfl⟩:=qcq (l:=ps) (by have:=qO h1;omega)
  rw [show ntx 13 n nm sb [a] = 45 :: inn 7 a from rfl]
  have:=qbM 7 a
  simp only [List.length_cons,List.length_append,List.length_nil,List.map_cons,List.map_nil,List.sum_cons,List.sum_nil]
  omega
 ·have h1:fB false false false 1 1 n nm sb ps.length = true:=hb
  obtain ⟨a,rfl⟩:=qcq (l:=ps) (by have:=qO h1;omega)
  rw [show ntx 14 n nm sb [a] = [110,111,116,32] ++ inn 3 a from rfl]
  have:=qbM 3 a
  simp only [List.length_cons,List.length_append,List.length_nil,List.map_cons,List.map_nil,List.sum_cons,List.sum_nil]
  omega
 ·have h1:fB false false false 2 2 n nm sb ps.length = true:=hb
  exact two (j:=(sgn 15).2.1) (k:=(sgn 15).2.2) (w:=(sgn 15).1) (by have:=qO h1;omega) (by decide) (by decide)
 ·have h1:fB false false false 2 2 n nm sb ps.length = true:=hb
  exact two (j:=(sgn 16).2.1) (k:=(sgn 16).2.2) (w:=(sgn 16).1) (by have:=qO h1;omega) (by decide) (by decide)
 ·have h1:fB false false false 2 2 n nm sb ps.length = true:=hb
  exact two (j:=(sgn 17).2.1) (k:=(sgn 17).2.2) (w:=(sgn 17).1) (by have:=qO h1;omega) (by decide) (by decide)
 ·have h1:fB false false false 2 2 n nm sb ps.length = true:=hb
  exact two (j:=(sgn 18).2.1) (k:=(sgn 18).2.2) (w:=(sgn 18).1) (by have:=qO h1;omega) (by decide) (by decide)
 ·have h1:fB false false false 2 2 n nm sb ps.length = true:=hb
  exact two (j:=(sgn 19).2.1) (k:=(sgn 19).2.2) (w:=(sgn 19).1) (by have:=qO h1;omega) (by decide) (by decide)
 ·have h1:fB false false false 2 2 n nm sb ps.length = true:=hb
  exact two (j:=(sgn 20).2.1) (k:=(sgn 20).2.2) (w:=(sgn 20).1) (by have:=qO h1;omega) (by decide) (by decide)
 ·have h1:fB false false false 2 2 n nm sb ps.length = true:=hb
  exact two (j:=(sgn 21).2.1) (k:=(sgn 21).2.2) (w:=(sgn 21).1) (by have:=qO h1;omega) (by decide) (by decide)
 ·have h1:fB false false false 2 2 n nm sb ps.length = true:=hb
  exact two (j:=(sgn 22).2.1) (k:=(sgn 22).2.2) (w:=(sgn 22).1) (by have:=qO h1;omega) (by decide) (by decide)
 ·have h1:fB false false false 2 2 n nm sb ps.length = true:=hb
  exact two (j:=(sgn 23).2.1) (k:=(sgn 23).2.2) (w:=(sgn 23).1) (by have:=qO h1;omega) (by decide) (by decide)
 ·have h1:fB false false false 2 2 n nm sb ps.length = true:=hb
  exact two (j:=(sgn 24).2.1) (k:=(sgn 24).2.2) (w:=(sgn 24).1) (by have:=qO h1;omega) (by decide) (by decide)
 ·have h1:fB false false false 3 3 n nm sb ps.length = true:=hb
  obtain ⟨a,b,c,rfl⟩:=qg6 (l:=ps) (by have:=qO h1;omega)
  rw [show ntx 25 n nm sb [a,b,c] = [105,102,32] ++ (inn 0 a ++ ([32,116,104,101,110,32] ++ (inn 0 b ++ ([32,101,108,115,101,32] ++ inn 0 c)))) from rfl]
  have:=qbM 0 a
  have:=qbM 0 b
  have:=qbM 0 c
  simp only [List.length_cons,List.length_append,List.length_nil,List.map_cons,List.map_nil,List.sum_cons,List.sum_nil]
  omega
theorem qku:∀(d:Nat) (e:Exl),right d e = true→OkN e→1 ≤ (tx d e).length∧(tx d e).length + 4 ≤ 44 * sz d e
 | 0,_,h,_=>by rw [right] at h;cases h
 | d + 1,.mk op n nm sb aS,h,hn=>by
  rw [right,Bool.and_eq_true,List.all_eq_true] at h
  obtain ⟨h1,h2⟩:=qmQ hn
  have hl:=qxv (ps:=aS.map fun a=>(a.op,tx d a)) (by rw [List.length_map];exact h.1) h1
  have hs:((aS.map fun a=>(a.op,tx d a)).map fun p=>p.2.length + 4).sum ≤ (aS.map fun a=>44 * sz d a).sum:=by
   rw [List.map_map]
   exact qu6 fun a ha=>(qku d a (h.2 a ha) (h2 a ha)).2
  have hm:(aS.map fun a=>44 * sz d a).sum = 44 * (aS.map (sz d)).sum:=by
   clear h hn h2 hl hs
   induction aS with
   | nil=>rfl
   | cons a aS ih=>simp only [List.map_cons,List.sum_cons,ih];omega
  rw [tx,sz]
  omega
theorem qEH (b:Nat) (h:List qq):hop b (.bld 79 5) [] h = some (.ptr h.length 0,h ++ [BX []],false):=Eq.trans rfl rfl
theorem qiH {d:Nat} {e:Exl} (hr:right d e = true) (hn:OkN e) (hs:sz d e ≤ 1000) (G:List qq):Wd (.fn 19 [] []) [exV e] G = some (.ret (.str (tx d e)),G,false):=by
 obtain ⟨h1,h2⟩:=qku d e hr hn
 have hS:(tx d e).length ≤ qo:=by unfold qo;omega
 obtain ⟨_,hT⟩:=qrd hS d e hr hn
 have hne:(tx d e).isEmpty = false:=by
  cases hq:tx d e with
  | nil=>rw [hq] at h1;simp at h1
  | cons a l=>rfl
 have hst:=fun {G id}=>qub (G:=G) (id:=id)
 generalize tx d e = t at *
 obtain ⟨op,n,nm,sb,aS⟩:=e
 rw [ql] at hT
 generalize hx:qq.cells [.int .i64 op,.int .i64 n,.str nm,.str sb,.lst (aS.map exV) .no] = x
 have g1:(G ++ [x,BX []])[G.length + 1]? = some (BX []):=by rw [qcY];rfl
 have hT:=hT (G ++ [x,BX []]) (G.length + 1) (by simp) (by rw [g1];exact qaF _) (by rw [g1,qaA];exact List.prefix_rfl)
 rw [g1,qaA,List.nil_append,qg2] at hT
 subst hx
 rw [ql,qt rfl (show T.get 19 = some c19 by kernel_rfl)]
 simp only [c19,sT.1,sC.1,sTA.1,sCA.1,qe,qj,qk,Src.isTmp,qg,Src.hangs,qn.isT,qi,qd,Nat.testBit,bne,simprocAttr,-Int.reduceNatCast',qa6,qT,qV,qak,qU,qEH,hT,hst,hne,qaA,qaF,List.append_assoc,List.nil_append,List.set_cons_succ,List.set_cons_zero,List.cons_append]
end Go.Proofs.YtkmlapholimbcaaGreatDoor.AE
namespace Go.Proofs.YtkmlapholimbcaaGreatDoor.AE
open Go.AE
theorem qpL (c:Int):qlU 1 [.int .u8 0] 1 [(0,.int .u8 c)] = some (.lst [.int .u8 c] .full):=by kernel_rfl
theorem qD9 (m:Nat):((m:Nat):Int).tmod 10 = ((m % 10:Nat):Int):=by
 rw [Int.tmod_eq_emod_of_nonneg (by omega)];rfl
theorem qD8 (m:Nat):((m:Nat):Int).tdiv 10 = ((m / 10:Nat):Int):=by
 rw [Int.tdiv_eq_ediv_of_nonneg (by omega)];rfl
theorem qEb (m:Nat):IntKind.i64.wrap (48 + ((m % 10:Nat):Int)) = ((48 + m % 10:Nat):Int):=by rw [qbG (by omega) (by omega)];omega
theorem qEa (m:Nat):IntKind.u8.wrap ((48 + m % 10:Nat):Int) = ((48 + m % 10:Nat):Int):=by
 have h:m % 10 < 10:=Nat.mod_lt _ (by omega)
 generalize m % 10 = k at *
 have:k = 0∨k = 1∨k = 2∨k = 3∨k = 4∨k = 5∨k = 6∨k = 7∨k = 8∨k = 9:=by omega
 rcases this with rfl | rfl | rfl | rfl | rfl | rfl | rfl | rfl | rfl | rfl <;> rfl
theorem qjN (m:Nat):Lib.decDigits m = (bif ilt 0 ((m / 10:Nat):Int) then Lib.decDigits (m / 10) else []) ++ [UInt8.ofNat (48 + m % 10)]:=by
 rw [Lib.decDigits]
 split
 ·rename_i h
  rw [qaj,decide_eq_false (by omega),cond_false,List.nil_append,Nat.mod_eq_of_lt h]
 ·rw [qaj,decide_eq_true (by omega),cond_true]
section
variable {G:List qq}
theorem qmM {n:Int} (h0:0 ≤ n) (h1:n ≤ 9223372036854775807):Wd (.fn 40 [] []) [.int .i64 n] G = some (.ret (.str (Lib.itoa n)),G,false):=by
 obtain ⟨m,rfl⟩ :∃m:Nat,n = m:=⟨n.toNat,by omega⟩
 have hT:(Lib.decDigits m).length ≤ 19:=(qix 18 m (by omega)).2
 have ht0:Lib.itoa (m:Int) = Lib.decDigits m:=by rw [Lib.itoa,if_neg (by omega)];rfl
 rw [ht0]
 generalize hD:Lib.decDigits m = U at hT
 have loop:∀k st,(∃(tt:List qf) (q:Nat) (s:Str),st = ⟨tt,G,false⟩∧tt.length = 25∧lkp tt 0 = .int .i64 (q:Nat)∧lkp tt 3 = .str s∧q ≤ k∧q ≤ 9223372036854775807∧U = (bif ilt 0 (q:Int) then Lib.decDigits q else []) ++ s)→
   ∃x st',qx G.length Wd (.loop qlB) st = some (x,st')∧(∃tt:List qf,st' = ⟨tt,G,false⟩∧tt.length = 25∧lkp tt 3 = .str U∧x = .exit 0):=by
  refine qD _ (fun x st'=>∃tt:List qf,st' = ⟨tt,G,false⟩∧tt.length = 25∧lkp tt 3 = .str U∧x = .exit 0) ?_
  rintro k st ⟨tt,q,s,rfl,ht,e0,e3,hk,hq,hs⟩
  generalize he:qx G.length Wd qlB _ = r
  cases c:ilt 0 (q:Int) with
  | false=>
   rw [c,cond_false,List.nil_append] at hs
   simp only [qlB,sT.1,sC.1,qe,qd,Nat.testBit,simprocAttr,-Int.reduceNatCast',ht,e0,e3,c] at he
   subst he
   refine .inr ⟨_,_,rfl,by simp,_,rfl,by simp only [qh,ht],?_,rfl⟩
   simp only [sT.1,sC.1,qe,qd,Nat.testBit,simprocAttr,-Int.reduceNatCast',ht,e3,hs]
  | true=>
   have cq:0 < q:=by rw [qaj] at c;have:=of_decide_eq_true c;omega
   rw [c,cond_true,qjN,List.append_assoc] at hs
   have hl:s.length ≤ 19:=by have:=congrArg List.length hs;simp at this;omega
   have q1:1 + s.length ≤ qo:=by unfold qo;omega
   have wq:IntKind.i64.wrap ((q / 10:Nat):Int) = ((q / 10:Nat):Int):=qbG (by omega) (by omega)
   have tn:((48 + q % 10:Nat):Int).toNat = 48 + q % 10:=Int.toNat_natCast _
   simp only [qlB,sT.1,sC.1,qe,qd,Nat.testBit,simprocAttr,-Int.reduceNatCast',ht,e0,e3,c,qD9,qD8,qEb,qEa,qpL,tn,wq,q1,if_true] at he
   subst he
   refine .inl ⟨_,q / 10,rfl,by omega,_,q / 10,UInt8.ofNat (48 + q % 10) :: s,rfl,by simp only [qh,ht],?_,?_,by omega,by omega,hs⟩
   all_goals simp only [sT.1,sC.1,qe,qd,Nat.testBit,simprocAttr,-Int.reduceNatCast',ht,e0,e3]
 rw [qjN] at hD
 have wq:IntKind.i64.wrap ((m / 10:Nat):Int) = ((m / 10:Nat):Int):=qbG (by omega) (by omega)
 have tn:((48 + m % 10:Nat):Int).toNat = 48 + m % 10:=Int.toNat_natCast _
 generalize hw:Wd _ _ G = w
 rw [qt rfl (show T.get 40 = some c40 by kernel_rfl)] at hw
 simp only [c40,sT.1,sC.1,qe,qd,Nat.testBit,simprocAttr,-Int.reduceNatCast',qD9,qD8,qEb,qEa,qpL,tn,wq] at hw
 generalize hr:qx G.length Wd (.loop qlB) _ = r at hw
 obtain ⟨x,st',rfl,tt,rfl,ht,e3,rfl⟩:=qaT hr (loop (m / 10) _ ⟨_,m / 10,_,rfl,by simp only [sT.1,sC.1,qe,qd,Nat.testBit,simprocAttr,-Int.reduceNatCast'],by simp only [sT.1,sC.1,qe,qd,Nat.testBit,simprocAttr,-Int.reduceNatCast'],by simp only [sT.1,sC.1,qe,qd,Nat.testBit,simprocAttr,-Int.reduceNatCast'],by omega,by omega,hD.symm⟩)
 simp only [sT.1,sC.1,qe,qd,Nat.testBit,simprocAttr,-Int.reduceNatCast',ht,e3] at hw
 subst hw
 rfl
theorem qa8 {op:Int} (h0:0 ≤ op) (h1:op ≤ 25):Wd (.fn 23 [] []) [.int .i64 op] G = some (.ret (.int .i64 (rk op)),G,false):=by
 obtain ⟨k,rfl⟩ :∃k:Nat,op = k:=⟨op.toNat,by omega⟩
 have hx:qa3 1 (.lst (ranks.map (qf.int .i64)) .full) (.int .i64 (k:Nat)) = some (.iptr [.int .i64 (rk (k:Nat))] 0):=by
  have hk:k < ranks.length:=by show k < 26;omega
  have:=qu (k:=1) (xs:=ranks.map (qf.int .i64)) (f:=.full) (j:=.i64) (x:=.int .i64 (ranks[k]'hk)) (by rw [List.getElem?_map,List.getElem?_eq_getElem hk];rfl) rfl
  rw [this,rk]
  simp [qf.cells,hk]
 have hL:qlU 1 [.int .i64 0] 26 [(0,.int .i64 9),(1,.int .i64 9),(2,.int .i64 9),(3,.int .i64 9),(4,.int .i64 9),(5,.int .i64 9),(6,.int .i64 9),(7,.int .i64 9),(8,.int .i64 9),(9,.int .i64 9),(10,.int .i64 9),(11,.int .i64 9),(12,.int .i64 8),(13,.int .i64 7),(14,.int .i64 3),(15,.int .i64 5),(16,.int .i64 5),(17,.int .i64 6),(18,.int .i64 6),(19,.int .i64 6),(20,.int .i64 4),(21,.int .i64 4),(22,.int .i64 4),(23,.int .i64 2),(24,.int .i64 1),(25,.int .i64 0)] = some (.lst (ranks.map (qf.int .i64)) .full):=by kernel_rfl
 rw [qt rfl (show T.get 23 = some c23 by kernel_rfl)]
 generalize ranks.map (qf.int .i64) = L at *
 simp only [c23,sT.1,sC.1,qe,qd,Nat.testBit,simprocAttr,-Int.reduceNatCast',hL,hx]
end
end Go.Proofs.YtkmlapholimbcaaGreatDoor.AE
namespace Go.Proofs.YtkmlapholimbcaaGreatDoor.AE
open Go.AE
def qdo (a:Exl) (t:Str):Prop:=(0 ≤ a.op∧a.op ≤ 25)∧t.length ≤ 50000∧∀G:List qq,Wd (.fn 22 [] []) [exV a] G = some (.ret (.str t),G,false)
theorem qhd {a:Exl} {t:Str} (h:qdo a t) (k:Int) (G:List qq):Wd (.fn 10 [] []) [exV a,.int .i64 k] G = some (.ret (.str (inn k (a.op,t))),G,false):=by
 obtain ⟨⟨h0,h1⟩,hl,hB⟩:=h
 have hr:=fun G=>qa8 (G:=G) h0 h1
 have e:ilt (rk a.op) k = !ile k (rk a.op):=qeQ _ _
 have q1:1 + t.length ≤ qo:=by unfold qo;omega
 have q2:t.length + 1 + 1 ≤ qo:=by unfold qo;omega
 have q3:1 + t.length + 1 ≤ qo:=by unfold qo;omega
 rw [inn]
 simp only
 obtain ⟨op,n,nm,sb,aS⟩:=a
 simp only [Exl.op] at *
 rw [ql] at *
 rw [qt rfl (show T.get 10 = some c10 by kernel_rfl)]
 cases c:ile k (rk op) <;> simp only [c10,sT.1,sC.1,qe,qd,Nat.testBit,simprocAttr,-Int.reduceNatCast',hB,hr,e,c,q1,q2,q3,if_true,Bool.not_true,Bool.not_false,cond_true,cond_false,List.cons_append,List.nil_append]
theorem qeP (b:Nat) (h:List qq):hop b (.lit 1 [.str []] 10 [0,1,2,3,4,5,6,7,8,9]) [.str [32,43,32],.str [32,45,32],.str [32,42,32],.str [32,47,32],.str [32,37,32],.str [32,61,32],.str [32,60,32],.str [32,60,61,32],.str [32,97,110,100,32],.str [32,111,114,32]] h = some (.sl h.length 0 10 10 0,h ++ [.cells [.str [32,43,32],.str [32,45,32],.str [32,42,32],.str [32,47,32],.str [32,37,32],.str [32,61,32],.str [32,60,32],.str [32,60,61,32],.str [32,97,110,100,32],.str [32,111,114,32]]],false):=by kernel_rfl
section
variable {G:List qq} {n:Int} {nm sb:Str}
set_option maxHeartbeats 4000000 in
theorem qEj (hn0:0 ≤ n) (hn1:n ≤ 9223372036854775807):Wd (.fn 22 [] []) [exV (.mk 0 n nm sb [])] G = some (.ret (.str (Lib.itoa n)),G,false):=by
 have c15:ile 15 (0:Int) = false:=Eq.trans rfl rfl
 have hD:=fun G=>qmM (G:=G) hn0 hn1
 rw [ql,qt rfl (show T.get 22 = some c22 by kernel_rfl)]
 simp only [c22,sT.1,sC.1,sTA.1,sCA.1,qe,qj,qk,Src.isTmp,qg,Src.hangs,qn.isT,qi,qd,Nat.testBit,bne,simprocAttr,-Int.reduceNatCast',qa6,qT,qV,qak,qU,qeP,if_true,c15,hD,List.append_assoc,List.cons_append,List.nil_append]
set_option maxHeartbeats 4000000 in
theorem qEk :Wd (.fn 22 [] []) [exV (.mk 1 n nm sb [])] G = some (.ret (.str ([116,114,117,101])),G,false):=by
 have c15:ile 15 (1:Int) = false:=Eq.trans rfl rfl
 rw [ql,qt rfl (show T.get 22 = some c22 by kernel_rfl)]
 simp only [c22,sT.1,sC.1,sTA.1,sCA.1,qe,qj,qk,Src.isTmp,qg,Src.hangs,qn.isT,qi,qd,Nat.testBit,bne,simprocAttr,-Int.reduceNatCast',qa6,qT,qV,qak,qU,qeP,if_true,c15,List.append_assoc,List.cons_append,List.nil_append]
set_option maxHeartbeats 4000000 in
theorem qEl :Wd (.fn 22 [] []) [exV (.mk 2 n nm sb [])] G = some (.ret (.str ([102,97,108,115,101])),G,false):=by
 have c15:ile 15 (2:Int) = false:=Eq.trans rfl rfl
 rw [ql,qt rfl (show T.get 22 = some c22 by kernel_rfl)]
 simp only [c22,sT.1,sC.1,sTA.1,sCA.1,qe,qj,qk,Src.isTmp,qg,Src.hangs,qn.isT,qi,qd,Nat.testBit,bne,simprocAttr,-Int.reduceNatCast',qa6,qT,qV,qak,qU,qeP,if_true,c15,List.append_assoc,List.cons_append,List.nil_append]
set_option maxHeartbeats 4000000 in
theorem qAC :Wd (.fn 22 [] []) [exV (.mk 11 n nm sb [])] G = some (.ret (.str ([101,108,97,112,115,101,100])),G,false):=by
 have c15:ile 15 (11:Int) = false:=Eq.trans rfl rfl
 rw [ql,qt rfl (show T.get 22 = some c22 by kernel_rfl)]
 simp only [c22,sT.1,sC.1,sTA.1,sCA.1,qe,qj,qk,Src.isTmp,qg,Src.hangs,qn.isT,qi,qd,Nat.testBit,bne,simprocAttr,-Int.reduceNatCast',qa6,qT,qV,qak,qU,qeP,if_true,c15,List.append_assoc,List.cons_append,List.nil_append]
set_option maxHeartbeats 4000000 in
theorem qEm (hn:nm.length ≤ 16):Wd (.fn 22 [] []) [exV (.mk 3 n nm sb [])] G = some (.ret (.str (39 :: nm)),G,false):=by
 have c15:ile 15 (3:Int) = false:=Eq.trans rfl rfl
 have q1:∀k,k ≤ 200→k + nm.length ≤ qo:=fun k hk=>by unfold qo;omega
 have q2:∀k,k ≤ 200→nm.length + k ≤ qo:=fun k hk=>by unfold qo;omega
 have q3:∀k j,k ≤ 200→j ≤ 200→k + nm.length + j ≤ qo:=fun k j hk hj=>by unfold qo;omega
 rw [ql,qt rfl (show T.get 22 = some c22 by kernel_rfl)]
 simp only [c22,sT.1,sC.1,sTA.1,sCA.1,qe,qj,qk,Src.isTmp,qg,Src.hangs,qn.isT,qi,qd,Nat.testBit,bne,simprocAttr,-Int.reduceNatCast',qa6,qT,qV,qak,qU,qeP,if_true,c15,q1,q2,List.append_assoc,List.cons_append,List.nil_append]
set_option maxHeartbeats 4000000 in
theorem qEn :Wd (.fn 22 [] []) [exV (.mk 4 n nm sb [])] G = some (.ret (.str (nm)),G,false):=by
 have c15:ile 15 (4:Int) = false:=Eq.trans rfl rfl
 rw [ql,qt rfl (show T.get 22 = some c22 by kernel_rfl)]
 simp only [c22,sT.1,sC.1,sTA.1,sCA.1,qe,qj,qk,Src.isTmp,qg,Src.hangs,qn.isT,qi,qd,Nat.testBit,bne,simprocAttr,-Int.reduceNatCast',qa6,qT,qV,qak,qU,qeP,if_true,c15,List.append_assoc,List.cons_append,List.nil_append]
set_option maxHeartbeats 4000000 in
theorem qEo (hn:nm.length ≤ 16) (hs:sb.length ≤ 16):Wd (.fn 22 [] []) [exV (.mk 5 n nm sb [])] G = some (.ret (.str (nm ++ (46 :: sb))),G,false):=by
 have c15:ile 15 (5:Int) = false:=Eq.trans rfl rfl
 have q1:∀k,k ≤ 200→k + nm.length ≤ qo:=fun k hk=>by unfold qo;omega
 have q2:∀k,k ≤ 200→nm.length + k ≤ qo:=fun k hk=>by unfold qo;omega
 have q3:∀k j,k ≤ 200→j ≤ 200→k + nm.length + j ≤ qo:=fun k j hk hj=>by unfold qo;omega
 have s0:nm.length + (1 + sb.length) ≤ qo:=by unfold qo;omega
 have s1:nm.length + (sb.length + 1) ≤ qo:=by unfold qo;omega
 have s2:nm.length + 1 + sb.length ≤ qo:=by unfold qo;omega
 rw [ql,qt rfl (show T.get 22 = some c22 by kernel_rfl)]
 simp only [c22,sT.1,sC.1,sTA.1,sCA.1,qe,qj,qk,Src.isTmp,qg,Src.hangs,qn.isT,qi,qd,Nat.testBit,bne,simprocAttr,-Int.reduceNatCast',qa6,qT,qV,qak,qU,qeP,if_true,c15,q1,q2,s0,s1,s2,List.append_assoc,List.cons_append,List.nil_append]
set_option maxHeartbeats 4000000 in
theorem qEq (hn:nm.length ≤ 16):Wd (.fn 22 [] []) [exV (.mk 7 n nm sb [])] G = some (.ret (.str ([99,111,117,110,116,40] ++ (nm ++ [41]))),G,false):=by
 have c15:ile 15 (7:Int) = false:=Eq.trans rfl rfl
 have q1:∀k,k ≤ 200→k + nm.length ≤ qo:=fun k hk=>by unfold qo;omega
 have q2:∀k,k ≤ 200→nm.length + k ≤ qo:=fun k hk=>by unfold qo;omega
 have q3:∀k j,k ≤ 200→j ≤ 200→k + nm.length + j ≤ qo:=fun k j hk hj=>by unfold qo;omega
 rw [ql,qt rfl (show T.get 22 = some c22 by kernel_rfl)]
 simp only [c22,sT.1,sC.1,sTA.1,sCA.1,qe,qj,qk,Src.isTmp,qg,Src.hangs,qn.isT,qi,qd,Nat.testBit,bne,simprocAttr,-Int.reduceNatCast',qa6,qT,qV,qak,qU,qeP,if_true,c15,q1,q2,q3,List.append_assoc,List.cons_append,List.nil_append]
set_option maxHeartbeats 4000000 in
theorem qEr (hn:nm.length ≤ 16):Wd (.fn 22 [] []) [exV (.mk 8 n nm sb [])] G = some (.ret (.str ([104,97,115,40] ++ (nm ++ [41]))),G,false):=by
 have c15:ile 15 (8:Int) = false:=Eq.trans rfl rfl
 have q1:∀k,k ≤ 200→k + nm.length ≤ qo:=fun k hk=>by unfold qo;omega
 have q2:∀k,k ≤ 200→nm.length + k ≤ qo:=fun k hk=>by unfold qo;omega
 have q3:∀k j,k ≤ 200→j ≤ 200→k + nm.length + j ≤ qo:=fun k j hk hj=>by unfold qo;omega
 rw [ql,qt rfl (show T.get 22 = some c22 by kernel_rfl)]
 simp only [c22,sT.1,sC.1,sTA.1,sCA.1,qe,qj,qk,Src.isTmp,qg,Src.hangs,qn.isT,qi,qd,Nat.testBit,bne,simprocAttr,-Int.reduceNatCast',qa6,qT,qV,qak,qU,qeP,if_true,c15,q1,q2,q3,List.append_assoc,List.cons_append,List.nil_append]
set_option maxHeartbeats 4000000 in
theorem qEs (hn:nm.length ≤ 16):Wd (.fn 22 [] []) [exV (.mk 9 n nm sb [])] G = some (.ret (.str ([115,117,109,40] ++ (nm ++ [41]))),G,false):=by
 have c15:ile 15 (9:Int) = false:=Eq.trans rfl rfl
 have q1:∀k,k ≤ 200→k + nm.length ≤ qo:=fun k hk=>by unfold qo;omega
 have q2:∀k,k ≤ 200→nm.length + k ≤ qo:=fun k hk=>by unfold qo;omega
 have q3:∀k j,k ≤ 200→j ≤ 200→k + nm.length + j ≤ qo:=fun k j hk hj=>by unfold qo;omega
 rw [ql,qt rfl (show T.get 22 = some c22 by kernel_rfl)]
 simp only [c22,sT.1,sC.1,sTA.1,sCA.1,qe,qj,qk,Src.isTmp,qg,Src.hangs,qn.isT,qi,qd,Nat.testBit,bne,simprocAttr,-Int.reduceNatCast',qa6,qT,qV,qak,qU,qeP,if_true,c15,q1,q2,q3,List.append_assoc,List.cons_append,List.nil_append]
end
end Go.Proofs.YtkmlapholimbcaaGreatDoor.AE
namespace Go.Proofs.YtkmlapholimbcaaGreatDoor.AE
open Go.AE
theorem qb5 {a b:Nat} (h1:a ≤ 536870912) (h2:b ≤ 536870912):a + b ≤ qo:=by unfold qo;omega
theorem qb6 {a b n:Nat} (h1:a ≤ n / 2) (h2:b ≤ n / 2):a + b ≤ n:=by omega
theorem EA (K:Int) {a:Exl} {t:Str} (h:qdo a t):∃A:Str,A = inn K (a.op,t)∧(∀n,50002 ≤ n→A.length ≤ n)∧∀G,Wd (.fn 10 [] []) [exV a,.int .i64 K] G = some (.ret (.str A),G,false):=by
 have:=qbM K (a.op,t)
 have:=h.2.1
 simp only at *
 exact ⟨_,rfl,fun n hn=>by omega,fun G=>qhd h K G⟩
theorem ixs (P i:Nat) (h:i < 10):qa3 1 (.sl P 0 10 10 0) (.int .i64 (i:Nat)) = some (.ptr P i):=by
 have:i = 0∨i = 1∨i = 2∨i = 3∨i = 4∨i = 5∨i = 6∨i = 7∨i = 8∨i = 9:=by omega
 rcases this with rfl | rfl | rfl | rfl | rfl | rfl | rfl | rfl | rfl | rfl <;> exact Eq.trans rfl rfl
section
variable {G:List qq} {n:Int} {nm sb:Str}
set_option maxHeartbeats 4000000 in
theorem qAB {a:Exl} {ta:Str} (ka:qdo a ta) (hn:nm.length ≤ 16):Wd (.fn 22 [] []) [exV (.mk 10 n nm sb [a])] G = some (.ret (.str ([108,101,97,115,116,40] ++ (nm ++ ([44,32] ++ (inn 0 (a.op,ta) ++ [41]))))),G,false):=by
 obtain ⟨A,hA,lA,eA⟩:=EA 0 ka
 rw [←hA]
 clear hA ka
 obtain ⟨oa,na,m2a,sba,asa⟩:=a
 rw [ql] at eA
 have x0:=qu (k:=5) (xs:=[exV (.mk oa na m2a sba asa)]) (f:=.no) (j:=.i64) (n:=0) rfl (by rw [ql];rfl)
 simp only [ql,cc0,cc1,cc2,qf.cells] at x0
 have c15:ile 15 (10:Int) = false:=Eq.trans rfl rfl
 have lN:∀k,16 ≤ k→nm.length ≤ k:=fun k hk=>by omega
 generalize hw:Wd _ _ G = w
 rw [ql,qt rfl (show T.get 22 = some c22 by kernel_rfl)] at hw
 simp only [List.map_cons,List.map_nil,ql] at hw
 simp (maxDischargeDepth:=9) only [c22,sT.1,sC.1,sTA.1,sCA.1,qe,qj,qk,Src.isTmp,qg,Src.hangs,qn.isT,qi,qd,Nat.testBit,bne,simprocAttr,-Int.reduceNatCast',qa6,qT,qV,qak,qU,qeP,qaN,qag,qaY,qaG,qaB,if_true,eA,lA,x0,c15,lN,qb5,qb6,List.append_assoc,List.cons_append,List.nil_append] at hw
 subst hw
 simp only [List.append_assoc,List.cons_append,List.nil_append]
set_option maxHeartbeats 4000000 in
theorem qAD {a:Exl} {ta:Str} (ka:qdo a ta):Wd (.fn 22 [] []) [exV (.mk 13 n nm sb [a])] G = some (.ret (.str (45 :: inn 7 (a.op,ta))),G,false):=by
 obtain ⟨A,hA,lA,eA⟩:=EA 7 ka
 rw [←hA]
 clear hA ka
 obtain ⟨oa,na,m2a,sba,asa⟩:=a
 rw [ql] at eA
 have x0:=qu (k:=5) (xs:=[exV (.mk oa na m2a sba asa)]) (f:=.no) (j:=.i64) (n:=0) rfl (by rw [ql];rfl)
 simp only [ql,cc0,cc1,cc2,qf.cells] at x0
 have c15:ile 15 (13:Int) = false:=Eq.trans rfl rfl
 generalize hw:Wd _ _ G = w
 rw [ql,qt rfl (show T.get 22 = some c22 by kernel_rfl)] at hw
 simp only [List.map_cons,List.map_nil,ql] at hw
 simp only [c22,sT.1,sC.1,sTA.1,sCA.1,qe,qj,qk,Src.isTmp,qg,Src.hangs,qn.isT,qi,qd,Nat.testBit,bne,simprocAttr,-Int.reduceNatCast',qa6,qT,qV,qak,qU,qeP,qaN,qag,qaY,qaG,qaB,if_true,eA,lA,x0,c15,qb5,qb6,List.append_assoc,List.cons_append,List.nil_append] at hw
 subst hw
 simp only [List.append_assoc,List.cons_append,List.nil_append]
set_option maxHeartbeats 4000000 in
theorem qAE {a:Exl} {ta:Str} (ka:qdo a ta):Wd (.fn 22 [] []) [exV (.mk 14 n nm sb [a])] G = some (.ret (.str ([110,111,116,32] ++ inn 3 (a.op,ta))),G,false):=by
 obtain ⟨A,hA,lA,eA⟩:=EA 3 ka
 rw [←hA]
 clear hA ka
 obtain ⟨oa,na,m2a,sba,asa⟩:=a
 rw [ql] at eA
 have x0:=qu (k:=5) (xs:=[exV (.mk oa na m2a sba asa)]) (f:=.no) (j:=.i64) (n:=0) rfl (by rw [ql];rfl)
 simp only [ql,cc0,cc1,cc2,qf.cells] at x0
 have c15:ile 15 (14:Int) = false:=Eq.trans rfl rfl
 generalize hw:Wd _ _ G = w
 rw [ql,qt rfl (show T.get 22 = some c22 by kernel_rfl)] at hw
 simp only [List.map_cons,List.map_nil,ql] at hw
 simp only [c22,sT.1,sC.1,sTA.1,sCA.1,qe,qj,qk,Src.isTmp,qg,Src.hangs,qn.isT,qi,qd,Nat.testBit,bne,simprocAttr,-Int.reduceNatCast',qa6,qT,qV,qak,qU,qeP,qaN,qag,qaY,qaG,qaB,if_true,eA,lA,x0,c15,qb5,qb6,List.append_assoc,List.cons_append,List.nil_append] at hw
 subst hw
 simp only [List.append_assoc,List.cons_append,List.nil_append]
set_option maxHeartbeats 4000000 in
theorem qAP {a:Exl} {ta:Str} (ka:qdo a ta) {b:Exl} {tb:Str} (kb:qdo b tb) {c:Exl} {tc:Str} (kc:qdo c tc):Wd (.fn 22 [] []) [exV (.mk 25 n nm sb [a,b,c])] G = some (.ret (.str ([105,102,32] ++ (inn 0 (a.op,ta) ++ ([32,116,104,101,110,32] ++ (inn 0 (b.op,tb) ++ ([32,101,108,115,101,32] ++ inn 0 (c.op,tc))))))),G,false):=by
 obtain ⟨A,hA,lA,eA⟩:=EA 0 ka
 obtain ⟨B,hB,lB,eB⟩:=EA 0 kb
 obtain ⟨C,hC,lC,eC⟩:=EA 0 kc
 rw [←hA,←hB,←hC]
 clear hA ka hB kb hC kc
 obtain ⟨oa,na,m2a,sba,asa⟩:=a
 obtain ⟨ob,nb,m2b,sbb,asb⟩:=b
 obtain ⟨oc,nc,m2c,sbc,asc⟩:=c
 rw [ql] at eA eB eC
 have x0:=qu (k:=5) (xs:=[exV (.mk oa na m2a sba asa),exV (.mk ob nb m2b sbb asb),exV (.mk oc nc m2c sbc asc)]) (f:=.no) (j:=.i64) (n:=0) rfl (by rw [ql];rfl)
 have x1:=qu (k:=5) (xs:=[exV (.mk oa na m2a sba asa),exV (.mk ob nb m2b sbb asb),exV (.mk oc nc m2c sbc asc)]) (f:=.no) (j:=.i64) (n:=1) rfl (by rw [ql];rfl)
 have x2:=qu (k:=5) (xs:=[exV (.mk oa na m2a sba asa),exV (.mk ob nb m2b sbb asb),exV (.mk oc nc m2c sbc asc)]) (f:=.no) (j:=.i64) (n:=2) rfl (by rw [ql];rfl)
 simp only [ql,cc0,cc1,cc2,qf.cells] at x0 x1 x2
 have c15:ile 15 (25:Int) = true:=Eq.trans rfl rfl
 have c24:ile (25:Int) 24 = false:=Eq.trans rfl rfl
 generalize hw:Wd _ _ G = w
 rw [ql,qt rfl (show T.get 22 = some c22 by kernel_rfl)] at hw
 simp only [List.map_cons,List.map_nil,ql] at hw
 simp (maxDischargeDepth:=9) only [c22,sT.1,sC.1,sTA.1,sCA.1,qe,qj,qk,Src.isTmp,qg,Src.hangs,qn.isT,qi,qd,Nat.testBit,bne,simprocAttr,-Int.reduceNatCast',qa6,qT,qV,qak,qU,qeP,qaN,qag,qaY,qaG,qaB,if_true,eA,lA,eB,lB,eC,lC,x0,x1,x2,c15,c24,qb5,qb6,List.append_assoc,List.cons_append,List.nil_append] at hw
 subst hw
 simp only [List.append_assoc,List.cons_append,List.nil_append]
set_option maxHeartbeats 4000000 in
theorem qAF {a:Exl} {ta:Str} (ka:qdo a ta) {b:Exl} {tb:Str} (kb:qdo b tb):Wd (.fn 22 [] []) [exV (.mk 15 n nm sb [a,b])] G = some (.ret (.str (inn 5 (a.op,ta) ++ ([32,43,32] ++ inn 6 (b.op,tb)))),G,false):=by
 obtain ⟨A,hA,lA,eA⟩:=EA 5 ka
 obtain ⟨B,hB,lB,eB⟩:=EA 6 kb
 rw [←hA,←hB]
 clear hA ka hB kb
 obtain ⟨oa,na,m2a,sba,asa⟩:=a
 obtain ⟨ob,nb,m2b,sbb,asb⟩:=b
 rw [ql] at eA eB
 have x0:=qu (k:=5) (xs:=[exV (.mk oa na m2a sba asa),exV (.mk ob nb m2b sbb asb)]) (f:=.no) (j:=.i64) (n:=0) rfl (by rw [ql];rfl)
 have x1:=qu (k:=5) (xs:=[exV (.mk oa na m2a sba asa),exV (.mk ob nb m2b sbb asb)]) (f:=.no) (j:=.i64) (n:=1) rfl (by rw [ql];rfl)
 simp only [ql,cc0,cc1,cc2,qf.cells] at x0 x1
 have c15:ile 15 (15:Int) = true:=Eq.trans rfl rfl
 have c24:ile (15:Int) 24 = true:=Eq.trans rfl rfl
 have hr:=fun G=>qa8 (G:=G) (op:=15) (by omega) (by omega)
 rw [show rk 15 = 5 from rfl] at hr
 have w5:IntKind.i64.wrap 6 = 6:=by kernel_rfl
 have w0:IntKind.i64.wrap 0 = 0:=by kernel_rfl
 have e4:((5:Int) == 4) = false:=by kernel_rfl
 have xs:qa3 1 (.sl (G.length + 1) 0 10 10 0) (.int .i64 0) = some (.ptr (G.length + 1) 0):=ixs (G.length + 1) 0 (by omega)
 generalize hw:Wd _ _ G = w
 rw [ql,qt rfl (show T.get 22 = some c22 by kernel_rfl)] at hw
 simp only [List.map_cons,List.map_nil,ql] at hw
 simp only [c22,sT.1,sC.1,sTA.1,sCA.1,qe,qj,qk,Src.isTmp,qg,Src.hangs,qn.isT,qi,qd,Nat.testBit,bne,simprocAttr,-Int.reduceNatCast',qa6,qT,qV,qak,qU,qeP,qaN,qag,qaY,qaG,qaB,if_true,eA,lA,eB,lB,x0,x1,c15,c24,hr,w5,w0,e4,xs,qb5,qb6,List.append_assoc,List.cons_append,List.nil_append] at hw
 subst hw
 simp only [List.append_assoc,List.cons_append,List.nil_append]
set_option maxHeartbeats 4000000 in
theorem qAG {a:Exl} {ta:Str} (ka:qdo a ta) {b:Exl} {tb:Str} (kb:qdo b tb):Wd (.fn 22 [] []) [exV (.mk 16 n nm sb [a,b])] G = some (.ret (.str (inn 5 (a.op,ta) ++ ([32,45,32] ++ inn 6 (b.op,tb)))),G,false):=by
 obtain ⟨A,hA,lA,eA⟩:=EA 5 ka
 obtain ⟨B,hB,lB,eB⟩:=EA 6 kb
 rw [←hA,←hB]
 clear hA ka hB kb
 obtain ⟨oa,na,m2a,sba,asa⟩:=a
 obtain ⟨ob,nb,m2b,sbb,asb⟩:=b
 rw [ql] at eA eB
 have x0:=qu (k:=5) (xs:=[exV (.mk oa na m2a sba asa),exV (.mk ob nb m2b sbb asb)]) (f:=.no) (j:=.i64) (n:=0) rfl (by rw [ql];rfl)
 have x1:=qu (k:=5) (xs:=[exV (.mk oa na m2a sba asa),exV (.mk ob nb m2b sbb asb)]) (f:=.no) (j:=.i64) (n:=1) rfl (by rw [ql];rfl)
 simp only [ql,cc0,cc1,cc2,qf.cells] at x0 x1
 have c15:ile 15 (16:Int) = true:=Eq.trans rfl rfl
 have c24:ile (16:Int) 24 = true:=Eq.trans rfl rfl
 have hr:=fun G=>qa8 (G:=G) (op:=16) (by omega) (by omega)
 rw [show rk 16 = 5 from rfl] at hr
 have w5:IntKind.i64.wrap 6 = 6:=by kernel_rfl
 have w0:IntKind.i64.wrap 1 = 1:=by kernel_rfl
 have e4:((5:Int) == 4) = false:=by kernel_rfl
 have xs:qa3 1 (.sl (G.length + 1) 0 10 10 0) (.int .i64 1) = some (.ptr (G.length + 1) 1):=ixs (G.length + 1) 1 (by omega)
 generalize hw:Wd _ _ G = w
 rw [ql,qt rfl (show T.get 22 = some c22 by kernel_rfl)] at hw
 simp only [List.map_cons,List.map_nil,ql] at hw
 simp only [c22,sT.1,sC.1,sTA.1,sCA.1,qe,qj,qk,Src.isTmp,qg,Src.hangs,qn.isT,qi,qd,Nat.testBit,bne,simprocAttr,-Int.reduceNatCast',qa6,qT,qV,qak,qU,qeP,qaN,qag,qaY,qaG,qaB,if_true,eA,lA,eB,lB,x0,x1,c15,c24,hr,w5,w0,e4,xs,qb5,qb6,List.append_assoc,List.cons_append,List.nil_append] at hw
 subst hw
 simp only [List.append_assoc,List.cons_append,List.nil_append]
set_option maxHeartbeats 4000000 in
theorem qAH {a:Exl} {ta:Str} (ka:qdo a ta) {b:Exl} {tb:Str} (kb:qdo b tb):Wd (.fn 22 [] []) [exV (.mk 17 n nm sb [a,b])] G = some (.ret (.str (inn 6 (a.op,ta) ++ ([32,42,32] ++ inn 7 (b.op,tb)))),G,false):=by
 obtain ⟨A,hA,lA,eA⟩:=EA 6 ka
 obtain ⟨B,hB,lB,eB⟩:=EA 7 kb
 rw [←hA,←hB]
 clear hA ka hB kb
 obtain ⟨oa,na,m2a,sba,asa⟩:=a
 obtain ⟨ob,nb,m2b,sbb,asb⟩:=b
 rw [ql] at eA eB
 have x0:=qu (k:=5) (xs:=[exV (.mk oa na m2a sba asa),exV (.mk ob nb m2b sbb asb)]) (f:=.no) (j:=.i64) (n:=0) rfl (by rw [ql];rfl)
 have x1:=qu (k:=5) (xs:=[exV (.mk oa na m2a sba asa),exV (.mk ob nb m2b sbb asb)]) (f:=.no) (j:=.i64) (n:=1) rfl (by rw [ql];rfl)
 simp only [ql,cc0,cc1,cc2,qf.cells] at x0 x1
 have c15:ile 15 (17:Int) = true:=Eq.trans rfl rfl
 have c24:ile (17:Int) 24 = true:=Eq.trans rfl rfl
 have hr:=fun G=>qa8 (G:=G) (op:=17) (by omega) (by omega)
 rw [show rk 17 = 6 from rfl] at hr
 have w5:IntKind.i64.wrap 7 = 7:=by kernel_rfl
 have w0:IntKind.i64.wrap 2 = 2:=by kernel_rfl
 have e4:((6:Int) == 4) = false:=by kernel_rfl
 have xs:qa3 1 (.sl (G.length + 1) 0 10 10 0) (.int .i64 2) = some (.ptr (G.length + 1) 2):=ixs (G.length + 1) 2 (by omega)
 generalize hw:Wd _ _ G = w
 rw [ql,qt rfl (show T.get 22 = some c22 by kernel_rfl)] at hw
 simp only [List.map_cons,List.map_nil,ql] at hw
 simp only [c22,sT.1,sC.1,sTA.1,sCA.1,qe,qj,qk,Src.isTmp,qg,Src.hangs,qn.isT,qi,qd,Nat.testBit,bne,simprocAttr,-Int.reduceNatCast',qa6,qT,qV,qak,qU,qeP,qaN,qag,qaY,qaG,qaB,if_true,eA,lA,eB,lB,x0,x1,c15,c24,hr,w5,w0,e4,xs,qb5,qb6,List.append_assoc,List.cons_append,List.nil_append] at hw
 subst hw
 simp only [List.append_assoc,List.cons_append,List.nil_append]
set_option maxHeartbeats 4000000 in
theorem qAI {a:Exl} {ta:Str} (ka:qdo a ta) {b:Exl} {tb:Str} (kb:qdo b tb):Wd (.fn 22 [] []) [exV (.mk 18 n nm sb [a,b])] G = some (.ret (.str (inn 6 (a.op,ta) ++ ([32,47,32] ++ inn 7 (b.op,tb)))),G,false):=by
 obtain ⟨A,hA,lA,eA⟩:=EA 6 ka
 obtain ⟨B,hB,lB,eB⟩:=EA 7 kb
 rw [←hA,←hB]
 clear hA ka hB kb
 obtain ⟨oa,na,m2a,sba,asa⟩:=a
 obtain ⟨ob,nb,m2b,sbb,asb⟩:=b
 rw [ql] at eA eB
 have x0:=qu (k:=5) (xs:=[exV (.mk oa na m2a sba asa),exV (.mk ob nb m2b sbb asb)]) (f:=.no) (j:=.i64) (n:=0) rfl (by rw [ql];rfl)
 have x1:=qu (k:=5) (xs:=[exV (.mk oa na m2a sba asa),exV (.mk ob nb m2b sbb asb)]) (f:=.no) (j:=.i64) (n:=1) rfl (by rw [ql];rfl)
 simp only [ql,cc0,cc1,cc2,qf.cells] at x0 x1
 have c15:ile 15 (18:Int) = true:=Eq.trans rfl rfl
 have c24:ile (18:Int) 24 = true:=Eq.trans rfl rfl
 have hr:=fun G=>qa8 (G:=G) (op:=18) (by omega) (by omega)
 rw [show rk 18 = 6 from rfl] at hr
 have w5:IntKind.i64.wrap 7 = 7:=by kernel_rfl
 have w0:IntKind.i64.wrap 3 = 3:=by kernel_rfl
 have e4:((6:Int) == 4) = false:=by kernel_rfl
 have xs:qa3 1 (.sl (G.length + 1) 0 10 10 0) (.int .i64 3) = some (.ptr (G.length + 1) 3):=ixs (G.length + 1) 3 (by omega)
 generalize hw:Wd _ _ G = w
 rw [ql,qt rfl (show T.get 22 = some c22 by kernel_rfl)] at hw
 simp only [List.map_cons,List.map_nil,ql] at hw
 simp only [c22,sT.1,sC.1,sTA.1,sCA.1,qe,qj,qk,Src.isTmp,qg,Src.hangs,qn.isT,qi,qd,Nat.testBit,bne,simprocAttr,-Int.reduceNatCast',qa6,qT,qV,qak,qU,qeP,qaN,qag,qaY,qaG,qaB,if_true,eA,lA,eB,lB,x0,x1,c15,c24,hr,w5,w0,e4,xs,qb5,qb6,List.append_assoc,List.cons_append,List.nil_append] at hw
 subst hw
 simp only [List.append_assoc,List.cons_append,List.nil_append]
set_option maxHeartbeats 4000000 in
theorem qAJ {a:Exl} {ta:Str} (ka:qdo a ta) {b:Exl} {tb:Str} (kb:qdo b tb):Wd (.fn 22 [] []) [exV (.mk 19 n nm sb [a,b])] G = some (.ret (.str (inn 6 (a.op,ta) ++ ([32,37,32] ++ inn 7 (b.op,tb)))),G,false):=by
 obtain ⟨A,hA,lA,eA⟩:=EA 6 ka
 obtain ⟨B,hB,lB,eB⟩:=EA 7 kb
 rw [←hA,←hB]
 clear hA ka hB kb
 obtain ⟨oa,na,m2a,sba,asa⟩:=a
 obtain ⟨ob,nb,m2b,sbb,asb⟩:=b
 rw [ql] at eA eB
 have x0:=qu (k:=5) (xs:=[exV (.mk oa na m2a sba asa),exV (.mk ob nb m2b sbb asb)]) (f:=.no) (j:=.i64) (n:=0) rfl (by rw [ql];rfl)
 have x1:=qu (k:=5) (xs:=[exV (.mk oa na m2a sba asa),exV (.mk ob nb m2b sbb asb)]) (f:=.no) (j:=.i64) (n:=1) rfl (by rw [ql];rfl)
 simp only [ql,cc0,cc1,cc2,qf.cells] at x0 x1
 have c15:ile 15 (19:Int) = true:=Eq.trans rfl rfl
 have c24:ile (19:Int) 24 = true:=Eq.trans rfl rfl
 have hr:=fun G=>qa8 (G:=G) (op:=19) (by omega) (by omega)
 rw [show rk 19 = 6 from rfl] at hr
 have w5:IntKind.i64.wrap 7 = 7:=by kernel_rfl
 have w0:IntKind.i64.wrap 4 = 4:=by kernel_rfl
 have e4:((6:Int) == 4) = false:=by kernel_rfl
 have xs:qa3 1 (.sl (G.length + 1) 0 10 10 0) (.int .i64 4) = some (.ptr (G.length + 1) 4):=ixs (G.length + 1) 4 (by omega)
 generalize hw:Wd _ _ G = w
 rw [ql,qt rfl (show T.get 22 = some c22 by kernel_rfl)] at hw
 simp only [List.map_cons,List.map_nil,ql] at hw
 simp only [c22,sT.1,sC.1,sTA.1,sCA.1,qe,qj,qk,Src.isTmp,qg,Src.hangs,qn.isT,qi,qd,Nat.testBit,bne,simprocAttr,-Int.reduceNatCast',qa6,qT,qV,qak,qU,qeP,qaN,qag,qaY,qaG,qaB,if_true,eA,lA,eB,lB,x0,x1,c15,c24,hr,w5,w0,e4,xs,qb5,qb6,List.append_assoc,List.cons_append,List.nil_append] at hw
 subst hw
 simp only [List.append_assoc,List.cons_append,List.nil_append]
set_option maxHeartbeats 4000000 in
theorem qAK {a:Exl} {ta:Str} (ka:qdo a ta) {b:Exl} {tb:Str} (kb:qdo b tb):Wd (.fn 22 [] []) [exV (.mk 20 n nm sb [a,b])] G = some (.ret (.str (inn 5 (a.op,ta) ++ ([32,61,32] ++ inn 5 (b.op,tb)))),G,false):=by
 obtain ⟨A,hA,lA,eA⟩:=EA 5 ka
 obtain ⟨B,hB,lB,eB⟩:=EA 5 kb
 rw [←hA,←hB]
 clear hA ka hB kb
 obtain ⟨oa,na,m2a,sba,asa⟩:=a
 obtain ⟨ob,nb,m2b,sbb,asb⟩:=b
 rw [ql] at eA eB
 have x0:=qu (k:=5) (xs:=[exV (.mk oa na m2a sba asa),exV (.mk ob nb m2b sbb asb)]) (f:=.no) (j:=.i64) (n:=0) rfl (by rw [ql];rfl)
 have x1:=qu (k:=5) (xs:=[exV (.mk oa na m2a sba asa),exV (.mk ob nb m2b sbb asb)]) (f:=.no) (j:=.i64) (n:=1) rfl (by rw [ql];rfl)
 simp only [ql,cc0,cc1,cc2,qf.cells] at x0 x1
 have c15:ile 15 (20:Int) = true:=Eq.trans rfl rfl
 have c24:ile (20:Int) 24 = true:=Eq.trans rfl rfl
 have hr:=fun G=>qa8 (G:=G) (op:=20) (by omega) (by omega)
 rw [show rk 20 = 4 from rfl] at hr
 have w5:IntKind.i64.wrap 5 = 5:=by kernel_rfl
 have w0:IntKind.i64.wrap 5 = 5:=by kernel_rfl
 have e4:((4:Int) == 4) = true:=by kernel_rfl
 have xs:qa3 1 (.sl (G.length + 1) 0 10 10 0) (.int .i64 5) = some (.ptr (G.length + 1) 5):=ixs (G.length + 1) 5 (by omega)
 generalize hw:Wd _ _ G = w
 rw [ql,qt rfl (show T.get 22 = some c22 by kernel_rfl)] at hw
 simp only [List.map_cons,List.map_nil,ql] at hw
 simp only [c22,sT.1,sC.1,sTA.1,sCA.1,qe,qj,qk,Src.isTmp,qg,Src.hangs,qn.isT,qi,qd,Nat.testBit,bne,simprocAttr,-Int.reduceNatCast',qa6,qT,qV,qak,qU,qeP,qaN,qag,qaY,qaG,qaB,if_true,eA,lA,eB,lB,x0,x1,c15,c24,hr,w5,w0,e4,xs,qb5,qb6,List.append_assoc,List.cons_append,List.nil_append] at hw
 subst hw
 simp only [List.append_assoc,List.cons_append,List.nil_append]
set_option maxHeartbeats 4000000 in
theorem qAL {a:Exl} {ta:Str} (ka:qdo a ta) {b:Exl} {tb:Str} (kb:qdo b tb):Wd (.fn 22 [] []) [exV (.mk 21 n nm sb [a,b])] G = some (.ret (.str (inn 5 (a.op,ta) ++ ([32,60,32] ++ inn 5 (b.op,tb)))),G,false):=by
 obtain ⟨A,hA,lA,eA⟩:=EA 5 ka
 obtain ⟨B,hB,lB,eB⟩:=EA 5 kb
 rw [←hA,←hB]
 clear hA ka hB kb
 obtain ⟨oa,na,m2a,sba,asa⟩:=a
 obtain ⟨ob,nb,m2b,sbb,asb⟩:=b
 rw [ql] at eA eB
 have x0:=qu (k:=5) (xs:=[exV (.mk oa na m2a sba asa),exV (.mk ob nb m2b sbb asb)]) (f:=.no) (j:=.i64) (n:=0) rfl (by rw [ql];rfl)
 have x1:=qu (k:=5) (xs:=[exV (.mk oa na m2a sba asa),exV (.mk ob nb m2b sbb asb)]) (f:=.no) (j:=.i64) (n:=1) rfl (by rw [ql];rfl)
 simp only [ql,cc0,cc1,cc2,qf.cells] at x0 x1
 have c15:ile 15 (21:Int) = true:=Eq.trans rfl rfl
 have c24:ile (21:Int) 24 = true:=Eq.trans rfl rfl
 have hr:=fun G=>qa8 (G:=G) (op:=21) (by omega) (by omega)
 rw [show rk 21 = 4 from rfl] at hr
 have w5:IntKind.i64.wrap 5 = 5:=by kernel_rfl
 have w0:IntKind.i64.wrap 6 = 6:=by kernel_rfl
 have e4:((4:Int) == 4) = true:=by kernel_rfl
 have xs:qa3 1 (.sl (G.length + 1) 0 10 10 0) (.int .i64 6) = some (.ptr (G.length + 1) 6):=ixs (G.length + 1) 6 (by omega)
 generalize hw:Wd _ _ G = w
 rw [ql,qt rfl (show T.get 22 = some c22 by kernel_rfl)] at hw
 simp only [List.map_cons,List.map_nil,ql] at hw
 simp only [c22,sT.1,sC.1,sTA.1,sCA.1,qe,qj,qk,Src.isTmp,qg,Src.hangs,qn.isT,qi,qd,Nat.testBit,bne,simprocAttr,-Int.reduceNatCast',qa6,qT,qV,qak,qU,qeP,qaN,qag,qaY,qaG,qaB,if_true,eA,lA,eB,lB,x0,x1,c15,c24,hr,w5,w0,e4,xs,qb5,qb6,List.append_assoc,List.cons_append,List.nil_append] at hw
 subst hw
 simp only [List.append_assoc,List.cons_append,List.nil_append]
set_option maxHeartbeats 4000000 in
theorem qAM {a:Exl} {ta:Str} (ka:qdo a ta) {b:Exl} {tb:Str} (kb:qdo b tb):Wd (.fn 22 [] []) [exV (.mk 22 n nm sb [a,b])] G = some (.ret (.str (inn 5 (a.op,ta) ++ ([32,60,61,32] ++ inn 5 (b.op,tb)))),G,false):=by
 obtain ⟨A,hA,lA,eA⟩:=EA 5 ka
 obtain ⟨B,hB,lB,eB⟩:=EA 5 kb
 rw [←hA,←hB]
 clear hA ka hB kb
 obtain ⟨oa,na,m2a,sba,asa⟩:=a
 obtain ⟨ob,nb,m2b,sbb,asb⟩:=b
 rw [ql] at eA eB
 have x0:=qu (k:=5) (xs:=[exV (.mk oa na m2a sba asa),exV (.mk ob nb m2b sbb asb)]) (f:=.no) (j:=.i64) (n:=0) rfl (by rw [ql];rfl)
 have x1:=qu (k:=5) (xs:=[exV (.mk oa na m2a sba asa),exV (.mk ob nb m2b sbb asb)]) (f:=.no) (j:=.i64) (n:=1) rfl (by rw [ql];rfl)
 simp only [ql,cc0,cc1,cc2,qf.cells] at x0 x1
 have c15:ile 15 (22:Int) = true:=Eq.trans rfl rfl
 have c24:ile (22:Int) 24 = true:=Eq.trans rfl rfl
 have hr:=fun G=>qa8 (G:=G) (op:=22) (by omega) (by omega)
 rw [show rk 22 = 4 from rfl] at hr
 have w5:IntKind.i64.wrap 5 = 5:=by kernel_rfl
 have w0:IntKind.i64.wrap 7 = 7:=by kernel_rfl
 have e4:((4:Int) == 4) = true:=by kernel_rfl
 have xs:qa3 1 (.sl (G.length + 1) 0 10 10 0) (.int .i64 7) = some (.ptr (G.length + 1) 7):=ixs (G.length + 1) 7 (by omega)
 generalize hw:Wd _ _ G = w
 rw [ql,qt rfl (show T.get 22 = some c22 by kernel_rfl)] at hw
 simp only [List.map_cons,List.map_nil,ql] at hw
 simp only [c22,sT.1,sC.1,sTA.1,sCA.1,qe,qj,qk,Src.isTmp,qg,Src.hangs,qn.isT,qi,qd,Nat.testBit,bne,simprocAttr,-Int.reduceNatCast',qa6,qT,qV,qak,qU,qeP,qaN,qag,qaY,qaG,qaB,if_true,eA,lA,eB,lB,x0,x1,c15,c24,hr,w5,w0,e4,xs,qb5,qb6,List.append_assoc,List.cons_append,List.nil_append] at hw
 subst hw
 simp only [List.append_assoc,List.cons_append,List.nil_append]
set_option maxHeartbeats 4000000 in
theorem qAN {a:Exl} {ta:Str} (ka:qdo a ta) {b:Exl} {tb:Str} (kb:qdo b tb):Wd (.fn 22 [] []) [exV (.mk 23 n nm sb [a,b])] G = some (.ret (.str (inn 2 (a.op,ta) ++ ([32,97,110,100,32] ++ inn 3 (b.op,tb)))),G,false):=by
 obtain ⟨A,hA,lA,eA⟩:=EA 2 ka
 obtain ⟨B,hB,lB,eB⟩:=EA 3 kb
 rw [←hA,←hB]
 clear hA ka hB kb
 obtain ⟨oa,na,m2a,sba,asa⟩:=a
 obtain ⟨ob,nb,m2b,sbb,asb⟩:=b
 rw [ql] at eA eB
 have x0:=qu (k:=5) (xs:=[exV (.mk oa na m2a sba asa),exV (.mk ob nb m2b sbb asb)]) (f:=.no) (j:=.i64) (n:=0) rfl (by rw [ql];rfl)
 have x1:=qu (k:=5) (xs:=[exV (.mk oa na m2a sba asa),exV (.mk ob nb m2b sbb asb)]) (f:=.no) (j:=.i64) (n:=1) rfl (by rw [ql];rfl)
 simp only [ql,cc0,cc1,cc2,qf.cells] at x0 x1
 have c15:ile 15 (23:Int) = true:=Eq.trans rfl rfl
 have c24:ile (23:Int) 24 = true:=Eq.trans rfl rfl
 have hr:=fun G=>qa8 (G:=G) (op:=23) (by omega) (by omega)
 rw [show rk 23 = 2 from rfl] at hr
 have w5:IntKind.i64.wrap 3 = 3:=by kernel_rfl
 have w0:IntKind.i64.wrap 8 = 8:=by kernel_rfl
 have e4:((2:Int) == 4) = false:=by kernel_rfl
 have xs:qa3 1 (.sl (G.length + 1) 0 10 10 0) (.int .i64 8) = some (.ptr (G.length + 1) 8):=ixs (G.length + 1) 8 (by omega)
 generalize hw:Wd _ _ G = w
 rw [ql,qt rfl (show T.get 22 = some c22 by kernel_rfl)] at hw
 simp only [List.map_cons,List.map_nil,ql] at hw
 simp only [c22,sT.1,sC.1,sTA.1,sCA.1,qe,qj,qk,Src.isTmp,qg,Src.hangs,qn.isT,qi,qd,Nat.testBit,bne,simprocAttr,-Int.reduceNatCast',qa6,qT,qV,qak,qU,qeP,qaN,qag,qaY,qaG,qaB,if_true,eA,lA,eB,lB,x0,x1,c15,c24,hr,w5,w0,e4,xs,qb5,qb6,List.append_assoc,List.cons_append,List.nil_append] at hw
 subst hw
 simp only [List.append_assoc,List.cons_append,List.nil_append]
set_option maxHeartbeats 4000000 in
theorem qAO {a:Exl} {ta:Str} (ka:qdo a ta) {b:Exl} {tb:Str} (kb:qdo b tb):Wd (.fn 22 [] []) [exV (.mk 24 n nm sb [a,b])] G = some (.ret (.str (inn 1 (a.op,ta) ++ ([32,111,114,32] ++ inn 2 (b.op,tb)))),G,false):=by
 obtain ⟨A,hA,lA,eA⟩:=EA 1 ka
 obtain ⟨B,hB,lB,eB⟩:=EA 2 kb
 rw [←hA,←hB]
 clear hA ka hB kb
 obtain ⟨oa,na,m2a,sba,asa⟩:=a
 obtain ⟨ob,nb,m2b,sbb,asb⟩:=b
 rw [ql] at eA eB
 have x0:=qu (k:=5) (xs:=[exV (.mk oa na m2a sba asa),exV (.mk ob nb m2b sbb asb)]) (f:=.no) (j:=.i64) (n:=0) rfl (by rw [ql];rfl)
 have x1:=qu (k:=5) (xs:=[exV (.mk oa na m2a sba asa),exV (.mk ob nb m2b sbb asb)]) (f:=.no) (j:=.i64) (n:=1) rfl (by rw [ql];rfl)
 simp only [ql,cc0,cc1,cc2,qf.cells] at x0 x1
 have c15:ile 15 (24:Int) = true:=Eq.trans rfl rfl
 have c24:ile (24:Int) 24 = true:=Eq.trans rfl rfl
 have hr:=fun G=>qa8 (G:=G) (op:=24) (by omega) (by omega)
 rw [show rk 24 = 1 from rfl] at hr
 have w5:IntKind.i64.wrap 2 = 2:=by kernel_rfl
 have w0:IntKind.i64.wrap 9 = 9:=by kernel_rfl
 have e4:((1:Int) == 4) = false:=by kernel_rfl
 have xs:qa3 1 (.sl (G.length + 1) 0 10 10 0) (.int .i64 9) = some (.ptr (G.length + 1) 9):=ixs (G.length + 1) 9 (by omega)
 generalize hw:Wd _ _ G = w
 rw [ql,qt rfl (show T.get 22 = some c22 by kernel_rfl)] at hw
 simp only [List.map_cons,List.map_nil,ql] at hw
 simp only [c22,sT.1,sC.1,sTA.1,sCA.1,qe,qj,qk,Src.isTmp,qg,Src.hangs,qn.isT,qi,qd,Nat.testBit,bne,simprocAttr,-Int.reduceNatCast',qa6,qT,qV,qak,qU,qeP,qaN,qag,qaY,qaG,qaB,if_true,eA,lA,eB,lB,x0,x1,c15,c24,hr,w5,w0,e4,xs,qb5,qb6,List.append_assoc,List.cons_append,List.nil_append] at hw
 subst hw
 simp only [List.append_assoc,List.cons_append,List.nil_append]
set_option maxHeartbeats 4000000 in
theorem qyv {a:Exl} {ta:Str} (ka:qdo a ta) (ho:(a.op == 0) = false) (hn0:0 ≤ n) (hn1:n ≤ 3):Wd (.fn 22 [] []) [exV (.mk 12 n nm sb [a])] G = some (.ret (.str (inn 8 (a.op,ta) ++ (46 :: Lib.itoa n))),G,false):=by
 obtain ⟨A,hA,lA,eA⟩:=EA 8 ka
 rw [←hA]
 clear hA ka
 obtain ⟨oa,na,m2a,sba,asa⟩:=a
 rw [ql] at eA
 have x0:=qu (k:=5) (xs:=[exV (.mk oa na m2a sba asa)]) (f:=.no) (j:=.i64) (n:=0) rfl (by rw [ql];rfl)
 simp only [ql,cc0,cc1,cc2,qf.cells] at x0
 have c15:ile 15 (12:Int) = false:=Eq.trans rfl rfl
 have hD:=fun G=>qmM (G:=G) hn0 (by omega)
 have lD:∀k,19 ≤ k→(Lib.itoa n).length ≤ k:=fun k hk=>by have:=(qfs hn0 (by omega)).2;omega
 generalize Lib.itoa n = D at *
 simp only [Exl.op] at ho
 generalize hw:Wd _ _ G = w
 rw [ql,qt rfl (show T.get 22 = some c22 by kernel_rfl)] at hw
 simp only [List.map_cons,List.map_nil,ql] at hw
 simp only [c22,sT.1,sC.1,sTA.1,sCA.1,qe,qj,qk,Src.isTmp,qg,Src.hangs,qn.isT,qi,qd,Nat.testBit,bne,simprocAttr,-Int.reduceNatCast',qa6,qT,qV,qak,qU,qeP,qaN,qag,qaY,qaG,qaB,if_true,eA,lA,x0,c15,hD,lD,ho,qb5,qb6,List.append_assoc,List.cons_append,List.nil_append] at hw
 subst hw
 simp only [List.append_assoc,List.cons_append,List.nil_append]
set_option maxHeartbeats 4000000 in
theorem qyw {a:Exl} {ta:Str} (ka:qdo a ta) (ho:(a.op == 0) = true) (hn0:0 ≤ n) (hn1:n ≤ 3):Wd (.fn 22 [] []) [exV (.mk 12 n nm sb [a])] G = some (.ret (.str (40 :: (ta ++ [41]) ++ (46 :: Lib.itoa n))),G,false):=by
 obtain ⟨_,lt,eB⟩:=ka
 have lA:∀k,50000 ≤ k→ta.length ≤ k:=fun k hk=>by omega
 obtain ⟨oa,na,m2a,sba,asa⟩:=a
 rw [ql] at eB
 have x0:=qu (k:=5) (xs:=[exV (.mk oa na m2a sba asa)]) (f:=.no) (j:=.i64) (n:=0) rfl (by rw [ql];rfl)
 simp only [ql,cc0,qf.cells] at x0
 have c15:ile 15 (12:Int) = false:=Eq.trans rfl rfl
 have hD:=fun G=>qmM (G:=G) hn0 (by omega)
 have lD:∀k,19 ≤ k→(Lib.itoa n).length ≤ k:=fun k hk=>by have:=(qfs hn0 (by omega)).2;omega
 generalize Lib.itoa n = D at *
 simp only [Exl.op] at ho
 generalize hw:Wd _ _ G = w
 rw [ql,qt rfl (show T.get 22 = some c22 by kernel_rfl)] at hw
 simp only [List.map_cons,List.map_nil,ql] at hw
 simp only [c22,sT.1,sC.1,sTA.1,sCA.1,qe,qj,qk,Src.isTmp,qg,Src.hangs,qn.isT,qi,qd,Nat.testBit,bne,simprocAttr,-Int.reduceNatCast',qa6,qT,qV,qak,qU,qeP,qaN,qag,qaY,qaG,qaB,if_true,eB,lA,x0,c15,hD,lD,ho,qb5,qb6,List.append_assoc,List.cons_append,List.nil_append] at hw
 subst hw
 simp only [List.append_assoc,List.cons_append,List.nil_append]
end
end Go.Proofs.YtkmlapholimbcaaGreatDoor.AE
