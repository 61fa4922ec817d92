/- A part of the proof: the abstract executor and what goes through it (part 9). No condition. -/
import Derived.Test.YtkmlapholimbcaaGreatDoorMs8
set_option maxRecDepth 100000
namespace Go.Proofs.YtkmlapholimbcaaGreatDoor.AE
open Go.AE
section
variable {S:Str} {G:List ABox} {id:Nat} {n:Int} {nm sb:Str}
set_option maxHeartbeats 4000000 in
theorem tn_6 (hS:S.length ≤ limit) {aS:List Exl} {f:Exl→Str} (h:∀a ∈ aS,TxtO S a (f a)) (hl:aS.length ≤ 100) (hlt:id < G.length) (hb:isB G[id]? = true) (hp:bsO G[id]? ++ tupT (aS.map fun a=>(a.op,f a)) <+: S) :
  Wd (.fn 37 [] []) [.ptr id 0,exV (.mk 6 n nm sb aS)] G = some (.ret (.tup []),G.set id (BX (bsO G[id]? ++ tupT (aS.map fun a=>(a.op,f a)))),false):=by
 have e:=isB_ex hb
 generalize bsO G[id]? = s at *
 have hle:id < G.length + 1:=by omega
 have ht:=fun {G id}=>tuple_ok (G:=G) (id:=id) hS h hl
 generalize hw:Wd _ _ G = w
 rw [exV_mk,Wd_fn rfl (show T.get 37 = some c37 by kernel_rfl)] at hw
 simp only [c37,sT.1,sC.1,noApp,lookV,Nat.testBit,simprocAttr,-Int.reduceNatCast',ht,hp,hlt,hle,e,bsO_BX,isB_BX,List.getElem?_append_left,List.set_append_left,List.getElem?_set_self,List.length_set,List.length_append,List.length_cons,List.length_nil] at hw
 subst hw
 rfl
set_option maxHeartbeats 4000000 in
theorem tn_12 (hS:S.length ≤ limit) {a:Exl} {t:Str} (h:TxtO S a t) (hn0:0 ≤ n) (hn1:n ≤ 3) (hlt:id < G.length) (hb:isB G[id]? = true) (hp:bsO G[id]? ++ (inn (bif a.op == 0 then 10 else 8) (a.op,t) ++ (46 :: Lib.itoa n)) <+: S) :
  Wd (.fn 37 [] []) [.ptr id 0,exV (.mk 12 n nm sb [a])] G = some (.ret (.tup []),G.set id (BX (bsO G[id]? ++ (inn (bif a.op == 0 then 10 else 8) (a.op,t) ++ (46 :: Lib.itoa n)))),false):=by
 have e:=isB_ex hb
 generalize bsO G[id]? = s at *
 have hle:id < G.length + 1:=by omega
 have ht:=fun {G id}=>item_ok hS h 12 n nm sb hn0 hn1 G id
 generalize inn (bif a.op == 0 then 10 else 8) (a.op,t) ++ (46 :: Lib.itoa n) = u at *
 rw [exV_mk,List.map_cons,List.map_nil] at ht
 generalize hw:Wd _ _ G = w
 rw [exV_mk,Wd_fn rfl (show T.get 37 = some c37 by kernel_rfl)] at hw
 simp only [c37,sT.1,sC.1,noApp,lookV,Nat.testBit,simprocAttr,-Int.reduceNatCast',ht,hp,hlt,hle,e,bsO_BX,isB_BX,List.getElem?_append_left,List.set_append_left,List.getElem?_set_self,List.length_set,List.length_append,List.length_cons,List.length_nil] at hw
 subst hw
 rfl
end
def OkN:Exl→Prop
 | .mk _ n _ _ aS=>n ≤ 9223372036854775807∧∀a ∈ aS,OkN a
theorem OkN_mk {op n:Int} {nm sb:Str} {aS:List Exl} (h:OkN (.mk op n nm sb aS)):n ≤ 9223372036854775807∧∀a ∈ aS,OkN a:=by rw [OkN] at h;exact h
theorem one_of {α:Type} {l:List α} (h:l.length = 1):∃a,l = [a]:=by
 match l,h with
 | [a],_=>exact ⟨a,rfl⟩
theorem two_of {α:Type} {l:List α} (h:l.length = 2):∃a b,l = [a,b]:=by
 match l,h with
 | [a,b],_=>exact ⟨a,b,rfl⟩
theorem three_of {α:Type} {l:List α} (h:l.length = 3):∃a b c,l = [a,b,c]:=by
 match l,h with
 | [a,b,c],_=>exact ⟨a,b,c,rfl⟩
theorem text_node {S:Str} (hS:S.length ≤ limit) {op n:Int} {nm sb:Str} {aS:List Exl} {f:Exl→Str} (hb:nodeB op n nm sb aS.length = true) (hn:n ≤ 9223372036854775807) (h:∀a ∈ aS,TxtO S a (f a)):TxtO S (.mk op n nm sb aS) (ntx op n nm sb (aS.map fun a=>(a.op,f a))):=by
 have ho:0 ≤ op∧op ≤ 25:=Decidable.byContradiction fun hc=>by rw [nodeB_no hc] at hb;cases hb
 refine ⟨ho,fun G id hlt hB hp=>?_⟩
 have an:∀{a b:Bool},(a && b) = true→a = true∧b = true:=fun h=>(Bool.and_eq_true _ _).mp h
 have:op = 0∨op = 1∨op = 2∨op = 3∨op = 4∨op = 5∨op = 6∨op = 7∨op = 8∨op = 9∨op = 10∨op = 11∨op = 12∨op = 13∨op = 14∨op = 15∨op = 16∨op = 17∨op = 18∨op = 19∨op = 20∨op = 21∨op = 22∨op = 23∨op = 24∨op = 25:=by omega
 rcases this with rfl | rfl | rfl | rfl | rfl | rfl | rfl | rfl | rfl | rfl | rfl | rfl | rfl | rfl | rfl | rfl | rfl | rfl | rfl | rfl | rfl | rfl | rfl | rfl | rfl | rfl
 ·obtain ⟨h1,h2⟩:=an (show (fB _ _ _ _ _ n nm sb aS.length && ile 0 n) = true from hb)
  have hl:aS = []:=List.length_eq_zero_iff.1 (by have:=fB_len h1;omega)
  subst hl
  rw [ile_eq] at h2
  exact tn_0 hS (of_decide_eq_true h2) hn hlt hB hp
 ·have h1:fB false false false 0 0 n nm sb aS.length = true:=hb
  have hl:aS = []:=List.length_eq_zero_iff.1 (by have:=fB_len h1;omega)
  subst hl
  exact tn_1 hS hlt hB hp
 ·have h1:fB false false false 0 0 n nm sb aS.length = true:=hb
  have hl:aS = []:=List.length_eq_zero_iff.1 (by have:=fB_len h1;omega)
  subst hl
  exact tn_2 hS hlt hB hp
 ·obtain ⟨h1,h2⟩:=an (show (fB _ _ _ _ _ n nm sb aS.length && vName nm) = true from hb)
  have hl:aS = []:=List.length_eq_zero_iff.1 (by have:=fB_len h1;omega)
  subst hl
  exact tn_3 hS (vName_len h2).2 hlt hB hp
 ·obtain ⟨h1,h2⟩:=an (show (fB _ _ _ _ _ n nm sb aS.length && isName nm) = true from hb)
  have hl:aS = []:=List.length_eq_zero_iff.1 (by have:=fB_len h1;omega)
  subst hl
  exact tn_4 hS (isName_len h2).2 hlt hB hp
 ·obtain ⟨h1,h2⟩:=an (show (fB _ _ _ _ _ n nm sb aS.length && (isName nm && isName sb)) = true from hb)
  obtain ⟨h2,h3⟩:=an h2
  have hl:aS = []:=List.length_eq_zero_iff.1 (by have:=fB_len h1;omega)
  subst hl
  exact tn_5 hS (isName_len h2).2 (isName_len h3).2 hlt hB hp
 ·have h1:fB false false false 1 4 n nm sb aS.length = true:=hb
  exact tn_6 hS h (by have:=fB_len h1;omega) hlt hB hp
 ·obtain ⟨h1,h2⟩:=an (show (fB _ _ _ _ _ n nm sb aS.length && isName nm) = true from hb)
  have hl:aS = []:=List.length_eq_zero_iff.1 (by have:=fB_len h1;omega)
  subst hl
  exact tn_7 hS (isName_len h2).2 hlt hB hp
 ·obtain ⟨h1,h2⟩:=an (show (fB _ _ _ _ _ n nm sb aS.length && isName nm) = true from hb)
  have hl:aS = []:=List.length_eq_zero_iff.1 (by have:=fB_len h1;omega)
  subst hl
  exact tn_8 hS (isName_len h2).2 hlt hB hp
 ·obtain ⟨h1,h2⟩:=an (show (fB _ _ _ _ _ n nm sb aS.length && isName nm) = true from hb)
  have hl:aS = []:=List.length_eq_zero_iff.1 (by have:=fB_len h1;omega)
  subst hl
  exact tn_9 hS (isName_len h2).2 hlt hB hp
 ·obtain ⟨h1,h2⟩:=an (show (fB _ _ _ 1 1 n nm sb aS.length && isName nm) = true from hb)
  obtain ⟨a,rfl⟩:=one_of (l:=aS) (by have:=fB_len h1;omega)
  exact tn_10 hS (h a (by simp)) (isName_len h2).2 hlt hB hp
 ·have h1:fB false false false 0 0 n nm sb aS.length = true:=hb
  have hl:aS = []:=List.length_eq_zero_iff.1 (by have:=fB_len h1;omega)
  subst hl
  exact tn_11 hS hlt hB hp
 ·obtain ⟨h1,h2⟩:=an (show (fB _ _ _ 1 1 n nm sb aS.length && (ile 0 n && ilt n 4)) = true from hb)
  obtain ⟨a,rfl⟩:=one_of (l:=aS) (by have:=fB_len h1;omega)
  simp only [Bool.and_eq_true,ile_eq,ilt_eq,decide_eq_true_eq] at h2
  exact tn_12 hS (h a (by simp)) h2.1 (by omega) hlt hB hp
 ·have h1:fB false false false 1 1 n nm sb aS.length = true:=hb
  obtain ⟨a,rfl⟩:=one_of (l:=aS) (by have:=fB_len h1;omega)
  exact tn_13 hS (h a (by simp)) hlt hB hp
 ·have h1:fB false false false 1 1 n nm sb aS.length = true:=hb
  obtain ⟨a,rfl⟩:=one_of (l:=aS) (by have:=fB_len h1;omega)
  exact tn_14 hS (h a (by simp)) hlt hB hp
 ·have h1:fB false false false 2 2 n nm sb aS.length = true:=hb
  obtain ⟨a,b,rfl⟩:=two_of (l:=aS) (by have:=fB_len h1;omega)
  exact tn_15 hS (h a (by simp)) (h b (by simp)) hlt hB hp
 ·have h1:fB false false false 2 2 n nm sb aS.length = true:=hb
  obtain ⟨a,b,rfl⟩:=two_of (l:=aS) (by have:=fB_len h1;omega)
  exact tn_16 hS (h a (by simp)) (h b (by simp)) hlt hB hp
 ·have h1:fB false false false 2 2 n nm sb aS.length = true:=hb
  obtain ⟨a,b,rfl⟩:=two_of (l:=aS) (by have:=fB_len h1;omega)
  exact tn_17 hS (h a (by simp)) (h b (by simp)) hlt hB hp
 ·have h1:fB false false false 2 2 n nm sb aS.length = true:=hb
  obtain ⟨a,b,rfl⟩:=two_of (l:=aS) (by have:=fB_len h1;omega)
  exact tn_18 hS (h a (by simp)) (h b (by simp)) hlt hB hp
 ·have h1:fB false false false 2 2 n nm sb aS.length = true:=hb
  obtain ⟨a,b,rfl⟩:=two_of (l:=aS) (by have:=fB_len h1;omega)
  exact tn_19 hS (h a (by simp)) (h b (by simp)) hlt hB hp
 ·have h1:fB false false false 2 2 n nm sb aS.length = true:=hb
  obtain ⟨a,b,rfl⟩:=two_of (l:=aS) (by have:=fB_len h1;omega)
  exact tn_20 hS (h a (by simp)) (h b (by simp)) hlt hB hp
 ·have h1:fB false false false 2 2 n nm sb aS.length = true:=hb
  obtain ⟨a,b,rfl⟩:=two_of (l:=aS) (by have:=fB_len h1;omega)
  exact tn_21 hS (h a (by simp)) (h b (by simp)) hlt hB hp
 ·have h1:fB false false false 2 2 n nm sb aS.length = true:=hb
  obtain ⟨a,b,rfl⟩:=two_of (l:=aS) (by have:=fB_len h1;omega)
  exact tn_22 hS (h a (by simp)) (h b (by simp)) hlt hB hp
 ·have h1:fB false false false 2 2 n nm sb aS.length = true:=hb
  obtain ⟨a,b,rfl⟩:=two_of (l:=aS) (by have:=fB_len h1;omega)
  exact tn_23 hS (h a (by simp)) (h b (by simp)) hlt hB hp
 ·have h1:fB false false false 2 2 n nm sb aS.length = true:=hb
  obtain ⟨a,b,rfl⟩:=two_of (l:=aS) (by have:=fB_len h1;omega)
  exact tn_24 hS (h a (by simp)) (h b (by simp)) hlt hB hp
 ·have h1:fB false false false 3 3 n nm sb aS.length = true:=hb
  obtain ⟨a,b,c,rfl⟩:=three_of (l:=aS) (by have:=fB_len h1;omega)
  exact tn_25 hS (h a (by simp)) (h b (by simp)) (h c (by simp)) hlt hB hp
theorem text_ok {S:Str} (hS:S.length ≤ limit):∀(d:Nat) (e:Exl),right d e = true→OkN e→TxtO S e (tx d e)
 | 0,_,h,_=>by rw [right] at h;cases h
 | d + 1,.mk op n nm sb aS,h,hn=>by
  rw [right,Bool.and_eq_true,List.all_eq_true] at h
  obtain ⟨h1,h2⟩:=OkN_mk hn
  rw [tx]
  exact text_node hS h.1 h1 fun a ha=>text_ok hS d a (h.2 a ha) (h2 a ha)
end Go.Proofs.YtkmlapholimbcaaGreatDoor.AE
namespace Go.Proofs.YtkmlapholimbcaaGreatDoor.AE
open Go.AE
theorem dec_len:∀(k u:Nat),u < 10 ^ (k + 1)→1 ≤ (Lib.decDigits u).length∧(Lib.decDigits u).length ≤ k + 1
 | k,u,h=>by
  rw [Lib.decDigits]
  split
  ·simp
  ·cases k with
   | zero=>omega
   | succ k=>
    have:=dec_len k (u / 10) (by rw [Nat.pow_succ] at h;omega)
    simp
    omega
theorem itoa_len {n:Int} (h0:0 ≤ n) (h1:n ≤ 9223372036854775807):1 ≤ (Lib.itoa n).length∧(Lib.itoa n).length ≤ 19:=by
 rw [Lib.itoa,if_neg (by omega)]
 exact dec_len 18 n.toNat (by omega)
theorem inn_len (k:Int) (p:Int×Str):(inn k p).length ≤ p.2.length + 2:=by
 rw [inn]
 cases ile k (rk p.1) <;> simp
theorem joinC_len (l:List Str):(joinC l).length ≤ (l.map fun t=>t.length + 2).sum:=by
 cases l with
 | nil=>simp [joinC]
 | cons x r=>
  simp only [joinC,List.length_append,List.map_cons,List.sum_cons]
  have:((r.map fun t=>44 :: 32 :: t).flatten).length = (r.map fun t=>t.length + 2).sum:=by
   rw [List.length_flatten,List.map_map]
   rfl
  omega
theorem sum_le {α:Type} {l:List α} {f g:α→Nat} (h:∀a ∈ l,f a ≤ g a):(l.map f).sum ≤ (l.map g).sum:=by
 induction l with
 | nil=>simp
 | cons a l ih=>
  simp only [List.map_cons,List.sum_cons]
  have:=h a (by simp)
  have:=ih fun b hb=>h b (by simp [hb])
  omega
theorem ntx_len {op n:Int} {nm sb:Str} {ps:List (Int×Str)} (hb:nodeB op n nm sb ps.length = true) (hn:n ≤ 9223372036854775807):1 ≤ (ntx op n nm sb ps).length∧(ntx op n nm sb ps).length ≤ 40 + (ps.map fun p=>p.2.length + 4).sum:=by
 have ho:0 ≤ op∧op ≤ 25:=Decidable.byContradiction fun hc=>by rw [nodeB_no hc] at hb;cases hb
 have an:∀{a b:Bool},(a && b) = true→a = true∧b = true:=fun h=>(Bool.and_eq_true _ _).mp h
 have:op = 0∨op = 1∨op = 2∨op = 3∨op = 4∨op = 5∨op = 6∨op = 7∨op = 8∨op = 9∨op = 10∨op = 11∨op = 12∨op = 13∨op = 14∨op = 15∨op = 16∨op = 17∨op = 18∨op = 19∨op = 20∨op = 21∨op = 22∨op = 23∨op = 24∨op = 25:=by omega
 have two:∀{j k:Int} {w:Str},ps.length = 2→1 ≤ w.length→w.length ≤ 5→1 ≤ (inn j (ps.getD 0 (0,[])) ++ (w ++ inn k (ps.getD 1 (0,[])))).length∧(inn j (ps.getD 0 (0,[])) ++ (w ++ inn k (ps.getD 1 (0,[])))).length ≤ 40 + (ps.map fun p=>p.2.length + 4).sum:=fun {j k w} hl h1 h2=>by
  obtain ⟨a,b,rfl⟩:=two_of hl
  have:=inn_len j a
  have:=inn_len k b
  simp only [List.getD_cons_zero,List.getD_cons_succ,List.length_append,List.map_cons,List.map_nil,List.sum_cons,List.sum_nil]
  omega
 rcases this with rfl | rfl | rfl | rfl | rfl | rfl | rfl | rfl | rfl | rfl | rfl | rfl | rfl | rfl | rfl | rfl | rfl | rfl | rfl | rfl | rfl | rfl | rfl | rfl | rfl | rfl
 ·obtain ⟨h1,h2⟩:=an (show (fB _ _ _ _ _ n nm sb ps.length && ile 0 n) = true from hb)
  rw [ile_eq] at h2
  have:=itoa_len (of_decide_eq_true h2) hn
  rw [show ntx 0 n nm sb ps = Lib.itoa n from rfl]
  omega
 ·rw [show ntx 1 n nm sb ps = [116,114,117,101] from rfl]
  simp
  omega
 ·rw [show ntx 2 n nm sb ps = [102,97,108,115,101] from rfl]
  simp
  omega
 ·obtain ⟨h1,h2⟩:=an (show (fB _ _ _ _ _ n nm sb ps.length && vName nm) = true from hb)
  have:=vName_len h2
  rw [show ntx 3 n nm sb ps = 39 :: nm from rfl]
  simp only [List.length_cons]
  omega
 ·obtain ⟨h1,h2⟩:=an (show (fB _ _ _ _ _ n nm sb ps.length && isName nm) = true from hb)
  have:=isName_len h2
  rw [show ntx 4 n nm sb ps = nm from rfl]
  try simp only [List.length_cons,List.length_append,List.length_nil]
  omega
 ·obtain ⟨h1,h2⟩:=an (show (fB _ _ _ _ _ n nm sb ps.length && (isName nm && isName sb)) = true from hb)
  obtain ⟨h2,h3⟩:=an h2
  have:=isName_len h2
  have:=isName_len h3
  rw [show ntx 5 n nm sb ps = nm ++ (46 :: sb) from rfl]
  simp only [List.length_cons,List.length_append]
  omega
 ·rw [show ntx 6 n nm sb ps = tupT ps from rfl,tupT]
  have h1:=joinC_len (ps.map (inn 0))
  rw [List.map_map] at h1
  have h2:=sum_le (l:=ps) (f:=(fun t=>t.length + 2) ∘ inn 0) (g:=fun p=>p.2.length + 4) fun p _=>by have:=inn_len 0 p;simp only [Function.comp];omega
  cases ps.length == 1 <;> simp only [cond_true,cond_false,List.length_cons,List.length_append,List.length_nil] <;> omega
 ·obtain ⟨h1,h2⟩:=an (show (fB _ _ _ _ _ n nm sb ps.length && isName nm) = true from hb)
  have:=isName_len h2
  rw [show ntx 7 n nm sb ps = [99,111,117,110,116,40] ++ (nm ++ [41]) from rfl]
  try simp only [List.length_cons,List.length_append,List.length_nil]
  omega
 ·obtain ⟨h1,h2⟩:=an (show (fB _ _ _ _ _ n nm sb ps.length && isName nm) = true from hb)
  have:=isName_len h2
  rw [show ntx 8 n nm sb ps = [104,97,115,40] ++ (nm ++ [41]) from rfl]
  try simp only [List.length_cons,List.length_append,List.length_nil]
  omega
 ·obtain ⟨h1,h2⟩:=an (show (fB _ _ _ _ _ n nm sb ps.length && isName nm) = true from hb)
  have:=isName_len h2
  rw [show ntx 9 n nm sb ps = [115,117,109,40] ++ (nm ++ [41]) from rfl]
  try simp only [List.length_cons,List.length_append,List.length_nil]
  omega
 ·obtain ⟨h1,h2⟩:=an (show (fB _ _ _ 1 1 n nm sb ps.length && isName nm) = true from hb)
  have:=isName_len h2
  obtain ⟨a,rfl⟩:=one_of (l:=ps) (by have:=fB_len h1;omega)
  rw [show ntx 10 n nm sb [a] = [108,101,97,115,116,40] ++ (nm ++ ([44,32] ++ (inn 0 a ++ [41]))) from rfl]
  have:=inn_len 0 a
  simp only [List.length_cons,List.length_append,List.length_nil,List.map_cons,List.map_nil,List.sum_cons,List.sum_nil]
  omega
 ·rw [show ntx 11 n nm sb ps = [101,108,97,112,115,101,100] from rfl]
  simp
  omega
 ·obtain ⟨h1,h2⟩:=an (show (fB _ _ _ 1 1 n nm sb ps.length && (ile 0 n && ilt n 4)) = true from hb)
  obtain ⟨a,rfl⟩:=one_of (l:=ps) (by have:=fB_len h1;omega)
  simp only [Bool.and_eq_true,ile_eq,ilt_eq,decide_eq_true_eq] at h2
  have:=itoa_len h2.1 hn
  rw [show ntx 12 n nm sb [a] = inn (bif a.1 == 0 then 10 else 8) a ++ (46 :: Lib.itoa n) from rfl]
  have:=inn_len (bif a.1 == 0 then 10 else 8) a
  simp only [List.length_cons,List.length_append,List.map_cons,List.map_nil,List.sum_cons,List.sum_nil]
  omega
 ·have h1:fB false false false 1 1 n nm sb ps.length = true:=hb
  obtain ⟨a,rfl⟩:=one_of (l:=ps) (by have:=fB_len h1;omega)
  rw [show ntx 13 n nm sb [a] = 45 :: inn 7 a from rfl]
  have:=inn_len 7 a
  simp only [List.length_cons,List.length_append,List.length_nil,List.map_cons,List.map_nil,List.sum_cons,List.sum_nil]
  omega
 ·have h1:fB false false false 1 1 n nm sb ps.length = true:=hb
  obtain ⟨a,rfl⟩:=one_of (l:=ps) (by have:=fB_len h1;omega)
  rw [show ntx 14 n nm sb [a] = [110,111,116,32] ++ inn 3 a from rfl]
  have:=inn_len 3 a
  simp only [List.length_cons,List.length_append,List.length_nil,List.map_cons,List.map_nil,List.sum_cons,List.sum_nil]
  omega
 ·have h1:fB false false false 2 2 n nm sb ps.length = true:=hb
  exact two (j:=(sgn 15).2.1) (k:=(sgn 15).2.2) (w:=(sgn 15).1) (by have:=fB_len h1;omega) (by decide) (by decide)
 ·have h1:fB false false false 2 2 n nm sb ps.length = true:=hb
  exact two (j:=(sgn 16).2.1) (k:=(sgn 16).2.2) (w:=(sgn 16).1) (by have:=fB_len h1;omega) (by decide) (by decide)
 ·have h1:fB false false false 2 2 n nm sb ps.length = true:=hb
  exact two (j:=(sgn 17).2.1) (k:=(sgn 17).2.2) (w:=(sgn 17).1) (by have:=fB_len h1;omega) (by decide) (by decide)
 ·have h1:fB false false false 2 2 n nm sb ps.length = true:=hb
  exact two (j:=(sgn 18).2.1) (k:=(sgn 18).2.2) (w:=(sgn 18).1) (by have:=fB_len h1;omega) (by decide) (by decide)
 ·have h1:fB false false false 2 2 n nm sb ps.length = true:=hb
  exact two (j:=(sgn 19).2.1) (k:=(sgn 19).2.2) (w:=(sgn 19).1) (by have:=fB_len h1;omega) (by decide) (by decide)
 ·have h1:fB false false false 2 2 n nm sb ps.length = true:=hb
  exact two (j:=(sgn 20).2.1) (k:=(sgn 20).2.2) (w:=(sgn 20).1) (by have:=fB_len h1;omega) (by decide) (by decide)
 ·have h1:fB false false false 2 2 n nm sb ps.length = true:=hb
  exact two (j:=(sgn 21).2.1) (k:=(sgn 21).2.2) (w:=(sgn 21).1) (by have:=fB_len h1;omega) (by decide) (by decide)
 ·have h1:fB false false false 2 2 n nm sb ps.length = true:=hb
  exact two (j:=(sgn 22).2.1) (k:=(sgn 22).2.2) (w:=(sgn 22).1) (by have:=fB_len h1;omega) (by decide) (by decide)
 ·have h1:fB false false false 2 2 n nm sb ps.length = true:=hb
  exact two (j:=(sgn 23).2.1) (k:=(sgn 23).2.2) (w:=(sgn 23).1) (by have:=fB_len h1;omega) (by decide) (by decide)
 ·have h1:fB false false false 2 2 n nm sb ps.length = true:=hb
  exact two (j:=(sgn 24).2.1) (k:=(sgn 24).2.2) (w:=(sgn 24).1) (by have:=fB_len h1;omega) (by decide) (by decide)
 ·have h1:fB false false false 3 3 n nm sb ps.length = true:=hb
  obtain ⟨a,b,c,rfl⟩:=three_of (l:=ps) (by have:=fB_len h1;omega)
  rw [show ntx 25 n nm sb [a,b,c] = [105,102,32] ++ (inn 0 a ++ ([32,116,104,101,110,32] ++ (inn 0 b ++ ([32,101,108,115,101,32] ++ inn 0 c)))) from rfl]
  have:=inn_len 0 a
  have:=inn_len 0 b
  have:=inn_len 0 c
  simp only [List.length_cons,List.length_append,List.length_nil,List.map_cons,List.map_nil,List.sum_cons,List.sum_nil]
  omega
theorem tx_len:∀(d:Nat) (e:Exl),right d e = true→OkN e→1 ≤ (tx d e).length∧(tx d e).length + 4 ≤ 44 * sz d e
 | 0,_,h,_=>by rw [right] at h;cases h
 | d + 1,.mk op n nm sb aS,h,hn=>by
  rw [right,Bool.and_eq_true,List.all_eq_true] at h
  obtain ⟨h1,h2⟩:=OkN_mk hn
  have hl:=ntx_len (ps:=aS.map fun a=>(a.op,tx d a)) (by rw [List.length_map];exact h.1) h1
  have hs:((aS.map fun a=>(a.op,tx d a)).map fun p=>p.2.length + 4).sum ≤ (aS.map fun a=>44 * sz d a).sum:=by
   rw [List.map_map]
   exact sum_le fun a ha=>(tx_len d a (h.2 a ha) (h2 a ha)).2
  have hm:(aS.map fun a=>44 * sz d a).sum = 44 * (aS.map (sz d)).sum:=by
   clear h hn h2 hl hs
   induction aS with
   | nil=>rfl
   | cons a aS ih=>simp only [List.map_cons,List.sum_cons,ih];omega
  rw [tx,sz]
  omega
theorem hopB (b:Nat) (h:List ABox):hop b (.bld 79 5) [] h = some (.ptr h.length 0,h ++ [BX []],false):=Eq.trans rfl rfl
theorem exprText_ok {d:Nat} {e:Exl} (hr:right d e = true) (hn:OkN e) (hs:sz d e ≤ 1000) (G:List ABox):Wd (.fn 19 [] []) [exV e] G = some (.ret (.str (tx d e)),G,false):=by
 obtain ⟨h1,h2⟩:=tx_len d e hr hn
 have hS:(tx d e).length ≤ limit:=by unfold limit;omega
 obtain ⟨_,hT⟩:=text_ok hS d e hr hn
 have hne:(tx d e).isEmpty = false:=by
  cases hq:tx d e with
  | nil=>rw [hq] at h1;simp at h1
  | cons a l=>rfl
 have hst:=fun {G id}=>st_ok (G:=G) (id:=id)
 generalize tx d e = t at *
 obtain ⟨op,n,nm,sb,aS⟩:=e
 rw [exV_mk] at hT
 generalize hx:ABox.cells [.int .i64 op,.int .i64 n,.str nm,.str sb,.lst (aS.map exV) .no] = x
 have g1:(G ++ [x,BX []])[G.length + 1]? = some (BX []):=by rw [get_past];rfl
 have hT:=hT (G ++ [x,BX []]) (G.length + 1) (by simp) (by rw [g1];exact isB_BX _) (by rw [g1,bsO_BX];exact List.prefix_rfl)
 rw [g1,bsO_BX,List.nil_append,set_past] at hT
 subst hx
 rw [exV_mk,Wd_fn rfl (show T.get 19 = some c19 by kernel_rfl)]
 simp only [c19,sT.1,sC.1,sTA.1,sCA.1,noApp,provA,provE,Src.isTmp,provOf,Src.hangs,AOpd.isT,srcOf,lookV,Nat.testBit,bne,simprocAttr,-Int.reduceNatCast',op_hx,hxW_some,plain_hx,effs_hx,isApp_hx,hopB,hT,hst,hne,bsO_BX,isB_BX,List.append_assoc,List.nil_append,List.set_cons_succ,List.set_cons_zero,List.cons_append]
end Go.Proofs.YtkmlapholimbcaaGreatDoor.AE
namespace Go.Proofs.YtkmlapholimbcaaGreatDoor.AE
open Go.AE
def Shp (k:Nat) (v:AVal):Prop:=∃cs,v = .agg cs∧cs.length = k∧cs.all AVal.storable = true∧cs.map AVal.dim = cs
def idOf:AVal→Option Nat
 | .sl id _ _ _ _=>some id
 | _=>none
def SL (G:List ABox) (L:List Str) (V:AVal):Prop:=(L = []∧V = .lst [] .full)∨∃id,V = .sl id 0 L.length L.length 1∧L ≠ []∧G[id]? = some (.cells (L.map AVal.str))
theorem strs_still (L:List Str):Still (L.map AVal.str):=fun c hc=>by
 obtain ⟨s,_,rfl⟩:=List.mem_map.1 hc
 exact ⟨rfl,rfl⟩
theorem SL.facts {G:List ABox} {L:List Str} {V:AVal} (h:SL G L V):V.dim = V∧(∀i t,drainW V i t = t)∧V.storable = true∧lenV false V = some (.int .i64 (L.length:Nat)):=by
 rcases h with ⟨rfl,rfl⟩ | ⟨id,rfl,_,_⟩ <;> exact ⟨rfl,fun _ _=>rfl,rfl,rfl⟩
theorem SL.keep {G G':List ABox} {L:List Str} {V:AVal} (h:SL G L V) (hk:∀id,idOf V = some id→G'[id]? = G[id]?):SL G' L V:=by
 rcases h with h | ⟨id,rfl,h1,h2⟩
 ·exact .inl h
 ·exact .inr ⟨id,rfl,h1,(hk id rfl).trans h2⟩
theorem SL.lt {G:List ABox} {L:List Str} {V:AVal} (h:SL G L V) {id:Nat} (hi:idOf V = some id):id < G.length:=by
 rcases h with ⟨_,rfl⟩ | ⟨id',rfl,_,h2⟩
 ·cases hi
 ·cases hi
  exact (List.getElem?_eq_some_iff.1 h2).1
theorem SL.more {G:List ABox} {L:List Str} {V:AVal} (h:SL G L V) (l:List ABox):SL (G ++ l) L V:=h.keep fun id hi=>List.getElem?_append_left (h.lt hi)
theorem litS (b:Nat) (u:Str) (G:List ABox):hop b (.lit 1 [.str []] 1 [0]) [.str u] G = some (.sl G.length 0 1 1 0,G ++ [.cells [.str u]],false):=by kernel_rfl
theorem SL.app {G:List ABox} {L:List Str} {V:AVal} (h:SL G L V) (hl:L.length ≤ 100000) (b:Nat) (u:Str) :
  ∃G',hop b (.app 1) [V,.sl G.length 0 1 1 0] (G ++ [.cells [.str u]]) = some (.sl (G.length + 1) 0 (L.length + 1) (L.length + 1) 1,G',false)∧SL G' (L ++ [u]) (.sl (G.length + 1) 0 (L.length + 1) (L.length + 1) 1)∧G'.length = G.length + 2∧∀i,i < G.length→idOf V ≠ some i→G'[i]? = G[i]?:=by
 have h2:(G ++ [ABox.cells [.str u]])[G.length]? = some (.cells [.str u]):=by rw [get_at];rfl
 have hs:Still [AVal.str u]:=strs_still [u]
 rcases h with ⟨rfl,rfl⟩ | ⟨id,rfl,hne,hid⟩
 ·have e:=app_first (base:=b) (k:=1) h2 rfl hs
  rw [List.length_append] at e
  refine ⟨_,e,.inr ⟨G.length + 1,rfl,by simp,?_⟩,by simp,fun i hi _=>?_⟩
  ·rw [List.append_assoc,get_past];rfl
  ·rw [List.append_assoc,List.getElem?_append_left hi]
 ·have hlt:=(List.getElem?_eq_some_iff.1 hid).1
  have e:=app_next (base:=b) (k:=1) (n:=L.length) (show (G ++ [ABox.cells [.str u]])[id]? = _ by rw [List.getElem?_append_left hlt];exact hid) h2 rfl (by simp) hs (strs_still L) hl (by omega)
  rw [List.length_append] at e
  refine ⟨_,e,.inr ⟨G.length + 1,by simp,by simp,?_⟩,by simp,fun i hi hn=>?_⟩
  ·have:((G ++ [ABox.cells [.str u]]).set id .dead).length = G.length + 1:=by simp
   rw [get_at2 this];simp
  ·have:id ≠ i:=fun e=>hn (by rw [e];rfl)
   rw [List.getElem?_append_left (by simp;omega),List.getElem?_set_ne this,List.getElem?_append_left hi]
def Ln (h:List ABox) (V:AVal) (L:List Str) (r:Option (CRes×List ABox×Bool)):Prop:=
 ∃G' V',r = some (.ret V',G',false)∧SL G' L V'∧h.length ≤ G'.length∧(∀i,i < h.length→idOf V ≠ some i→G'[i]? = h[i]?)∧(V' = V∨∀id,idOf V' = some id→h.length ≤ id)
def eachBody (k:Nat) (z:List AVal):ACode:=
 (.seq (.reg [ao 14 (.bin .lss (.t 13) (.t 12))]) (.seq (.cond (.t 14) (.skip) (.exit 0)) (.seq (.block 1 (.seq (.reg [ao 15 (.ixaL k (.t 11) (.t 13)),ao 16 (.ld (some k) (.t 15)),ao 10 (.new z),an (.st (some k) (.t 10) (.t 16))])
 (.reg [ao 17 (.mov (.t 0)),ao 18 (.mov (.t 1)),ao 19 (.mov (.t 3)),ao 20 (.ld (some k) (.t 10)),ao 21 (.call (.t 19) [(.t 20)]),ao 22 (.bin .add (.t 18) (.t 21)),ao 23 (.hx (.lit 1 [(.str [])] 1 [0]) [(.t 22)]),ao 24 (.hx (.app 1) [(.t 17),(.t 23)]),ao 0 (.asg (.t 24))])))
 (.reg [ao 25 (.bin .add (.t 13) (.c (.int .i64 1))),ao 13 (.mov (.t 25))]))))
def eachF (k:Nat) (z:List AVal):AFunc:=⟨27,[.tmp 8],(.seq (.reg [ao 8 (.asg (.c (.lst [] .full)))]) (.seq (.seq (.reg [ao 11 (.mov (.t 2)),ao 12 (.len false (.t 11)),ao 13 (.mov (.c (.int .i64 0)))]) (.block 0 (.loop (eachBody k z)))) (.seq (.reg [ao 26 (.mov (.t 0)),ao 8 (.asg (.t 26))]) (.ret))))⟩
section
variable {α:Type} {k:Nat} {z:List AVal} {l:List α} {en:α→AVal} {g F:FuncId} {tf:α→Str} {ah:Str}
set_option maxHeartbeats 1000000 in
theorem each_loop (hz:z.length = k) (hzd:z.map AVal.dim = z) (hs:∀v ∈ l,Shp k (en v)) (hl:l.length ≤ 1000) (hg:∀v ∈ l,∀h,Wd (.fn g [] []) [en v] h = some (.ret (.str (tf v)),h,false)) (hlen:∀v ∈ l,ah.length + (tf v).length ≤ limit) {H:List ABox} {V0:AVal} {L0:List Str} (hL0:L0.length ≤ 50000) :
  ∀d st,(∃(tt:List AVal) (i:Nat) (G:List ABox) (V:AVal),st = ⟨tt,G,false⟩∧tt.length = 27∧lkp tt 0 = V∧lkp tt 1 = .str ah∧lkp tt 3 = .fn g [] []∧lkp tt 11 = .lst (l.map en) .no∧lkp tt 12 = .int .i64 (l.length:Nat)∧lkp tt 13 = .int .i64 (i:Nat)∧i + d = l.length∧SL G (L0 ++ (l.take i).map fun v=>ah ++ tf v) V∧H.length ≤ G.length∧(∀i,i < H.length→idOf V0 ≠ some i→G[i]? = H[i]?)∧(V = V0∨∀id,idOf V = some id→H.length ≤ id))→
   ∃x st',execW H.length Wd (.loop (eachBody k z)) st = some (x,st')∧(∃(tt:List AVal) (G:List ABox) (V:AVal),st' = ⟨tt,G,false⟩∧tt.length = 27∧lkp tt 0 = V∧SL G (L0 ++ l.map fun v=>ah ++ tf v) V∧H.length ≤ G.length∧(∀i,i < H.length→idOf V0 ≠ some i→G[i]? = H[i]?)∧(V = V0∨∀id,idOf V = some id→H.length ≤ id)∧x = .exit 0):=by
 refine loop_rule _ (fun x st'=>(∃(tt:List AVal) (G:List ABox) (V:AVal),st' = ⟨tt,G,false⟩∧tt.length = 27∧lkp tt 0 = V∧SL G (L0 ++ l.map fun v=>ah ++ tf v) V∧H.length ≤ G.length∧(∀i,i < H.length→idOf V0 ≠ some i→G[i]? = H[i]?)∧(V = V0∨∀id,idOf V = some id→H.length ≤ id)∧x = .exit 0)) ?_
 rintro d st ⟨tt,i,G,V,rfl,ht,e0,e1,e3,e11,e12,e13,hid,hSL,hG,hkp,hV⟩
 generalize he:execW H.length Wd (eachBody k z) _ = r
 rcases Nat.lt_or_ge i l.length with hi | hi
 ·have c1:ilt (i:Int) (l.length:Int) = true:=iltT (by omega)
  have w:=wrap_succ (n:=i) (by omega)
  obtain ⟨cs,ec,s1,s2,s4⟩:=hs l[i] (List.getElem_mem hi)
  have hq:=hg l[i] (List.getElem_mem hi)
  have hle:=hlen l[i] (List.getElem_mem hi)
  have htk:(l.take (i + 1)).map (fun v=>ah ++ tf v) = (l.take i).map (fun v=>ah ++ tf v) ++ [ah ++ tf l[i]]:=by rw [List.take_succ_eq_append_getElem hi,List.map_append];rfl
  generalize htx:tf l[i] = u at hq hle htk
  rw [ec] at hq
  have hx:ixaV k (.lst (l.map en) .no) (.int .i64 (i:Nat)) = some (.iptr cs 0):=by
   have:=ixaV_get (k:=k) (f:=.no) (j:=.i64) (show (l.map en)[i]? = some (AVal.agg cs) by rw [List.getElem?_map,List.getElem?_eq_getElem hi,Option.map_some,ec]) (by simpa [AVal.cells] using s1)
   simpa [AVal.cells] using this
  have hd:z.drop k = []:=List.drop_eq_nil_of_le (by omega)
  have hc:Go.AE.cut cs 0 (some k) = some (.agg cs):=by
   rw [cut_some (by omega),List.drop_zero,List.take_of_length_le (by omega),s4]
  have hB:Nat.ble H.length G.length = true:=ble_true hG
  have hln:(L0 ++ (l.take i).map fun v=>ah ++ tf v).length ≤ 100000:=by simp;omega
  obtain ⟨Vd,Vw,_,_⟩:=hSL.facts
  have hSL1:=hSL.more [ABox.cells cs]
  obtain ⟨G',hap,hS',hl',hk'⟩:=hSL1.app hln H.length (ah ++ u)
  have hSt:=litS H.length (ah ++ u) (G ++ [ABox.cells cs])
  rw [List.append_assoc] at hS'
  have hll:(G ++ [ABox.cells cs]).length = G.length + 1:=by simp
  simp only [List.append_assoc,List.cons_append,List.nil_append,hll] at hap hSt
  rw [hll] at hS' hl' hk'
  simp only [eachBody,sT.1,sC.1,sTA.1,sCA.1,noApp,provA,provE,Src.isTmp,provOf,Src.hangs,AOpd.isT,srcOf,lookV,Nat.testBit,bne,simprocAttr,-Int.reduceNatCast',List.length_map,op_hx,hxW_some,plain_hx,effs_hx,isApp_hx,dim_sl,drain_sl,stor_sl,cells_sl,lower_sl,ht,e0,e1,e3,e11,e12,e13,c1,hx,hzd,hc,s1,s2,s4,hd,hz,hB,hq,hle,if_true,Vd,Vw,hSt,hap,w] at he
  subst he
  refine .inl ⟨_,d - 1,rfl,by omega,_,i + 1,G',.sl (G.length + 1 + 1) 0 ((L0 ++ (l.take i).map fun v=>ah ++ tf v).length + 1) ((L0 ++ (l.take i).map fun v=>ah ++ tf v).length + 1) 1,rfl,by simp only [length_up,ht],?_,?_,?_,?_,?_,?_,by omega,by rw [htk];exact hS',by omega,fun j hj hn=>?_,.inr fun id hid=>by cases hid;omega⟩
  rotate_right
  ·have hVj:idOf V ≠ some j:=fun e=>by
    rcases hV with rfl | hV
    ·exact hn e
    ·have:=hV j e;omega
   rw [hk' j (by omega) hVj,List.getElem?_append_left (by omega)]
   exact hkp j hj hn
  all_goals simp only [sT.1,sC.1,sTA.1,sCA.1,noApp,provA,provE,Src.isTmp,provOf,Src.hangs,AOpd.isT,srcOf,lookV,Nat.testBit,bne,simprocAttr,-Int.reduceNatCast',dim_sl,ht,e1,e3,e11,e12,w,List.length_append,List.length_map]
 ·have c1:ilt (i:Int) (l.length:Int) = false:=iltF (by omega)
  rw [List.take_of_length_le hi] at hSL
  simp only [eachBody,sT.1,sC.1,sTA.1,sCA.1,noApp,provA,provE,Src.isTmp,provOf,Src.hangs,AOpd.isT,srcOf,lookV,Nat.testBit,bne,simprocAttr,-Int.reduceNatCast',List.length_map,ht,e12,e13,c1] at he
  subst he
  exact .inr ⟨_,_,rfl,by simp,_,G,V,rfl,by simp only [length_up,ht],by simp only [sT.1,sC.1,sTA.1,sCA.1,noApp,provA,provE,Src.isTmp,provOf,Src.hangs,AOpd.isT,srcOf,lookV,Nat.testBit,bne,simprocAttr,-Int.reduceNatCast',ht,e0],hSL,hG,hkp,hV,rfl⟩
theorem leave_h' (n:Nat) (v:AVal) (G:List ABox):leave n (.ret v) G false = (.ret v,bif v.lower n then G.take n else G,false):=by
 cases hl:v.lower n <;> simp [leave,hl]
theorem Ln.leave {h G:List ABox} {V V':AVal} {L:List Str} (hS:SL G L V') (hG:h.length ≤ G.length) (hk:∀i,i < h.length→idOf V ≠ some i→G[i]? = h[i]?) (hV:V' = V∨∀id,idOf V' = some id→h.length ≤ id):Ln h V L (some (Go.AE.leave h.length (.ret V') G false)):=by
 rw [leave_h']
 cases hl:V'.lower h.length with
 | false=>exact ⟨G,V',rfl,hS,hG,hk,hV⟩
 | true=>
  refine ⟨G.take h.length,V',rfl,hS.keep fun id hi=>?_,by simp;omega,fun i hi hn=>?_,hV⟩
  ·have:id < h.length:=by
    rcases hS with ⟨_,rfl⟩ | ⟨id',rfl,_,_⟩
    ·cases hi
    ·cases hi
     simpa [AVal.lower] using hl
   rw [List.getElem?_take_of_lt this]
  ·rw [List.getElem?_take_of_lt hi];exact hk i hi hn
theorem each_ok (hX:X F = none) (hF:T.get F = some (eachF k z)) (hz:z.length = k) (hzd:z.map AVal.dim = z) (hs:∀v ∈ l,Shp k (en v)) (hl:l.length ≤ 1000) (hg:∀v ∈ l,∀h,Wd (.fn g [] []) [en v] h = some (.ret (.str (tf v)),h,false)) (hlen:∀v ∈ l,ah.length + (tf v).length ≤ limit) {h:List ABox} {V:AVal} {L:List Str} (hL:L.length ≤ 50000) (hS:SL h L V) :
  Ln h V (L ++ l.map fun v=>ah ++ tf v) (Wd (.fn F [] []) [V,.str ah,.lst (l.map en) .no,.fn g [] []] h):=by
 have loop:=each_loop (H:=h) (V0:=V) (L0:=L) hz hzd hs hl hg hlen hL
 obtain ⟨Vd,Vw,_,_⟩:=hS.facts
 generalize hw:Wd _ _ h = w
 rw [Wd_fn hX hF] at hw
 simp only [eachF,sT.1,sC.1,sTA.1,sCA.1,noApp,provA,provE,Src.isTmp,provOf,Src.hangs,AOpd.isT,srcOf,lookV,Nat.testBit,bne,simprocAttr,-Int.reduceNatCast',List.length_map,Vd,Vw] at hw
 generalize hr:execW h.length Wd (.loop (eachBody k z)) _ = r at hw
 obtain ⟨x,st',rfl,tt,G,V',rfl,ht,e0,hS',hG,hk,hV,rfl⟩:=known hr (loop l.length _ ⟨_,0,h,V,rfl,by simp only [sT.1,sC.1,sTA.1,sCA.1,noApp,provA,provE,Src.isTmp,provOf,Src.hangs,AOpd.isT,srcOf,lookV,Nat.testBit,bne,simprocAttr,-Int.reduceNatCast'],by simp only [sT.1,sC.1,sTA.1,sCA.1,noApp,provA,provE,Src.isTmp,provOf,Src.hangs,AOpd.isT,srcOf,lookV,Nat.testBit,bne,simprocAttr,-Int.reduceNatCast',Vd],by simp only [sT.1,sC.1,sTA.1,sCA.1,noApp,provA,provE,Src.isTmp,provOf,Src.hangs,AOpd.isT,srcOf,lookV,Nat.testBit,bne,simprocAttr,-Int.reduceNatCast'],by simp only [sT.1,sC.1,sTA.1,sCA.1,noApp,provA,provE,Src.isTmp,provOf,Src.hangs,AOpd.isT,srcOf,lookV,Nat.testBit,bne,simprocAttr,-Int.reduceNatCast'],by simp only [sT.1,sC.1,sTA.1,sCA.1,noApp,provA,provE,Src.isTmp,provOf,Src.hangs,AOpd.isT,srcOf,lookV,Nat.testBit,bne,simprocAttr,-Int.reduceNatCast'],by simp only [sT.1,sC.1,sTA.1,sCA.1,noApp,provA,provE,Src.isTmp,provOf,Src.hangs,AOpd.isT,srcOf,lookV,Nat.testBit,bne,simprocAttr,-Int.reduceNatCast'],by simp only [sT.1,sC.1,sTA.1,sCA.1,noApp,provA,provE,Src.isTmp,provOf,Src.hangs,AOpd.isT,srcOf,lookV,Nat.testBit,bne,simprocAttr,-Int.reduceNatCast',Int.natCast_zero],by omega,by simpa using hS,Nat.le_refl _,fun _ _ _=>rfl,.inl rfl⟩)
 obtain ⟨Vd',Vw',_,_⟩:=hS'.facts
 simp only [sT.1,sC.1,sTA.1,sCA.1,noApp,provA,provE,Src.isTmp,provOf,Src.hangs,AOpd.isT,srcOf,lookV,Nat.testBit,bne,simprocAttr,-Int.reduceNatCast',ht,e0,Vd',Vw'] at hw
 subst hw
 exact Ln.leave hS' hG hk hV
def blockF (E:FuncId):AFunc:=⟨39,[.tmp 10],(.seq (.reg [ao 10 (.asg (.c (.lst [] .full)))]) (.seq (.seq (.reg [ao 11 (.mov (.t 3)),ao 12 (.len false (.t 11)),ao 13 (.bin .eql (.t 12) (.c (.int .i64 0)))]) (.cond (.t 13) (.seq (.reg [ao 14 (.mov (.t 0)),ao 15 (.mov (.t 1)),ao 16 (.mov (.t 2)),ao 17 (.bin .add (.t 15) (.t 16)),ao 18 (.bin .add (.t 17) (.c (.str [32,123,125]))),ao 19 (.hx (.lit 1 [(.str [])] 1 [0]) [(.t 18)]),ao 20 (.hx (.app 1) [(.t 14),(.t 19)]),ao 10 (.asg (.t 20))]) (.ret)) (.skip)))
 (.seq (.reg [ao 21 (.mov (.t 0)),ao 22 (.mov (.t 1)),ao 23 (.mov (.t 2)),ao 24 (.bin .add (.t 22) (.t 23)),ao 25 (.bin .add (.t 24) (.c (.str [32,123]))),ao 26 (.hx (.lit 1 [(.str [])] 1 [0]) [(.t 25)]),ao 27 (.hx (.app 1) [(.t 21),(.t 26)]),ao 0 (.asg (.t 27))])
 (.seq (.reg [ao 28 (.mov (.t 0)),ao 29 (.mov (.t 1)),ao 30 (.bin .add (.t 29) (.c (.str [32,32]))),ao 31 (.mov (.t 3)),ao 32 (.mov (.t 4)),ao 33 (.call (.c (.fn E [] [])) [(.t 28),(.t 30),(.t 31),(.t 32)]),ao 0 (.asg (.t 33))])
 (.seq (.reg [ao 34 (.mov (.t 0)),ao 35 (.mov (.t 1)),ao 36 (.bin .add (.t 35) (.c (.str [125]))),ao 37 (.hx (.lit 1 [(.str [])] 1 [0]) [(.t 36)]),ao 38 (.hx (.app 1) [(.t 34),(.t 37)]),ao 10 (.asg (.t 38))]) (.ret))))))⟩
def blockL (ah hd:Str) (ls:List Str):List Str:=bif ls.isEmpty then [ah ++ (hd ++ [32,123,125])] else (ah ++ (hd ++ [32,123])) :: (ls.map (fun l=>ah ++ ([32,32] ++ l)) ++ [ah ++ [125]])
set_option maxHeartbeats 1000000 in
theorem block_ok {B:FuncId} {hd:Str} (hXB:X B = none) (hB:T.get B = some (blockF F)) (hX:X F = none) (hF:T.get F = some (eachF k z)) (hz:z.length = k) (hzd:z.map AVal.dim = z) (hs:∀v ∈ l,Shp k (en v)) (hl:l.length ≤ 1000) (hg:∀v ∈ l,∀h,Wd (.fn g [] []) [en v] h = some (.ret (.str (tf v)),h,false)) (hlen:∀v ∈ l,ah.length + (tf v).length ≤ 500000000) (hh:ah.length + hd.length ≤ 500000000) {h:List ABox} {V:AVal} {L:List Str} (hL:L.length ≤ 40000) (hS:SL h L V) :
  Ln h V (L ++ blockL ah hd (l.map tf)) (Wd (.fn B [] []) [V,.str ah,.str hd,.lst (l.map en) .no,.fn g [] []] h):=by
 obtain ⟨Vd,Vw,Vs,_⟩:=hS.facts
 have q1:ah.length + hd.length ≤ limit:=by unfold limit;omega
 have q2:∀n,n ≤ 10→ah.length + (hd.length + n) ≤ limit:=fun n hn=>by unfold limit;omega
 have q3:∀n,n ≤ 10→ah.length + hd.length + n ≤ limit:=fun n hn=>by unfold limit;omega
 have q4:∀n,n ≤ 10→ah.length + n ≤ limit:=fun n hn=>by unfold limit;omega
 have HX:=fun u g=>litS h.length u g
 generalize hw:Wd _ _ h = w
 rw [Wd_fn hXB hB] at hw
 cases l with
 | nil=>
  have hL':L.length ≤ 100000:=by omega
  obtain ⟨G',hap,hS',hl',hk'⟩:=hS.app hL' h.length (ah ++ (hd ++ [32,123,125]))
  simp only [blockF,sT.1,sC.1,sTA.1,sCA.1,noApp,provA,provE,Src.isTmp,provOf,Src.hangs,AOpd.isT,srcOf,lookV,Nat.testBit,bne,simprocAttr,-Int.reduceNatCast',List.length_map,List.map_nil,List.map_cons,op_hx,hxW_some,plain_hx,effs_hx,isApp_hx,dim_sl,drain_sl,stor_sl,cells_sl,lower_sl,Vd,Vw,q1,q2,q3,if_true,List.length_nil,List.length_append,List.length_cons,List.append_assoc,cc0,HX,hap] at hw
  subst hw
  exact Ln.leave (by simpa [blockL] using hS') (by omega) hk' (.inr fun id hi=>by cases hi;omega)
 | cons v l=>
  have c0:(((l.length + 1:Nat):Int) == 0) = false:=by rw [beq_eq_false_iff_ne];omega
  obtain ⟨G1,hap,hS1,hl1,hk1⟩:=hS.app (by omega) h.length (ah ++ (hd ++ [32,123]))
  have hE:=each_ok (l:=v :: l) (ah:=ah ++ [32,32]) hX hF hz hzd hs hl hg (fun v hv=>by have:=hlen v hv;simp;unfold limit;omega) (by simp;omega) hS1
  obtain ⟨G2,V2,hE,hS2,hl2,hk2,hV2⟩:=hE
  rw [show (v :: l).map en = en v :: l.map en from rfl] at hE
  obtain ⟨Vd2,Vw2,_,_⟩:=hS2.facts
  obtain ⟨G3,hap3,hS3,hl3,hk3⟩:=hS2.app (by simp at hl ⊢;omega) h.length (ah ++ [125])
  have hst:=fun u=>litS h.length u G2
  simp only [blockF,sT.1,sC.1,sTA.1,sCA.1,noApp,provA,provE,Src.isTmp,provOf,Src.hangs,AOpd.isT,srcOf,lookV,Nat.testBit,bne,simprocAttr,-Int.reduceNatCast',List.length_map,List.map_nil,List.map_cons,op_hx,hxW_some,plain_hx,effs_hx,isApp_hx,dim_sl,drain_sl,stor_sl,cells_sl,lower_sl,Vd,Vw,Vd2,Vw2,q1,q2,q3,q4,if_true,c0,List.length_nil,List.length_append,List.length_cons,List.append_assoc,HX,hap,hE,hst,hap3] at hw
  subst hw
  have hid:∀id,idOf V2 = some id→h.length ≤ id:=fun id hi=>by
   rcases hV2 with rfl | hV2
   ·cases hi;omega
   ·have:=hV2 id hi;omega
  refine Ln.leave (h:=h) (G:=G3) (V:=V) (by simpa [blockL,Function.comp_def] using hS3) (by omega) (fun i hi hn=>?_) (.inr fun id hi=>by cases hi;omega)
  rw [hk3 i (by omega) (fun e=>by have:=hid i e;omega),hk2 i (by omega) (fun e=>by cases e;omega),hk1 i hi hn]
end
end Go.Proofs.YtkmlapholimbcaaGreatDoor.AE
namespace Go.Proofs.YtkmlapholimbcaaGreatDoor.AE
open Go.AE
inductive Tp where
 | mk (k:Int) (l:List Tp)
def Tp.enc:Tp→List AVal
 | .mk k l=>[.int .i64 k,.lst (l.map fun v=>.agg v.enc) .no]
def tpV (v:Tp):AVal:=.agg v.enc
theorem tpV_mk (k:Int) (l:List Tp):tpV (.mk k l) = .agg [.int .i64 k,.lst (l.map tpV) .no]:=by rw [tpV,Tp.enc];rfl
def tyB:Nat→Tp→Bool
 | 0,.mk k l=>(k == 0 || (k == 1 || k == 2)) && l.isEmpty
 | d + 1,.mk k l=>((k == 0 || (k == 1 || k == 2)) && l.isEmpty) || (k == 3 && ((decide (1 ≤ l.length) && decide (l.length ≤ 4)) && l.all (tyB d)))
theorem mkF_lookB (t:List AVal) (f:FuncId) (a b:List AOpd):pureV t (.mkF f a b) = some (.fn f (a.map (ev t)) (b.map (ev t))):=rfl
theorem ty1_ok {d:Nat} (hd:d ≤ 3) {v:Tp} (hy:∀g,Wd (.fn 135 [] []) [tpV v,.int .i64 (d:Nat)] g = some (.ret (.bool (tyB d v)),g,false)) (g:List ABox) (R:Nat) (hR:R < g.length) (hr:g[R]? = some (.cells [.int .i64 (d + 1:Nat)])) :
  Wd (.fn 151 [] [.ptr R 0]) [tpV v] g = some (.ret (.bool (tyB d v)),g,false):=by
 generalize tyB d v = b at *
 obtain ⟨k,l⟩:=v
 rw [tpV_mk] at *
 have w1:IntKind.i64.wrap (((d + 1:Nat):Int) - 1) = ((d:Nat):Int):=by rw [wrap_id (by omega) (by omega)];omega
 rw [Wd_fn rfl (show T.get 151 = some c151 by kernel_rfl)]
 simp only [c151,sT.1,sC.1,noApp,lookV,Nat.testBit,simprocAttr,-Int.reduceNatCast',hR,hr,w1,hy]
set_option maxHeartbeats 1000000 in
theorem tyItems_ok {d:Nat} (hd:d ≤ 3) {l:List Tp} (hy:∀x ∈ l,∀g,Wd (.fn 135 [] []) [tpV x,.int .i64 (d:Nat)] g = some (.ret (.bool (tyB d x)),g,false)) (h:List ABox) (R:Nat) (hR:R < h.length) (hr:h[R]? = some (.cells [.int .i64 (d + 1:Nat)])) :
  Wd (.fn 150 [] []) [.lst (l.map tpV) .no,.fn 151 [] [.ptr R 0]] h = some (.ret (.bool ((decide (1 ≤ l.length) && decide (l.length ≤ 4)) && l.all (tyB d))),h,false):=by
 have loop:l.length ≤ 4→∀k st,(∃(tt:List AVal) (i:Nat) (junk:List ABox),st = ⟨tt,h ++ junk,false⟩∧tt.length = 26∧lkp tt 1 = .fn 151 [] [.ptr R 0]∧lkp tt 15 = .lst (l.map tpV) .no∧lkp tt 16 = .int .i64 (l.length:Nat)∧lkp tt 17 = .int .i64 (i:Nat)∧i + k = l.length∧l.all (tyB d) = (l.drop i).all (tyB d))→
   ∃x st',execW h.length Wd (.loop l150_0) st = some (x,st')∧(∃(tt:List AVal) (junk:List ABox),st' = ⟨tt,h ++ junk,false⟩∧tt.length = 26∧((x = .exit 0∧l.all (tyB d) = true)∨(x = .ret∧lkp tt 4 = .bool false∧l.all (tyB d) = false))):=by
  intro h4
  refine loop_rule _ (fun x st'=>∃(tt:List AVal) (junk:List ABox),st' = ⟨tt,h ++ junk,false⟩∧tt.length = 26∧((x = .exit 0∧l.all (tyB d) = true)∨(x = .ret∧lkp tt 4 = .bool false∧l.all (tyB d) = false))) ?_
  rintro k st ⟨tt,i,junk,rfl,ht,e1,e15,e16,e17,hik,hall⟩
  generalize he:execW h.length Wd l150_0 _ = r
  rcases Nat.lt_or_ge i l.length with hi | hi
  ·have c1:ilt (i:Int) (l.length:Int) = true:=iltT (by omega)
   have w:=wrap_succ (n:=i) (by omega)
   have hyi:=hy _ (List.getElem_mem hi)
   have hlen:(h ++ junk).length = h.length + junk.length:=by simp
   have h1':=ty1_ok hd hyi (h ++ (junk ++ [.cells l[i].enc])) R (by simp;omega) (by rw [List.getElem?_append_left hR,hr])
   have hg:(l.map tpV)[i]? = some (tpV l[i]):=by rw [List.getElem?_map,List.getElem?_eq_getElem hi];rfl
   rw [List.drop_eq_getElem_cons hi,List.all_cons] at hall
   have hb1:Nat.ble h.length (h.length + junk.length) = true:=ble_true (by omega)
   generalize l[i] = v at h1' hg hall
   cases hb:tyB d v <;> rw [hb] at hall h1' <;> obtain ⟨K,L⟩:=v <;> rw [tpV_mk] at h1' hg <;> rw [Tp.enc] at h1' <;> change Wd _ _ (h ++ (junk ++ [.cells [.int .i64 K,.lst (L.map tpV) .no]])) = _ at h1' <;> have hx:ixaV 2 (.lst (l.map tpV) .no) (.int .i64 (i:Nat)) = some (.iptr [.int .i64 K,.lst (L.map tpV) .no] 0):=ixaV_get hg rfl
   ·rw [Bool.false_and] at hall
    simp only [l150_0,sT.1,sC.1,noApp,lookV,Nat.testBit,simprocAttr,-Int.reduceNatCast',ht,e1,e15,e16,e17,c1,w,hx,hlen,hb1,h1',Bool.true_or,List.append_assoc] at he
    subst he
    refine .inr ⟨_,_,rfl,by simp,_,junk ++ [.cells [.int .i64 K,.lst (L.map tpV) .no]],rfl,by simp only [length_up,ht],.inr ⟨rfl,?_,hall⟩⟩
    simp only [sT.1,sC.1,noApp,lookV,Nat.testBit,simprocAttr,-Int.reduceNatCast',ht]
   ·rw [Bool.true_and] at hall
    simp only [l150_0,sT.1,sC.1,noApp,lookV,Nat.testBit,simprocAttr,-Int.reduceNatCast',ht,e1,e15,e16,e17,c1,w,hx,hlen,hb1,h1',Bool.true_or,List.append_assoc] at he
    subst he
    refine .inl ⟨_,k - 1,rfl,by omega,_,i + 1,junk ++ [.cells [.int .i64 K,.lst (L.map tpV) .no]],rfl,by simp only [length_up,ht],?_,?_,?_,?_,by omega,hall⟩
    all_goals simp only [sT.1,sC.1,noApp,lookV,Nat.testBit,simprocAttr,-Int.reduceNatCast',ht,e1,e15,e16]
  ·have c1:ilt (i:Int) (l.length:Int) = false:=iltF (by omega)
   simp only [l150_0,sT.1,sC.1,noApp,lookV,Nat.testBit,simprocAttr,-Int.reduceNatCast',ht,e16,e17,c1] at he
   subst he
   rw [List.drop_eq_nil_of_le hi] at hall
   exact .inr ⟨_,_,rfl,by simp,_,junk,rfl,by simp only [length_up,ht],.inl ⟨rfl,hall⟩⟩
 generalize hw:Wd _ _ h = w
 rw [Wd_fn rfl (show T.get 150 = some c150 by kernel_rfl)] at hw
 by_cases h14:1 ≤ l.length∧l.length ≤ 4
 ·have d1:ilt (l.length:Int) 1 = false:=iltF (by omega)
  have d2:ilt 4 (l.length:Int) = false:=iltF (by omega)
  simp only [c150,sT.1,sC.1,noApp,lookV,Nat.testBit,simprocAttr,-Int.reduceNatCast',List.length_map,d1,d2] at hw
  generalize hr:execW h.length Wd (.loop l150_0) _ = r at hw
  obtain ⟨x,st',rfl,tt,junk,rfl,ht,⟨rfl,ha⟩ | ⟨rfl,e4,ha⟩⟩:=known hr (loop h14.2 l.length _ ⟨_,0,[],by rw [List.append_nil],by simp only [sT.1,sC.1,noApp,lookV,Nat.testBit,simprocAttr,-Int.reduceNatCast'],by simp only [sT.1,sC.1,noApp,lookV,Nat.testBit,simprocAttr,-Int.reduceNatCast'],by simp only [sT.1,sC.1,noApp,lookV,Nat.testBit,simprocAttr,-Int.reduceNatCast'],by simp only [sT.1,sC.1,noApp,lookV,Nat.testBit,simprocAttr,-Int.reduceNatCast'],by simp only [sT.1,sC.1,noApp,lookV,Nat.testBit,simprocAttr,-Int.reduceNatCast',Int.natCast_zero],by omega,rfl⟩)
  ·simp only [sT.1,sC.1,noApp,lookV,Nat.testBit,simprocAttr,-Int.reduceNatCast',ht] at hw
   rw [ha,decide_eq_true h14.1,decide_eq_true h14.2]
   exact hw.symm
  ·simp only [sT.1,sC.1,noApp,lookV,Nat.testBit,simprocAttr,-Int.reduceNatCast',ht,e4] at hw
   rw [ha,Bool.and_false]
   exact hw.symm
 ·have d1:(ilt (l.length:Int) 1 || ilt 4 (l.length:Int)) = true:=by rw [ilt_eq,ilt_eq];simp;omega
  have d2:(decide (1 ≤ l.length) && decide (l.length ≤ 4)) = false:=by
   rw [Bool.and_eq_false_iff,decide_eq_false_iff_not,decide_eq_false_iff_not]
   omega
  simp only [c150,sT.1,sC.1,noApp,lookV,Nat.testBit,simprocAttr,-Int.reduceNatCast',List.length_map,d1] at hw
  rw [d2,Bool.false_and]
  exact hw.symm
theorem lenE {α:Type} (l:List α):((l.length:Int) == 0) = l.isEmpty:=by
 cases l with
 | nil=>rfl
 | cons a l=>rw [List.isEmpty_cons,beq_eq_false_iff_ne,List.length_cons];omega
set_option maxHeartbeats 1000000 in
theorem yt_ok:∀d,d ≤ 3→∀(v:Tp) g,Wd (.fn 135 [] []) [tpV v,.int .i64 (d:Nat)] g = some (.ret (.bool (tyB d v)),g,false):=by
 have a3:∀x:Int,(x == 3) = true→((x == 0) = false∧(x == 1) = false∧(x == 2) = false):=fun x h=>by
  simp only [beq_iff_eq,beq_eq_false_iff_ne] at *
  omega
 intro d
 induction d with
 | zero=>
  rintro _ ⟨k,l⟩ g
  have d1:ilt 0 ((0:Nat):Int) = false:=Eq.trans rfl rfl
  rw [tyB,tpV_mk]
  rw [Wd_fn rfl (show T.get 135 = some c135 by kernel_rfl)]
  cases h0:(k == 0) <;> cases h1:(k == 1) <;> cases h2:(k == 2) <;> cases h3:(k == 3) <;> simp only [c135,sT.1,sC.1,noApp,lookV,Nat.testBit,simprocAttr,-Int.reduceNatCast',List.length_map,lenE,h0,h1,h2,h3,d1,cond_true,cond_false,Bool.or_true,Bool.or_false,Bool.true_or,Bool.true_and,Bool.false_and]
 | succ d ih=>
  rintro hd ⟨k,l⟩ g
  have d1:ilt 0 ((d + 1:Nat):Int) = true:=iltT (by omega)
  have hit:=tyItems_ok (d:=d) (l:=l) (by omega) (fun x _=>ih (by omega) x) (g ++ [.cells [.int .i64 k,.lst (l.map tpV) .no],.cells [.int .i64 (d + 1:Nat)]]) (g.length + 1) (by simp) (by rw [get_past];rfl)
  rw [tyB,tpV_mk]
  rw [Wd_fn rfl (show T.get 135 = some c135 by kernel_rfl)]
  cases h3:(k == 3) with
  | true=>
   obtain ⟨h0,h1,h2⟩:=a3 k h3
   simp only [c135,sT.1,sC.1,noApp,lookV,Nat.testBit,simprocAttr,-Int.reduceNatCast',h0,h1,h2,h3,hit,d1,mkF_lookB,guardQ_true,get_past,cond_true,cond_false,Bool.or_false,Bool.false_or,Bool.true_and,Bool.false_and]
  | false=>
   cases h0:(k == 0) <;> cases h1:(k == 1) <;> cases h2:(k == 2) <;> simp only [c135,sT.1,sC.1,noApp,lookV,Nat.testBit,simprocAttr,-Int.reduceNatCast',List.length_map,lenE,h0,h1,h2,h3,d1,cond_true,cond_false,Bool.or_true,Bool.or_false,Bool.true_or,Bool.true_and,Bool.false_and]
theorem TypeRight_ok (v:Tp) (g:List ABox):Wd (.fn 100 [] []) [tpV v] g = some (.ret (.bool (tyB 3 v)),g,false):=by
 have h:=yt_ok 3 (by omega) v (g ++ [.cells v.enc])
 have c3:((3:Nat):Int) = 3:=by kernel_rfl
 rw [c3] at h
 generalize tyB 3 v = b at *
 obtain ⟨k,l⟩:=v
 rw [Tp.enc] at h
 change Wd _ _ (g ++ [.cells [.int .i64 k,.lst (l.map tpV) .no]]) = _ at h
 rw [tpV_mk] at h ⊢
 rw [Wd_fn rfl (show T.get 100 = some c100 by kernel_rfl)]
 simp only [c100,sT.1,sC.1,noApp,lookV,Nat.testBit,simprocAttr,-Int.reduceNatCast',h]
end Go.Proofs.YtkmlapholimbcaaGreatDoor.AE
namespace Go.Proofs.YtkmlapholimbcaaGreatDoor.AE
open Go.AE
def tupS (l:List Str):Str:=bif l.length == 1 then 40 :: (l.headD [] ++ [44,41]) else 40 :: (Lib.join l [44,32] ++ [41])
def ttx:Nat→Tp→Str
 | 0,.mk k _=>bif k == 0 then [105,110,116] else bif k == 1 then [98,111,111,108] else [115,121,109]
 | d + 1,.mk k l=>bif k == 0 then [105,110,116] else bif k == 1 then [98,111,111,108] else bif k == 2 then [115,121,109] else tupS (l.map (ttx d))
theorem strsOf_map (l:List Str):strsOf (l.map AVal.str) = some l:=by
 induction l with
 | nil=>rfl
 | cons a l ih=>rw [List.map_cons,strsOf,ih];rfl
theorem mkS (base n:Nat) (hn:n ≤ 100000) (h:List ABox):hop base (.mk 1 [.str []]) [.int .i64 (n:Nat),.int .i64 (n:Nat)] h = some (.sl h.length 0 n n 0,h ++ [.cells (List.replicate n (.str []))],false):=by
 simp only [hop]
 rw [if_pos ⟨by omega,by omega,by omega,rfl⟩,Int.toNat_natCast]
 have e:((List.replicate n [AVal.str []]).flatten).map AVal.dim = List.replicate n (.str []):=by
  induction n with
  | zero=>rfl
  | succ n ih=>rw [List.replicate_succ,List.flatten_cons,List.map_append,ih (by omega),List.replicate_succ];rfl
 rw [e]
theorem join_len (sep:Str):∀(l:List Str) (b:Nat),(∀x ∈ l,x.length ≤ b)→(Lib.join l sep).length ≤ l.length * (b + sep.length):=by
 intro l
 induction l with
 | nil=>intro b _;rw [Lib.join_nil];simp
 | cons a l ih=>
  intro b hb
  have h1:=hb a (by simp)
  have h2:=ih b fun x hx=>hb x (by simp [hx])
  rw [List.length_cons,Nat.succ_mul]
  cases l with
  | nil=>rw [Lib.join_one];simp;omega
  | cons c l=>
   rw [show Lib.join (a :: c :: l) sep = a ++ (sep ++ Lib.join (c :: l) sep) by rw [Lib.join_cons,Lib.join_cons];simp [Lib.joinTail],List.length_append,List.length_append]
   generalize (c :: l).length * (b + sep.length) = m at *
   omega
theorem tupS_len {l:List Str} {b:Nat} (h4:l.length ≤ 4) (hb:∀x ∈ l,x.length ≤ b):(tupS l).length ≤ 4 * b + 10:=by
 unfold tupS
 cases hc:l.length == 1 with
 | true=>
  cases l with
  | nil=>simp at hc
  | cons a l=>have:=hb a (by simp);simp only [cond_true,List.headD_cons,List.length_cons,List.length_append,List.length_nil];omega
 | false=>
  have h:_ ≤ l.length * (b + 2):=join_len [44,32] l b hb
  have:l.length * (b + 2) ≤ 4 * (b + 2):=Nat.mul_le_mul_right _ h4
  simp only [cond_false,List.length_cons,List.length_append,List.length_nil]
  omega
theorem jn_ok' {G:List ABox} {id:Nat} {l:List Str} (hG:G[id]? = some (.cells (l.map AVal.str))) (h1:(Lib.join l [44,32]).length ≤ limit) (h2:l.length ≤ 4):Wd (.fn 30 [] []) [.sl id 0 l.length l.length 0,.str [44,32]] G = some (.ret (.str (Lib.join l [44,32])),G,false):=by
 have hx:jnX Wd [.sl id 0 l.length l.length 0,.str [44,32]] G = some (.ret (.str (Lib.join l [44,32])),G,false):=by
  have a:Nat.ble (Lib.join l [44,32]).length limit = true:=ble_true h1
  have b:Nat.ble l.length limit = true:=ble_true (by unfold limit;omega)
  have c:(l.map AVal.str).take l.length = l.map AVal.str:=List.take_of_length_le (by simp)
  have d:Nat.beq l.length l.length = true:=Nat.beq_refl _
  simp only [jnX,hG,c,strsOf_map,a,b,d,Bool.and_self,cond_true]
 exact (W_ext xfine (show X 30 = some jnX by kernel_rfl)).trans hx
theorem tupleT_ok {G:List ABox} {id:Nat} {l:List Str} (hG:G[id]? = some (.cells (l.map AVal.str))) (h4:l.length ≤ 4) (hb:∀x ∈ l,x.length ≤ 5000):Wd (.fn 152 [] []) [.sl id 0 l.length l.length 0] G = some (.ret (.str (tupS l)),G,false):=by
 have hid:=(List.getElem?_eq_some_iff.1 hG).1
 rw [Wd_fn rfl (show T.get 152 = some c152 by kernel_rfl)]
 by_cases h1:l.length = 1
 ·obtain ⟨x,rfl⟩ :∃x,l = [x]:=List.length_eq_one_iff.1 h1
  have hx:=hb x (by simp)
  have q1:1 + x.length ≤ limit:=by unfold limit;omega
  have q2:1 + x.length + 2 ≤ limit:=by unfold limit;omega
  have q3:x.length + 1 ≤ limit:=by unfold limit;omega
  have q4:x.length + 1 + 2 ≤ limit:=by unfold limit;omega
  have q5:x.length + 3 ≤ limit:=by unfold limit;omega
  have z1:(((1:Nat):Int) == 1) = true:=by kernel_rfl
  have hix:ixaV 1 (.sl id 0 1 1 0) (.int .i64 0) = some (.ptr id 0):=by rw [ixaV_sl];rfl
  simp only [List.map_cons,List.map_nil] at hG
  simp only [c152,sT.1,sC.1,noApp,lookV,Nat.testBit,simprocAttr,-Int.reduceNatCast',lenV_sl,dim_sl,drain_sl,z1,hix,hG,hid,q1,q2,q3,q4,q5,if_true,tupS,List.headD_cons]
 ·have c1:((l.length:Int) == 1) = false:=by rw [beq_eq_false_iff_ne];omega
  have c2:(l.length == 1) = false:=by rw [beq_eq_false_iff_ne];exact h1
  have hj:_ ≤ l.length * (5000 + 2):=join_len [44,32] l 5000 hb
  have:l.length * (5000 + 2) ≤ 4 * (5000 + 2):=Nat.mul_le_mul_right _ h4
  have hk:=jn_ok' hG (by unfold limit;omega) h4
  rw [tupS,c2,cond_false]
  generalize Lib.join l [44,32] = u at *
  have q1:1 + u.length ≤ limit:=by unfold limit;omega
  have q2:1 + u.length + 1 ≤ limit:=by unfold limit;omega
  have q3:u.length + 1 ≤ limit:=by unfold limit;omega
  have q4:u.length + 1 + 1 ≤ limit:=by unfold limit;omega
  have q5:u.length + 2 ≤ limit:=by unfold limit;omega
  simp only [c152,sT.1,sC.1,noApp,lookV,Nat.testBit,simprocAttr,-Int.reduceNatCast',lenV_sl,dim_sl,drain_sl,c1,hk,q1,q2,q3,q4,q5,if_true]
theorem fill_at {α:Type} (a:List α) (z v:α) (m:Nat):(a ++ List.replicate (m + 1) z).set a.length v = (a ++ [v]) ++ List.replicate m z:=by
 rw [List.set_append_right _ _ (Nat.le_refl _),Nat.sub_self,List.replicate_succ];simp
set_option maxHeartbeats 1000000 in
theorem tyEach {l:List Tp} {tf:Tp→Str} (hl:l.length ≤ 4) (hne:l ≠ []) (hy:∀x ∈ l,∀g,Wd (.fn 139 [] []) [tpV x] g = some (.ret (.str (tf x)),g,false)) (h:List ABox):∃junk,Wd (.fn 153 [] []) [.lst (l.map tpV) .no,.fn 139 [] []] h = some (.ret (.sl h.length 0 l.length l.length 0),h ++ .cells (l.map fun x=>AVal.str (tf x)) :: junk,false):=by
 have loop:∀k st,(∃(tt:List AVal) (i:Nat) (junk:List ABox),st = ⟨tt,h ++ .cells ((l.take i).map (fun x=>AVal.str (tf x)) ++ List.replicate k (AVal.str [])) :: junk,false⟩∧tt.length = 29∧lkp tt 1 = .fn 139 [] []∧lkp tt 5 = .sl h.length 0 l.length l.length 0∧lkp tt 14 = .lst (l.map tpV) .no∧lkp tt 15 = .int .i64 (l.length:Nat)∧lkp tt 16 = .int .i64 (i:Nat)∧i + k = l.length)→
   ∃x st',execW h.length Wd (.loop l153_0) st = some (x,st')∧(∃(tt:List AVal) (junk:List ABox),st' = ⟨tt,h ++ .cells (l.map fun x=>AVal.str (tf x)) :: junk,false⟩∧tt.length = 29∧lkp tt 5 = .sl h.length 0 l.length l.length 0∧x = .exit 0):=by
  refine loop_rule _ (fun x st'=>∃(tt:List AVal) (junk:List ABox),st' = ⟨tt,h ++ .cells (l.map fun x=>AVal.str (tf x)) :: junk,false⟩∧tt.length = 29∧lkp tt 5 = .sl h.length 0 l.length l.length 0∧x = .exit 0) ?_
  rintro k st ⟨tt,i,junk,rfl,ht,e1,e5,e14,e15,e16,hik⟩
  generalize he:execW h.length Wd l153_0 _ = r
  rcases Nat.lt_or_ge i l.length with hi | hi
  ·obtain ⟨k',rfl⟩ :∃k',k = k' + 1:=⟨k - 1,by omega⟩
   have c1:ilt (i:Int) (l.length:Int) = true:=iltT (by omega)
   have w:=wrap_succ (n:=i) (by omega)
   have htk:(l.take (i + 1)).map (fun x=>AVal.str (tf x)) = (l.take i).map (fun x=>AVal.str (tf x)) ++ [AVal.str (tf l[i])]:=by rw [List.take_succ_eq_append_getElem hi,List.map_append];rfl
   have hsl:((l.take i).map (fun x=>AVal.str (tf x)) ++ List.replicate (k' + 1) (AVal.str [])).set i (AVal.str (tf l[i])) = (l.take (i + 1)).map (fun x=>AVal.str (tf x)) ++ List.replicate k' (AVal.str []):=by
    have:=fill_at ((l.take i).map fun x=>AVal.str (tf x)) (AVal.str []) (AVal.str (tf l[i])) k'
    have hli:((l.take i).map fun x=>AVal.str (tf x)).length = i:=by simp;omega
    rw [hli] at this
    rw [this,htk]
   have hil:i + 1 ≤ ((l.take i).map (fun x=>AVal.str (tf x)) ++ List.replicate (k' + 1) (AVal.str [])).length:=by simp;omega
   generalize (l.take i).map (fun x=>AVal.str (tf x)) ++ List.replicate (k' + 1) (AVal.str []) = row at *
   rw [List.set_eq_take_append_cons_drop,if_pos (by omega)] at hsl
   have hyi:=hy l[i] (List.getElem_mem hi)
   have hg:(l.map tpV)[i]? = some (tpV l[i]):=by rw [List.getElem?_map,List.getElem?_eq_getElem hi];rfl
   have hxs:ixaV 1 (.sl h.length 0 l.length l.length 0) (.int .i64 (i:Nat)) = some (.ptr h.length (0 + i)):=by
    rw [ixaV_sl,if_pos ⟨by omega,by omega⟩];simp
   rw [Nat.zero_add] at hxs
   generalize tf l[i] = u at hyi hsl
   generalize l[i] = v at hyi hg
   obtain ⟨K,L⟩:=v
   rw [tpV_mk] at hyi hg
   have hx:ixaV 2 (.lst (l.map tpV) .no) (.int .i64 (i:Nat)) = some (.iptr [.int .i64 K,.lst (L.map tpV) .no] 0):=ixaV_get hg rfl
   have hlen:∀q:List ABox,(h ++ ABox.cells row :: q).length = h.length + (q.length + 1):=fun q=>by simp
   have hb1:Nat.ble h.length (h.length + (junk.length + 1)) = true:=ble_true (by omega)
   have hb2:Nat.ble h.length h.length = true:=ble_true (Nat.le_refl _)
   simp only [l153_0,sT.1,sC.1,noApp,lookV,Nat.testBit,simprocAttr,-Int.reduceNatCast',ht,e1,e5,e14,e15,e16,c1,w,hx,hxs,hlen,hb1,hb2,hyi,hil,hsl,dim_sl,drain_sl,Bool.true_or,List.append_assoc] at he
   subst he
   refine .inl ⟨_,k',rfl,by omega,_,i + 1,junk ++ [.cells [.int .i64 K,.lst (L.map tpV) .no]],rfl,by simp only [length_up,ht],?_,?_,?_,?_,?_,by omega⟩
   all_goals simp only [sT.1,sC.1,noApp,lookV,Nat.testBit,simprocAttr,-Int.reduceNatCast',ht,e1,e5,e14,e15]
  ·have c1:ilt (i:Int) (l.length:Int) = false:=iltF (by omega)
   obtain rfl:k = 0:=by omega
   rw [List.take_of_length_le hi,List.replicate_zero,List.append_nil] at he
   simp only [l153_0,sT.1,sC.1,noApp,lookV,Nat.testBit,simprocAttr,-Int.reduceNatCast',ht,e15,e16,c1] at he
   subst he
   exact .inr ⟨_,_,rfl,by simp,_,junk,rfl,by simp only [length_up,ht],by simp only [sT.1,sC.1,noApp,lookV,Nat.testBit,simprocAttr,-Int.reduceNatCast',ht,e5],rfl⟩
 have c0:((l.length:Int) == 0) = false:=by
  rw [lenE]
  cases l with
  | nil=>exact absurd rfl hne
  | cons a l=>rfl
 have hm:=mkS h.length l.length (by omega) h
 generalize hw:Wd _ _ h = w
 rw [Wd_fn rfl (show T.get 153 = some c153 by kernel_rfl)] at hw
 simp only [c153,sT.1,sC.1,sTA.1,sCA.1,noApp,provA,provE,Src.isTmp,provOf,Src.hangs,AOpd.isT,srcOf,lookV,Nat.testBit,bne,simprocAttr,-Int.reduceNatCast',op_hx,hxW_some,plain_hx,effs_hx,isApp_hx,dim_sl,drain_sl,List.length_map,c0,hm] at hw
 generalize hr:execW h.length Wd (.loop l153_0) _ = r at hw
 obtain ⟨x,st',rfl,tt,junk,rfl,ht,e5,rfl⟩:=known hr (loop l.length _ ⟨_,0,[],rfl,by simp only [sT.1,sC.1,sTA.1,sCA.1,noApp,provA,provE,Src.isTmp,provOf,Src.hangs,AOpd.isT,srcOf,lookV,Nat.testBit,bne,simprocAttr,-Int.reduceNatCast'],by simp only [sT.1,sC.1,sTA.1,sCA.1,noApp,provA,provE,Src.isTmp,provOf,Src.hangs,AOpd.isT,srcOf,lookV,Nat.testBit,bne,simprocAttr,-Int.reduceNatCast'],by simp only [sT.1,sC.1,sTA.1,sCA.1,noApp,provA,provE,Src.isTmp,provOf,Src.hangs,AOpd.isT,srcOf,lookV,Nat.testBit,bne,simprocAttr,-Int.reduceNatCast',dim_sl],by simp only [sT.1,sC.1,sTA.1,sCA.1,noApp,provA,provE,Src.isTmp,provOf,Src.hangs,AOpd.isT,srcOf,lookV,Nat.testBit,bne,simprocAttr,-Int.reduceNatCast'],by simp only [sT.1,sC.1,sTA.1,sCA.1,noApp,provA,provE,Src.isTmp,provOf,Src.hangs,AOpd.isT,srcOf,lookV,Nat.testBit,bne,simprocAttr,-Int.reduceNatCast'],by simp only [sT.1,sC.1,sTA.1,sCA.1,noApp,provA,provE,Src.isTmp,provOf,Src.hangs,AOpd.isT,srcOf,lookV,Nat.testBit,bne,simprocAttr,-Int.reduceNatCast',Int.natCast_zero],by omega⟩)
 have hb:Nat.blt h.length h.length = false:=by
  cases hb:Nat.blt h.length h.length with
  | false=>rfl
  | true=>exact absurd (Nat.blt_eq▸hb) (Nat.lt_irrefl _)
 simp only [sT.1,sC.1,sTA.1,sCA.1,noApp,provA,provE,Src.isTmp,provOf,Src.hangs,AOpd.isT,srcOf,lookV,Nat.testBit,bne,simprocAttr,-Int.reduceNatCast',ht,e5,dim_sl,drain_sl,leave_h',lower_sl,hb,cond_false] at hw
 exact ⟨junk,hw.symm⟩
theorem tt_ok:∀d,d ≤ 3→∀(v:Tp),tyB d v = true→(∀g,Wd (.fn 139 [] []) [tpV v] g = some (.ret (.str (ttx d v)),g,false))∧(ttx d v).length ≤ 8 ^ (d + 1):=by
 have a3:∀x:Int,(x == 3) = true→((x == 0) = false∧(x == 1) = false∧(x == 2) = false):=fun x h=>by
  simp only [beq_iff_eq,beq_eq_false_iff_ne] at *
  omega
 have leaf:∀(k:Int) (l:List Tp) (s:Str),(k == 0 || (k == 1 || k == 2)) = true→(s = bif k == 0 then [105,110,116] else bif k == 1 then [98,111,111,108] else [115,121,109])→(∀g,Wd (.fn 139 [] []) [tpV (.mk k l)] g = some (.ret (.str s),g,false))∧s.length ≤ 4:=by
  rintro k l s hk rfl
  refine ⟨fun g=>?_,by cases k == 0 <;> cases k == 1 <;> simp⟩
  rw [tpV_mk,Wd_fn rfl (show T.get 139 = some c139 by kernel_rfl)]
  cases h0:(k == 0) <;> cases h1:(k == 1) <;> cases h2:(k == 2) <;> rw [h0,h1,h2] at hk <;> first | cases hk;done | simp only [c139,sT.1,sC.1,noApp,lookV,Nat.testBit,simprocAttr,-Int.reduceNatCast',h0,h1,h2,cond_true,cond_false]
 intro d
 induction d with
 | zero=>
  rintro _ ⟨k,l⟩ hv
  rw [tyB,Bool.and_eq_true] at hv
  obtain ⟨h1,h2⟩:=leaf k l _ hv.1 rfl
  exact ⟨h1,Nat.le_trans h2 (by omega)⟩
 | succ d ih=>
  rintro hd ⟨k,l⟩ hv
  have hp:8 ≤ 8 ^ (d + 1):=by
   have:=Nat.pow_le_pow_right (n:=8) (by omega) (show 1 ≤ d + 1 by omega)
   simpa using this
  rw [tyB] at hv
  cases h3:(k == 3) with
  | false=>
   rw [h3,Bool.false_and,Bool.or_false,Bool.and_eq_true] at hv
   obtain ⟨h1,h2⟩:=leaf k l (ttx (d + 1) (.mk k l)) hv.1 (by
    rw [ttx]
    cases h0:(k == 0) <;> cases h1:(k == 1) <;> cases h2:(k == 2) <;> simp_all)
   exact ⟨h1,Nat.le_trans h2 (by rw [Nat.pow_succ];omega)⟩
  | true=>
   obtain ⟨h0,h1,h2⟩:=a3 k h3
   simp only [h0,h1,h2,h3,Bool.or_self,Bool.false_and,Bool.false_or,Bool.true_and,Bool.and_eq_true,decide_eq_true_eq,List.all_eq_true] at hv
   obtain ⟨⟨l1,l4⟩,hall⟩:=hv
   have hb:∀x ∈ l.map (ttx d),x.length ≤ 8 ^ (d + 1):=fun x hx=>by
    obtain ⟨y,hy,rfl⟩:=List.mem_map.1 hx
    exact (ih (by omega) y (hall y hy)).2
   have hp3:8 ^ (d + 1) ≤ 512:=by
    have:=Nat.pow_le_pow_right (n:=8) (by omega) (show d + 1 ≤ 3 by omega)
    simpa using this
   have e:ttx (d + 1) (.mk k l) = tupS (l.map (ttx d)):=by rw [ttx,h0,h1,h2];rfl
   rw [e]
   refine ⟨fun g=>?_,Nat.le_trans (tupS_len (by simpa using l4) hb) (by rw [Nat.pow_succ _ (d + 1)];omega)⟩
   have hE:=tyEach l4 (by rintro rfl;simp at l1) (fun x hx=>(ih (by omega) x (hall x hx)).1) (g ++ [.cells [.int .i64 k,.lst (l.map tpV) .no]])
   obtain ⟨junk,hE⟩:=hE
   have hT:=tupleT_ok (G:=(g ++ [.cells [.int .i64 k,.lst (l.map tpV) .no]]) ++ .cells (l.map fun x=>AVal.str (ttx d x)) :: junk) (id:=(g ++ [ABox.cells [.int .i64 k,.lst (l.map tpV) .no]]).length) (l:=l.map (ttx d)) (by rw [get_at,List.map_map];rfl) (by simpa using l4) (fun x hx=>Nat.le_trans (hb x hx) (by omega))
   rw [List.length_map] at hT
   have hgl:(g ++ [ABox.cells [.int .i64 k,.lst (l.map tpV) .no]]).length = g.length + 1:=by simp
   rw [hgl] at hT hE
   simp only [List.append_assoc,List.cons_append,List.nil_append] at hT hE
   generalize tupS (l.map (ttx d)) = S at *
   rw [tpV_mk,Wd_fn rfl (show T.get 139 = some c139 by kernel_rfl)]
   simp only [c139,sT.1,sC.1,noApp,lookV,Nat.testBit,simprocAttr,-Int.reduceNatCast',dim_sl,drain_sl,h0,h1,h2,hE,hT,cond_true,cond_false]
theorem TypeText_ok {v:Tp} (hv:tyB 3 v = true) (g:List ABox):Wd (.fn 113 [] []) [tpV v] g = some (.ret (.str (ttx 3 v)),g,false):=by
 have h1:=TypeRight_ok v (g ++ [.cells v.enc])
 have h2:=(tt_ok 3 (by omega) v hv).1 (g ++ [.cells v.enc])
 rw [hv] at h1
 generalize ttx 3 v = b at *
 clear hv
 obtain ⟨k,l⟩:=v
 rw [Tp.enc] at h1 h2
 rw [show (l.map fun v=>AVal.agg v.enc) = l.map tpV from rfl] at h1 h2
 rw [tpV_mk] at h1 h2 ⊢
 rw [Wd_fn rfl (show T.get 113 = some c113 by kernel_rfl)]
 simp only [c113,sT.1,sC.1,noApp,lookV,Nat.testBit,simprocAttr,-Int.reduceNatCast',h1,h2]
end Go.Proofs.YtkmlapholimbcaaGreatDoor.AE
