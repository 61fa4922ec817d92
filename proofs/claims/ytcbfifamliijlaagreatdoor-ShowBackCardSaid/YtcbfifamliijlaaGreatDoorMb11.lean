/- A part of the proof. No condition. -/
import Derived.Test.YtcbfifamliijlaaGreatDoorMb10
import Derived.Test.YtcbfifamliijlaaGreatDoorMb9
open Int renaming reduceNatCast'→rN
set_option maxRecDepth 100000
set_option maxHeartbeats 0
open List renaming length_append→ji,length_map→jQ,append_assoc→jp,append_nil→jF,map_map→jG,cons_append→jw,length_cons→jy,length_nil→jz
open Bool renaming and_eq_true→jk,false_eq_true→jl,false_or→jN
open Nat renaming add_assoc→jt
namespace Go.Proofs.YtcbfifamliijlaaGreatDoor.AE
open Go.AE
section
variable {S:Str} {G:List qh} {id:Nat} {n:Int} {nm sb:Str}
theorem qK1 (hS:S.length <= qi) {aS:List Exl} {f:Exl->Str} (h:∀a ∈ aS,qem S a (f a)) (hl:aS.length <= 100) (E:id < G.length) (hb:isB G[id]? = true) (hp:bsO G[id]? ++ quw (aS.map λa=>(a.op,f a)) <+: S) :
  Wd (.fn 68 [] []) [.ptr id 0,exV (.mk 6 n nm sb aS)] G = some (.ret (.tup []),G.set id (BX (bsO G[id]? ++ quw (aS.map λa=>(a.op,f a)))),false):=by
 have e:=qaS hb
 generalize bsO G[id]? = s at *
 have I:id < G.length + 1:=zo
 have ht:=fun {G id}=>qxD (G:=G) (id:=id) hS h hl
 generalize hw:Wd _ _ G = w
 rw [qt,ql 68 c68] at hw
 simp only [c68,sT.1,sC.1,qe,seval,-rN,ht,hp,E,I,e,qaC,qaG] at hw
 subst hw
 rfl
theorem qHX (hS:S.length <= qi) {a:Exl} {t:Str} (h:qem S a t) (I:0 <= n) (E:n <= 3) (U:id < G.length) (hb:isB G[id]? = true) (hp:bsO G[id]? ++ (inn (bif a.op == 0 then 10 else 8) (a.op,t) ++ (46 :: Lib.itoa n)) <+: S) :
  Wd (.fn 68 [] []) [.ptr id 0,exV (.mk 12 n nm sb [a])] G = some (.ret (.tup []),G.set id (BX (bsO G[id]? ++ (inn (bif a.op == 0 then 10 else 8) (a.op,t) ++ (46 :: Lib.itoa n)))),false):=by
 have e:=qaS hb
 generalize bsO G[id]? = s at *
 have Y:id < G.length + 1:=zo
 have ht:=fun {G id}=>qz4 hS h 12 n nm sb I E G id
 generalize inn (bif a.op == 0 then 10 else 8) (a.op,t) ++ (46 :: Lib.itoa n) = u at *
 rw [qt,List.map_cons,List.map_nil] at ht
 generalize hw:Wd _ _ G = w
 rw [qt,ql 68 c68] at hw
 simp only [c68,sT.1,sC.1,qe,seval,-rN,ht,hp,U,Y,e,qaC,qaG] at hw
 subst hw
 rfl
end
def OkN:Exl->Prop
 | .mk _ n _ _ aS=>n <= 9223372036854775807/\∀a ∈ aS,OkN a
theorem qxM {op n:Int} {nm sb:Str} {aS:List Exl} (h:OkN (.mk op n nm sb aS)):n <= 9223372036854775807/\∀a ∈ aS,OkN a:=by rw [OkN] at h;exact h
theorem qcA {α:Type} {l:List α} (h:l.length = 1):∃a,l = [a]:=by
 match l,h with
 | [a],_=>exact ⟨a,rfl⟩
theorem qaW {α:Type} {l:List α} (h:l.length = 2):∃a b,l = [a,b]:=by
 match l,h with
 | [a,b],_=>exact ⟨a,b,rfl⟩
theorem qhp {α:Type} {l:List α} (h:l.length = 3):∃a b c,l = [a,b,c]:=by
 match l,h with
 | [a,b,c],_=>exact ⟨a,b,c,rfl⟩
theorem qur {S:Str} (hS:S.length <= qi) {op n:Int} {nm sb:Str} {aS:List Exl} {f:Exl->Str} (hb:qiv op n nm sb aS.length = true) (hn:n <= 9223372036854775807) (h:∀a ∈ aS,qem S a (f a)):qem S (.mk op n nm sb aS) (ntx op n nm sb (aS.map λa=>(a.op,f a))):=by
 have ho:0 <= op/\op <= 25:=Decidable.byContradiction λhc=>by rw [qdW hc] at hb;cases hb
 refine ⟨ho,λG id E hB hp=>?_⟩
 have an:∀{a b:Bool},(a && b) = true->a = true/\b = true:=λh=>(jk _ _).mp h
 have:op = 0\/op = 1\/op = 2\/op = 3\/op = 4\/op = 5\/op = 6\/op = 7\/op = 8\/op = 9\/op = 10\/op = 11\/op = 12\/op = 13\/op = 14\/op = 15\/op = 16\/op = 17\/op = 18\/op = 19\/op = 20\/op = 21\/op = 22\/op = 23\/op = 24\/op = 25:=zo
 rcases this with rfl | rfl | rfl | rfl | rfl | rfl | rfl | rfl | rfl | rfl | rfl | rfl | rfl | rfl | rfl | rfl | rfl | rfl | rfl | rfl | rfl | rfl | rfl | rfl | rfl | rfl
 ·obtain ⟨h1,h2⟩:=an (show (fB _ _ _ _ _ n nm sb aS.length && ile 0 n) = true from hb)
  have hl:aS = []:=List.length_eq_zero_iff.1 (by have:=qG h1;omega)
  subst hl
  rw [qav] at h2
  exact qKV hS (of_decide_eq_true h2) hn E hB hp
 ·have h1:fB false false false 0 0 n nm sb aS.length = true:=hb
  have hl:aS = []:=List.length_eq_zero_iff.1 (by have:=qG h1;omega)
  subst hl
  exact qKW hS E hB hp
 ·have h1:fB false false false 0 0 n nm sb aS.length = true:=hb
  have hl:aS = []:=List.length_eq_zero_iff.1 (by have:=qG h1;omega)
  subst hl
  exact qKX hS E hB hp
 ·obtain ⟨h1,h2⟩:=an (show (fB _ _ _ _ _ n nm sb aS.length && qcx nm) = true from hb)
  have hl:aS = []:=List.length_eq_zero_iff.1 (by have:=qG h1;omega)
  subst hl
  exact qKY hS (qii h2).2 E hB hp
 ·obtain ⟨h1,h2⟩:=an (show (fB _ _ _ _ _ n nm sb aS.length && qy nm) = true from hb)
  have hl:aS = []:=List.length_eq_zero_iff.1 (by have:=qG h1;omega)
  subst hl
  exact qKZ hS (qaA h2).2 E hB hp
 ·obtain ⟨h1,h2⟩:=an (show (fB _ _ _ _ _ n nm sb aS.length && (qy nm && qy sb)) = true from hb)
  obtain ⟨h2,h3⟩:=an h2
  have hl:aS = []:=List.length_eq_zero_iff.1 (by have:=qG h1;omega)
  subst hl
  exact qK0 hS (qaA h2).2 (qaA h3).2 E hB hp
 ·have h1:fB false false false 1 4 n nm sb aS.length = true:=hb
  exact qK1 hS h (by have:=qG h1;omega) E hB hp
 ·obtain ⟨h1,h2⟩:=an (show (fB _ _ _ _ _ n nm sb aS.length && qy nm) = true from hb)
  have hl:aS = []:=List.length_eq_zero_iff.1 (by have:=qG h1;omega)
  subst hl
  exact qK2 hS (qaA h2).2 E hB hp
 ·obtain ⟨h1,h2⟩:=an (show (fB _ _ _ _ _ n nm sb aS.length && qy nm) = true from hb)
  have hl:aS = []:=List.length_eq_zero_iff.1 (by have:=qG h1;omega)
  subst hl
  exact qK3 hS (qaA h2).2 E hB hp
 ·obtain ⟨h1,h2⟩:=an (show (fB _ _ _ _ _ n nm sb aS.length && qy nm) = true from hb)
  have hl:aS = []:=List.length_eq_zero_iff.1 (by have:=qG h1;omega)
  subst hl
  exact qK4 hS (qaA h2).2 E hB hp
 ·obtain ⟨h1,h2⟩:=an (show (fB _ _ _ 1 1 n nm sb aS.length && qy nm) = true from hb)
  obtain ⟨a,rfl⟩:=qcA (l:=aS) (by have:=qG h1;omega)
  exact qHV hS (h a (by simp)) (qaA h2).2 E hB hp
 ·have h1:fB false false false 0 0 n nm sb aS.length = true:=hb
  have hl:aS = []:=List.length_eq_zero_iff.1 (by have:=qG h1;omega)
  subst hl
  exact qHW hS E hB hp
 ·obtain ⟨h1,h2⟩:=an (show (fB _ _ _ 1 1 n nm sb aS.length && (ile 0 n && ilt n 4)) = true from hb)
  obtain ⟨a,rfl⟩:=qcA (l:=aS) (by have:=qG h1;omega)
  simp only [jk,qav,qX,decide_eq_true_eq] at h2
  exact qHX hS (h a (by simp)) h2.1 zo E hB hp
 ·have h1:fB false false false 1 1 n nm sb aS.length = true:=hb
  obtain ⟨a,rfl⟩:=qcA (l:=aS) (by have:=qG h1;omega)
  exact qHY hS (h a (by simp)) E hB hp
 ·have h1:fB false false false 1 1 n nm sb aS.length = true:=hb
  obtain ⟨a,rfl⟩:=qcA (l:=aS) (by have:=qG h1;omega)
  exact qHZ hS (h a (by simp)) E hB hp
 ·have h1:fB false false false 2 2 n nm sb aS.length = true:=hb
  obtain ⟨a,b,rfl⟩:=qaW (l:=aS) (by have:=qG h1;omega)
  exact qH0 hS (h a (by simp)) (h b (by simp)) E hB hp
 ·have h1:fB false false false 2 2 n nm sb aS.length = true:=hb
  obtain ⟨a,b,rfl⟩:=qaW (l:=aS) (by have:=qG h1;omega)
  exact qH1 hS (h a (by simp)) (h b (by simp)) E hB hp
 ·have h1:fB false false false 2 2 n nm sb aS.length = true:=hb
  obtain ⟨a,b,rfl⟩:=qaW (l:=aS) (by have:=qG h1;omega)
  exact qH2 hS (h a (by simp)) (h b (by simp)) E hB hp
 ·have h1:fB false false false 2 2 n nm sb aS.length = true:=hb
  obtain ⟨a,b,rfl⟩:=qaW (l:=aS) (by have:=qG h1;omega)
  exact qH3 hS (h a (by simp)) (h b (by simp)) E hB hp
 ·have h1:fB false false false 2 2 n nm sb aS.length = true:=hb
  obtain ⟨a,b,rfl⟩:=qaW (l:=aS) (by have:=qG h1;omega)
  exact qH4 hS (h a (by simp)) (h b (by simp)) E hB hp
 ·have h1:fB false false false 2 2 n nm sb aS.length = true:=hb
  obtain ⟨a,b,rfl⟩:=qaW (l:=aS) (by have:=qG h1;omega)
  exact qH5 hS (h a (by simp)) (h b (by simp)) E hB hp
 ·have h1:fB false false false 2 2 n nm sb aS.length = true:=hb
  obtain ⟨a,b,rfl⟩:=qaW (l:=aS) (by have:=qG h1;omega)
  exact qH6 hS (h a (by simp)) (h b (by simp)) E hB hp
 ·have h1:fB false false false 2 2 n nm sb aS.length = true:=hb
  obtain ⟨a,b,rfl⟩:=qaW (l:=aS) (by have:=qG h1;omega)
  exact qH7 hS (h a (by simp)) (h b (by simp)) E hB hp
 ·have h1:fB false false false 2 2 n nm sb aS.length = true:=hb
  obtain ⟨a,b,rfl⟩:=qaW (l:=aS) (by have:=qG h1;omega)
  exact qH8 hS (h a (by simp)) (h b (by simp)) E hB hp
 ·have h1:fB false false false 2 2 n nm sb aS.length = true:=hb
  obtain ⟨a,b,rfl⟩:=qaW (l:=aS) (by have:=qG h1;omega)
  exact qH9 hS (h a (by simp)) (h b (by simp)) E hB hp
 ·have h1:fB false false false 3 3 n nm sb aS.length = true:=hb
  obtain ⟨a,b,c,rfl⟩:=qhp (l:=aS) (by have:=qG h1;omega)
  exact qIa hS (h a (by simp)) (h b (by simp)) (h c (by simp)) E hB hp
theorem qus {S:Str} (hS:S.length <= qi):∀(d:Nat) (e:Exl),right d e = true->OkN e->qem S e (tx d e)
 | 0,_,h,_=>by rw [right] at h;cases h
 | d + 1,.mk op n nm sb aS,h,hn=>by
  rw [right,jk,List.all_eq_true] at h
  obtain ⟨h1,h2⟩:=qxM hn
  rw [tx]
  exact qur hS h.1 h1 λa ha=>qus hS d a (h.2 a ha) (h2 a ha)
theorem qq2:∀(k u:Nat),u < 10 ^ (k + 1)->1 <= (Lib.decDigits u).length/\(Lib.decDigits u).length <= k + 1
 | k,u,h=>by
  rw [Lib.decDigits]
  split
  ·simp
  ·cases k with
   | zero=>omega
   | succ k=>
    have:=qq2 k (u / 10) (by rw [Nat.pow_succ] at h;omega)
    simp
    omega
theorem qnn {n:Int} (h0:0 <= n) (h1:n <= 9223372036854775807):1 <= (Lib.itoa n).length/\(Lib.itoa n).length <= 19:=by
 rw [Lib.itoa,if_neg zo]
 exact qq2 18 n.toNat zo
theorem qdo (k:Int) (p:Int×Str):(inn k p).length <= p.2.length + 2:=by
 rw [inn]
 cases ile k (rk p.1) <;> simp
theorem qsw (l:List Str):(qbV l).length <= (l.map λt=>t.length + 2).sum:=by
 cases l with
 | nil=>simp [qbV]
 | cons x r=>
  simp only [qbV,ji,List.map_cons,List.sum_cons]
  have:((r.map λt=>44 :: 32 :: t).flatten).length = (r.map λt=>t.length + 2).sum:=by
   rw [List.length_flatten,jG]
   rfl
  omega
theorem qyz {α:Type} {l:List α} {f g:α->Nat} (h:∀a ∈ l,f a <= g a):(l.map f).sum <= (l.map g).sum:=by
 induction l with
 | nil=>simp
 | cons a l ih=>
  simp only [List.map_cons,List.sum_cons]
  have:=h a (by simp)
  have:=ih λb hb=>h b (by simp [hb])
  omega
theorem qAI {op n:Int} {nm sb:Str} {ps:List (Int×Str)} (hb:qiv op n nm sb ps.length = true) (hn:n <= 9223372036854775807):1 <= (ntx op n nm sb ps).length/\(ntx op n nm sb ps).length <= 40 + (ps.map λp=>p.2.length + 4).sum:=by
 have ho:0 <= op/\op <= 25:=Decidable.byContradiction λhc=>by rw [qdW hc] at hb;cases hb
 have an:∀{a b:Bool},(a && b) = true->a = true/\b = true:=λh=>(jk _ _).mp h
 have:op = 0\/op = 1\/op = 2\/op = 3\/op = 4\/op = 5\/op = 6\/op = 7\/op = 8\/op = 9\/op = 10\/op = 11\/op = 12\/op = 13\/op = 14\/op = 15\/op = 16\/op = 17\/op = 18\/op = 19\/op = 20\/op = 21\/op = 22\/op = 23\/op = 24\/op = 25:=zo
 have two:∀{j k:Int} {w:Str},ps.length = 2->1 <= w.length->w.length <= 5->1 <= (inn j (ps.getD 0 (0,[])) ++ (w ++ inn k (ps.getD 1 (0,[])))).length/\(inn j (ps.getD 0 (0,[])) ++ (w ++ inn k (ps.getD 1 (0,[])))).length <= 40 + (ps.map λp=>p.2.length + 4).sum:=fun {j k w} hl h1 h2=>by
  obtain ⟨a,b,rfl⟩:=qaW hl
  have:=qdo j a
  have:=qdo k b
  simp only [List.getD_cons_zero,List.getD_cons_succ,ji,List.map_cons,List.map_nil,List.sum_cons,List.sum_nil]
  omega
 rcases this with rfl | rfl | rfl | rfl | rfl | rfl | rfl | rfl | rfl | rfl | rfl | rfl | rfl | rfl | rfl | rfl | rfl | rfl | rfl | rfl | rfl | rfl | rfl | rfl | rfl | rfl
 ·obtain ⟨h1,h2⟩:=an (show (fB _ _ _ _ _ n nm sb ps.length && ile 0 n) = true from hb)
  rw [qav] at h2
  have:=qnn (of_decide_eq_true h2) hn
  rw [show ntx 0 n nm sb ps = Lib.itoa n from rfl]
  omega
 ·rw [show ntx 1 n nm sb ps = [116,114,117,101] from rfl]
  simp
  omega
 ·rw [show ntx 2 n nm sb ps = [102,97,108,115,101] from rfl]
  simp
  omega
 ·obtain ⟨h1,h2⟩:=an (show (fB _ _ _ _ _ n nm sb ps.length && qcx nm) = true from hb)
  have:=qii h2
  rw [show ntx 3 n nm sb ps = 39 :: nm from rfl]
  simp only [jy]
  omega
 ·obtain ⟨h1,h2⟩:=an (show (fB _ _ _ _ _ n nm sb ps.length && qy nm) = true from hb)
  have:=qaA h2
  rw [show ntx 4 n nm sb ps = nm from rfl]
  try simp only [jy,ji,jz]
  omega
 ·obtain ⟨h1,h2⟩:=an (show (fB _ _ _ _ _ n nm sb ps.length && (qy nm && qy sb)) = true from hb)
  obtain ⟨h2,h3⟩:=an h2
  have:=qaA h2
  have:=qaA h3
  rw [show ntx 5 n nm sb ps = nm ++ (46 :: sb) from rfl]
  simp only [jy,ji]
  omega
 ·rw [show ntx 6 n nm sb ps = quw ps from rfl,quw]
  have h1:=qsw (ps.map (inn 0))
  rw [jG] at h1
  have h2:=qyz (l:=ps) (f:=(λt=>t.length + 2) ∘ inn 0) (g:=λp=>p.2.length + 4) λp _=>by have:=qdo 0 p;simp only [Function.comp];omega
  cases ps.length == 1 <;> simp only [cond_true,cond_false,jy,ji,jz] <;> omega
 ·obtain ⟨h1,h2⟩:=an (show (fB _ _ _ _ _ n nm sb ps.length && qy nm) = true from hb)
  have:=qaA h2
  rw [show ntx 7 n nm sb ps = [99,111,117,110,116,40] ++ (nm ++ [41]) from rfl]
  try simp only [jy,ji,jz]
  omega
 ·obtain ⟨h1,h2⟩:=an (show (fB _ _ _ _ _ n nm sb ps.length && qy nm) = true from hb)
  have:=qaA h2
  rw [show ntx 8 n nm sb ps = [104,97,115,40] ++ (nm ++ [41]) from rfl]
  try simp only [jy,ji,jz]
  omega
 ·obtain ⟨h1,h2⟩:=an (show (fB _ _ _ _ _ n nm sb ps.length && qy nm) = true from hb)
  have:=qaA h2
  rw [show ntx 9 n nm sb ps = [115,117,109,40] ++ (nm ++ [41]) from rfl]
  try simp only [jy,ji,jz]
  omega
 ·obtain ⟨h1,h2⟩:=an (show (fB _ _ _ 1 1 n nm sb ps.length && qy nm) = true from hb)
  have:=qaA h2
  obtain ⟨a,rfl⟩:=qcA (l:=ps) (by have:=qG h1;omega)
  rw [show ntx 10 n nm sb [a] = [108,101,97,115,116,40] ++ (nm ++ ([44,32] ++ (inn 0 a ++ [41]))) from rfl]
  have:=qdo 0 a
  simp only [jy,ji,jz,List.map_cons,List.map_nil,List.sum_cons,List.sum_nil]
  omega
 ·rw [show ntx 11 n nm sb ps = [101,108,97,112,115,101,100] from rfl]
  simp
  omega
 ·obtain ⟨h1,h2⟩:=an (show (fB _ _ _ 1 1 n nm sb ps.length && (ile 0 n && ilt n 4)) = true from hb)
  obtain ⟨a,rfl⟩:=qcA (l:=ps) (by have:=qG h1;omega)
  simp only [jk,qav,qX,decide_eq_true_eq] at h2
  have:=qnn h2.1 hn
  rw [show ntx 12 n nm sb [a] = inn (bif a.1 == 0 then 10 else 8) a ++ (46 :: Lib.itoa n) from rfl]
  have:=qdo (bif a.1 == 0 then 10 else 8) a
  simp only [jy,ji,List.map_cons,List.map_nil,List.sum_cons,List.sum_nil]
  omega
 ·have h1:fB false false false 1 1 n nm sb ps.length = true:=hb
  obtain ⟨a,rfl⟩:=qcA (l:=ps) (by have:=qG h1;omega)
  rw [show ntx 13 n nm sb [a] = 45 :: inn 7 a from rfl]
  have:=qdo 7 a
  simp only [jy,List.map_cons,List.map_nil,List.sum_cons,List.sum_nil]
  omega
 ·have h1:fB false false false 1 1 n nm sb ps.length = true:=hb
  obtain ⟨a,rfl⟩:=qcA (l:=ps) (by have:=qG h1;omega)
  rw [show ntx 14 n nm sb [a] = [110,111,116,32] ++ inn 3 a from rfl]
  have:=qdo 3 a
  simp only [jy,ji,jz,List.map_cons,List.map_nil,List.sum_cons,List.sum_nil]
  omega
 ·have h1:fB false false false 2 2 n nm sb ps.length = true:=hb
  exact two (j:=(sgn 15).2.1) (k:=(sgn 15).2.2) (w:=(sgn 15).1) (by have:=qG h1;omega) (by decide) (by decide)
 ·have h1:fB false false false 2 2 n nm sb ps.length = true:=hb
  exact two (j:=(sgn 16).2.1) (k:=(sgn 16).2.2) (w:=(sgn 16).1) (by have:=qG h1;omega) (by decide) (by decide)
 ·have h1:fB false false false 2 2 n nm sb ps.length = true:=hb
  exact two (j:=(sgn 17).2.1) (k:=(sgn 17).2.2) (w:=(sgn 17).1) (by have:=qG h1;omega) (by decide) (by decide)
 ·have h1:fB false false false 2 2 n nm sb ps.length = true:=hb
  exact two (j:=(sgn 18).2.1) (k:=(sgn 18).2.2) (w:=(sgn 18).1) (by have:=qG h1;omega) (by decide) (by decide)
 ·have h1:fB false false false 2 2 n nm sb ps.length = true:=hb
  exact two (j:=(sgn 19).2.1) (k:=(sgn 19).2.2) (w:=(sgn 19).1) (by have:=qG h1;omega) (by decide) (by decide)
 ·have h1:fB false false false 2 2 n nm sb ps.length = true:=hb
  exact two (j:=(sgn 20).2.1) (k:=(sgn 20).2.2) (w:=(sgn 20).1) (by have:=qG h1;omega) (by decide) (by decide)
 ·have h1:fB false false false 2 2 n nm sb ps.length = true:=hb
  exact two (j:=(sgn 21).2.1) (k:=(sgn 21).2.2) (w:=(sgn 21).1) (by have:=qG h1;omega) (by decide) (by decide)
 ·have h1:fB false false false 2 2 n nm sb ps.length = true:=hb
  exact two (j:=(sgn 22).2.1) (k:=(sgn 22).2.2) (w:=(sgn 22).1) (by have:=qG h1;omega) (by decide) (by decide)
 ·have h1:fB false false false 2 2 n nm sb ps.length = true:=hb
  exact two (j:=(sgn 23).2.1) (k:=(sgn 23).2.2) (w:=(sgn 23).1) (by have:=qG h1;omega) (by decide) (by decide)
 ·have h1:fB false false false 2 2 n nm sb ps.length = true:=hb
  exact two (j:=(sgn 24).2.1) (k:=(sgn 24).2.2) (w:=(sgn 24).1) (by have:=qG h1;omega) (by decide) (by decide)
 ·have h1:fB false false false 3 3 n nm sb ps.length = true:=hb
  obtain ⟨a,b,c,rfl⟩:=qhp (l:=ps) (by have:=qG h1;omega)
  rw [show ntx 25 n nm sb [a,b,c] = [105,102,32] ++ (inn 0 a ++ ([32,116,104,101,110,32] ++ (inn 0 b ++ ([32,101,108,115,101,32] ++ inn 0 c)))) from rfl]
  have:=qdo 0 a
  have:=qdo 0 b
  have:=qdo 0 c
  simp only [jy,ji,jz,List.map_cons,List.map_nil,List.sum_cons,List.sum_nil]
  omega
theorem quy:∀(d:Nat) (e:Exl),right d e = true->OkN e->1 <= (tx d e).length/\(tx d e).length + 4 <= 44 * sz d e
 | 0,_,h,_=>by rw [right] at h;cases h
 | d + 1,.mk op n nm sb aS,h,hn=>by
  rw [right,jk,List.all_eq_true] at h
  obtain ⟨h1,h2⟩:=qxM hn
  have hl:=qAI (ps:=aS.map λa=>(a.op,tx d a)) (by rw [jQ];exact h.1) h1
  have hs:((aS.map λa=>(a.op,tx d a)).map λp=>p.2.length + 4).sum <= (aS.map λa=>44 * sz d a).sum:=by
   rw [jG]
   exact qyz λa ha=>(quy d a (h.2 a ha) (h2 a ha)).2
  have hm:(aS.map λa=>44 * sz d a).sum = 44 * (aS.map (sz d)).sum:=by
   clear h hn h2 hl hs
   induction aS with
   | nil=>rfl
   | cons a aS ih=>simp only [List.map_cons,List.sum_cons,ih];omega
  rw [tx,sz]
  omega
theorem qJe (b:Nat) (h:List qh):hop b (.bld 84 5) [] h = some (.ptr h.length 0,h ++ [BX []],false):=Eq.trans rfl rfl
theorem ql3 {d:Nat} {e:Exl} (hr:right d e = true) (hn:OkN e) (hs:sz d e <= 1000) (G:List qh):Wd (.fn 28 [] []) [exV e] G = some (.ret (.str (tx d e)),G,false):=by
 obtain ⟨h1,h2⟩:=quy d e hr hn
 have hS:(tx d e).length <= qi:=by unfold qi;omega
 obtain ⟨_,hT⟩:=qus hS d e hr hn
 have I:(tx d e).isEmpty = false:=by
  cases hq:tx d e with
  | nil=>rw [hq] at h1;simp at h1
  | cons a l=>rfl
 have E:=fun {G id}=>qxm (G:=G) (id:=id)
 generalize tx d e = t at *
 obtain ⟨op,n,nm,sb,aS⟩:=e
 rw [qt] at hT
 generalize hx:qh.cells [.int .i64 op,.int .i64 n,.str nm,.str sb,.lst (aS.map exV) .no] = x
 have g1:(G ++ [x,BX []])[G.length + 1]? = some (BX []):=by rw [qbm];rfl
 have hT:=hT (G ++ [x,BX []]) (G.length + 1) (by simp) (by rw [g1];exact qaG _) (by rw [g1,qaC];exact List.prefix_rfl)
 rw [g1,qaC,List.nil_append,qnV] at hT
 subst hx
 rw [qt,ql 28 c28]
 simp only [c28,sT.1,sC.1,qe,seval,-rN,qgx,qbx,qby,qJe,hT,E,I,qaC,qaG]
def qly (e:Exl):Prop:=right 20 e = true/\OkN e/\sz 20 e <= 1000
def eT (e:Exl):Str:=tx 20 e
theorem qrr {e:Exl} (h:qly e) (G:List qh):Wd (.fn 28 [] []) [exV e] G = some (.ret (.str (eT e)),G,false):=ql3 h.1 h.2.1 h.2.2 G
theorem qc4 {e:Exl} (h:qly e):(eT e).length <= 44000:=by
 have:=(quy 20 e h.1 h.2.1).2
 have:=h.2.2
 unfold eT
 omega
abbrev PT:=Int×Str×Int
def mk3 (s:Str):PT:=(3,s,0)
def nm0 (s:Str):PT:=(0,s,0)
def in1 (n:Int):PT:=(1,[],n)
def sy2 (s:Str):PT:=(2,s,0)
def itk (k:Int) (p:Int×List PT):List PT:=bif ile k (rk p.1) then p.2 else mk3 [40] :: (p.2 ++ [mk3 [41]])
def qbh:List (List PT)->List PT
 | []=>[]
 | x :: r=>x ++ (r.map λt=>mk3 [44] :: t).flatten
def qDN (ps:List (Int×List PT)):List PT:=mk3 [40] :: (qbh (ps.map (itk 0)) ++ (bif ps.length == 1 then [mk3 [44],mk3 [41]] else [mk3 [41]]))
def sgK (op:Int):PT:=bif op == 24 then nm0 [111,114] else bif op == 23 then nm0 [97,110,100] else bif op == 20 then mk3 [61] else bif op == 21 then mk3 [60] else bif op == 22 then mk3 [60,61] else bif op == 15 then mk3 [43] else bif op == 16 then mk3 [45] else bif op == 17 then mk3 [42] else bif op == 18 then mk3 [47] else mk3 [37]
def ntk (op n:Int) (nm sb:Str) (ps:List (Int×List PT)):List PT:=
 bif op == 0 then [in1 n] else bif op == 1 then [nm0 [116,114,117,101]] else bif op == 2 then [nm0 [102,97,108,115,101]] else bif op == 11 then [nm0 [101,108,97,112,115,101,100]]
 else bif op == 3 then [sy2 nm] else bif op == 4 then [nm0 nm] else bif op == 5 then [nm0 nm,mk3 [46],nm0 sb] else bif op == 7 then [nm0 [99,111,117,110,116],mk3 [40],nm0 nm,mk3 [41]] else bif op == 8 then [nm0 [104,97,115],mk3 [40],nm0 nm,mk3 [41]]
 else bif op == 9 then [nm0 [115,117,109],mk3 [40],nm0 nm,mk3 [41]] else bif op == 10 then [nm0 [108,101,97,115,116],mk3 [40],nm0 nm,mk3 [44]] ++ (itk 0 (ps.getD 0 (0,[])) ++ [mk3 [41]])
 else bif op == 6 then qDN ps else bif op == 12 then itk (bif (ps.getD 0 (0,[])).1 == 0 then 10 else 8) (ps.getD 0 (0,[])) ++ [mk3 [46],in1 n] else bif op == 13 then mk3 [45] :: itk 7 (ps.getD 0 (0,[])) else bif op == 14 then nm0 [110,111,116] :: itk 3 (ps.getD 0 (0,[]))
 else bif op == 25 then nm0 [105,102] :: (itk 0 (ps.getD 0 (0,[])) ++ (nm0 [116,104,101,110] :: (itk 0 (ps.getD 1 (0,[])) ++ (nm0 [101,108,115,101] :: itk 0 (ps.getD 2 (0,[]))))))
 else itk (sgn op).2.1 (ps.getD 0 (0,[])) ++ (sgK op :: itk (sgn op).2.2 (ps.getD 1 (0,[])))
def tk:Nat->Exl->List PT
 | 0,_=>[]
 | d + 1,.mk op n nm sb aS=>ntk op n nm sb (aS.map λa=>(a.op,tk d a))
def Exl.cv:Exl->Exp
 | .mk op n nm sb aS=>.mk op n nm sb (aS.map λa=>a.cv)
theorem cv_mk (op n:Int) (nm sb:Str) (aS:List Exl):(Exl.mk op n nm sb aS).cv = .mk op n nm sb (aS.map Exl.cv):=by rw [Exl.cv]
def See (ws:List Tok) (n:Nat) (ks:List PT):Prop:=∀i t,ks[i]? = some t->n + i < ws.length/\((word ws (n + i)).kind,(word ws (n + i)).s,(word ws (n + i)).n) = t
theorem See.app {ws:List Tok} {n:Nat} {a b:List PT} (h:See ws n (a ++ b)):See ws n a/\See ws (n + a.length) b:=by
 refine ⟨λi t hi=>h i t ?_,λi t hi=>?_⟩
 ·rw [List.getElem?_append_left (List.getElem?_eq_some_iff.1 hi).1];exact hi
 ·have:=h (a.length + i) t (by rw [List.getElem?_append_right zo,Nat.add_sub_cancel_left];exact hi)
  rwa [<-jt] at this
theorem See.head {ws:List Tok} {n:Nat} {t:PT} {b:List PT} (h:See ws n (t :: b)):n < ws.length/\(word ws n).kind = t.1/\(word ws n).s = t.2.1/\(word ws n).n = t.2.2:=by
 have:=h 0 t rfl
 rw [Nat.add_zero] at this
 obtain ⟨h1,h2⟩:=this
 cases t with
 | mk a bc=>
  cases bc with
  | mk b c=>
   simp only [Prod.mk.injEq] at h2
   exact ⟨h1,h2⟩
theorem See.tail {ws:List Tok} {n:Nat} {t:PT} {b:List PT} (h:See ws n (t :: b)):See ws (n + 1) b:=λi u hi=>by
 have:=h (i + 1) u (by simpa using hi)
 rwa [Nat.add_comm i 1,<-jt] at this
def tW (t:PT) (s:Str):Bool:=(t.1 == 3 || t.1 == 0) && t.2.1 == s
theorem See.is {ws:List Tok} {n:Nat} {t:PT} {b:List PT} (h:See ws n (t :: b)) (s:Str):isW ws n s = tW t s:=by
 obtain ⟨_,h1,h2,_⟩:=h.head
 rw [isW,tW,h1,h2]
theorem See.named {ws:List Tok} {n:Nat} {t:PT} {b:List PT} (h:See ws n (t :: b)):qaT ws n = (t.1 == 0 && qy t.2.1):=by
 obtain ⟨_,h1,h2,_⟩:=h.head
 rw [qaT,h1,h2]
theorem qAl {s w:Str} (h:qy s = true) (hw:qy w = false):(s == w) = false:=by
 rw [beq_eq_false_iff_ne]
 rintro rfl
 rw [h] at hw
 cases hw
def fnL (k:Nat):FuncId:=match k with
 | 0=>65
 | 1=>100
 | 2=>148
 | 3=>183
 | 4=>190
 | 5=>198
 | 6=>209
 | 7=>215
 | 8=>218
 | _=>219
structure Stp (ws:List Tok) (m k:Nat):Prop where
 of:isW ws m [46] = true->qaT ws (m + 1) = false
 dot:k < 8->isW ws m [46] = false
 prod:k < 6->qc9 ws m = none
 sum:k < 5->qeJ ws m = none
 same:k < 5->qd8 ws m = none
 and:k < 2->qg4 ws m = none
 or:k < 1->qqa ws m = none
theorem Stp.up {ws:List Tok} {m k j:Nat} (h:Stp ws m k) (hk:k <= j):Stp ws m j:=⟨h.of,λ_=>h.dot zo,λ_=>h.prod zo,λ_=>h.sum zo,λ_=>h.same zo,λ_=>h.and zo,λ_=>h.or zo⟩
def qEz (ws:List Tok) (k:Nat) (pos:Int) (x:Exp) (m:Nat) (o:Out):Prop:=match k with
 | 8=>qg2 ws pos x m o
 | 6=>qg8 (qc9 ws) (qbf 215 ws) pos x m o
 | 5=>qg8 (qeJ ws) (qbf 209 ws) pos x m o
 | 2=>qg8 (qg4 ws) (qbf 183 ws) pos x m o
 | 1=>qg8 (qqa ws) (qbf 148 ws) pos x m o
 | _=>o = .ok x m
def Lv (ws:List Tok) (ks:List PT) (x:Exp) (k:Nat):Prop:=∀n,See ws n ks->n + ks.length < ws.length->Stp ws (n + ks.length) k->∀o,qEz ws k (word ws n).pos x (n + ks.length) o->qbf (fnL k) ws n o
structure Fst (r:Nat) (ks:List PT):Prop where
 ne:ks ≠ []
 eif:∀t ∈ ks.head?,1 <= r->tW t [105,102] = false
 enot:∀t ∈ ks.head?,4 <= r->tW t [110,111,116] = false
 eneg:∀t ∈ ks.head?,8 <= r->tW t [45] = false
 esh:∀t ∈ ks.head?,tW t [41] = false
section
variable {ws:List Tok} {ks:List PT} {x:Exp} {r:Nat}
theorem Lv.stop {k:Nat} (h:Lv ws ks x k) {n:Nat} (hs:See ws n ks) (hl:n + ks.length < ws.length) (E:Stp ws (n + ks.length) k) (h8:isW ws (n + ks.length) [46] = false) (h6:qc9 ws (n + ks.length) = none\/k ≠ 6) (h5:qeJ ws (n + ks.length) = none\/k ≠ 5) (h2:qg4 ws (n + ks.length) = none\/k ≠ 2) (h1:qqa ws (n + ks.length) = none\/k ≠ 1):qbf (fnL k) ws n (.ok x (n + ks.length)):=by
 refine h n hs hl E _ ?_
 unfold qEz
 split
 ·exact .stop h8
 ·exact .stop (h6.resolve_right λe=>e rfl)
 ·exact .stop (h5.resolve_right λe=>e rfl)
 ·exact .stop (h2.resolve_right λe=>e rfl)
 ·exact .stop (h1.resolve_right λe=>e rfl)
 ·rfl
theorem Lv.end {k j:Nat} (h:Lv ws ks x k) {n:Nat} (hs:See ws n ks) (hl:n + ks.length < ws.length) (E:Stp ws (n + ks.length) j) (hj:j < k) (h7:k <= 7\/j < 8):qbf (fnL k) ws n (.ok x (n + ks.length)):=by
 refine h n hs hl (E.up zo) _ ?_
 unfold qEz
 split
 ·exact .stop (E.dot zo)
 ·exact .stop (E.prod zo)
 ·exact .stop (E.sum zo)
 ·exact .stop (E.and zo)
 ·exact .stop (E.or zo)
 ·rfl
theorem qzU (hf:Fst r ks) {n:Nat} (hs:See ws n ks):n < ws.length/\(1 <= r->isW ws n [105,102] = false)/\(4 <= r->isW ws n [110,111,116] = false)/\(8 <= r->isW ws n [45] = false):=by
 cases ks with
 | nil=>exact absurd rfl hf.ne
 | cons t b=>exact ⟨hs.head.1,λh=>by rw [hs.is];exact hf.eif t rfl h,λh=>by rw [hs.is];exact hf.enot t rfl h,λh=>by rw [hs.is];exact hf.eneg t rfl h⟩
theorem qKM (hw:WF ws) (hf:Fst r ks) {k:Nat} (hk:k < r) (hr:r <= 9) (h:Lv ws ks x (k + 1)):Lv ws ks x k:=by
 intro n hs hl E o hc
 obtain ⟨hn,f1,f4,f8⟩:=qzU hf hs
 have he:k + 1 < 9->qbf (fnL (k + 1)) ws n (.ok x (n + ks.length)):=λh9=>h.end hs hl E zo (.inr zo)
 have I:k = 0\/k = 1\/k = 2\/k = 3\/k = 4\/k = 5\/k = 6\/k = 7\/k = 8:=zo
 rcases I with rfl | rfl | rfl | rfl | rfl | rfl | rfl | rfl | rfl
 ·cases hc;exact qrH hw hn (f1 zo) (he zo)
 ·exact qDt hw hn (he zo) hc
 ·exact qyU hw hn (he zo) hc
 ·cases hc;exact qwE hw hn (f4 zo) (he zo)
 ·cases hc;exact qxe hw hn (he zo) (E.same zo)
 ·exact qBl hw hn (he zo) hc
 ·exact qwW hw hn (he zo) hc
 ·cases hc;exact qwA hw hn (f8 zo) (he zo)
 ·exact qwc hw hn (h n hs hl (E.up zo) _ rfl) hc hc.mono
def Gd (ws:List Tok) (ks:List PT) (x:Exp) (r:Nat):Prop:=Fst r ks/\∀k,k <= r->Lv ws ks x k
theorem qb8 (hw:WF ws) (hf:Fst r ks) (hr:r <= 9) (h:Lv ws ks x r):Gd ws ks x r:=by
 refine ⟨hf,λk hk=>?_⟩
 obtain ⟨j,rfl⟩ :∃j,r = k + j:=⟨r - k,zo⟩
 induction j generalizing k with
 | zero=>exact h
 | succ j ih=>
  have:=ih (k + 1) (by rw [show k + 1 + j = k + (j + 1) by omega];exact hf) zo (by rw [show k + 1 + j = k + (j + 1) by omega];exact h) zo
  exact qKM hw hf zo hr this
end
theorem qhd {mb sb:Bool} {lo hi n:Int} {nm sub:Str} {k:Nat} (h:fB false mb sb lo hi n nm sub k = true):n = 0:=by
 simp only [fB,jk,jN,beq_iff_eq] at h;exact h.1
theorem qdH {nb sb:Bool} {lo hi n:Int} {nm sub:Str} {k:Nat} (h:fB nb false sb lo hi n nm sub k = true):nm = []:=by
 simp only [fB,jk,jN,beq_iff_eq] at h;exact h.2.1
theorem qcv {nb mb:Bool} {lo hi n:Int} {nm sub:Str} {k:Nat} (h:fB nb mb false lo hi n nm sub k = true):sub = []:=by
 simp only [fB,jk,jN,beq_iff_eq] at h;exact h.2.2.1
theorem qkr:∀(l:List Exp) (d:Nat),(∀x ∈ l,x.depth <= d)->qa5 l <= d
 | [],d,_=>by rw [qa5];omega
 | x :: l,d,h=>by
  rw [qa5]
  have:=h x (by simp)
  have:=qkr l d λy hy=>h y (by simp [hy])
  omega
theorem qx0:∀(d:Nat) (e:Exl),right d e = true->e.cv.depth <= d
 | 0,_,h=>by rw [right] at h;cases h
 | d + 1,.mk op n nm sb aS,h=>by
  rw [right,jk,List.all_eq_true] at h
  rw [cv_mk,Exp.depth]
  have:=qkr (aS.map Exl.cv) d λx hx=>by
   obtain ⟨a,ha,rfl⟩:=List.mem_map.1 hx
   exact qx0 d a (h.2 a ha)
  omega
def rkN (op:Int):Nat:=(rk op).toNat
def qif (t:PT) (k:Nat):Bool:=!tW t [46] && ((decide (6 <= k) || !(tW t [42] || (tW t [47] || tW t [37]))) && ((decide (5 <= k) || !(tW t [43] || tW t [45])) && ((decide (5 <= k) || !(tW t [61] || (tW t [60] || tW t [60,61]))) && ((decide (2 <= k) || !tW t [97,110,100]) && (decide (1 <= k) || !tW t [111,114])))))
section
variable {ws:List Tok} {ks:List PT} {x:Exp} {r:Nat}
theorem See.stp {m k:Nat} {t:PT} {b:List PT} (h:See ws m (t :: b)) (hk:qif t k = true):Stp ws m k:=by
 simp only [qif,jk,Bool.or_eq_true,Bool.not_eq_true',Bool.or_eq_false_iff,decide_eq_true_eq] at hk
 obtain ⟨h1,h2,h3,h4,h5,h6⟩:=hk
 have e:=λs=>h.is s
 refine ⟨λq=>?_,λ_=>by rw [e,h1],λq=>?_,λq=>?_,λq=>?_,λq=>?_,λq=>?_⟩
 ·rw [e,h1] at q;cases q
 ·obtain ⟨a,b,c⟩:=h2.resolve_left zo
  simp only [qc9,e,a,b,c,jl,if_false]
 ·obtain ⟨a,b⟩:=h3.resolve_left zo
  simp only [qeJ,e,a,b,jl,if_false]
 ·obtain ⟨a,b,c⟩:=h4.resolve_left zo
  simp only [qd8,e,a,b,c,jl,if_false]
 ·have a:=h5.resolve_left zo
  simp only [qg4,e,a,jl,if_false]
 ·have a:=h6.resolve_left zo
  simp only [qqa,e,a,jl,if_false]
theorem Fst.down {j:Nat} (h:Fst r ks) (hj:j <= r):Fst j ks:=⟨h.ne,λt ht q=>h.eif t ht zo,λt ht q=>h.enot t ht zo,λt ht q=>h.eneg t ht zo,h.esh⟩
theorem qjD {b:List PT} (h:Fst r ks):Fst r (ks ++ b):=by
 cases ks with
 | nil=>exact absurd rfl h.ne
 | cons t l=>exact ⟨by simp,h.eif,h.enot,h.eneg,h.esh⟩
theorem qbQ {t:PT} {b:List PT} (h1:tW t [105,102] = false\/r < 1) (h2:tW t [110,111,116] = false\/r < 4) (h3:tW t [45] = false\/r < 8) (h4:tW t [41] = false):Fst r (t :: b):=
 ⟨by simp,λu hu q=>by simp at hu;subst hu;exact h1.resolve_right zo,λu hu q=>by simp at hu;subst hu;exact h2.resolve_right zo,λu hu q=>by simp at hu;subst hu;exact h3.resolve_right zo,λu hu=>by simp at hu;subst hu;exact h4⟩
theorem brk (hw:WF ws) (h:Gd ws ks x r):Gd ws (mk3 [40] :: (ks ++ [mk3 [41]])) x 9:=by
 refine qb8 hw (qbQ (.inl rfl) (.inl rfl) (.inl rfl) rfl) zo ?_
 intro n hs hl E o hc
 cases hc
 obtain ⟨hn,k1,_⟩:=hs.head
 have s1:=hs.tail.app.1
 have s2:=hs.tail.app.2
 have e1:n + (mk3 [40] :: (ks ++ [mk3 [41]])).length = n + 1 + ks.length + 1:=by simp;omega
 rw [e1] at hl ⊢
 exact qeE hw hn (by rw [k1];simp [mk3]) (by rw [k1];simp [mk3]) (by rw [hs.named];rfl) (by rw [hs.is];rfl) (br2 hw hn (by rw [hs.is];rfl) (h.2 0 zo (n + 1) s1 zo (s2.stp rfl) _ rfl) (by rw [s2.is];rfl))
theorem qKR (hw:WF ws) {op K:Int} (h0:0 <= op) (h1:op <= 25) (h:Gd ws ks x (rkN op)) (j:Nat) (hj:(j:Int) <= K) (h9:j <= 9):Fst j (itk K (op,ks))/\Lv ws (itk K (op,ks)) x j:=by
 rw [itk]
 simp only
 cases hc:ile K (rk op) with
 | true=>
  rw [cond_true]
  rw [qav] at hc
  have hc:=of_decide_eq_true hc
  have hr:j <= rkN op:=by unfold rkN;omega
  exact ⟨h.1.down hr,h.2 j hr⟩
 | false=>
  rw [cond_false]
  have:=brk hw h
  exact ⟨this.1.down h9,this.2 j h9⟩
end
structure Ag (ws:List Tok) (d:Nat) (a:Exl):Prop where
 o0:0 <= a.op
 o1:a.op <= 25
 gd:Gd ws (tk d a) a.cv (rkN a.op)
section
variable {ws:List Tok} {d:Nat}
theorem Ag.at {a:Exl} (h:Ag ws d a) (hw:WF ws) {K:Int} (j:Nat) (hj:(j:Int) <= K) (h9:j <= 9):Fst j (itk K (a.op,tk d a))/\Lv ws (itk K (a.op,tk d a)) a.cv j:=qKR hw h.o0 h.o1 h.gd j hj h9
theorem qhZ (hw:WF ws) {a b:Exl} (ha:Ag ws d a) (hb:Ag ws d b) {op K L:Int} {t:PT} (k l:Nat) (hk:(k:Int) <= K) (hl:(l:Int) <= L) (a6:k < l) (h9:l <= 8) (I:k = 6\/k = 5\/k = 2\/k = 1) (a1:qif t k = true)
  (hop:∀m r,See ws m (t :: r)->(k = 6->qc9 ws m = some op)/\(k = 5->qeJ ws m = some op)/\(k = 2->qg4 ws m = some op)/\(k = 1->qqa ws m = some op))
  (E:l = k + 1) (hd:(Exp.mk op 0 [] [] [a.cv,b.cv]).depth <= 20):Fst k (itk K (a.op,tk d a) ++ (t :: itk L (b.op,tk d b)))/\Lv ws (itk K (a.op,tk d a) ++ (t :: itk L (b.op,tk d b))) (.mk op 0 [] [] [a.cv,b.cv]) k:=by
 obtain ⟨fa,va⟩:=ha.at hw (K:=K) k hk zo
 obtain ⟨_,vb⟩:=hb.at hw (K:=L) l hl zo
 refine ⟨qjD fa,?_⟩
 generalize itk K (a.op,tk d a) = A at *
 generalize itk L (b.op,tk d b) = B at *
 intro n hs Y U o hc
 have s1:=hs.app.1
 have s2:=hs.app.2
 have e:n + (A ++ t :: B).length = n + A.length + 1 + B.length:=by simp;omega
 rw [e] at Y U hc
 have hB:qbf (fnL l) ws (n + A.length + 1) (.ok b.cv (n + A.length + 1 + B.length)):=vb.end s2.tail Y U a6 (.inr zo)
 obtain ⟨q6,q5,q2,q1⟩:=hop _ _ s2
 refine va n s1 zo (s2.stp a1) o ?_
 subst E
 rcases I with rfl | rfl | rfl | rfl
 ·exact qg8.go (q6 rfl) hB hd hc
 ·exact qg8.go (q5 rfl) hB hd hc
 ·exact qg8.go (q2 rfl) hB hd hc
 ·exact qg8.go (q1 rfl) hB hd hc
theorem qmo (hw:WF ws) {a b:Exl} (ha:Ag ws d a) (hb:Ag ws d b) {op:Int} {t:PT} (U:qif t 5 = true) (Y:∀m r,See ws m (t :: r)->qeJ ws m = none) (hop:∀m r,See ws m (t :: r)->qd8 ws m = some op) (hd:(Exp.mk op 0 [] [] [a.cv,b.cv]).depth <= 20) :
  Fst 4 (itk 5 (a.op,tk d a) ++ (t :: itk 5 (b.op,tk d b)))/\Lv ws (itk 5 (a.op,tk d a) ++ (t :: itk 5 (b.op,tk d b))) (.mk op 0 [] [] [a.cv,b.cv]) 4:=by
 obtain ⟨fa,va⟩:=ha.at hw (K:=5) 5 zo zo
 obtain ⟨_,vb⟩:=hb.at hw (K:=5) 5 zo zo
 refine ⟨qjD (fa.down zo),?_⟩
 generalize itk 5 (a.op,tk d a) = A at *
 generalize itk 5 (b.op,tk d b) = B at *
 intro n hs I E o hc
 cases hc
 have s1:=hs.app.1
 have s2:=hs.app.2
 have e:n + (A ++ t :: B).length = n + A.length + 1 + B.length:=by simp;omega
 rw [e] at I E ⊢
 have hB:qbf (fnL 5) ws (n + A.length + 1) (.ok b.cv (n + A.length + 1 + B.length)):=vb.end s2.tail I E zo (.inr zo)
 have hn:n < ws.length:=zo
 exact qxf hw hn (va n s1 zo (s2.stp U) _ (qg8.stop (Y _ _ s2))) (hop _ _ s2) hB hd
theorem qBX (hw:WF ws) {pos:Int}:∀(rest:List Exl),rest ≠ []->(∀a ∈ rest,Ag ws d a)->∀(args:List Exp) (m:Nat),args.length + rest.length <= 4->See ws m (qbh (rest.map λa=>itk 0 (a.op,tk d a)) ++ [mk3 [41]])->m + (qbh (rest.map λa=>itk 0 (a.op,tk d a))).length + 1 < ws.length->(Exp.mk 6 0 [] [] (args ++ rest.map Exl.cv)).depth <= 20->
  qg1 ws (qbf 65 ws) pos args m (.ok (.mk 6 0 [] [] (args ++ rest.map Exl.cv)) (m + (qbh (rest.map λa=>itk 0 (a.op,tk d a))).length + 1))
 | [],h,_,_,_,_,_,_,_=>absurd rfl h
 | [y],_,h,args,m,hl,hs,E,hd=>by
  obtain ⟨_,vy⟩:=(h y (by simp)).at hw (K:=0) 0 zo zo
  simp only [List.map_cons,List.map_nil,qbh,List.flatten_nil,jF] at hs E hd ⊢
  generalize itk 0 (y.op,tk d y) = Y at *
  have s2:=hs.app.2
  exact .shut (by simp at hl;omega) (vy m hs.app.1 zo (s2.stp rfl) _ rfl) (by rw [s2.is];rfl) (by rw [s2.is];rfl) hd
 | y :: z :: r,_,h,args,m,hl,hs,E,hd=>by
  obtain ⟨_,vy⟩:=(h y (by simp)).at hw (K:=0) 0 zo zo
  have e:qbh ((y :: z :: r).map λa=>itk 0 (a.op,tk d a)) = itk 0 (y.op,tk d y) ++ (mk3 [44] :: qbh ((z :: r).map λa=>itk 0 (a.op,tk d a))):=by simp [qbh]
  rw [e] at hs E ⊢
  have I:=qBX (pos:=pos) hw (z :: r) (by simp) (λa ha=>h a (by simp at ha ⊢;exact .inr ha)) (args ++ [y.cv])
  rw [List.map_cons,List.map_cons] at hd
  generalize qbh ((z :: r).map λa=>itk 0 (a.op,tk d a)) = Z at *
  generalize itk 0 (y.op,tk d y) = Y at *
  rw [jp,jw] at hs
  have s2:=hs.app.2
  have el:m + (Y ++ mk3 [44] :: Z).length + 1 = m + Y.length + 1 + Z.length + 1:=by simp;omega
  rw [el] at E ⊢
  have I:=I (m + Y.length + 1) (by simp at hl ⊢;omega) s2.tail E (by simpa using hd)
  refine .next (by simp at hl;omega) (vy m hs.app.1 zo (s2.stp rfl) _ rfl) (by rw [s2.is];rfl) ?_
  simpa using I
end
section
variable {ws:List Tok} {d:Nat}
theorem qbf.var {n:Nat} {s:Str} (hw:WF ws) (hn:n < ws.length) (h1:qaT ws n = true) (h2:isW ws (n + 1) [46] = true->qaT ws (n + 1 + 1) = false) (hs:(word ws n).s = s):qbf 220 ws n (.ok (.mk 4 0 s [] []) (n + 1)):=by
 subst hs
 exact ⟨zo,qaN hw hn h1,by rw [Exp.depth,qa5];omega,λh i hi=>qiz hw hn hi h1 h2⟩
theorem qbf.of {n:Nat} {s t:Str} (hw:WF ws) (hn:n < ws.length) (h1:qaT ws n = true) (h2:isW ws (n + 1) [46] = true) (h3:qaT ws (n + 1 + 1) = true) (hs:(word ws n).s = s) (ht:(word ws (n + 1 + 1)).s = t):qbf 220 ws n (.ok (.mk 5 0 s t []) (n + 1 + 1 + 1)):=by
 subst hs;subst ht
 exact ⟨zo,qaN hw (qU hw (qaN hw hn h1) h2) h3,by rw [Exp.depth,qa5];omega,λh i hi=>qmO hw hn hi h1 h2 h3⟩
theorem qni {r:Nat} {nm:Str} {b:List PT} (h:qy nm = true):Fst r (nm0 nm :: b):=by
 have e:=λw (hw:qy w = false)=>qAl (s:=nm) (w:=w) h hw
 refine qbQ (.inl ?_) (.inl ?_) (.inl ?_) ?_ <;> simp only [tW,nm0] <;> rw [e _ zk] <;> rfl
theorem qKC (hw:WF ws) (n:Int):Gd ws [in1 n] (.mk 0 n [] [] []) 9:=by
 refine qb8 hw (qbQ (.inl rfl) (.inl rfl) (.inl rfl) rfl) zo ?_
 intro n hs hl E o hc
 cases hc
 obtain ⟨hn,k1,_,k3⟩:=hs.head
 have:=qAJ hw hn k1
 rw [k3] at this
 exact this
theorem qKD (hw:WF ws):Gd ws [nm0 [116,114,117,101]] (.mk 1 0 [] [] []) 9:=by
 refine qb8 hw (qbQ (.inl rfl) (.inl rfl) (.inl rfl) rfl) zo ?_
 intro n hs hl E o hc
 cases hc
 obtain ⟨hn,k1,_,k3⟩:=hs.head
 exact qcX hw hn (by rw [k1];simp [nm0]) (by rw [k1];simp [nm0]) (by rw [hs.named];kernel_rfl) (by rw [hs.is];rfl) (qob hw hn (by rw [hs.is];rfl))
theorem qKE (hw:WF ws):Gd ws [nm0 [102,97,108,115,101]] (.mk 2 0 [] [] []) 9:=by
 refine qb8 hw (qbQ (.inl rfl) (.inl rfl) (.inl rfl) rfl) zo ?_
 intro n hs hl E o hc
 cases hc
 obtain ⟨hn,k1,_,k3⟩:=hs.head
 exact qcX hw hn (by rw [k1];simp [nm0]) (by rw [k1];simp [nm0]) (by rw [hs.named];kernel_rfl) (by rw [hs.is];rfl) (qlI hw hn (by rw [hs.is];rfl))
theorem qHc (hw:WF ws):Gd ws [nm0 [101,108,97,112,115,101,100]] (.mk 11 0 [] [] []) 9:=by
 refine qb8 hw (qbQ (.inl rfl) (.inl rfl) (.inl rfl) rfl) zo ?_
 intro n hs hl E o hc
 cases hc
 obtain ⟨hn,k1,_,k3⟩:=hs.head
 exact qcX hw hn (by rw [k1];simp [nm0]) (by rw [k1];simp [nm0]) (by rw [hs.named];kernel_rfl) (by rw [hs.is];rfl) (qjo hw hn (by rw [hs.is];rfl))
theorem qKF (hw:WF ws) (nm:Str):Gd ws [sy2 nm] (.mk 3 0 nm [] []) 9:=by
 refine qb8 hw (qbQ (.inl rfl) (.inl rfl) (.inl rfl) rfl) zo ?_
 intro n hs hl E o hc
 cases hc
 obtain ⟨hn,k1,k2,k3⟩:=hs.head
 have:=qAK hw hn k1
 rw [k2] at this
 exact this
theorem qKG (hw:WF ws) {nm:Str} (h:qy nm = true):Gd ws [nm0 nm] (.mk 4 0 nm [] []) 9:=by
 refine qb8 hw (qni h) zo ?_
 intro n hs hl E o hc
 cases hc
 obtain ⟨hn,k1,k2,k3⟩:=hs.head
 have hN:qaT ws n = true:=by rw [hs.named];exact h
 exact qtk hw hn hN (qbf.var hw hn hN E.of k2)
theorem qKH (hw:WF ws) {nm sb:Str} (h:qy nm = true) (h2:qy sb = true):Gd ws [nm0 nm,mk3 [46],nm0 sb] (.mk 5 0 nm sb []) 9:=by
 refine qb8 hw (qni h) zo ?_
 intro n hs hl E o hc
 cases hc
 obtain ⟨hn,k1,k2,k3⟩:=hs.head
 have hN:qaT ws n = true:=by rw [hs.named];exact h
 have s2:=hs.tail
 have s3:=s2.tail
 exact qtk hw hn hN (qbf.of hw hn hN (by rw [s2.is];rfl) (by rw [s3.named];exact h2) k2 s3.head.2.2.1)
theorem qKJ (hw:WF ws) {nm:Str} (h:qy nm = true):Gd ws [nm0 [99,111,117,110,116],mk3 [40],nm0 nm,mk3 [41]] (.mk 7 0 nm [] []) 9:=by
 refine qb8 hw (qbQ (.inl rfl) (.inl rfl) (.inl rfl) rfl) zo ?_
 intro n hs hl E o hc
 cases hc
 obtain ⟨hn,k1,k2,k3⟩:=hs.head
 have s2:=hs.tail
 have s3:=s2.tail
 have s4:=s3.tail
 have:=qlH hw hn (by rw [hs.is];rfl) (by rw [s2.is];rfl) (by rw [s3.named];exact h) (by rw [s4.is];rfl)
 rw [s3.head.2.2.1] at this
 exact qcX hw hn (by rw [k1];simp [nm0]) (by rw [k1];simp [nm0]) (by rw [hs.named];kernel_rfl) (by rw [hs.is];rfl) this
theorem qKK (hw:WF ws) {nm:Str} (h:qy nm = true):Gd ws [nm0 [104,97,115],mk3 [40],nm0 nm,mk3 [41]] (.mk 8 0 nm [] []) 9:=by
 refine qb8 hw (qbQ (.inl rfl) (.inl rfl) (.inl rfl) rfl) zo ?_
 intro n hs hl E o hc
 cases hc
 obtain ⟨hn,k1,k2,k3⟩:=hs.head
 have s2:=hs.tail
 have s3:=s2.tail
 have s4:=s3.tail
 have:=qqp hw hn (by rw [hs.is];rfl) (by rw [s2.is];rfl) (by rw [s3.named];exact h) (by rw [s4.is];rfl)
 rw [s3.head.2.2.1] at this
 exact qcX hw hn (by rw [k1];simp [nm0]) (by rw [k1];simp [nm0]) (by rw [hs.named];kernel_rfl) (by rw [hs.is];rfl) this
theorem qKL (hw:WF ws) {nm:Str} (h:qy nm = true):Gd ws [nm0 [115,117,109],mk3 [40],nm0 nm,mk3 [41]] (.mk 9 0 nm [] []) 9:=by
 refine qb8 hw (qbQ (.inl rfl) (.inl rfl) (.inl rfl) rfl) zo ?_
 intro n hs hl E o hc
 cases hc
 obtain ⟨hn,k1,k2,k3⟩:=hs.head
 have s2:=hs.tail
 have s3:=s2.tail
 have s4:=s3.tail
 have:=qqq hw hn (by rw [hs.is];rfl) (by rw [s2.is];rfl) (by rw [s3.named];exact h) (by rw [s4.is];rfl)
 rw [s3.head.2.2.1] at this
 exact qcX hw hn (by rw [k1];simp [nm0]) (by rw [k1];simp [nm0]) (by rw [hs.named];kernel_rfl) (by rw [hs.is];rfl) this
theorem qHb (hw:WF ws) {nm:Str} (h:qy nm = true) {a:Exl} (ha:Ag ws d a) (hd:(Exp.mk 10 0 nm [] [a.cv]).depth <= 20):Gd ws ([nm0 [108,101,97,115,116],mk3 [40],nm0 nm,mk3 [44]] ++ (itk 0 (a.op,tk d a) ++ [mk3 [41]])) (.mk 10 0 nm [] [a.cv]) 9:=by
 refine qb8 hw (qbQ (.inl rfl) (.inl rfl) (.inl rfl) rfl) zo ?_
 obtain ⟨_,va⟩:=ha.at hw (K:=0) 0 zo zo
 generalize itk 0 (a.op,tk d a) = A at *
 intro n hs hl E o hc
 cases hc
 obtain ⟨hn,k1,k2,k3⟩:=hs.head
 have s2:=hs.tail
 have s3:=s2.tail
 have s4:=s3.tail
 have s5:See ws (n + 1 + 1 + 1 + 1) (A ++ [mk3 [41]]):=s4.tail
 have s6:=s5.app.2
 have el:n + ([nm0 [108,101,97,115,116],mk3 [40],nm0 nm,mk3 [44]] ++ (A ++ [mk3 [41]])).length = n + 1 + 1 + 1 + 1 + A.length + 1:=by simp;omega
 rw [el] at hl ⊢
 have hx:=s3.head.2.2.1
 have:=qCS hw hn (by rw [hs.is];rfl) (by rw [s2.is];rfl) (by rw [s3.named];exact h) (by rw [s4.is];rfl) (va _ s5.app.1 zo (s6.stp rfl) _ rfl) (by rw [s6.is];rfl) (by rw [hx];exact hd)
 rw [hx] at this
 exact qcX hw hn (by rw [k1];simp [nm0]) (by rw [k1];simp [nm0]) (by rw [hs.named];kernel_rfl) (by rw [hs.is];rfl) this
theorem qKI (hw:WF ws) {aS:List Exl} (U:1 <= aS.length) (E:aS.length <= 4) (ha:∀a ∈ aS,Ag ws d a) (hd:(Exp.mk 6 0 [] [] (aS.map Exl.cv)).depth <= 20):Gd ws (qDN (aS.map λa=>(a.op,tk d a))) (.mk 6 0 [] [] (aS.map Exl.cv)) 9:=by
 rw [qDN,jG,jQ]
 refine qb8 hw (qbQ (.inl rfl) (.inl rfl) (.inl rfl) rfl) zo ?_
 rw [show (itk 0 ∘ λa:Exl=>(a.op,tk d a)) = λa:Exl=>itk 0 (a.op,tk d a) from rfl]
 match aS,U,E,ha,hd with
 | [a],_,_,ha,hd=>
  obtain ⟨_,va⟩:=(ha a (by simp)).at hw (K:=0) 0 zo zo
  rw [show ([a].length == 1) = true from rfl,cond_true]
  simp only [List.map_cons,List.map_nil,qbh,List.flatten_nil,jF] at hd ⊢
  generalize itk 0 (a.op,tk d a) = A at *
  intro n hs hl I o hc
  cases hc
  obtain ⟨hn,k1,k2,k3⟩:=hs.head
  have s2:=hs.tail
  have s3:=s2.app.2
  have s4:=s3.tail
  have el:n + (mk3 [40] :: (A ++ [mk3 [44],mk3 [41]])).length = n + 1 + A.length + 1 + 1:=by simp;omega
  rw [el] at hl ⊢
  exact qeE hw hn (by rw [k1];simp [mk3]) (by rw [k1];simp [mk3]) (by rw [hs.named];rfl) (by rw [hs.is];rfl) (br4 hw hn (by rw [hs.is];rfl) (va _ s2.app.1 zo (s3.stp rfl) _ rfl) (by rw [s3.is];rfl) (by rw [s3.is];rfl) (by rw [s4.is];rfl) hd)
 | a :: b :: r,_,E,ha,hd=>
  obtain ⟨_,va⟩:=(ha a (by simp)).at hw (K:=0) 0 zo zo
  obtain ⟨fb,_⟩:=(ha b (by simp)).at hw (K:=0) 0 zo zo
  have ej:qbh ((a :: b :: r).map λa=>itk 0 (a.op,tk d a)) = itk 0 (a.op,tk d a) ++ (mk3 [44] :: qbh ((b :: r).map λa=>itk 0 (a.op,tk d a))):=by simp [qbh]
  have a1:=λpos=>qBX (pos:=pos) hw (b :: r) (by simp) (λx hx=>ha x (by simp at hx ⊢;exact .inr hx)) [a.cv]
  have Y:Fst 0 (qbh ((b :: r).map λa=>itk 0 (a.op,tk d a)) ++ [mk3 [41]]):=by
   rw [List.map_cons,qbh,jp]
   exact qjD fb
  rw [ej,show ((a :: b :: r).length == 1) = false by simp,cond_false]
  generalize qbh ((b :: r).map λa=>itk 0 (a.op,tk d a)) = Z at *
  generalize itk 0 (a.op,tk d a) = A at *
  intro n hs hl I o hc
  cases hc
  obtain ⟨hn,k1,k2,k3⟩:=hs.head
  have s2:=hs.tail
  rw [jp,jw] at s2
  have s3:=s2.app.2
  have s4:=s3.tail
  have el:n + (mk3 [40] :: (A ++ mk3 [44] :: Z ++ [mk3 [41]])).length = n + 1 + A.length + 1 + Z.length + 1:=by simp;omega
  rw [el] at hl ⊢
  have h4:isW ws (n + 1 + A.length + 1) [41] = false:=by
   revert s4 Y
   cases hz:Z ++ [mk3 [41]] with
   | nil=>intro h;exact absurd rfl h.ne
   | cons t z=>intro h s4;rw [s4.is];exact h.esh t rfl
  exact qeE hw hn (by rw [k1];simp [mk3]) (by rw [k1];simp [mk3]) (by rw [hs.named];rfl) (by rw [hs.is];rfl) (br6 hw hn (by rw [hs.is];rfl) (va _ s2.app.1 zo (s3.stp rfl) _ rfl) (by rw [s3.is];rfl) (by rw [s3.is];rfl) h4 (a1 _ (n + 1 + A.length + 1) (by simp at E ⊢;omega) s4 hl (by simpa using hd)))
theorem qHd (hw:WF ws) {a:Exl} (ha:Ag ws d a) {n0:Int} (I:n0 < 4) {K:Int} (hK:8 <= K) (hd:(Exp.mk 12 n0 [] [] [a.cv]).depth <= 20):Gd ws (itk K (a.op,tk d a) ++ [mk3 [46],in1 n0]) (.mk 12 n0 [] [] [a.cv]) 8:=by
 obtain ⟨fa,va⟩:=ha.at hw (K:=K) 8 zo zo
 refine qb8 hw (qjD fa) zo ?_
 generalize itk K (a.op,tk d a) = A at *
 intro n hs hl E o hc
 have s2:=hs.app.2
 have s3:=s2.tail
 obtain ⟨_,k1,_,k3⟩:=s3.head
 have el:n + (A ++ [mk3 [46],in1 n0]).length = n + A.length + 1 + 1:=by simp;omega
 rw [el] at hl E hc
 refine va n hs.app.1 zo ⟨λ_=>by rw [s3.named];rfl,λh=>absurd h zo,λh=>absurd h zo,λh=>absurd h zo,λh=>absurd h zo,λh=>absurd h zo,λh=>absurd h zo⟩ o ?_
 have k3:(word ws (n + A.length + 1)).n = n0:=k3
 exact qg2.go (by rw [s2.is];rfl) k1 (by rw [k3];exact I) (by rw [k3];exact hd) (by rw [k3];exact hc)
theorem qHe (hw:WF ws) {a:Exl} (ha:Ag ws d a) (hd:(Exp.mk 13 0 [] [] [a.cv]).depth <= 20):Gd ws (mk3 [45] :: itk 7 (a.op,tk d a)) (.mk 13 0 [] [] [a.cv]) 7:=by
 obtain ⟨_,va⟩:=ha.at hw (K:=7) 7 zo zo
 refine qb8 hw (qbQ (.inl rfl) (.inl rfl) (.inr zo) rfl) zo ?_
 generalize itk 7 (a.op,tk d a) = A at *
 intro n hs hl E o hc
 cases hc
 have el:n + (mk3 [45] :: A).length = n + 1 + A.length:=by simp;omega
 rw [el] at hl E ⊢
 exact qwB hw hs.head.1 (by rw [hs.is];rfl) (va _ hs.tail hl E _ rfl) hd
theorem qHf (hw:WF ws) {a:Exl} (ha:Ag ws d a) (hd:(Exp.mk 14 0 [] [] [a.cv]).depth <= 20):Gd ws (nm0 [110,111,116] :: itk 3 (a.op,tk d a)) (.mk 14 0 [] [] [a.cv]) 3:=by
 obtain ⟨_,va⟩:=ha.at hw (K:=3) 3 zo zo
 refine qb8 hw (qbQ (.inl rfl) (.inr zo) (.inl rfl) rfl) zo ?_
 generalize itk 3 (a.op,tk d a) = A at *
 intro n hs hl E o hc
 cases hc
 have el:n + (nm0 [110,111,116] :: A).length = n + 1 + A.length:=by simp;omega
 rw [el] at hl E ⊢
 exact qwF hw hs.head.1 (by rw [hs.is];rfl) (va _ hs.tail hl E _ rfl) hd
theorem qHg (hw:WF ws) {a b c:Exl} (ha:Ag ws d a) (hb:Ag ws d b) (hc:Ag ws d c) (hd:(Exp.mk 25 0 [] [] [a.cv,b.cv,c.cv]).depth <= 20):Gd ws (nm0 [105,102] :: (itk 0 (a.op,tk d a) ++ (nm0 [116,104,101,110] :: (itk 0 (b.op,tk d b) ++ (nm0 [101,108,115,101] :: itk 0 (c.op,tk d c)))))) (.mk 25 0 [] [] [a.cv,b.cv,c.cv]) 0:=by
 obtain ⟨_,va⟩:=ha.at hw (K:=0) 0 zo zo
 obtain ⟨_,vb⟩:=hb.at hw (K:=0) 0 zo zo
 obtain ⟨_,vc⟩:=hc.at hw (K:=0) 0 zo zo
 refine qb8 hw (qbQ (.inr zo) (.inl rfl) (.inl rfl) rfl) zo ?_
 generalize itk 0 (a.op,tk d a) = A at *
 generalize itk 0 (b.op,tk d b) = B at *
 generalize itk 0 (c.op,tk d c) = C at *
 intro n hs hl E o hc
 cases hc
 have s1:=hs.tail
 have s2:=s1.app.2
 have s3:=s2.tail
 have s4:=s3.app.2
 have s5:=s4.tail
 have el:n + (nm0 [105,102] :: (A ++ (nm0 [116,104,101,110] :: (B ++ (nm0 [101,108,115,101] :: C))))).length = n + 1 + A.length + 1 + B.length + 1 + C.length:=by simp;omega
 rw [el] at hl E ⊢
 exact if7 hw hs.head.1 (by rw [hs.is];rfl) (va _ s1.app.1 zo (s2.stp rfl) _ rfl) (by rw [s2.is];rfl) (vb _ s3.app.1 zo (s4.stp rfl) _ rfl) (by rw [s4.is];rfl) (vc _ s5 hl E _ rfl) hd
theorem qAG (hw:WF ws) {op n:Int} {nm sb:Str} {aS:List Exl} (hb:qiv op n nm sb aS.length = true) (hd:(Exp.mk op n nm sb (aS.map Exl.cv)).depth <= 20) (h:∀a ∈ aS,Ag ws d a):Gd ws (ntk op n nm sb (aS.map λa=>(a.op,tk d a))) (.mk op n nm sb (aS.map Exl.cv)) (rkN op):=by
 have ho:0 <= op/\op <= 25:=Decidable.byContradiction λhc=>by rw [qdW hc] at hb;cases hb
 have an:∀{a b:Bool},(a && b) = true->a = true/\b = true:=λh=>(jk _ _).mp h
 have:op = 0\/op = 1\/op = 2\/op = 3\/op = 4\/op = 5\/op = 6\/op = 7\/op = 8\/op = 9\/op = 10\/op = 11\/op = 12\/op = 13\/op = 14\/op = 15\/op = 16\/op = 17\/op = 18\/op = 19\/op = 20\/op = 21\/op = 22\/op = 23\/op = 24\/op = 25:=zo
 rcases this with rfl | rfl | rfl | rfl | rfl | rfl | rfl | rfl | rfl | rfl | rfl | rfl | rfl | rfl | rfl | rfl | rfl | rfl | rfl | rfl | rfl | rfl | rfl | rfl | rfl | rfl
 ·obtain ⟨h1,h2⟩:=an (show (fB true false false 0 0 n nm sb aS.length && ile 0 n) = true from hb)
  have hl:aS = []:=List.length_eq_zero_iff.1 (by have:=qG h1;omega)
  subst hl
  have z1:=qdH h1;have z2:=qcv h1;subst z1;subst z2
  exact qKC hw n
 ·have h1:fB false false false 0 0 n nm sb aS.length = true:=hb
  have hl:aS = []:=List.length_eq_zero_iff.1 (by have:=qG h1;omega)
  subst hl
  have z0:=qhd h1;have z1:=qdH h1;have z2:=qcv h1;subst z0;subst z1;subst z2
  exact qKD hw
 ·have h1:fB false false false 0 0 n nm sb aS.length = true:=hb
  have hl:aS = []:=List.length_eq_zero_iff.1 (by have:=qG h1;omega)
  subst hl
  have z0:=qhd h1;have z1:=qdH h1;have z2:=qcv h1;subst z0;subst z1;subst z2
  exact qKE hw
 ·obtain ⟨h1,h2⟩:=an (show (fB false true false 0 0 n nm sb aS.length && qcx nm) = true from hb)
  have hl:aS = []:=List.length_eq_zero_iff.1 (by have:=qG h1;omega)
  subst hl
  have z0:=qhd h1;have z2:=qcv h1;subst z0;subst z2
  exact qKF hw nm
 ·obtain ⟨h1,h2⟩:=an (show (fB false true false 0 0 n nm sb aS.length && qy nm) = true from hb)
  have hl:aS = []:=List.length_eq_zero_iff.1 (by have:=qG h1;omega)
  subst hl
  have z0:=qhd h1;have z2:=qcv h1;subst z0;subst z2
  exact qKG hw h2
 ·obtain ⟨h1,h2⟩:=an (show (fB false true true 0 0 n nm sb aS.length && (qy nm && qy sb)) = true from hb)
  have hl:aS = []:=List.length_eq_zero_iff.1 (by have:=qG h1;omega)
  subst hl
  have z0:=qhd h1;subst z0
  exact qKH hw (an h2).1 (an h2).2
 ·have h1:fB false false false 1 4 n nm sb aS.length = true:=hb
  have z0:=qhd h1;have z1:=qdH h1;have z2:=qcv h1;subst z0;subst z1;subst z2
  have:=qG h1
  exact qKI hw zo zo h hd
 ·obtain ⟨h1,h2⟩:=an (show (fB false true false 0 0 n nm sb aS.length && qy nm) = true from hb)
  have hl:aS = []:=List.length_eq_zero_iff.1 (by have:=qG h1;omega)
  subst hl
  have z0:=qhd h1;have z2:=qcv h1;subst z0;subst z2
  exact qKJ hw h2
 ·obtain ⟨h1,h2⟩:=an (show (fB false true false 0 0 n nm sb aS.length && qy nm) = true from hb)
  have hl:aS = []:=List.length_eq_zero_iff.1 (by have:=qG h1;omega)
  subst hl
  have z0:=qhd h1;have z2:=qcv h1;subst z0;subst z2
  exact qKK hw h2
 ·obtain ⟨h1,h2⟩:=an (show (fB false true false 0 0 n nm sb aS.length && qy nm) = true from hb)
  have hl:aS = []:=List.length_eq_zero_iff.1 (by have:=qG h1;omega)
  subst hl
  have z0:=qhd h1;have z2:=qcv h1;subst z0;subst z2
  exact qKL hw h2
 ·obtain ⟨h1,h2⟩:=an (show (fB false true false 1 1 n nm sb aS.length && qy nm) = true from hb)
  obtain ⟨a,rfl⟩:=qcA (l:=aS) (by have:=qG h1;omega)
  have z0:=qhd h1;have z2:=qcv h1;subst z0;subst z2
  exact qHb hw h2 (h a (by simp)) hd
 ·have h1:fB false false false 0 0 n nm sb aS.length = true:=hb
  have hl:aS = []:=List.length_eq_zero_iff.1 (by have:=qG h1;omega)
  subst hl
  have z0:=qhd h1;have z1:=qdH h1;have z2:=qcv h1;subst z0;subst z1;subst z2
  exact qHc hw
 ·obtain ⟨h1,h2⟩:=an (show (fB true false false 1 1 n nm sb aS.length && (ile 0 n && ilt n 4)) = true from hb)
  obtain ⟨a,rfl⟩:=qcA (l:=aS) (by have:=qG h1;omega)
  have z1:=qdH h1;have z2:=qcv h1;subst z1;subst z2
  simp only [jk,qav,qX,decide_eq_true_eq] at h2
  exact qHd hw (h a (by simp)) zo (K:=bif a.op == 0 then 10 else 8) (by cases a.op == 0 <;> simp) hd
 ·have h1:fB false false false 1 1 n nm sb aS.length = true:=hb
  obtain ⟨a,rfl⟩:=qcA (l:=aS) (by have:=qG h1;omega)
  have z0:=qhd h1;have z1:=qdH h1;have z2:=qcv h1;subst z0;subst z1;subst z2
  exact qHe hw (h a (by simp)) hd
 ·have h1:fB false false false 1 1 n nm sb aS.length = true:=hb
  obtain ⟨a,rfl⟩:=qcA (l:=aS) (by have:=qG h1;omega)
  have z0:=qhd h1;have z1:=qdH h1;have z2:=qcv h1;subst z0;subst z1;subst z2
  exact qHf hw (h a (by simp)) hd
 ·have h1:fB false false false 2 2 n nm sb aS.length = true:=hb
  obtain ⟨a,b,rfl⟩:=qaW (l:=aS) (by have:=qG h1;omega)
  have z0:=qhd h1;have z1:=qdH h1;have z2:=qcv h1;subst z0;subst z1;subst z2
  have e:=λm r (s:See ws m (mk3 [43] :: r)) w=>s.is w
  have:=qhZ (op:=15) (t:=mk3 [43]) (K:=5) (L:=6) hw (h a (by simp)) (h b (by simp)) 5 6 zo zo zo zo zo rfl (λm r s=>⟨λh=>absurd h zo,λ_=>by simp only [qeJ,e m r s];rfl,λh=>absurd h zo,λh=>absurd h zo⟩) rfl hd
  exact qb8 hw this.1 (by decide) this.2
 ·have h1:fB false false false 2 2 n nm sb aS.length = true:=hb
  obtain ⟨a,b,rfl⟩:=qaW (l:=aS) (by have:=qG h1;omega)
  have z0:=qhd h1;have z1:=qdH h1;have z2:=qcv h1;subst z0;subst z1;subst z2
  have e:=λm r (s:See ws m (mk3 [45] :: r)) w=>s.is w
  have:=qhZ (op:=16) (t:=mk3 [45]) (K:=5) (L:=6) hw (h a (by simp)) (h b (by simp)) 5 6 zo zo zo zo zo rfl (λm r s=>⟨λh=>absurd h zo,λ_=>by simp only [qeJ,e m r s];rfl,λh=>absurd h zo,λh=>absurd h zo⟩) rfl hd
  exact qb8 hw this.1 (by decide) this.2
 ·have h1:fB false false false 2 2 n nm sb aS.length = true:=hb
  obtain ⟨a,b,rfl⟩:=qaW (l:=aS) (by have:=qG h1;omega)
  have z0:=qhd h1;have z1:=qdH h1;have z2:=qcv h1;subst z0;subst z1;subst z2
  have e:=λm r (s:See ws m (mk3 [42] :: r)) w=>s.is w
  have:=qhZ (op:=17) (t:=mk3 [42]) (K:=6) (L:=7) hw (h a (by simp)) (h b (by simp)) 6 7 zo zo zo zo zo rfl (λm r s=>⟨λ_=>by simp only [qc9,e m r s];rfl,λh=>absurd h zo,λh=>absurd h zo,λh=>absurd h zo⟩) rfl hd
  exact qb8 hw this.1 (by decide) this.2
 ·have h1:fB false false false 2 2 n nm sb aS.length = true:=hb
  obtain ⟨a,b,rfl⟩:=qaW (l:=aS) (by have:=qG h1;omega)
  have z0:=qhd h1;have z1:=qdH h1;have z2:=qcv h1;subst z0;subst z1;subst z2
  have e:=λm r (s:See ws m (mk3 [47] :: r)) w=>s.is w
  have:=qhZ (op:=18) (t:=mk3 [47]) (K:=6) (L:=7) hw (h a (by simp)) (h b (by simp)) 6 7 zo zo zo zo zo rfl (λm r s=>⟨λ_=>by simp only [qc9,e m r s];rfl,λh=>absurd h zo,λh=>absurd h zo,λh=>absurd h zo⟩) rfl hd
  exact qb8 hw this.1 (by decide) this.2
 ·have h1:fB false false false 2 2 n nm sb aS.length = true:=hb
  obtain ⟨a,b,rfl⟩:=qaW (l:=aS) (by have:=qG h1;omega)
  have z0:=qhd h1;have z1:=qdH h1;have z2:=qcv h1;subst z0;subst z1;subst z2
  have e:=λm r (s:See ws m (mk3 [37] :: r)) w=>s.is w
  have:=qhZ (op:=19) (t:=mk3 [37]) (K:=6) (L:=7) hw (h a (by simp)) (h b (by simp)) 6 7 zo zo zo zo zo rfl (λm r s=>⟨λ_=>by simp only [qc9,e m r s];rfl,λh=>absurd h zo,λh=>absurd h zo,λh=>absurd h zo⟩) rfl hd
  exact qb8 hw this.1 (by decide) this.2
 ·have h1:fB false false false 2 2 n nm sb aS.length = true:=hb
  obtain ⟨a,b,rfl⟩:=qaW (l:=aS) (by have:=qG h1;omega)
  have z0:=qhd h1;have z1:=qdH h1;have z2:=qcv h1;subst z0;subst z1;subst z2
  have e:=λm r (s:See ws m (mk3 [61] :: r)) w=>s.is w
  have:=qmo (op:=20) (t:=mk3 [61]) hw (h a (by simp)) (h b (by simp)) rfl (λm r s=>by simp only [qeJ,e m r s];rfl) (λm r s=>by simp only [qd8,e m r s];rfl) hd
  exact qb8 hw this.1 (by decide) this.2
 ·have h1:fB false false false 2 2 n nm sb aS.length = true:=hb
  obtain ⟨a,b,rfl⟩:=qaW (l:=aS) (by have:=qG h1;omega)
  have z0:=qhd h1;have z1:=qdH h1;have z2:=qcv h1;subst z0;subst z1;subst z2
  have e:=λm r (s:See ws m (mk3 [60] :: r)) w=>s.is w
  have:=qmo (op:=21) (t:=mk3 [60]) hw (h a (by simp)) (h b (by simp)) rfl (λm r s=>by simp only [qeJ,e m r s];rfl) (λm r s=>by simp only [qd8,e m r s];rfl) hd
  exact qb8 hw this.1 (by decide) this.2
 ·have h1:fB false false false 2 2 n nm sb aS.length = true:=hb
  obtain ⟨a,b,rfl⟩:=qaW (l:=aS) (by have:=qG h1;omega)
  have z0:=qhd h1;have z1:=qdH h1;have z2:=qcv h1;subst z0;subst z1;subst z2
  have e:=λm r (s:See ws m (mk3 [60,61] :: r)) w=>s.is w
  have:=qmo (op:=22) (t:=mk3 [60,61]) hw (h a (by simp)) (h b (by simp)) rfl (λm r s=>by simp only [qeJ,e m r s];rfl) (λm r s=>by simp only [qd8,e m r s];rfl) hd
  exact qb8 hw this.1 (by decide) this.2
 ·have h1:fB false false false 2 2 n nm sb aS.length = true:=hb
  obtain ⟨a,b,rfl⟩:=qaW (l:=aS) (by have:=qG h1;omega)
  have z0:=qhd h1;have z1:=qdH h1;have z2:=qcv h1;subst z0;subst z1;subst z2
  have e:=λm r (s:See ws m (nm0 [97,110,100] :: r)) w=>s.is w
  have:=qhZ (op:=23) (t:=nm0 [97,110,100]) (K:=2) (L:=3) hw (h a (by simp)) (h b (by simp)) 2 3 zo zo zo zo zo rfl (λm r s=>⟨λh=>absurd h zo,λh=>absurd h zo,λ_=>by simp only [qg4,e m r s];rfl,λh=>absurd h zo⟩) rfl hd
  exact qb8 hw this.1 (by decide) this.2
 ·have h1:fB false false false 2 2 n nm sb aS.length = true:=hb
  obtain ⟨a,b,rfl⟩:=qaW (l:=aS) (by have:=qG h1;omega)
  have z0:=qhd h1;have z1:=qdH h1;have z2:=qcv h1;subst z0;subst z1;subst z2
  have e:=λm r (s:See ws m (nm0 [111,114] :: r)) w=>s.is w
  have:=qhZ (op:=24) (t:=nm0 [111,114]) (K:=1) (L:=2) hw (h a (by simp)) (h b (by simp)) 1 2 zo zo zo zo zo rfl (λm r s=>⟨λh=>absurd h zo,λh=>absurd h zo,λh=>absurd h zo,λ_=>by simp only [qqa,e m r s];rfl⟩) rfl hd
  exact qb8 hw this.1 (by decide) this.2
 ·have h1:fB false false false 3 3 n nm sb aS.length = true:=hb
  obtain ⟨a,b,c,rfl⟩:=qhp (l:=aS) (by have:=qG h1;omega)
  have z0:=qhd h1;have z1:=qdH h1;have z2:=qcv h1;subst z0;subst z1;subst z2
  exact qHg hw (h a (by simp)) (h b (by simp)) (h c (by simp)) hd
theorem qqu (hw:WF ws):∀(d:Nat) (e:Exl),d <= 20->right d e = true->Gd ws (tk d e) e.cv (rkN e.op)
 | 0,_,_,h=>by rw [right] at h;cases h
 | d + 1,.mk op n nm sb aS,I,h=>by
  have E:=qx0 (d + 1) _ h
  rw [right,jk,List.all_eq_true] at h
  rw [tk,cv_mk] at *
  refine qAG hw h.1 zo λa ha=>?_
  have hr:=h.2 a ha
  have ho:0 <= a.op/\a.op <= 25:=by
   cases d with
   | zero=>rw [right] at hr;cases hr
   | succ d=>
    obtain ⟨o',n',m',s',U⟩:=a
    rw [right,jk] at hr
    show 0 <= o'/\o' <= 25
    exact Decidable.byContradiction λhc=>by have h1:=hr.1;rw [qdW hc] at h1;cases h1
  exact ⟨ho.1,ho.2,qqu hw d a zo hr⟩
end
end Go.Proofs.YtcbfifamliijlaaGreatDoor.AE
