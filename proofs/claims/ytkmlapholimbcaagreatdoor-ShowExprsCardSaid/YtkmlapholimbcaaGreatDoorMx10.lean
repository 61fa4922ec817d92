/- A part of the proof: the abstract executor and what goes through it (part 10). No condition. -/
import Derived.Test.YtkmlapholimbcaaGreatDoorMx9
import Derived.Test.YtkmlapholimbcaaGreatDoorMx8
import Derived.Test.YtkmlapholimbcaaGreatDoorMx6
set_option maxRecDepth 100000
namespace Go.Proofs.YtkmlapholimbcaaGreatDoor.AE
open Go.AE
theorem qjy:∀(k u:Nat),u < 10 ^ (k + 1)→1 ≤ (Lib.decDigits u).length∧(Lib.decDigits u).length ≤ k + 1
 | k,u,h=>by
  rw [Lib.decDigits]
  split
  ·simp
  ·cases k with
   | zero=>omega
   | succ k=>
    have:=qjy k (u / 10) (by rw [Nat.pow_succ] at h;omega)
    simp
    omega
theorem qfX {n:Int} (h0:0 ≤ n) (h1:n ≤ 9223372036854775807):1 ≤ (Lib.itoa n).length∧(Lib.itoa n).length ≤ 19:=by
 rw [Lib.itoa,if_neg (by omega)]
 exact qjy 18 n.toNat (by omega)
theorem qbY (k:Int) (p:Int×Str):(inn k p).length ≤ p.2.length + 2:=by
 rw [inn]
 cases ile k (rk p.1) <;> simp
theorem qpK (l:List Str):(qbz l).length ≤ (l.map fun t=>t.length + 2).sum:=by
 cases l with
 | nil=>simp [qbz]
 | cons x r=>
  simp only [qbz,List.length_append,List.map_cons,List.sum_cons]
  have:((r.map fun t=>44 :: 32 :: t).flatten).length = (r.map fun t=>t.length + 2).sum:=by
   rw [List.length_flatten,List.map_map]
   rfl
  omega
theorem qvv {α:Type} {l:List α} {f g:α→Nat} (h:∀a ∈ l,f a ≤ g a):(l.map f).sum ≤ (l.map g).sum:=by
 induction l with
 | nil=>simp
 | cons a l ih=>
  simp only [List.map_cons,List.sum_cons]
  have:=h a (by simp)
  have:=ih fun b hb=>h b (by simp [hb])
  omega
theorem qxT {op n:Int} {nm sb:Str} {ps:List (Int×Str)} (hb:qgA op n nm sb ps.length = true) (hn:n ≤ 9223372036854775807):1 ≤ (ntx op n nm sb ps).length∧(ntx op n nm sb ps).length ≤ 40 + (ps.map fun p=>p.2.length + 4).sum:=by
 have ho:0 ≤ op∧op ≤ 25:=Decidable.byContradiction fun hc=>by rw [qcl hc] at hb;cases hb
 have an:∀{a b:Bool},(a && b) = true→a = true∧b = true:=fun h=>(Bool.and_eq_true _ _).mp h
 have:op = 0∨op = 1∨op = 2∨op = 3∨op = 4∨op = 5∨op = 6∨op = 7∨op = 8∨op = 9∨op = 10∨op = 11∨op = 12∨op = 13∨op = 14∨op = 15∨op = 16∨op = 17∨op = 18∨op = 19∨op = 20∨op = 21∨op = 22∨op = 23∨op = 24∨op = 25:=by omega
 have two:∀{j k:Int} {w:Str},ps.length = 2→1 ≤ w.length→w.length ≤ 5→1 ≤ (inn j (ps.getD 0 (0,[])) ++ (w ++ inn k (ps.getD 1 (0,[])))).length∧(inn j (ps.getD 0 (0,[])) ++ (w ++ inn k (ps.getD 1 (0,[])))).length ≤ 40 + (ps.map fun p=>p.2.length + 4).sum:=fun {j k w} hl h1 h2=>by
  obtain ⟨a,b,rfl⟩:=qaw hl
  have:=qbY j a
  have:=qbY k b
  simp only [List.getD_cons_zero,List.getD_cons_succ,List.length_append,List.map_cons,List.map_nil,List.sum_cons,List.sum_nil]
  omega
 rcases this with rfl | rfl | rfl | rfl | rfl | rfl | rfl | rfl | rfl | rfl | rfl | rfl | rfl | rfl | rfl | rfl | rfl | rfl | rfl | rfl | rfl | rfl | rfl | rfl | rfl | rfl
 ·obtain ⟨h1,h2⟩:=an (show (fB _ _ _ _ _ n nm sb ps.length && ile 0 n) = true from hb)
  rw [qay] at h2
  have:=qfX (of_decide_eq_true h2) hn
  rw [show ntx 0 n nm sb ps = Lib.itoa n from rfl]
  omega
 ·rw [show ntx 1 n nm sb ps = [116,114,117,101] from rfl]
  simp
  omega
 ·rw [show ntx 2 n nm sb ps = [102,97,108,115,101] from rfl]
  simp
  omega
 ·obtain ⟨h1,h2⟩:=an (show (fB _ _ _ _ _ n nm sb ps.length && qbD nm) = true from hb)
  have:=qe6 h2
  rw [show ntx 3 n nm sb ps = 39 :: nm from rfl]
  simp only [List.length_cons]
  omega
 ·obtain ⟨h1,h2⟩:=an (show (fB _ _ _ _ _ n nm sb ps.length && qA nm) = true from hb)
  have:=qaa h2
  rw [show ntx 4 n nm sb ps = nm from rfl]
  try simp only [List.length_cons,List.length_append,List.length_nil]
  omega
 ·obtain ⟨h1,h2⟩:=an (show (fB _ _ _ _ _ n nm sb ps.length && (qA nm && qA sb)) = true from hb)
  obtain ⟨h2,h3⟩:=an h2
  have:=qaa h2
  have:=qaa h3
  rw [show ntx 5 n nm sb ps = nm ++ (46 :: sb) from rfl]
  simp only [List.length_cons,List.length_append]
  omega
 ·rw [show ntx 6 n nm sb ps = qkz ps from rfl,qkz]
  have h1:=qpK (ps.map (inn 0))
  rw [List.map_map] at h1
  have h2:=qvv (l:=ps) (f:=(fun t=>t.length + 2) ∘ inn 0) (g:=fun p=>p.2.length + 4) fun p _=>by have:=qbY 0 p;simp only [Function.comp];omega
  cases ps.length == 1 <;> simp only [cond_true,cond_false,List.length_cons,List.length_append,List.length_nil] <;> omega
 ·obtain ⟨h1,h2⟩:=an (show (fB _ _ _ _ _ n nm sb ps.length && qA nm) = true from hb)
  have:=qaa h2
  rw [show ntx 7 n nm sb ps = [99,111,117,110,116,40] ++ (nm ++ [41]) from rfl]
  try simp only [List.length_cons,List.length_append,List.length_nil]
  omega
 ·obtain ⟨h1,h2⟩:=an (show (fB _ _ _ _ _ n nm sb ps.length && qA nm) = true from hb)
  have:=qaa h2
  rw [show ntx 8 n nm sb ps = [104,97,115,40] ++ (nm ++ [41]) from rfl]
  try simp only [List.length_cons,List.length_append,List.length_nil]
  omega
 ·obtain ⟨h1,h2⟩:=an (show (fB _ _ _ _ _ n nm sb ps.length && qA nm) = true from hb)
  have:=qaa h2
  rw [show ntx 9 n nm sb ps = [115,117,109,40] ++ (nm ++ [41]) from rfl]
  try simp only [List.length_cons,List.length_append,List.length_nil]
  omega
 ·obtain ⟨h1,h2⟩:=an (show (fB _ _ _ 1 1 n nm sb ps.length && qA nm) = true from hb)
  have:=qaa h2
  obtain ⟨a,rfl⟩:=qbJ (l:=ps) (by have:=qp h1;omega)
  rw [show ntx 10 n nm sb [a] = [108,101,97,115,116,40] ++ (nm ++ ([44,32] ++ (inn 0 a ++ [41]))) from rfl]
  have:=qbY 0 a
  simp only [List.length_cons,List.length_append,List.length_nil,List.map_cons,List.map_nil,List.sum_cons,List.sum_nil]
  omega
 ·rw [show ntx 11 n nm sb ps = [101,108,97,112,115,101,100] from rfl]
  simp
  omega
 ·obtain ⟨h1,h2⟩:=an (show (fB _ _ _ 1 1 n nm sb ps.length && (ile 0 n && ilt n 4)) = true from hb)
  obtain ⟨a,rfl⟩:=qbJ (l:=ps) (by have:=qp h1;omega)
  simp only [Bool.and_eq_true,qay,qM,decide_eq_true_eq] at h2
  have:=qfX h2.1 hn
  rw [show ntx 12 n nm sb [a] = inn (bif a.1 == 0 then 10 else 8) a ++ (46 :: Lib.itoa n) from rfl]
  have:=qbY (bif a.1 == 0 then 10 else 8) a
  simp only [List.length_cons,List.length_append,List.map_cons,List.map_nil,List.sum_cons,List.sum_nil]
  omega
 ·have h1:fB false false false 1 1 n nm sb ps.length = true:=hb
  obtain ⟨a,rfl⟩:=qbJ (l:=ps) (by have:=qp h1;omega)
  rw [show ntx 13 n nm sb [a] = 45 :: inn 7 a from rfl]
  have:=qbY 7 a
  simp only [List.length_cons,List.length_append,List.length_nil,List.map_cons,List.map_nil,List.sum_cons,List.sum_nil]
  omega
 ·have h1:fB false false false 1 1 n nm sb ps.length = true:=hb
  obtain ⟨a,rfl⟩:=qbJ (l:=ps) (by have:=qp h1;omega)
  rw [show ntx 14 n nm sb [a] = [110,111,116,32] ++ inn 3 a from rfl]
  have:=qbY 3 a
  simp only [List.length_cons,List.length_append,List.length_nil,List.map_cons,List.map_nil,List.sum_cons,List.sum_nil]
  omega
 ·have h1:fB false false false 2 2 n nm sb ps.length = true:=hb
  exact two (j:=(sgn 15).2.1) (k:=(sgn 15).2.2) (w:=(sgn 15).1) (by have:=qp h1;omega) (by decide) (by decide)
 ·have h1:fB false false false 2 2 n nm sb ps.length = true:=hb
  exact two (j:=(sgn 16).2.1) (k:=(sgn 16).2.2) (w:=(sgn 16).1) (by have:=qp h1;omega) (by decide) (by decide)
 ·have h1:fB false false false 2 2 n nm sb ps.length = true:=hb
  exact two (j:=(sgn 17).2.1) (k:=(sgn 17).2.2) (w:=(sgn 17).1) (by have:=qp h1;omega) (by decide) (by decide)
 ·have h1:fB false false false 2 2 n nm sb ps.length = true:=hb
  exact two (j:=(sgn 18).2.1) (k:=(sgn 18).2.2) (w:=(sgn 18).1) (by have:=qp h1;omega) (by decide) (by decide)
 ·have h1:fB false false false 2 2 n nm sb ps.length = true:=hb
  exact two (j:=(sgn 19).2.1) (k:=(sgn 19).2.2) (w:=(sgn 19).1) (by have:=qp h1;omega) (by decide) (by decide)
 ·have h1:fB false false false 2 2 n nm sb ps.length = true:=hb
  exact two (j:=(sgn 20).2.1) (k:=(sgn 20).2.2) (w:=(sgn 20).1) (by have:=qp h1;omega) (by decide) (by decide)
 ·have h1:fB false false false 2 2 n nm sb ps.length = true:=hb
  exact two (j:=(sgn 21).2.1) (k:=(sgn 21).2.2) (w:=(sgn 21).1) (by have:=qp h1;omega) (by decide) (by decide)
 ·have h1:fB false false false 2 2 n nm sb ps.length = true:=hb
  exact two (j:=(sgn 22).2.1) (k:=(sgn 22).2.2) (w:=(sgn 22).1) (by have:=qp h1;omega) (by decide) (by decide)
 ·have h1:fB false false false 2 2 n nm sb ps.length = true:=hb
  exact two (j:=(sgn 23).2.1) (k:=(sgn 23).2.2) (w:=(sgn 23).1) (by have:=qp h1;omega) (by decide) (by decide)
 ·have h1:fB false false false 2 2 n nm sb ps.length = true:=hb
  exact two (j:=(sgn 24).2.1) (k:=(sgn 24).2.2) (w:=(sgn 24).1) (by have:=qp h1;omega) (by decide) (by decide)
 ·have h1:fB false false false 3 3 n nm sb ps.length = true:=hb
  obtain ⟨a,b,c,rfl⟩:=qe4 (l:=ps) (by have:=qp h1;omega)
  rw [show ntx 25 n nm sb [a,b,c] = [105,102,32] ++ (inn 0 a ++ ([32,116,104,101,110,32] ++ (inn 0 b ++ ([32,101,108,115,101,32] ++ inn 0 c)))) from rfl]
  have:=qbY 0 a
  have:=qbY 0 b
  have:=qbY 0 c
  simp only [List.length_cons,List.length_append,List.length_nil,List.map_cons,List.map_nil,List.sum_cons,List.sum_nil]
  omega
theorem qrL:∀(d:Nat) (e:Exl),right d e = true→OkN e→1 ≤ (tx d e).length∧(tx d e).length + 4 ≤ 44 * sz d e
 | 0,_,h,_=>by rw [right] at h;cases h
 | d + 1,.mk op n nm sb aS,h,hn=>by
  rw [right,Bool.and_eq_true,List.all_eq_true] at h
  obtain ⟨h1,h2⟩:=qnm hn
  have hl:=qxT (ps:=aS.map fun a=>(a.op,tx d a)) (by rw [List.length_map];exact h.1) h1
  have hs:((aS.map fun a=>(a.op,tx d a)).map fun p=>p.2.length + 4).sum ≤ (aS.map fun a=>44 * sz d a).sum:=by
   rw [List.map_map]
   exact qvv fun a ha=>(qrL d a (h.2 a ha) (h2 a ha)).2
  have hm:(aS.map fun a=>44 * sz d a).sum = 44 * (aS.map (sz d)).sum:=by
   clear h hn h2 hl hs
   induction aS with
   | nil=>rfl
   | cons a aS ih=>simp only [List.map_cons,List.sum_cons,ih];omega
  rw [tx,sz]
  omega
theorem qDN (b:Nat) (h:List qf):hop b (.bld 79 5) [] h = some (.ptr h.length 0,h ++ [BX []],false):=Eq.trans rfl rfl
theorem qjK {d:Nat} {e:Exl} (hr:right d e = true) (hn:OkN e) (hs:sz d e ≤ 1000) (G:List qf):Wd (.fn 19 [] []) [exV e] G = some (.ret (.str (tx d e)),G,false):=by
 obtain ⟨h1,h2⟩:=qrL d e hr hn
 have hS:(tx d e).length ≤ qu:=by unfold qu;omega
 obtain ⟨_,hT⟩:=qrG hS d e hr hn
 have hne:(tx d e).isEmpty = false:=by
  cases hq:tx d e with
  | nil=>rw [hq] at h1;simp at h1
  | cons a l=>rfl
 have hst:=fun {G id}=>qun (G:=G) (id:=id)
 generalize tx d e = t at *
 obtain ⟨op,n,nm,sb,aS⟩:=e
 rw [qe] at hT
 generalize hx:qf.cells [.int .i64 op,.int .i64 n,.str nm,.str sb,.lst (aS.map exV) .no] = x
 have g1:(G ++ [x,BX []])[G.length + 1]? = some (BX []):=by rw [qbQ];rfl
 have hT:=hT (G ++ [x,BX []]) (G.length + 1) (by simp) (by rw [g1];exact qaG _) (by rw [g1,qaC];exact List.prefix_rfl)
 rw [g1,qaC,List.nil_append,qh3] at hT
 subst hx
 rw [qe,qi rfl (show T.get 19 = some c19 by kernel_rfl)]
 simp only [c19,sT.1,sC.1,sTA.1,sCA.1,qc,qak,qal,Src.isTmp,qD,Src.hangs,qk.isT,qai,qb,Nat.testBit,bne,simprocAttr,-Int.reduceNatCast',qbU,qab,qaf,qaz,qad,qDN,hT,hst,hne,qaC,qaG,List.append_assoc,List.nil_append,List.set_cons_succ,List.set_cons_zero,List.cons_append]
def qAF (e:Exl):Prop:=right 20 e = true∧OkN e∧sz 20 e ≤ 1000
def eT (e:Exl):Str:=tx 20 e
theorem qBc {e:Exl} (h:qAF e) (G:List qf):Wd (.fn 19 [] []) [exV e] G = some (.ret (.str (eT e)),G,false):=qjK h.1 h.2.1 h.2.2 G
end Go.Proofs.YtkmlapholimbcaaGreatDoor.AE
namespace Go.Proofs.YtkmlapholimbcaaGreatDoor.AE
open Go.AE
abbrev PT:=Int×Str×Int
def mk3 (s:Str):PT:=(3,s,0)
def nm0 (s:Str):PT:=(0,s,0)
def in1 (n:Int):PT:=(1,[],n)
def sy2 (s:Str):PT:=(2,s,0)
def itk (k:Int) (p:Int×List PT):List PT:=bif ile k (rk p.1) then p.2 else mk3 [40] :: (p.2 ++ [mk3 [41]])
def qcE:List (List PT)→List PT
 | []=>[]
 | x :: r=>x ++ (r.map fun t=>mk3 [44] :: t).flatten
def qAl (ps:List (Int×List PT)):List PT:=mk3 [40] :: (qcE (ps.map (itk 0)) ++ (bif ps.length == 1 then [mk3 [44],mk3 [41]] else [mk3 [41]]))
def sgK (op:Int):PT:=bif op == 24 then nm0 [111,114] else bif op == 23 then nm0 [97,110,100] else bif op == 20 then mk3 [61] else bif op == 21 then mk3 [60] else bif op == 22 then mk3 [60,61] else bif op == 15 then mk3 [43] else bif op == 16 then mk3 [45] else bif op == 17 then mk3 [42] else bif op == 18 then mk3 [47] else mk3 [37]
def ntk (op n:Int) (nm sb:Str) (ps:List (Int×List PT)):List PT:=
 bif op == 0 then [in1 n] else bif op == 1 then [nm0 [116,114,117,101]] else bif op == 2 then [nm0 [102,97,108,115,101]] else bif op == 11 then [nm0 [101,108,97,112,115,101,100]]
 else bif op == 3 then [sy2 nm] else bif op == 4 then [nm0 nm] else bif op == 5 then [nm0 nm,mk3 [46],nm0 sb] else bif op == 7 then [nm0 [99,111,117,110,116],mk3 [40],nm0 nm,mk3 [41]] else bif op == 8 then [nm0 [104,97,115],mk3 [40],nm0 nm,mk3 [41]]
 else bif op == 9 then [nm0 [115,117,109],mk3 [40],nm0 nm,mk3 [41]] else bif op == 10 then [nm0 [108,101,97,115,116],mk3 [40],nm0 nm,mk3 [44]] ++ (itk 0 (ps.getD 0 (0,[])) ++ [mk3 [41]])
 else bif op == 6 then qAl ps else bif op == 12 then itk (bif (ps.getD 0 (0,[])).1 == 0 then 10 else 8) (ps.getD 0 (0,[])) ++ [mk3 [46],in1 n] else bif op == 13 then mk3 [45] :: itk 7 (ps.getD 0 (0,[])) else bif op == 14 then nm0 [110,111,116] :: itk 3 (ps.getD 0 (0,[]))
 else bif op == 25 then nm0 [105,102] :: (itk 0 (ps.getD 0 (0,[])) ++ (nm0 [116,104,101,110] :: (itk 0 (ps.getD 1 (0,[])) ++ (nm0 [101,108,115,101] :: itk 0 (ps.getD 2 (0,[]))))))
 else itk (sgn op).2.1 (ps.getD 0 (0,[])) ++ (sgK op :: itk (sgn op).2.2 (ps.getD 1 (0,[])))
def tk:Nat→Exl→List PT
 | 0,_=>[]
 | d + 1,.mk op n nm sb aS=>ntk op n nm sb (aS.map fun a=>(a.op,tk d a))
def Exl.cv:Exl→Exp
 | .mk op n nm sb aS=>.mk op n nm sb (aS.map fun a=>a.cv)
theorem qsj (op n:Int) (nm sb:Str) (aS:List Exl):(Exl.mk op n nm sb aS).cv = .mk op n nm sb (aS.map Exl.cv):=by rw [Exl.cv]
def See (ws:List Tok) (n:Nat) (ks:List PT):Prop:=∀i t,ks[i]? = some t→n + i < ws.length∧((word ws (n + i)).kind,(word ws (n + i)).s,(word ws (n + i)).n) = t
theorem See.app {ws:List Tok} {n:Nat} {a b:List PT} (h:See ws n (a ++ b)):See ws n a∧See ws (n + a.length) b:=by
 refine ⟨fun i t hi=>h i t ?_,fun i t hi=>?_⟩
 ·rw [List.getElem?_append_left (List.getElem?_eq_some_iff.1 hi).1];exact hi
 ·have:=h (a.length + i) t (by rw [List.getElem?_append_right (by omega),Nat.add_sub_cancel_left];exact hi)
  rwa [←Nat.add_assoc] at this
theorem See.head {ws:List Tok} {n:Nat} {t:PT} {b:List PT} (h:See ws n (t :: b)):n < ws.length∧(word ws n).kind = t.1∧(word ws n).s = t.2.1∧(word ws n).n = t.2.2:=by
 have:=h 0 t rfl
 rw [Nat.add_zero] at this
 obtain ⟨h1,h2⟩:=this
 cases t with
 | mk a bc=>
  cases bc with
  | mk b c=>
   simp only [Prod.mk.injEq] at h2
   exact ⟨h1,h2⟩
theorem See.tail {ws:List Tok} {n:Nat} {t:PT} {b:List PT} (h:See ws n (t :: b)):See ws (n + 1) b:=fun i u hi=>by
 have:=h (i + 1) u (by simpa using hi)
 rwa [Nat.add_comm i 1,←Nat.add_assoc] at this
def tW (t:PT) (s:Str):Bool:=(t.1 == 3 || t.1 == 0) && t.2.1 == s
theorem See.is {ws:List Tok} {n:Nat} {t:PT} {b:List PT} (h:See ws n (t :: b)) (s:Str):isW ws n s = tW t s:=by
 obtain ⟨_,h1,h2,_⟩:=h.head
 rw [isW,tW,h1,h2]
theorem See.named {ws:List Tok} {n:Nat} {t:PT} {b:List PT} (h:See ws n (t :: b)):qa2 ws n = (t.1 == 0 && qA t.2.1):=by
 obtain ⟨_,h1,h2,_⟩:=h.head
 rw [qa2,h1,h2]
theorem qxx {s w:Str} (h:qA s = true) (hw:qA w = false):(s == w) = false:=by
 rw [beq_eq_false_iff_ne]
 rintro rfl
 rw [h] at hw
 cases hw
def fnL (k:Nat):FuncId:=match k with
 | 0=>43
 | 1=>70
 | 2=>98
 | 3=>134
 | 4=>149
 | 5=>162
 | 6=>170
 | 7=>174
 | 8=>177
 | _=>178
structure Stp (ws:List Tok) (m k:Nat):Prop where
 of:isW ws m [46] = true→qa2 ws (m + 1) = false
 dot:k < 8→isW ws m [46] = false
 prod:k < 6→qcL ws m = none
 sum:k < 5→qdQ ws m = none
 same:k < 5→qds ws m = none
 and:k < 2→qfN ws m = none
 or:k < 1→qnh ws m = none
theorem Stp.up {ws:List Tok} {m k j:Nat} (h:Stp ws m k) (hk:k ≤ j):Stp ws m j:=⟨h.of,fun _=>h.dot (by omega),fun _=>h.prod (by omega),fun _=>h.sum (by omega),fun _=>h.same (by omega),fun _=>h.and (by omega),fun _=>h.or (by omega)⟩
def qAD (ws:List Tok) (k:Nat) (pos:Int) (x:Exp) (m:Nat) (o:Out):Prop:=match k with
 | 8=>qfM ws pos x m o
 | 6=>qfR (qcL ws) (qa8 174 ws) pos x m o
 | 5=>qfR (qdQ ws) (qa8 170 ws) pos x m o
 | 2=>qfR (qfN ws) (qa8 134 ws) pos x m o
 | 1=>qfR (qnh ws) (qa8 98 ws) pos x m o
 | _=>o = .ok x m
def Lv (ws:List Tok) (ks:List PT) (x:Exp) (k:Nat):Prop:=∀n,See ws n ks→n + ks.length < ws.length→Stp ws (n + ks.length) k→∀o,qAD ws k (word ws n).pos x (n + ks.length) o→qa8 (fnL k) ws n o
structure Fst (r:Nat) (ks:List PT):Prop where
 ne:ks ≠ []
 eif:∀t ∈ ks.head?,1 ≤ r→tW t [105,102] = false
 enot:∀t ∈ ks.head?,4 ≤ r→tW t [110,111,116] = false
 eneg:∀t ∈ ks.head?,8 ≤ r→tW t [45] = false
 esh:∀t ∈ ks.head?,tW t [41] = false
section
variable {ws:List Tok} {ks:List PT} {x:Exp} {r:Nat}
theorem Lv.stop {k:Nat} (h:Lv ws ks x k) {n:Nat} (hs:See ws n ks) (hl:n + ks.length < ws.length) (hst:Stp ws (n + ks.length) k) (h8:isW ws (n + ks.length) [46] = false) (h6:qcL ws (n + ks.length) = none∨k ≠ 6) (h5:qdQ ws (n + ks.length) = none∨k ≠ 5) (h2:qfN ws (n + ks.length) = none∨k ≠ 2) (h1:qnh ws (n + ks.length) = none∨k ≠ 1):qa8 (fnL k) ws n (.ok x (n + ks.length)):=by
 refine h n hs hl hst _ ?_
 unfold qAD
 split
 ·exact .stop h8
 ·exact .stop (h6.resolve_right fun e=>e rfl)
 ·exact .stop (h5.resolve_right fun e=>e rfl)
 ·exact .stop (h2.resolve_right fun e=>e rfl)
 ·exact .stop (h1.resolve_right fun e=>e rfl)
 ·rfl
theorem Lv.end {k j:Nat} (h:Lv ws ks x k) {n:Nat} (hs:See ws n ks) (hl:n + ks.length < ws.length) (hst:Stp ws (n + ks.length) j) (hj:j < k) (h7:k ≤ 7∨j < 8):qa8 (fnL k) ws n (.ok x (n + ks.length)):=by
 refine h n hs hl (hst.up (by omega)) _ ?_
 unfold qAD
 split
 ·exact .stop (hst.dot (by omega))
 ·exact .stop (hst.prod (by omega))
 ·exact .stop (hst.sum (by omega))
 ·exact .stop (hst.and (by omega))
 ·exact .stop (hst.or (by omega))
 ·rfl
theorem qwJ (hf:Fst r ks) {n:Nat} (hs:See ws n ks):n < ws.length∧(1 ≤ r→isW ws n [105,102] = false)∧(4 ≤ r→isW ws n [110,111,116] = false)∧(8 ≤ r→isW ws n [45] = false):=by
 cases ks with
 | nil=>exact absurd rfl hf.ne
 | cons t b=>exact ⟨hs.head.1,fun h=>by rw [hs.is];exact hf.eif t rfl h,fun h=>by rw [hs.is];exact hf.enot t rfl h,fun h=>by rw [hs.is];exact hf.eneg t rfl h⟩
theorem qEQ (hw:WF ws) (hf:Fst r ks) {k:Nat} (hk:k < r) (hr:r ≤ 9) (h:Lv ws ks x (k + 1)):Lv ws ks x k:=by
 intro n hs hl hst o hc
 obtain ⟨hn,f1,f4,f8⟩:=qwJ hf hs
 have he:k + 1 < 9→qa8 (fnL (k + 1)) ws n (.ok x (n + ks.length)):=fun h9=>h.end hs hl hst (by omega) (.inr (by omega))
 have hk9:k = 0∨k = 1∨k = 2∨k = 3∨k = 4∨k = 5∨k = 6∨k = 7∨k = 8:=by omega
 rcases hk9 with rfl | rfl | rfl | rfl | rfl | rfl | rfl | rfl | rfl
 ·cases hc;exact qoF hw hn (f1 (by omega)) (he (by omega))
 ·exact qAb hw hn (he (by omega)) hc
 ·exact qvD hw hn (he (by omega)) hc
 ·cases hc;exact qtW hw hn (f4 (by omega)) (he (by omega))
 ·cases hc;exact qui hw hn (he (by omega)) (hst.same (by omega))
 ·exact qyt hw hn (he (by omega)) hc
 ·exact qt9 hw hn (he (by omega)) hc
 ·cases hc;exact qtT hw hn (f8 (by omega)) (he (by omega))
 ·exact qtB hw hn (h n hs hl (hst.up (by omega)) _ rfl) hc hc.mono
def Gd (ws:List Tok) (ks:List PT) (x:Exp) (r:Nat):Prop:=Fst r ks∧∀k,k ≤ r→Lv ws ks x k
theorem qbV (hw:WF ws) (hf:Fst r ks) (hr:r ≤ 9) (h:Lv ws ks x r):Gd ws ks x r:=by
 refine ⟨hf,fun k hk=>?_⟩
 obtain ⟨j,rfl⟩ :∃j,r = k + j:=⟨r - k,by omega⟩
 induction j generalizing k with
 | zero=>exact h
 | succ j ih=>
  have:=ih (k + 1) (by rw [show k + 1 + j = k + (j + 1) by omega];exact hf) (by omega) (by rw [show k + 1 + j = k + (j + 1) by omega];exact h) (by omega)
  exact qEQ hw hf (by omega) hr this
end
end Go.Proofs.YtkmlapholimbcaaGreatDoor.AE
namespace Go.Proofs.YtkmlapholimbcaaGreatDoor.AE
open Go.AE
theorem qfW {mb sb:Bool} {lo hi n:Int} {nm sub:Str} {k:Nat} (h:fB false mb sb lo hi n nm sub k = true):n = 0:=by
 simp only [fB,Bool.and_eq_true,Bool.false_or,beq_iff_eq] at h;exact h.1
theorem qdc {nb sb:Bool} {lo hi n:Int} {nm sub:Str} {k:Nat} (h:fB nb false sb lo hi n nm sub k = true):nm = []:=by
 simp only [fB,Bool.and_eq_true,Bool.false_or,beq_iff_eq] at h;exact h.2.1
theorem qcc {nb mb:Bool} {lo hi n:Int} {nm sub:Str} {k:Nat} (h:fB nb mb false lo hi n nm sub k = true):sub = []:=by
 simp only [fB,Bool.and_eq_true,Bool.false_or,beq_iff_eq] at h;exact h.2.2.1
theorem qiq:∀(l:List Exp) (d:Nat),(∀x ∈ l,x.depth ≤ d)→qa4 l ≤ d
 | [],d,_=>by rw [qa4];omega
 | x :: l,d,h=>by
  rw [qa4]
  have:=h x (by simp)
  have:=qiq l d fun y hy=>h y (by simp [hy])
  omega
theorem quY:∀(d:Nat) (e:Exl),right d e = true→e.cv.depth ≤ d
 | 0,_,h=>by rw [right] at h;cases h
 | d + 1,.mk op n nm sb aS,h=>by
  rw [right,Bool.and_eq_true,List.all_eq_true] at h
  rw [qsj,Exp.depth]
  have:=qiq (aS.map Exl.cv) d fun x hx=>by
   obtain ⟨a,ha,rfl⟩:=List.mem_map.1 hx
   exact quY d a (h.2 a ha)
  omega
def rkN (op:Int):Nat:=(rk op).toNat
def qh4 (t:PT) (k:Nat):Bool:=!tW t [46] && ((decide (6 ≤ k) || !(tW t [42] || (tW t [47] || tW t [37]))) && ((decide (5 ≤ k) || !(tW t [43] || tW t [45])) && ((decide (5 ≤ k) || !(tW t [61] || (tW t [60] || tW t [60,61]))) && ((decide (2 ≤ k) || !tW t [97,110,100]) && (decide (1 ≤ k) || !tW t [111,114])))))
section
variable {ws:List Tok} {ks:List PT} {x:Exp} {r:Nat}
theorem See.stp {m k:Nat} {t:PT} {b:List PT} (h:See ws m (t :: b)) (hk:qh4 t k = true):Stp ws m k:=by
 simp only [qh4,Bool.and_eq_true,Bool.or_eq_true,Bool.not_eq_true',Bool.or_eq_false_iff,decide_eq_true_eq] at hk
 obtain ⟨h1,h2,h3,h4,h5,h6⟩:=hk
 have e:=fun s=>h.is s
 refine ⟨fun q=>?_,fun _=>by rw [e,h1],fun q=>?_,fun q=>?_,fun q=>?_,fun q=>?_,fun q=>?_⟩
 ·rw [e,h1] at q;cases q
 ·obtain ⟨a,b,c⟩:=h2.resolve_left (by omega)
  simp only [qcL,e,a,b,c,Bool.false_eq_true,if_false]
 ·obtain ⟨a,b⟩:=h3.resolve_left (by omega)
  simp only [qdQ,e,a,b,Bool.false_eq_true,if_false]
 ·obtain ⟨a,b,c⟩:=h4.resolve_left (by omega)
  simp only [qds,e,a,b,c,Bool.false_eq_true,if_false]
 ·have a:=h5.resolve_left (by omega)
  simp only [qfN,e,a,Bool.false_eq_true,if_false]
 ·have a:=h6.resolve_left (by omega)
  simp only [qnh,e,a,Bool.false_eq_true,if_false]
theorem Fst.down {j:Nat} (h:Fst r ks) (hj:j ≤ r):Fst j ks:=⟨h.ne,fun t ht q=>h.eif t ht (by omega),fun t ht q=>h.enot t ht (by omega),fun t ht q=>h.eneg t ht (by omega),h.esh⟩
theorem qhI {b:List PT} (h:Fst r ks):Fst r (ks ++ b):=by
 cases ks with
 | nil=>exact absurd rfl h.ne
 | cons t l=>exact ⟨by simp,h.eif,h.enot,h.eneg,h.esh⟩
theorem qbF {t:PT} {b:List PT} (h1:tW t [105,102] = false∨r < 1) (h2:tW t [110,111,116] = false∨r < 4) (h3:tW t [45] = false∨r < 8) (h4:tW t [41] = false):Fst r (t :: b):=
 ⟨by simp,fun u hu q=>by simp at hu;subst hu;exact h1.resolve_right (by omega),fun u hu q=>by simp at hu;subst hu;exact h2.resolve_right (by omega),fun u hu q=>by simp at hu;subst hu;exact h3.resolve_right (by omega),fun u hu=>by simp at hu;subst hu;exact h4⟩
theorem brk (hw:WF ws) (h:Gd ws ks x r):Gd ws (mk3 [40] :: (ks ++ [mk3 [41]])) x 9:=by
 refine qbV hw (qbF (.inl rfl) (.inl rfl) (.inl rfl) rfl) (by omega) ?_
 intro n hs hl hst o hc
 cases hc
 obtain ⟨hn,k1,_⟩:=hs.head
 have s1:=hs.tail.app.1
 have s2:=hs.tail.app.2
 have e1:n + (mk3 [40] :: (ks ++ [mk3 [41]])).length = n + 1 + ks.length + 1:=by simp;omega
 rw [e1] at hl ⊢
 exact qdM hw hn (by rw [k1];simp [mk3]) (by rw [k1];simp [mk3]) (by rw [hs.named];rfl) (by rw [hs.is];rfl) (br2 hw hn (by rw [hs.is];rfl) (h.2 0 (by omega) (n + 1) s1 (by omega) (s2.stp rfl) _ rfl) (by rw [s2.is];rfl))
theorem qEV (hw:WF ws) {op K:Int} (h0:0 ≤ op) (h1:op ≤ 25) (h:Gd ws ks x (rkN op)) (j:Nat) (hj:(j:Int) ≤ K) (h9:j ≤ 9):Fst j (itk K (op,ks))∧Lv ws (itk K (op,ks)) x j:=by
 rw [itk]
 simp only
 cases hc:ile K (rk op) with
 | true=>
  rw [cond_true]
  rw [qay] at hc
  have hc:=of_decide_eq_true hc
  have hr:j ≤ rkN op:=by unfold rkN;omega
  exact ⟨h.1.down hr,h.2 j hr⟩
 | false=>
  rw [cond_false]
  have:=brk hw h
  exact ⟨this.1.down h9,this.2 j h9⟩
end
structure Ag (ws:List Tok) (d:Nat) (a:Exl):Prop where
 o0:0 ≤ a.op
 o1:a.op ≤ 25
 gd:Gd ws (tk d a) a.cv (rkN a.op)
section
variable {ws:List Tok} {d:Nat}
theorem Ag.at {a:Exl} (h:Ag ws d a) (hw:WF ws) {K:Int} (j:Nat) (hj:(j:Int) ≤ K) (h9:j ≤ 9):Fst j (itk K (a.op,tk d a))∧Lv ws (itk K (a.op,tk d a)) a.cv j:=qEV hw h.o0 h.o1 h.gd j hj h9
theorem qgy (hw:WF ws) {a b:Exl} (ha:Ag ws d a) (hb:Ag ws d b) {op K L:Int} {t:PT} (k l:Nat) (hk:(k:Int) ≤ K) (hl:(l:Int) ≤ L) (hkl:k < l) (h9:l ≤ 8) (hloop:k = 6∨k = 5∨k = 2∨k = 1) (hst:qh4 t k = true)
  (hop:∀m r,See ws m (t :: r)→(k = 6→qcL ws m = some op)∧(k = 5→qdQ ws m = some op)∧(k = 2→qfN ws m = some op)∧(k = 1→qnh ws m = some op))
  (hnext:l = k + 1) (hd:(Exp.mk op 0 [] [] [a.cv,b.cv]).depth ≤ 20):Fst k (itk K (a.op,tk d a) ++ (t :: itk L (b.op,tk d b)))∧Lv ws (itk K (a.op,tk d a) ++ (t :: itk L (b.op,tk d b))) (.mk op 0 [] [] [a.cv,b.cv]) k:=by
 obtain ⟨fa,va⟩:=ha.at hw (K:=K) k hk (by omega)
 obtain ⟨_,vb⟩:=hb.at hw (K:=L) l hl (by omega)
 refine ⟨qhI fa,?_⟩
 generalize itk K (a.op,tk d a) = A at *
 generalize itk L (b.op,tk d b) = B at *
 intro n hs hl' hs' o hc
 have s1:=hs.app.1
 have s2:=hs.app.2
 have e:n + (A ++ t :: B).length = n + A.length + 1 + B.length:=by simp;omega
 rw [e] at hl' hs' hc
 have hB:qa8 (fnL l) ws (n + A.length + 1) (.ok b.cv (n + A.length + 1 + B.length)):=vb.end s2.tail hl' hs' hkl (.inr (by omega))
 obtain ⟨q6,q5,q2,q1⟩:=hop _ _ s2
 refine va n s1 (by omega) (s2.stp hst) o ?_
 subst hnext
 rcases hloop with rfl | rfl | rfl | rfl
 ·exact qfR.go (q6 rfl) hB hd hc
 ·exact qfR.go (q5 rfl) hB hd hc
 ·exact qfR.go (q2 rfl) hB hd hc
 ·exact qfR.go (q1 rfl) hB hd hc
theorem qka (hw:WF ws) {a b:Exl} (ha:Ag ws d a) (hb:Ag ws d b) {op:Int} {t:PT} (hst:qh4 t 5 = true) (hsm:∀m r,See ws m (t :: r)→qdQ ws m = none) (hop:∀m r,See ws m (t :: r)→qds ws m = some op) (hd:(Exp.mk op 0 [] [] [a.cv,b.cv]).depth ≤ 20) :
  Fst 4 (itk 5 (a.op,tk d a) ++ (t :: itk 5 (b.op,tk d b)))∧Lv ws (itk 5 (a.op,tk d a) ++ (t :: itk 5 (b.op,tk d b))) (.mk op 0 [] [] [a.cv,b.cv]) 4:=by
 obtain ⟨fa,va⟩:=ha.at hw (K:=5) 5 (by omega) (by omega)
 obtain ⟨_,vb⟩:=hb.at hw (K:=5) 5 (by omega) (by omega)
 refine ⟨qhI (fa.down (by omega)),?_⟩
 generalize itk 5 (a.op,tk d a) = A at *
 generalize itk 5 (b.op,tk d b) = B at *
 intro n hs hl' hs' o hc
 cases hc
 have s1:=hs.app.1
 have s2:=hs.app.2
 have e:n + (A ++ t :: B).length = n + A.length + 1 + B.length:=by simp;omega
 rw [e] at hl' hs' ⊢
 have hB:qa8 (fnL 5) ws (n + A.length + 1) (.ok b.cv (n + A.length + 1 + B.length)):=vb.end s2.tail hl' hs' (by omega) (.inr (by omega))
 have hn:n < ws.length:=by omega
 exact quj hw hn (va n s1 (by omega) (s2.stp hst) _ (qfR.stop (hsm _ _ s2))) (hop _ _ s2) hB hd
theorem qy4 (hw:WF ws) {pos:Int}:∀(rest:List Exl),rest ≠ []→(∀a ∈ rest,Ag ws d a)→∀(args:List Exp) (m:Nat),args.length + rest.length ≤ 4→See ws m (qcE (rest.map fun a=>itk 0 (a.op,tk d a)) ++ [mk3 [41]])→m + (qcE (rest.map fun a=>itk 0 (a.op,tk d a))).length + 1 < ws.length→(Exp.mk 6 0 [] [] (args ++ rest.map Exl.cv)).depth ≤ 20→
  qfL ws (qa8 43 ws) pos args m (.ok (.mk 6 0 [] [] (args ++ rest.map Exl.cv)) (m + (qcE (rest.map fun a=>itk 0 (a.op,tk d a))).length + 1))
 | [],h,_,_,_,_,_,_,_=>absurd rfl h
 | [y],_,h,args,m,hl,hs,hlt,hd=>by
  obtain ⟨_,vy⟩:=(h y (by simp)).at hw (K:=0) 0 (by omega) (by omega)
  simp only [List.map_cons,List.map_nil,qcE,List.flatten_nil,List.append_nil] at hs hlt hd ⊢
  generalize itk 0 (y.op,tk d y) = Y at *
  have s2:=hs.app.2
  exact .shut (by simp at hl;omega) (vy m hs.app.1 (by omega) (s2.stp rfl) _ rfl) (by rw [s2.is];rfl) (by rw [s2.is];rfl) hd
 | y :: z :: r,_,h,args,m,hl,hs,hlt,hd=>by
  obtain ⟨_,vy⟩:=(h y (by simp)).at hw (K:=0) 0 (by omega) (by omega)
  have e:qcE ((y :: z :: r).map fun a=>itk 0 (a.op,tk d a)) = itk 0 (y.op,tk d y) ++ (mk3 [44] :: qcE ((z :: r).map fun a=>itk 0 (a.op,tk d a))):=by simp [qcE]
  rw [e] at hs hlt ⊢
  have hrec:=qy4 (pos:=pos) hw (z :: r) (by simp) (fun a ha=>h a (by simp at ha ⊢;exact .inr ha)) (args ++ [y.cv])
  rw [List.map_cons,List.map_cons] at hd
  generalize qcE ((z :: r).map fun a=>itk 0 (a.op,tk d a)) = Z at *
  generalize itk 0 (y.op,tk d y) = Y at *
  rw [List.append_assoc,List.cons_append] at hs
  have s2:=hs.app.2
  have el:m + (Y ++ mk3 [44] :: Z).length + 1 = m + Y.length + 1 + Z.length + 1:=by simp;omega
  rw [el] at hlt ⊢
  have hrec:=hrec (m + Y.length + 1) (by simp at hl ⊢;omega) s2.tail hlt (by simpa using hd)
  refine .next (by simp at hl;omega) (vy m hs.app.1 (by omega) (s2.stp rfl) _ rfl) (by rw [s2.is];rfl) ?_
  simpa using hrec
end
end Go.Proofs.YtkmlapholimbcaaGreatDoor.AE
namespace Go.Proofs.YtkmlapholimbcaaGreatDoor.AE
open Go.AE
section
variable {ws:List Tok} {d:Nat}
theorem qa8.var {n:Nat} {s:Str} (hw:WF ws) (hn:n < ws.length) (h1:qa2 ws n = true) (h2:isW ws (n + 1) [46] = true→qa2 ws (n + 1 + 1) = false) (hs:(word ws n).s = s):qa8 180 ws n (.ok (.mk 4 0 s [] []) (n + 1)):=by
 subst hs
 exact ⟨by omega,qaS hw hn h1,by rw [Exp.depth,qa4];omega,fun h i hi=>qgZ hw hn hi h1 h2⟩
theorem qa8.of {n:Nat} {s t:Str} (hw:WF ws) (hn:n < ws.length) (h1:qa2 ws n = true) (h2:isW ws (n + 1) [46] = true) (h3:qa2 ws (n + 1 + 1) = true) (hs:(word ws n).s = s) (ht:(word ws (n + 1 + 1)).s = t):qa8 180 ws n (.ok (.mk 5 0 s t []) (n + 1 + 1 + 1)):=by
 subst hs;subst ht
 exact ⟨by omega,qaS hw (qW hw (qaS hw hn h1) h2) h3,by rw [Exp.depth,qa4];omega,fun h i hi=>qkA hw hn hi h1 h2 h3⟩
theorem qkT {r:Nat} {nm:Str} {b:List PT} (h:qA nm = true):Fst r (nm0 nm :: b):=by
 have e:=fun w (hw:qA w = false)=>qxx (s:=nm) (w:=w) h hw
 refine qbF (.inl ?_) (.inl ?_) (.inl ?_) ?_ <;> simp only [tW,nm0] <;> rw [e _ (by kernel_rfl)] <;> rfl
theorem qEG (hw:WF ws) (n:Int):Gd ws [in1 n] (.mk 0 n [] [] []) 9:=by
 refine qbV hw (qbF (.inl rfl) (.inl rfl) (.inl rfl) rfl) (by omega) ?_
 intro n hs hl hst o hc
 cases hc
 obtain ⟨hn,k1,_,k3⟩:=hs.head
 have:=qxU hw hn k1
 rw [k3] at this
 exact this
theorem qEH (hw:WF ws):Gd ws [nm0 [116,114,117,101]] (.mk 1 0 [] [] []) 9:=by
 refine qbV hw (qbF (.inl rfl) (.inl rfl) (.inl rfl) rfl) (by omega) ?_
 intro n hs hl hst o hc
 cases hc
 obtain ⟨hn,k1,_,k3⟩:=hs.head
 exact qcC hw hn (by rw [k1];simp [nm0]) (by rw [k1];simp [nm0]) (by rw [hs.named];kernel_rfl) (by rw [hs.is];rfl) (qlq hw hn (by rw [hs.is];rfl))
theorem qEI (hw:WF ws):Gd ws [nm0 [102,97,108,115,101]] (.mk 2 0 [] [] []) 9:=by
 refine qbV hw (qbF (.inl rfl) (.inl rfl) (.inl rfl) rfl) (by omega) ?_
 intro n hs hl hst o hc
 cases hc
 obtain ⟨hn,k1,_,k3⟩:=hs.head
 exact qcC hw hn (by rw [k1];simp [nm0]) (by rw [k1];simp [nm0]) (by rw [hs.named];kernel_rfl) (by rw [hs.is];rfl) (qjo hw hn (by rw [hs.is];rfl))
theorem qCa (hw:WF ws):Gd ws [nm0 [101,108,97,112,115,101,100]] (.mk 11 0 [] [] []) 9:=by
 refine qbV hw (qbF (.inl rfl) (.inl rfl) (.inl rfl) rfl) (by omega) ?_
 intro n hs hl hst o hc
 cases hc
 obtain ⟨hn,k1,_,k3⟩:=hs.head
 exact qcC hw hn (by rw [k1];simp [nm0]) (by rw [k1];simp [nm0]) (by rw [hs.named];kernel_rfl) (by rw [hs.is];rfl) (qhA hw hn (by rw [hs.is];rfl))
theorem qEJ (hw:WF ws) (nm:Str):Gd ws [sy2 nm] (.mk 3 0 nm [] []) 9:=by
 refine qbV hw (qbF (.inl rfl) (.inl rfl) (.inl rfl) rfl) (by omega) ?_
 intro n hs hl hst o hc
 cases hc
 obtain ⟨hn,k1,k2,k3⟩:=hs.head
 have:=qxV hw hn k1
 rw [k2] at this
 exact this
theorem qEK (hw:WF ws) {nm:Str} (h:qA nm = true):Gd ws [nm0 nm] (.mk 4 0 nm [] []) 9:=by
 refine qbV hw (qkT h) (by omega) ?_
 intro n hs hl hst o hc
 cases hc
 obtain ⟨hn,k1,k2,k3⟩:=hs.head
 have hN:qa2 ws n = true:=by rw [hs.named];exact h
 exact qqy hw hn hN (qa8.var hw hn hN hst.of k2)
theorem qEL (hw:WF ws) {nm sb:Str} (h:qA nm = true) (h2:qA sb = true):Gd ws [nm0 nm,mk3 [46],nm0 sb] (.mk 5 0 nm sb []) 9:=by
 refine qbV hw (qkT h) (by omega) ?_
 intro n hs hl hst o hc
 cases hc
 obtain ⟨hn,k1,k2,k3⟩:=hs.head
 have hN:qa2 ws n = true:=by rw [hs.named];exact h
 have s2:=hs.tail
 have s3:=s2.tail
 exact qqy hw hn hN (qa8.of hw hn hN (by rw [s2.is];rfl) (by rw [s3.named];exact h2) k2 s3.head.2.2.1)
theorem qEN (hw:WF ws) {nm:Str} (h:qA nm = true):Gd ws [nm0 [99,111,117,110,116],mk3 [40],nm0 nm,mk3 [41]] (.mk 7 0 nm [] []) 9:=by
 refine qbV hw (qbF (.inl rfl) (.inl rfl) (.inl rfl) rfl) (by omega) ?_
 intro n hs hl hst o hc
 cases hc
 obtain ⟨hn,k1,k2,k3⟩:=hs.head
 have s2:=hs.tail
 have s3:=s2.tail
 have s4:=s3.tail
 have:=qjn hw hn (by rw [hs.is];rfl) (by rw [s2.is];rfl) (by rw [s3.named];exact h) (by rw [s4.is];rfl)
 rw [s3.head.2.2.1] at this
 exact qcC hw hn (by rw [k1];simp [nm0]) (by rw [k1];simp [nm0]) (by rw [hs.named];kernel_rfl) (by rw [hs.is];rfl) this
theorem qEO (hw:WF ws) {nm:Str} (h:qA nm = true):Gd ws [nm0 [104,97,115],mk3 [40],nm0 nm,mk3 [41]] (.mk 8 0 nm [] []) 9:=by
 refine qbV hw (qbF (.inl rfl) (.inl rfl) (.inl rfl) rfl) (by omega) ?_
 intro n hs hl hst o hc
 cases hc
 obtain ⟨hn,k1,k2,k3⟩:=hs.head
 have s2:=hs.tail
 have s3:=s2.tail
 have s4:=s3.tail
 have:=qnr hw hn (by rw [hs.is];rfl) (by rw [s2.is];rfl) (by rw [s3.named];exact h) (by rw [s4.is];rfl)
 rw [s3.head.2.2.1] at this
 exact qcC hw hn (by rw [k1];simp [nm0]) (by rw [k1];simp [nm0]) (by rw [hs.named];kernel_rfl) (by rw [hs.is];rfl) this
theorem qEP (hw:WF ws) {nm:Str} (h:qA nm = true):Gd ws [nm0 [115,117,109],mk3 [40],nm0 nm,mk3 [41]] (.mk 9 0 nm [] []) 9:=by
 refine qbV hw (qbF (.inl rfl) (.inl rfl) (.inl rfl) rfl) (by omega) ?_
 intro n hs hl hst o hc
 cases hc
 obtain ⟨hn,k1,k2,k3⟩:=hs.head
 have s2:=hs.tail
 have s3:=s2.tail
 have s4:=s3.tail
 have:=qns hw hn (by rw [hs.is];rfl) (by rw [s2.is];rfl) (by rw [s3.named];exact h) (by rw [s4.is];rfl)
 rw [s3.head.2.2.1] at this
 exact qcC hw hn (by rw [k1];simp [nm0]) (by rw [k1];simp [nm0]) (by rw [hs.named];kernel_rfl) (by rw [hs.is];rfl) this
theorem qB9 (hw:WF ws) {nm:Str} (h:qA nm = true) {a:Exl} (ha:Ag ws d a) (hd:(Exp.mk 10 0 nm [] [a.cv]).depth ≤ 20):Gd ws ([nm0 [108,101,97,115,116],mk3 [40],nm0 nm,mk3 [44]] ++ (itk 0 (a.op,tk d a) ++ [mk3 [41]])) (.mk 10 0 nm [] [a.cv]) 9:=by
 refine qbV hw (qbF (.inl rfl) (.inl rfl) (.inl rfl) rfl) (by omega) ?_
 obtain ⟨_,va⟩:=ha.at hw (K:=0) 0 (by omega) (by omega)
 generalize itk 0 (a.op,tk d a) = A at *
 intro n hs hl hst o hc
 cases hc
 obtain ⟨hn,k1,k2,k3⟩:=hs.head
 have s2:=hs.tail
 have s3:=s2.tail
 have s4:=s3.tail
 have s5:See ws (n + 1 + 1 + 1 + 1) (A ++ [mk3 [41]]):=s4.tail
 have s6:=s5.app.2
 have el:n + ([nm0 [108,101,97,115,116],mk3 [40],nm0 nm,mk3 [44]] ++ (A ++ [mk3 [41]])).length = n + 1 + 1 + 1 + 1 + A.length + 1:=by simp;omega
 rw [el] at hl ⊢
 have hx:=s3.head.2.2.1
 have:=qzC hw hn (by rw [hs.is];rfl) (by rw [s2.is];rfl) (by rw [s3.named];exact h) (by rw [s4.is];rfl) (va _ s5.app.1 (by omega) (s6.stp rfl) _ rfl) (by rw [s6.is];rfl) (by rw [hx];exact hd)
 rw [hx] at this
 exact qcC hw hn (by rw [k1];simp [nm0]) (by rw [k1];simp [nm0]) (by rw [hs.named];kernel_rfl) (by rw [hs.is];rfl) this
theorem qEM (hw:WF ws) {aS:List Exl} (hl0:1 ≤ aS.length) (hl4:aS.length ≤ 4) (ha:∀a ∈ aS,Ag ws d a) (hd:(Exp.mk 6 0 [] [] (aS.map Exl.cv)).depth ≤ 20):Gd ws (qAl (aS.map fun a=>(a.op,tk d a))) (.mk 6 0 [] [] (aS.map Exl.cv)) 9:=by
 rw [qAl,List.map_map,List.length_map]
 refine qbV hw (qbF (.inl rfl) (.inl rfl) (.inl rfl) rfl) (by omega) ?_
 rw [show (itk 0 ∘ fun a:Exl=>(a.op,tk d a)) = fun a:Exl=>itk 0 (a.op,tk d a) from rfl]
 match aS,hl0,hl4,ha,hd with
 | [a],_,_,ha,hd=>
  obtain ⟨_,va⟩:=(ha a (by simp)).at hw (K:=0) 0 (by omega) (by omega)
  rw [show ([a].length == 1) = true from rfl,cond_true]
  simp only [List.map_cons,List.map_nil,qcE,List.flatten_nil,List.append_nil] at hd ⊢
  generalize itk 0 (a.op,tk d a) = A at *
  intro n hs hl hst o hc
  cases hc
  obtain ⟨hn,k1,k2,k3⟩:=hs.head
  have s2:=hs.tail
  have s3:=s2.app.2
  have s4:=s3.tail
  have el:n + (mk3 [40] :: (A ++ [mk3 [44],mk3 [41]])).length = n + 1 + A.length + 1 + 1:=by simp;omega
  rw [el] at hl ⊢
  exact qdM hw hn (by rw [k1];simp [mk3]) (by rw [k1];simp [mk3]) (by rw [hs.named];rfl) (by rw [hs.is];rfl) (br4 hw hn (by rw [hs.is];rfl) (va _ s2.app.1 (by omega) (s3.stp rfl) _ rfl) (by rw [s3.is];rfl) (by rw [s3.is];rfl) (by rw [s4.is];rfl) hd)
 | a :: b :: r,_,hl4,ha,hd=>
  obtain ⟨_,va⟩:=(ha a (by simp)).at hw (K:=0) 0 (by omega) (by omega)
  obtain ⟨fb,_⟩:=(ha b (by simp)).at hw (K:=0) 0 (by omega) (by omega)
  have ej:qcE ((a :: b :: r).map fun a=>itk 0 (a.op,tk d a)) = itk 0 (a.op,tk d a) ++ (mk3 [44] :: qcE ((b :: r).map fun a=>itk 0 (a.op,tk d a))):=by simp [qcE]
  have hbt:=fun pos=>qy4 (pos:=pos) hw (b :: r) (by simp) (fun x hx=>ha x (by simp at hx ⊢;exact .inr hx)) [a.cv]
  have hfb:Fst 0 (qcE ((b :: r).map fun a=>itk 0 (a.op,tk d a)) ++ [mk3 [41]]):=by
   rw [List.map_cons,qcE,List.append_assoc]
   exact qhI fb
  rw [ej,show ((a :: b :: r).length == 1) = false by simp,cond_false]
  generalize qcE ((b :: r).map fun a=>itk 0 (a.op,tk d a)) = Z at *
  generalize itk 0 (a.op,tk d a) = A at *
  intro n hs hl hst o hc
  cases hc
  obtain ⟨hn,k1,k2,k3⟩:=hs.head
  have s2:=hs.tail
  rw [List.append_assoc,List.cons_append] at s2
  have s3:=s2.app.2
  have s4:=s3.tail
  have el:n + (mk3 [40] :: (A ++ mk3 [44] :: Z ++ [mk3 [41]])).length = n + 1 + A.length + 1 + Z.length + 1:=by simp;omega
  rw [el] at hl ⊢
  have h4:isW ws (n + 1 + A.length + 1) [41] = false:=by
   revert s4 hfb
   cases hz:Z ++ [mk3 [41]] with
   | nil=>intro h;exact absurd rfl h.ne
   | cons t z=>intro h s4;rw [s4.is];exact h.esh t rfl
  exact qdM hw hn (by rw [k1];simp [mk3]) (by rw [k1];simp [mk3]) (by rw [hs.named];rfl) (by rw [hs.is];rfl) (br6 hw hn (by rw [hs.is];rfl) (va _ s2.app.1 (by omega) (s3.stp rfl) _ rfl) (by rw [s3.is];rfl) (by rw [s3.is];rfl) h4 (hbt _ (n + 1 + A.length + 1) (by simp at hl4 ⊢;omega) s4 hl (by simpa using hd)))
theorem qCb (hw:WF ws) {a:Exl} (ha:Ag ws d a) {n0:Int} (hn4:n0 < 4) {K:Int} (hK:8 ≤ K) (hd:(Exp.mk 12 n0 [] [] [a.cv]).depth ≤ 20):Gd ws (itk K (a.op,tk d a) ++ [mk3 [46],in1 n0]) (.mk 12 n0 [] [] [a.cv]) 8:=by
 obtain ⟨fa,va⟩:=ha.at hw (K:=K) 8 (by omega) (by omega)
 refine qbV hw (qhI fa) (by omega) ?_
 generalize itk K (a.op,tk d a) = A at *
 intro n hs hl hst o hc
 have s2:=hs.app.2
 have s3:=s2.tail
 obtain ⟨_,k1,_,k3⟩:=s3.head
 have el:n + (A ++ [mk3 [46],in1 n0]).length = n + A.length + 1 + 1:=by simp;omega
 rw [el] at hl hst hc
 refine va n hs.app.1 (by omega) ⟨fun _=>by rw [s3.named];rfl,fun h=>absurd h (by omega),fun h=>absurd h (by omega),fun h=>absurd h (by omega),fun h=>absurd h (by omega),fun h=>absurd h (by omega),fun h=>absurd h (by omega)⟩ o ?_
 have k3:(word ws (n + A.length + 1)).n = n0:=k3
 exact qfM.go (by rw [s2.is];rfl) k1 (by rw [k3];exact hn4) (by rw [k3];exact hd) (by rw [k3];exact hc)
theorem qCc (hw:WF ws) {a:Exl} (ha:Ag ws d a) (hd:(Exp.mk 13 0 [] [] [a.cv]).depth ≤ 20):Gd ws (mk3 [45] :: itk 7 (a.op,tk d a)) (.mk 13 0 [] [] [a.cv]) 7:=by
 obtain ⟨_,va⟩:=ha.at hw (K:=7) 7 (by omega) (by omega)
 refine qbV hw (qbF (.inl rfl) (.inl rfl) (.inr (by omega)) rfl) (by omega) ?_
 generalize itk 7 (a.op,tk d a) = A at *
 intro n hs hl hst o hc
 cases hc
 have el:n + (mk3 [45] :: A).length = n + 1 + A.length:=by simp;omega
 rw [el] at hl hst ⊢
 exact qtU hw hs.head.1 (by rw [hs.is];rfl) (va _ hs.tail hl hst _ rfl) hd
theorem qCd (hw:WF ws) {a:Exl} (ha:Ag ws d a) (hd:(Exp.mk 14 0 [] [] [a.cv]).depth ≤ 20):Gd ws (nm0 [110,111,116] :: itk 3 (a.op,tk d a)) (.mk 14 0 [] [] [a.cv]) 3:=by
 obtain ⟨_,va⟩:=ha.at hw (K:=3) 3 (by omega) (by omega)
 refine qbV hw (qbF (.inl rfl) (.inr (by omega)) (.inl rfl) rfl) (by omega) ?_
 generalize itk 3 (a.op,tk d a) = A at *
 intro n hs hl hst o hc
 cases hc
 have el:n + (nm0 [110,111,116] :: A).length = n + 1 + A.length:=by simp;omega
 rw [el] at hl hst ⊢
 exact qtX hw hs.head.1 (by rw [hs.is];rfl) (va _ hs.tail hl hst _ rfl) hd
theorem qCe (hw:WF ws) {a b c:Exl} (ha:Ag ws d a) (hb:Ag ws d b) (hc:Ag ws d c) (hd:(Exp.mk 25 0 [] [] [a.cv,b.cv,c.cv]).depth ≤ 20):Gd ws (nm0 [105,102] :: (itk 0 (a.op,tk d a) ++ (nm0 [116,104,101,110] :: (itk 0 (b.op,tk d b) ++ (nm0 [101,108,115,101] :: itk 0 (c.op,tk d c)))))) (.mk 25 0 [] [] [a.cv,b.cv,c.cv]) 0:=by
 obtain ⟨_,va⟩:=ha.at hw (K:=0) 0 (by omega) (by omega)
 obtain ⟨_,vb⟩:=hb.at hw (K:=0) 0 (by omega) (by omega)
 obtain ⟨_,vc⟩:=hc.at hw (K:=0) 0 (by omega) (by omega)
 refine qbV hw (qbF (.inr (by omega)) (.inl rfl) (.inl rfl) rfl) (by omega) ?_
 generalize itk 0 (a.op,tk d a) = A at *
 generalize itk 0 (b.op,tk d b) = B at *
 generalize itk 0 (c.op,tk d c) = C at *
 intro n hs hl hst o hc
 cases hc
 have s1:=hs.tail
 have s2:=s1.app.2
 have s3:=s2.tail
 have s4:=s3.app.2
 have s5:=s4.tail
 have el:n + (nm0 [105,102] :: (A ++ (nm0 [116,104,101,110] :: (B ++ (nm0 [101,108,115,101] :: C))))).length = n + 1 + A.length + 1 + B.length + 1 + C.length:=by simp;omega
 rw [el] at hl hst ⊢
 exact if7 hw hs.head.1 (by rw [hs.is];rfl) (va _ s1.app.1 (by omega) (s2.stp rfl) _ rfl) (by rw [s2.is];rfl) (vb _ s3.app.1 (by omega) (s4.stp rfl) _ rfl) (by rw [s4.is];rfl) (vc _ s5 hl hst _ rfl) hd
theorem qxR (hw:WF ws) {op n:Int} {nm sb:Str} {aS:List Exl} (hb:qgA op n nm sb aS.length = true) (hd:(Exp.mk op n nm sb (aS.map Exl.cv)).depth ≤ 20) (h:∀a ∈ aS,Ag ws d a):Gd ws (ntk op n nm sb (aS.map fun a=>(a.op,tk d a))) (.mk op n nm sb (aS.map Exl.cv)) (rkN op):=by
 have ho:0 ≤ op∧op ≤ 25:=Decidable.byContradiction fun hc=>by rw [qcl hc] at hb;cases hb
 have an:∀{a b:Bool},(a && b) = true→a = true∧b = true:=fun h=>(Bool.and_eq_true _ _).mp h
 have:op = 0∨op = 1∨op = 2∨op = 3∨op = 4∨op = 5∨op = 6∨op = 7∨op = 8∨op = 9∨op = 10∨op = 11∨op = 12∨op = 13∨op = 14∨op = 15∨op = 16∨op = 17∨op = 18∨op = 19∨op = 20∨op = 21∨op = 22∨op = 23∨op = 24∨op = 25:=by omega
 rcases this with rfl | rfl | rfl | rfl | rfl | rfl | rfl | rfl | rfl | rfl | rfl | rfl | rfl | rfl | rfl | rfl | rfl | rfl | rfl | rfl | rfl | rfl | rfl | rfl | rfl | rfl
 ·obtain ⟨h1,h2⟩:=an (show (fB true false false 0 0 n nm sb aS.length && ile 0 n) = true from hb)
  have hl:aS = []:=List.length_eq_zero_iff.1 (by have:=qp h1;omega)
  subst hl
  have z1:=qdc h1;have z2:=qcc h1;subst z1;subst z2
  exact qEG hw n
 ·have h1:fB false false false 0 0 n nm sb aS.length = true:=hb
  have hl:aS = []:=List.length_eq_zero_iff.1 (by have:=qp h1;omega)
  subst hl
  have z0:=qfW h1;have z1:=qdc h1;have z2:=qcc h1;subst z0;subst z1;subst z2
  exact qEH hw
 ·have h1:fB false false false 0 0 n nm sb aS.length = true:=hb
  have hl:aS = []:=List.length_eq_zero_iff.1 (by have:=qp h1;omega)
  subst hl
  have z0:=qfW h1;have z1:=qdc h1;have z2:=qcc h1;subst z0;subst z1;subst z2
  exact qEI hw
 ·obtain ⟨h1,h2⟩:=an (show (fB false true false 0 0 n nm sb aS.length && qbD nm) = true from hb)
  have hl:aS = []:=List.length_eq_zero_iff.1 (by have:=qp h1;omega)
  subst hl
  have z0:=qfW h1;have z2:=qcc h1;subst z0;subst z2
  exact qEJ hw nm
 ·obtain ⟨h1,h2⟩:=an (show (fB false true false 0 0 n nm sb aS.length && qA nm) = true from hb)
  have hl:aS = []:=List.length_eq_zero_iff.1 (by have:=qp h1;omega)
  subst hl
  have z0:=qfW h1;have z2:=qcc h1;subst z0;subst z2
  exact qEK hw h2
 ·obtain ⟨h1,h2⟩:=an (show (fB false true true 0 0 n nm sb aS.length && (qA nm && qA sb)) = true from hb)
  have hl:aS = []:=List.length_eq_zero_iff.1 (by have:=qp h1;omega)
  subst hl
  have z0:=qfW h1;subst z0
  exact qEL hw (an h2).1 (an h2).2
 ·have h1:fB false false false 1 4 n nm sb aS.length = true:=hb
  have z0:=qfW h1;have z1:=qdc h1;have z2:=qcc h1;subst z0;subst z1;subst z2
  have:=qp h1
  exact qEM hw (by omega) (by omega) h hd
 ·obtain ⟨h1,h2⟩:=an (show (fB false true false 0 0 n nm sb aS.length && qA nm) = true from hb)
  have hl:aS = []:=List.length_eq_zero_iff.1 (by have:=qp h1;omega)
  subst hl
  have z0:=qfW h1;have z2:=qcc h1;subst z0;subst z2
  exact qEN hw h2
 ·obtain ⟨h1,h2⟩:=an (show (fB false true false 0 0 n nm sb aS.length && qA nm) = true from hb)
  have hl:aS = []:=List.length_eq_zero_iff.1 (by have:=qp h1;omega)
  subst hl
  have z0:=qfW h1;have z2:=qcc h1;subst z0;subst z2
  exact qEO hw h2
 ·obtain ⟨h1,h2⟩:=an (show (fB false true false 0 0 n nm sb aS.length && qA nm) = true from hb)
  have hl:aS = []:=List.length_eq_zero_iff.1 (by have:=qp h1;omega)
  subst hl
  have z0:=qfW h1;have z2:=qcc h1;subst z0;subst z2
  exact qEP hw h2
 ·obtain ⟨h1,h2⟩:=an (show (fB false true false 1 1 n nm sb aS.length && qA nm) = true from hb)
  obtain ⟨a,rfl⟩:=qbJ (l:=aS) (by have:=qp h1;omega)
  have z0:=qfW h1;have z2:=qcc h1;subst z0;subst z2
  exact qB9 hw h2 (h a (by simp)) hd
 ·have h1:fB false false false 0 0 n nm sb aS.length = true:=hb
  have hl:aS = []:=List.length_eq_zero_iff.1 (by have:=qp h1;omega)
  subst hl
  have z0:=qfW h1;have z1:=qdc h1;have z2:=qcc h1;subst z0;subst z1;subst z2
  exact qCa hw
 ·obtain ⟨h1,h2⟩:=an (show (fB true false false 1 1 n nm sb aS.length && (ile 0 n && ilt n 4)) = true from hb)
  obtain ⟨a,rfl⟩:=qbJ (l:=aS) (by have:=qp h1;omega)
  have z1:=qdc h1;have z2:=qcc h1;subst z1;subst z2
  simp only [Bool.and_eq_true,qay,qM,decide_eq_true_eq] at h2
  exact qCb hw (h a (by simp)) (by omega) (K:=bif a.op == 0 then 10 else 8) (by cases a.op == 0 <;> simp) hd
 ·have h1:fB false false false 1 1 n nm sb aS.length = true:=hb
  obtain ⟨a,rfl⟩:=qbJ (l:=aS) (by have:=qp h1;omega)
  have z0:=qfW h1;have z1:=qdc h1;have z2:=qcc h1;subst z0;subst z1;subst z2
  exact qCc hw (h a (by simp)) hd
 ·have h1:fB false false false 1 1 n nm sb aS.length = true:=hb
  obtain ⟨a,rfl⟩:=qbJ (l:=aS) (by have:=qp h1;omega)
  have z0:=qfW h1;have z1:=qdc h1;have z2:=qcc h1;subst z0;subst z1;subst z2
  exact qCd hw (h a (by simp)) hd
 ·have h1:fB false false false 2 2 n nm sb aS.length = true:=hb
  obtain ⟨a,b,rfl⟩:=qaw (l:=aS) (by have:=qp h1;omega)
  have z0:=qfW h1;have z1:=qdc h1;have z2:=qcc h1;subst z0;subst z1;subst z2
  have e:=fun m r (s:See ws m (mk3 [43] :: r)) w=>s.is w
  have:=qgy (op:=15) (t:=mk3 [43]) (K:=5) (L:=6) hw (h a (by simp)) (h b (by simp)) 5 6 (by omega) (by omega) (by omega) (by omega) (by omega) rfl (fun m r s=>⟨fun h=>absurd h (by omega),fun _=>by simp only [qdQ,e m r s];rfl,fun h=>absurd h (by omega),fun h=>absurd h (by omega)⟩) rfl hd
  exact qbV hw this.1 (by decide) this.2
 ·have h1:fB false false false 2 2 n nm sb aS.length = true:=hb
  obtain ⟨a,b,rfl⟩:=qaw (l:=aS) (by have:=qp h1;omega)
  have z0:=qfW h1;have z1:=qdc h1;have z2:=qcc h1;subst z0;subst z1;subst z2
  have e:=fun m r (s:See ws m (mk3 [45] :: r)) w=>s.is w
  have:=qgy (op:=16) (t:=mk3 [45]) (K:=5) (L:=6) hw (h a (by simp)) (h b (by simp)) 5 6 (by omega) (by omega) (by omega) (by omega) (by omega) rfl (fun m r s=>⟨fun h=>absurd h (by omega),fun _=>by simp only [qdQ,e m r s];rfl,fun h=>absurd h (by omega),fun h=>absurd h (by omega)⟩) rfl hd
  exact qbV hw this.1 (by decide) this.2
 ·have h1:fB false false false 2 2 n nm sb aS.length = true:=hb
  obtain ⟨a,b,rfl⟩:=qaw (l:=aS) (by have:=qp h1;omega)
  have z0:=qfW h1;have z1:=qdc h1;have z2:=qcc h1;subst z0;subst z1;subst z2
  have e:=fun m r (s:See ws m (mk3 [42] :: r)) w=>s.is w
  have:=qgy (op:=17) (t:=mk3 [42]) (K:=6) (L:=7) hw (h a (by simp)) (h b (by simp)) 6 7 (by omega) (by omega) (by omega) (by omega) (by omega) rfl (fun m r s=>⟨fun _=>by simp only [qcL,e m r s];rfl,fun h=>absurd h (by omega),fun h=>absurd h (by omega),fun h=>absurd h (by omega)⟩) rfl hd
  exact qbV hw this.1 (by decide) this.2
 ·have h1:fB false false false 2 2 n nm sb aS.length = true:=hb
  obtain ⟨a,b,rfl⟩:=qaw (l:=aS) (by have:=qp h1;omega)
  have z0:=qfW h1;have z1:=qdc h1;have z2:=qcc h1;subst z0;subst z1;subst z2
  have e:=fun m r (s:See ws m (mk3 [47] :: r)) w=>s.is w
  have:=qgy (op:=18) (t:=mk3 [47]) (K:=6) (L:=7) hw (h a (by simp)) (h b (by simp)) 6 7 (by omega) (by omega) (by omega) (by omega) (by omega) rfl (fun m r s=>⟨fun _=>by simp only [qcL,e m r s];rfl,fun h=>absurd h (by omega),fun h=>absurd h (by omega),fun h=>absurd h (by omega)⟩) rfl hd
  exact qbV hw this.1 (by decide) this.2
 ·have h1:fB false false false 2 2 n nm sb aS.length = true:=hb
  obtain ⟨a,b,rfl⟩:=qaw (l:=aS) (by have:=qp h1;omega)
  have z0:=qfW h1;have z1:=qdc h1;have z2:=qcc h1;subst z0;subst z1;subst z2
  have e:=fun m r (s:See ws m (mk3 [37] :: r)) w=>s.is w
  have:=qgy (op:=19) (t:=mk3 [37]) (K:=6) (L:=7) hw (h a (by simp)) (h b (by simp)) 6 7 (by omega) (by omega) (by omega) (by omega) (by omega) rfl (fun m r s=>⟨fun _=>by simp only [qcL,e m r s];rfl,fun h=>absurd h (by omega),fun h=>absurd h (by omega),fun h=>absurd h (by omega)⟩) rfl hd
  exact qbV hw this.1 (by decide) this.2
 ·have h1:fB false false false 2 2 n nm sb aS.length = true:=hb
  obtain ⟨a,b,rfl⟩:=qaw (l:=aS) (by have:=qp h1;omega)
  have z0:=qfW h1;have z1:=qdc h1;have z2:=qcc h1;subst z0;subst z1;subst z2
  have e:=fun m r (s:See ws m (mk3 [61] :: r)) w=>s.is w
  have:=qka (op:=20) (t:=mk3 [61]) hw (h a (by simp)) (h b (by simp)) rfl (fun m r s=>by simp only [qdQ,e m r s];rfl) (fun m r s=>by simp only [qds,e m r s];rfl) hd
  exact qbV hw this.1 (by decide) this.2
 ·have h1:fB false false false 2 2 n nm sb aS.length = true:=hb
  obtain ⟨a,b,rfl⟩:=qaw (l:=aS) (by have:=qp h1;omega)
  have z0:=qfW h1;have z1:=qdc h1;have z2:=qcc h1;subst z0;subst z1;subst z2
  have e:=fun m r (s:See ws m (mk3 [60] :: r)) w=>s.is w
  have:=qka (op:=21) (t:=mk3 [60]) hw (h a (by simp)) (h b (by simp)) rfl (fun m r s=>by simp only [qdQ,e m r s];rfl) (fun m r s=>by simp only [qds,e m r s];rfl) hd
  exact qbV hw this.1 (by decide) this.2
 ·have h1:fB false false false 2 2 n nm sb aS.length = true:=hb
  obtain ⟨a,b,rfl⟩:=qaw (l:=aS) (by have:=qp h1;omega)
  have z0:=qfW h1;have z1:=qdc h1;have z2:=qcc h1;subst z0;subst z1;subst z2
  have e:=fun m r (s:See ws m (mk3 [60,61] :: r)) w=>s.is w
  have:=qka (op:=22) (t:=mk3 [60,61]) hw (h a (by simp)) (h b (by simp)) rfl (fun m r s=>by simp only [qdQ,e m r s];rfl) (fun m r s=>by simp only [qds,e m r s];rfl) hd
  exact qbV hw this.1 (by decide) this.2
 ·have h1:fB false false false 2 2 n nm sb aS.length = true:=hb
  obtain ⟨a,b,rfl⟩:=qaw (l:=aS) (by have:=qp h1;omega)
  have z0:=qfW h1;have z1:=qdc h1;have z2:=qcc h1;subst z0;subst z1;subst z2
  have e:=fun m r (s:See ws m (nm0 [97,110,100] :: r)) w=>s.is w
  have:=qgy (op:=23) (t:=nm0 [97,110,100]) (K:=2) (L:=3) hw (h a (by simp)) (h b (by simp)) 2 3 (by omega) (by omega) (by omega) (by omega) (by omega) rfl (fun m r s=>⟨fun h=>absurd h (by omega),fun h=>absurd h (by omega),fun _=>by simp only [qfN,e m r s];rfl,fun h=>absurd h (by omega)⟩) rfl hd
  exact qbV hw this.1 (by decide) this.2
 ·have h1:fB false false false 2 2 n nm sb aS.length = true:=hb
  obtain ⟨a,b,rfl⟩:=qaw (l:=aS) (by have:=qp h1;omega)
  have z0:=qfW h1;have z1:=qdc h1;have z2:=qcc h1;subst z0;subst z1;subst z2
  have e:=fun m r (s:See ws m (nm0 [111,114] :: r)) w=>s.is w
  have:=qgy (op:=24) (t:=nm0 [111,114]) (K:=1) (L:=2) hw (h a (by simp)) (h b (by simp)) 1 2 (by omega) (by omega) (by omega) (by omega) (by omega) rfl (fun m r s=>⟨fun h=>absurd h (by omega),fun h=>absurd h (by omega),fun h=>absurd h (by omega),fun _=>by simp only [qnh,e m r s];rfl⟩) rfl hd
  exact qbV hw this.1 (by decide) this.2
 ·have h1:fB false false false 3 3 n nm sb aS.length = true:=hb
  obtain ⟨a,b,c,rfl⟩:=qe4 (l:=aS) (by have:=qp h1;omega)
  have z0:=qfW h1;have z1:=qdc h1;have z2:=qcc h1;subst z0;subst z1;subst z2
  exact qCe hw (h a (by simp)) (h b (by simp)) (h c (by simp)) hd
theorem qnu (hw:WF ws):∀(d:Nat) (e:Exl),d ≤ 20→right d e = true→Gd ws (tk d e) e.cv (rkN e.op)
 | 0,_,_,h=>by rw [right] at h;cases h
 | d + 1,.mk op n nm sb aS,h20,h=>by
  have hdp:=quY (d + 1) _ h
  rw [right,Bool.and_eq_true,List.all_eq_true] at h
  rw [tk,qsj] at *
  refine qxR hw h.1 (by omega) fun a ha=>?_
  have hr:=h.2 a ha
  have ho:0 ≤ a.op∧a.op ≤ 25:=by
   cases d with
   | zero=>rw [right] at hr;cases hr
   | succ d=>
    obtain ⟨o',n',m',s',as'⟩:=a
    rw [right,Bool.and_eq_true] at hr
    show 0 ≤ o'∧o' ≤ 25
    exact Decidable.byContradiction fun hc=>by have h1:=hr.1;rw [qcl hc] at h1;cases h1
  exact ⟨ho.1,ho.2,qnu hw d a (by omega) hr⟩
theorem qjq (hw:WF ws) {e:Exl} (h:right 20 e = true) (hs:See ws 0 (tk 20 e ++ [(4,[],0)])) {hh:List qf} {i:Nat} (hi:hh[i]? = some (PB ws 0)):Wd (.fn 25 [] []) [.ptr i 0] hh = some (.ret (e.cv.enc φP),hh.set i (PB ws (tk 20 e).length),false):=by
 have hg:=(qnu hw 20 e (by omega) h).2 0 (by omega)
 have s2:=hs.app.2
 obtain ⟨hl,k1,_⟩:=s2.head
 have hx:=hg 0 hs.app.1 hl (s2.stp rfl) _ rfl
 rw [Nat.zero_add] at hx k1
 exact qrp hw hx k1 hi
end
end Go.Proofs.YtkmlapholimbcaaGreatDoor.AE
namespace Go.Proofs.YtkmlapholimbcaaGreatDoor.AE
open Go.AE
section
variable {h:List qf}
theorem qdp (c:UInt8) (h:List qf):Wd (.fn 128 [] []) [.int .u8 (c.toNat:Nat)] h = some (.ret (.bool (qaR c)),h,false):=by
 rw [qi rfl (show T.get 128 = some qAs by kernel_rfl)]
 simp only [qAs,sT.1,sC.1,qc,qb,Nat.testBit,simprocAttr,-Int.reduceNatCast',qaR]
theorem qgO (c:UInt8) (h:List qf):Wd (.fn 130 [] []) [.int .u8 (c.toNat:Nat)] h = some (.ret (.bool (q9 c)),h,false):=by
 rw [qi rfl (show T.get 130 = some qAt by kernel_rfl)]
 simp only [qAt,sT.1,sC.1,qc,qb,Nat.testBit,simprocAttr,-Int.reduceNatCast',q9]
def qah (p:UInt8→Bool) (s:Str) (i:Nat):Nat:=i + ((s.drop i).takeWhile p).length
theorem qf0 {p:UInt8→Bool} {s:Str} {i:Nat} (hi:i < s.length) (hp:p s[i] = true):qah p s i = qah p s (i + 1):=by
 rw [qah,qah,List.drop_eq_getElem_cons hi,List.takeWhile_cons_of_pos hp,List.length_cons]
 omega
theorem qhq {p:UInt8→Bool} {s:Str} {i:Nat} (hi:i < s.length) (hp:p s[i] = false):qah p s i = i:=by
 rw [qah,List.drop_eq_getElem_cons hi,List.takeWhile_cons_of_neg (by simp [hp])]
 rfl
theorem qi4 {p:UInt8→Bool} {s:Str} {i:Nat} (hi:s.length ≤ i):qah p s i = i:=by
 rw [qah,List.drop_eq_nil_of_le hi]
 rfl
theorem qcn (p:UInt8→Bool) (s:Str) {i:Nat} (hi:i ≤ s.length):qah p s i ≤ s.length:=by
 have h1:=(List.takeWhile_sublist (l:=s.drop i) p).length_le
 rw [List.length_drop] at h1
 rw [qah]
 omega
theorem qcO (p:UInt8→Bool) (s:Str) (i:Nat):i ≤ qah p s i:=by rw [qah];omega
def qaU (c:UInt8):Bool:=qaR c || q9 c
theorem qqu {b:Nat} (s:Str) (hs:s.length ≤ 100000):∀(k i:Nat) (tt:List qa),i + k = s.length→tt.length = 60→lkp tt 0 = .str s→lkp tt 11 = .int .i64 (i:Nat)→
  ∃tt',qo b Wd (.loop qfE) ⟨tt,h,false⟩ = some (.exit 0,⟨tt',h,false⟩)∧tt'.length = 60∧lkp tt' 0 = .str s∧lkp tt' 11 = .int .i64 (qah qaU s i:Nat)∧lkp tt' 1 = lkp tt 1∧lkp tt' 2 = lkp tt 2∧lkp tt' 3 = lkp tt 3∧lkp tt' 8 = lkp tt 8:=by
 intro k
 induction k with
 | zero=>
  intro i tt hk ht e0 e11
  have c1:ilt (i:Int) (s.length:Int) = false:=by rw [qM];simp;omega
  rw [qi4 (by omega),qm]
  simp only [qfE,sT.1,sC.1,qc,qb,Nat.testBit,simprocAttr,-Int.reduceNatCast',ht,e0,e11,c1]
  exact ⟨_,rfl,by simp only [qj,ht],by simp only [sT.1,sC.1,qc,qb,Nat.testBit,simprocAttr,-Int.reduceNatCast',e0],by simp only [sT.1,sC.1,qc,qb,Nat.testBit,simprocAttr,-Int.reduceNatCast',e11],by simp only [sT.1,sC.1,qc,qb,Nat.testBit,simprocAttr,-Int.reduceNatCast'],by simp only [sT.1,sC.1,qc,qb,Nat.testBit,simprocAttr,-Int.reduceNatCast'],by simp only [sT.1,sC.1,qc,qb,Nat.testBit,simprocAttr,-Int.reduceNatCast'],by simp only [sT.1,sC.1,qc,qb,Nat.testBit,simprocAttr,-Int.reduceNatCast']⟩
 | succ k ih=>
  intro i tt hk ht e0 e11
  have hi:i < s.length:=by omega
  have c1:ilt (i:Int) (s.length:Int) = true:=by rw [qM];simp;omega
  have hx:qdG (.str s) (.int .i64 (i:Nat)) = some (.int .u8 (s[i].toNat:Nat)):=qaM (List.getElem?_eq_getElem hi)
  have w:=qX (n:=i) (by omega)
  rw [qm]
  generalize he:qo b Wd qfE _ = r
  cases hb:qaR s[i] with
  | true=>
   rw [qf0 hi (by rw [qaU,hb];rfl)]
   simp only [qfE,sT.1,sC.1,qc,qb,Nat.testBit,simprocAttr,-Int.reduceNatCast',ht,e0,e11,c1,hx,w,qdp,qgO,hb] at he
   subst he
   refine (ih (i + 1) _ (by omega) ?_ ?_ ?_).imp fun tt' g=>⟨g.1,g.2.1,g.2.2.1,g.2.2.2.1,g.2.2.2.2.1.trans ?_,g.2.2.2.2.2.1.trans ?_,g.2.2.2.2.2.2.1.trans ?_,g.2.2.2.2.2.2.2.trans ?_⟩
   all_goals simp only [sT.1,sC.1,qc,qb,Nat.testBit,simprocAttr,-Int.reduceNatCast',ht,e0]
  | false=>
   cases hd:q9 s[i] with
   | true=>
    rw [qf0 hi (by rw [qaU,hb,hd];rfl)]
    simp only [qfE,sT.1,sC.1,qc,qb,Nat.testBit,simprocAttr,-Int.reduceNatCast',ht,e0,e11,c1,hx,w,qdp,qgO,hb,hd] at he
    subst he
    refine (ih (i + 1) _ (by omega) ?_ ?_ ?_).imp fun tt' g=>⟨g.1,g.2.1,g.2.2.1,g.2.2.2.1,g.2.2.2.2.1.trans ?_,g.2.2.2.2.2.1.trans ?_,g.2.2.2.2.2.2.1.trans ?_,g.2.2.2.2.2.2.2.trans ?_⟩
    all_goals simp only [sT.1,sC.1,qc,qb,Nat.testBit,simprocAttr,-Int.reduceNatCast',ht,e0]
   | false=>
    rw [qhq hi (by rw [qaU,hb,hd];rfl)]
    simp only [qfE,sT.1,sC.1,qc,qb,Nat.testBit,simprocAttr,-Int.reduceNatCast',ht,e0,e11,c1,hx,w,qdp,qgO,hb,hd] at he
    subst he
    exact ⟨_,rfl,by simp only [qj,ht],by simp only [sT.1,sC.1,qc,qb,Nat.testBit,simprocAttr,-Int.reduceNatCast',e0],by simp only [sT.1,sC.1,qc,qb,Nat.testBit,simprocAttr,-Int.reduceNatCast',e11],by simp only [sT.1,sC.1,qc,qb,Nat.testBit,simprocAttr,-Int.reduceNatCast'],by simp only [sT.1,sC.1,qc,qb,Nat.testBit,simprocAttr,-Int.reduceNatCast'],by simp only [sT.1,sC.1,qc,qb,Nat.testBit,simprocAttr,-Int.reduceNatCast'],by simp only [sT.1,sC.1,qc,qb,Nat.testBit,simprocAttr,-Int.reduceNatCast']⟩
theorem qcB {b:Nat} (s:Str) (hs:s.length ≤ 100000):∀(k i:Nat) (tt:List qa),i + k = s.length→tt.length = 53→lkp tt 0 = .str s→lkp tt 7 = .int .i64 (i:Nat)→
  ∃tt',qo b Wd (.loop qdH) ⟨tt,h,false⟩ = some (.exit 0,⟨tt',h,false⟩)∧tt'.length = 53∧lkp tt' 0 = .str s∧lkp tt' 7 = .int .i64 (qah q9 s i:Nat)∧lkp tt' 1 = lkp tt 1∧lkp tt' 4 = lkp tt 4:=by
 intro k
 induction k with
 | zero=>
  intro i tt hk ht e0 e11
  have c1:ilt (i:Int) (s.length:Int) = false:=by rw [qM];simp;omega
  rw [qi4 (by omega),qm]
  simp only [qdH,sT.1,sC.1,qc,qb,Nat.testBit,simprocAttr,-Int.reduceNatCast',ht,e0,e11,c1]
  exact ⟨_,rfl,by simp only [qj,ht],by simp only [sT.1,sC.1,qc,qb,Nat.testBit,simprocAttr,-Int.reduceNatCast',e0],by simp only [sT.1,sC.1,qc,qb,Nat.testBit,simprocAttr,-Int.reduceNatCast',e11],by simp only [sT.1,sC.1,qc,qb,Nat.testBit,simprocAttr,-Int.reduceNatCast'],by simp only [sT.1,sC.1,qc,qb,Nat.testBit,simprocAttr,-Int.reduceNatCast']⟩
 | succ k ih=>
  intro i tt hk ht e0 e11
  have hi:i < s.length:=by omega
  have c1:ilt (i:Int) (s.length:Int) = true:=by rw [qM];simp;omega
  have hx:qdG (.str s) (.int .i64 (i:Nat)) = some (.int .u8 (s[i].toNat:Nat)):=qaM (List.getElem?_eq_getElem hi)
  have w:=qX (n:=i) (by omega)
  rw [qm]
  generalize he:qo b Wd qdH _ = r
  cases hd:q9 s[i] with
  | true=>
   rw [qf0 hi hd]
   simp only [qdH,sT.1,sC.1,qc,qb,Nat.testBit,simprocAttr,-Int.reduceNatCast',ht,e0,e11,c1,hx,w,qgO,hd] at he
   subst he
   refine (ih (i + 1) _ (by omega) ?_ ?_ ?_).imp fun tt' g=>⟨g.1,g.2.1,g.2.2.1,g.2.2.2.1,g.2.2.2.2.1.trans ?_,g.2.2.2.2.2.trans ?_⟩
   all_goals simp only [sT.1,sC.1,qc,qb,Nat.testBit,simprocAttr,-Int.reduceNatCast',ht,e0]
  | false=>
   rw [qhq hi hd]
   simp only [qdH,sT.1,sC.1,qc,qb,Nat.testBit,simprocAttr,-Int.reduceNatCast',ht,e0,e11,c1,hx,w,qgO,hd] at he
   subst he
   exact ⟨_,rfl,by simp only [qj,ht],by simp only [sT.1,sC.1,qc,qb,Nat.testBit,simprocAttr,-Int.reduceNatCast',e0],by simp only [sT.1,sC.1,qc,qb,Nat.testBit,simprocAttr,-Int.reduceNatCast',e11],by simp only [sT.1,sC.1,qc,qb,Nat.testBit,simprocAttr,-Int.reduceNatCast'],by simp only [sT.1,sC.1,qc,qb,Nat.testBit,simprocAttr,-Int.reduceNatCast']⟩
def qbC (kind:Int) (s:Str) (n pos:Int):qa:=.agg [.int .i64 kind,.str s,.int .i64 n,.int .i64 pos]
theorem qlk (s:Str) (kind at_:Int) (i:Nat) (hi:i ≤ s.length) (hb:∀h:i < s.length,qaR s[i] = false):Wd (.fn 129 [] []) [.str s,.int .i64 kind,.int .i64 at_,.int .i64 (i:Nat)] h = some (.ret (.tup [qbC 0 [] 0 at_,.int .i64 at_,.int .i64 5]),h,false):=by
 rw [qi rfl (show T.get 129 = some qv3 by kernel_rfl)]
 rcases Nat.lt_or_ge i s.length with h1 | h1
 ·have hx:qdG (.str s) (.int .i64 (i:Nat)) = some (.int .u8 (s[i].toNat:Nat)):=qaM (List.getElem?_eq_getElem h1)
  have c1:((i:Int) == (s.length:Int)) = false:=by simp;omega
  simp only [qv3,sT.1,sC.1,qc,qb,Nat.testBit,simprocAttr,-Int.reduceNatCast',c1,hx,qdp,hb h1,qI]
  rfl
 ·have c1:((i:Int) == (s.length:Int)) = true:=by simp;omega
  simp only [qv3,sT.1,sC.1,qc,qb,Nat.testBit,simprocAttr,-Int.reduceNatCast',c1,qI]
  rfl
end
end Go.Proofs.YtkmlapholimbcaaGreatDoor.AE
