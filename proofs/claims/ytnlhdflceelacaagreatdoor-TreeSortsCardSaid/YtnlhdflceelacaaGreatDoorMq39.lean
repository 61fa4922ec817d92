/- A part of the proof: the abstract executor and what goes through it (part 39). No condition. -/
import Derived.Test.YtnlhdflceelacaaGreatDoorMq28
import Derived.Test.YtnlhdflceelacaaGreatDoorMq38
set_option maxRecDepth 100000
namespace Go.Proofs.YtnlhdflceelacaaGreatDoor.AE
open Go.AE
def qbB (m:Msg):List qa:=.str m.p :: m.v.enc
def qll (ms:List Msg):List qa:=(ms.map qbB).flatten
theorem qkI (m:Msg):qdO m = .agg (qbB m):=rfl
theorem qax (p:Str) (k n:Int) (s:Str) (l:List Val):qbB ⟨p,.mk k n s l⟩ = [.str p,.int .i64 k,.int .i64 n,.str s,.lst (l.map qal) .no]:=by rw [qbB,qfE]
theorem qbn (m:Msg):(qbB m).length = 5:=by
 obtain ⟨p,k,n,s,l⟩:=m
 rw [qax]
 rfl
theorem qaD (m:Msg):∀c ∈ qbB m,c.dim = c:=by
 obtain ⟨p,k,n,s,l⟩:=m
 rw [qax]
 intro c hc
 simp only [List.mem_cons,List.not_mem_nil,or_false] at hc
 rcases hc with rfl | rfl | rfl | rfl | rfl <;> rfl
theorem qbs (m:Msg):(qbB m).all qa.storable = true:=by
 obtain ⟨p,k,n,s,l⟩:=m
 rw [qax]
 rfl
theorem qhD (ms:List Msg):∀v ∈ ms.map qbB,v.length = 5:=fun v hv=>by
 obtain ⟨m,_,rfl⟩:=List.mem_map.1 hv
 exact qbn m
theorem qjq (ms:List Msg):(qll ms).length = ms.length * 5:=by rw [qll,qgh (qhD ms),List.length_map]
theorem qug (ms:List Msg) {i:Nat} (hi:i < ms.length):cut (qll ms) (i * 5) (some 5) = some (qdO ms[i]):=by
 have hi':i < (ms.map qbB).length:=by rw [List.length_map];exact hi
 rw [qll,qgc (qhD ms) hi',qkI,List.getElem_map]
 rw [List.getElem_map]
 exact qaD _
theorem qoR (ms:List Msg):∀c ∈ qll ms,c.dim = c:=fun c hc=>by
 obtain ⟨v,hv,hcv⟩:=List.mem_flatten.1 hc
 obtain ⟨m,_,rfl⟩:=List.mem_map.1 hv
 exact qaD m c hcv
def PL (n:Nat) (ms:List Msg) (g:List qg) (v:qa):Prop:=(ms = []∧v = .lst [] .full)∨∃id,v = .sl id 0 ms.length ms.length 5∧ms ≠ []∧n ≤ id∧g[id]? = some (.cells (qll ms))
theorem PL.facts {n:Nat} {ms:List Msg} {g:List qg} {v:qa} (h:PL n ms g v):v.dim = v∧(∀i t,qau v i t = t)∧qis false v = some (.int .i64 (ms.length:Nat)):=by
 rcases h with ⟨rfl,rfl⟩ | ⟨id,rfl,_⟩ <;> exact ⟨rfl,fun _ _=>rfl,rfl⟩
theorem PL.at {n:Nat} {ms:List Msg} {g:List qg} {v:qa} (h:PL n ms g v) {i:Nat} (hi:i < ms.length):∃id,qbr 5 v (.int .i64 (i:Nat)) = some (.ptr id (i * 5))∧g[id]? = some (.cells (qll ms))∧cut (qll ms) (i * 5) (some 5) = some (qdO ms[i]):=by
 rcases h with ⟨rfl,rfl⟩ | ⟨id,rfl,_,_,hb⟩
 ·simp at hi
 ·exact ⟨id,qb4 hi,hb,qug ms hi⟩
def qpp (v w:qa):Prop:=∀a o l c m b o' l' c' m',v = .sl a o l c m→w = .sl b o' l' c' m'→a ≠ b
theorem PL.app {n:Nat} {ms:List Msg} {g:List qg} {v:qa} (h:PL n ms g v) (hms:ms.length < 1000) (hn:n ≤ g.length) (x:Msg) (base:Nat) :
  ∃v' g'',hop base (.app 5) [v,.sl g.length 0 1 1 0] (g ++ [.cells (qbB x)]) = some (v',g'',false)∧PL n (ms ++ [x]) g'' v'∧n ≤ g''.length∧g''.take n = g.take n∧∀us u,PL n us g u→qpp u v→PL n us g'' u∧qpp u v':=by
 have hy:(g ++ [qg.cells (qbB x)])[g.length]? = some (.cells (qbB x)):=by rw [qhd];rfl
 rcases h with ⟨rfl,rfl⟩ | ⟨id,rfl,hne,hid,hb⟩
 ·refine ⟨_,_,qgP hy (qbn x) (qaD x) (qbs x),.inr ⟨_,rfl,by simp,by simp;omega,?_⟩,by simp;omega,?_,fun us u hu hap=>⟨?_,?_⟩⟩
  ·rw [List.getElem?_append_right (Nat.le_refl _),Nat.sub_self]
   simp [qll]
  ·rw [List.append_assoc,List.take_append_of_le_length hn]
  ·rcases hu with hu | ⟨id',rfl,h1,h2,h3⟩
   ·exact .inl hu
   ·refine .inr ⟨id',rfl,h1,h2,?_⟩
    have:=(List.getElem?_eq_some_iff.1 h3).1
    rw [List.append_assoc,List.getElem?_append_left this,h3]
  ·intro a o l c m b o' l' c' m' e1 e2
   rcases hu with ⟨_,rfl⟩ | ⟨id',rfl,h1,h2,h3⟩
   ·cases e1
   ·cases e1
    cases e2
    have:=(List.getElem?_eq_some_iff.1 h3).1
    simp
    omega
 ·have hidl:=(List.getElem?_eq_some_iff.1 hb).1
  have hb':(g ++ [qg.cells (qbB x)])[id]? = some (.cells (qll ms)):=by rw [List.getElem?_append_left hidl,hb]
  refine ⟨_,_,qi0 hms hy (qbn x) (qaD x) (qbs x) hb' (qjq ms) (qoR ms),.inr ⟨((g ++ [qg.cells (qbB x)]).set id .dead).length,by simp,by simp,by simp;omega,?_⟩,by simp;omega,?_,fun us u hu hap=>⟨?_,?_⟩⟩
  ·rw [List.getElem?_append_right (Nat.le_refl _),Nat.sub_self]
   simp [qll]
  ·rw [List.take_append_of_le_length (by simp;omega),List.take_set_of_le hid,List.take_append_of_le_length hn]
  ·rcases hu with hu | ⟨id',rfl,h1,h2,h3⟩
   ·exact .inl hu
   ·refine .inr ⟨id',rfl,h1,h2,?_⟩
    have hl:=(List.getElem?_eq_some_iff.1 h3).1
    have hne':=hap _ _ _ _ _ _ _ _ _ _ rfl rfl
    rw [List.getElem?_append_left (by simp;omega),List.getElem?_set_ne (Ne.symm hne'),List.getElem?_append_left hl,h3]
  ·intro a o l c m b o' l' c' m' e1 e2
   rcases hu with ⟨_,rfl⟩ | ⟨id',rfl,h1,h2,h3⟩
   ·cases e1
   ·cases e1
    cases e2
    have:=(List.getElem?_eq_some_iff.1 h3).1
    simp
    omega
def qfH (x:Msg):List Msg→List Msg
 | []=>[x]
 | y :: ys=>if qbP x y < 0 then x :: y :: ys else y :: qfH x ys
theorem qeQ (x:Msg):∀o,(qfH x o).Perm (x :: o)
 | []=>List.Perm.refl _
 | y :: ys=>by
  rw [qfH]
  split
  ·exact List.Perm.refl _
  ·exact ((qeQ x ys).cons y).trans (List.Perm.swap x y ys)
theorem qeR (x:Msg):∀{o:List Msg},o.Pairwise leM→(qfH x o).Pairwise leM
 | [],_=>by simp [qfH]
 | y :: ys,h=>by
  obtain ⟨h1,h2⟩:=List.pairwise_cons.1 h
  rw [qfH]
  split
  ·rename_i hc
   have hxy:leM x y:=by show qbP x y ≤ 0;omega
   exact List.pairwise_cons.2 ⟨fun z hz=>by
    rcases List.mem_cons.1 hz with rfl | hz
    ·exact hxy
    ·exact qaz hxy (h1 z hz),h⟩
  ·rename_i hc
   refine List.pairwise_cons.2 ⟨fun z hz=>?_,qeR x h2⟩
   rcases List.mem_cons.1 ((qeQ x ys).subset hz) with rfl | hz
   ·exact qaH hc
   ·exact h1 z hz
def qfY:List Msg→List Msg→List Msg
 | o,[]=>o
 | o,x :: xs=>qfY (qfH x o) xs
theorem qfh:∀(l:List Msg) {o:List Msg},o.Pairwise leM→(qfY o l).Pairwise leM
 | [],_,h=>h
 | x :: xs,_,h=>qfh xs (qeR x h)
theorem qdU:∀(l o:List Msg),(qfY o l).Perm (o ++ l)
 | [],o=>by rw [qfY,List.append_nil]
 | x :: xs,o=>by
  rw [qfY]
  refine (qdU xs _).trans ?_
  refine ((qeQ x o).append_right xs).trans ?_
  exact List.perm_middle.symm
end Go.Proofs.YtnlhdflceelacaaGreatDoor.AE
