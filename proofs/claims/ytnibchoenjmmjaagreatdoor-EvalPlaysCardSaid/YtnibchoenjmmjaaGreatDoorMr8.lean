/- A part of the proof: the abstract executor and what goes through it (part 8). No condition. -/
import Derived.Test.YtnibchoenjmmjaaGreatDoorMr7
import Derived.Test.YtnibchoenjmmjaaGreatDoorMr2
set_option maxRecDepth 100000
set_option maxHeartbeats 0
open List renaming getElem?_append_left→ja,mem_cons_self→jG,drop_eq_getElem_cons→jV,getElem?_eq_getElem→jh,append_assoc→jp,map_map→jI,mem_cons_of_mem→jK,getElem?_map→jr,mem_map→jR
open Bool renaming and_eq_true→jk,true_and→jX,false_and→jN,and_true→jx,true_or→jY
open Option renaming map_some→jL
namespace Go.AE
section
variable {k:Nat} {vs:List (List qa)}
theorem qc5 (hk:∀v ∈ vs,v.length = k):vs.flatten.length = vs.length * k:=by
 induction vs with
 | nil=>simp
 | cons v vs ih=>
  rw [List.flatten_cons,List.length_append,ih λx hx=>hk x (jK _ hx),hk v jG,List.length_cons,Nat.succ_mul,Nat.add_comm]
theorem qhG (hk:∀v ∈ vs,v.length = k) {i:Nat} (hi:i < vs.length):(vs.flatten.drop (i * k)).take k = vs[i]:=by
 rw [qiw vs i hk hi,List.getD_eq_getElem?_getD,jh hi]
 rfl
theorem qjQ (hk:∀v ∈ vs,v.length = k) {i:Nat} (hi:i < vs.length):i * k + k <= vs.flatten.length:=by
 rw [qc5 hk,<-Nat.succ_mul]
 exact Nat.mul_le_mul_right k hi
theorem qc8 {cs:List qa} (hd:∀c ∈ cs,c.dim = c):cs.map qa.dim = cs:=by
 induction cs with
 | nil=>rfl
 | cons c cs ih=>rw [List.map_cons,hd c jG,ih λx hx=>hd x (jK _ hx)]
theorem qdD (hk:∀v ∈ vs,v.length = k) {i:Nat} (hi:i < vs.length) (hd:∀c ∈ vs[i],c.dim = c):cut vs.flatten (i * k) (some k) = some (.agg vs[i]):=by
 rw [qfK (qjQ hk hi),qhG hk hi,qc8 hd]
end
theorem qck {k id len cap more i:Nat} {j:IntKind} (hi:i < len):qar k (.sl id 0 len cap more) (.int j (i:Nat)) = some (.ptr id (i * k)):=by
 rw [qyd,if_pos ⟨zo,zo⟩,Nat.zero_add,Int.toNat_natCast]
def qb0 (cs:List qa):Prop:=∀c ∈ cs,c.dim = c/\c.storable = true
theorem qb0.dims {cs:List qa} (h:qb0 cs):cs.map qa.dim = cs:=qc8 λc hc=>(h c hc).1
theorem qb0.all {cs:List qa} (h:qb0 cs):cs.all qa.storable = true:=List.all_eq_true.2 λc hc=>(h c hc).2
section
variable {base k n id id2:Nat} {h:List qb} {row cs:List qa}
theorem qr1 (h2:h[id2]? = some (.cells row)) (hk:row.length = k) (hs:qb0 row):qdS k h (.sl id2 0 1 1 0) = some (row,1):=by
 have:row.take k = row:=List.take_of_length_le zo
 simp [qdS,h2,hk,this,hs.dims]
theorem qcb (h2:h[id2]? = some (.cells row)) (hk:row.length = k) (hs:qb0 row):hop base (.app k) [.lst [] .full,.sl id2 0 1 1 0] h = some (.sl h.length 0 1 1 k,h ++ [.cells row],false):=by
 have e:qdS k h (.lst [] .full) = some ([],0):=rfl
 simp [hop,qfu,qr1 h2 hk hs,hs.all,e,qdv]
theorem qc2 (h1:h[id]? = some (.cells cs)) (h2:h[id2]? = some (.cells row)) (hk:row.length = k) (hc:cs.length = n * k) (hs:qb0 row) (B:qb0 cs) (hn:n <= 100000) (I:k ≠ 0):hop base (.app k) [.sl id 0 n n k,.sl id2 0 1 1 0] h = some (.sl h.length 0 (n + 1) (n + 1) k,h.set id .dead ++ [.cells (cs ++ row)],false):=by
 have e:qdS k h (.sl id 0 n n k) = some (cs,n):=by
  have:cs.take (n * k) = cs:=List.take_of_length_le zo
  simp [qdS,h1,hc,this,B.dims]
 have hl:n + 1 <= qdv:=by simp only [qdv];omega
 have E:¬ n + 1 <= n:=zo
 simp only [hop,qfu,qr1 h2 hk hs,hs.all,e,h1,Bool.not_true,Bool.false_eq_true,if_false,Nat.succ_ne_zero,hl,E,if_true]
 simp [I,hc]
end
end Go.AE
namespace Go.Proofs.YtnibchoenjmmjaaGreatDoor.AE
open Go.AE
theorem qEo (base:Nat) (x:Int) (h:List qb):hop base (.lit 1 [.int .i64 0] 1 [0]) [.int .i64 x] h = some (.sl h.length 0 1 1 0,h ++ [.cells [.int .i64 x]],false):=xk
theorem qHh (base:Nat) (a b:Str) (k:Int) (L:List qa) (h:List qb):hop base (.lit 4 [.str [],.str [],.int .i64 0,.lst [] .full] 1 [0]) [.agg [.str a,.str b,.int .i64 k,.lst L .no]] h = some (.sl h.length 0 1 1 0,h ++ [.cells [.str a,.str b,.int .i64 k,.lst L .no]],false):=xk
theorem qHi (base:Nat) (a b:Int) (c d:Str) (e:Int) (I:qa) (hd:I.dim = I) (hs:I.storable = true) (h:List qb):hop base (.lit 6 [.int .i64 0,.int .i64 0,.str [],.str [],.int .i64 0,.lst [] .full] 1 [0]) [.agg [.int .i64 a,.int .i64 b,.str c,.str d,.int .i64 e,I]] h = some (.sl h.length 0 1 1 0,h ++ [.cells [.int .i64 a,.int .i64 b,.str c,.str d,.int .i64 e,I]],false):=by
 have s1:∀(j:IntKind) (x:Int),(qa.int j x).storable = true:=λ_ _=>rfl
 have s2:∀x:Str,(qa.str x).storable = true:=λ_=>rfl
 have d1:∀(j:IntKind) (x:Int),(qa.int j x).dim = .int j x:=λ_ _=>rfl
 have d2:∀x:Str,(qa.str x).dim = .str x:=λ_=>rfl
 simp [hop,qbd,qa.cells,splice,hs,hd,s1,s2,d1,d2]
def Cov (H:Nat->Option qb) (g:List qb):Prop:=∀i x,H i = some x->g[i]? = some x
theorem Cov.lt {H:Nat->Option qb} {g:List qb} (h:Cov H g) {i:Nat} {x:qb} (hi:H i = some x):i < g.length:=(List.getElem?_eq_some_iff.1 (h i x hi)).1
theorem Cov.late {H:Nat->Option qb} {g:List qb} (h:Cov H g) {i:Nat} (hi:g.length <= i):H i = none:=by
 cases hx:H i with
 | none=>rfl
 | some x=>have:=h.lt hx;omega
theorem Cov.more {H:Nat->Option qb} {g:List qb} (h:Cov H g) (l:List qb):Cov H (g ++ l):=λi x hi=>by
 rw [ja (h.lt hi)]
 exact h i x hi
theorem Cov.set {H:Nat->Option qb} {g:List qb} (h:Cov H g) {j:Nat} (hj:H j = none) (b:qb):Cov H (g.set j b):=λi x hi=>by
 have:j ≠ i:=λe=>by subst e;rw [hj] at hi;cases hi
 rw [List.getElem?_set_ne this]
 exact h i x hi
def Sub (H H':Nat->Option qb):Prop:=∀i x,H i = some x->H' i = some x
inductive Val where
 | mk (k n:Int) (s:Str) (l:List Val)
def Val.enc:Val->List qa
 | .mk k n s l=>[.int .i64 k,.int .i64 n,.str s,.lst (l.map λv=>.agg v.enc) .no]
def qa6 (v:Val):qa:=.agg v.enc
theorem qaU (k n:Int) (s:Str) (l:List Val):(Val.mk k n s l).enc = [.int .i64 k,.int .i64 n,.str s,.lst (l.map qa6) .no]:=by rw [Val.enc];rfl
theorem qkP (k n:Int) (s:Str) (l:List Val):qa6 (.mk k n s l) = .agg [.int .i64 k,.int .i64 n,.str s,.lst (l.map qa6) .no]:=by rw [qa6,qaU]
inductive At (H:Nat->Option qb):Val->List qa->Prop
 | lst (k n:Int) (s:Str) (l:List Val) (rs:List (List qa)) (f:qfH):(f = .no\/f = .full)->rs.length = l.length->(∀(i:Nat) (h:i < l.length) (h':i < rs.length),At H l[i] rs[i])->At H (.mk k n s l) [.int .i64 k,.int .i64 n,.str s,.lst (rs.map .agg) f]
 | sl (k n:Int) (s:Str) (l:List Val) (rs:List (List qa)) (id m:Nat):H id = some (.cells rs.flatten)->rs.length = l.length->(∀(i:Nat) (h:i < l.length) (h':i < rs.length),At H l[i] rs[i])->At H (.mk k n s l) [.int .i64 k,.int .i64 n,.str s,.sl id 0 l.length l.length m]
theorem At.mono {H H':Nat->Option qb} (B:Sub H H') {v:Val} {cs:List qa} (h:At H v cs):At H' v cs:=by
 induction h with
 | lst k n s l rs f h1 h2 _ ih=>exact .lst k n s l rs f h1 h2 ih
 | sl k n s l rs id m h1 h2 _ ih=>exact .sl k n s l rs id m (B _ _ h1) h2 ih
def LP (H:Nat->Option qb) (l:List Val) (L:qa):Prop:=∃rs:List (List qa),rs.length = l.length/\(∀(i:Nat) (h:i < l.length) (h':i < rs.length),At H l[i] rs[i])/\((∃f,(f = .no\/f = .full)/\L = .lst (rs.map .agg) f)\/∃id m,L = .sl id 0 l.length l.length m/\H id = some (.cells rs.flatten))
theorem At.lp {H:Nat->Option qb} {k n:Int} {s:Str} {l:List Val} {cs:List qa} (h:At H (.mk k n s l) cs):∃L,cs = [.int .i64 k,.int .i64 n,.str s,L]/\LP H l L:=by
 cases h with
 | lst _ _ _ _ rs f h1 h2 h3=>exact ⟨_,rfl,rs,h2,h3,.inl ⟨f,h1,rfl⟩⟩
 | sl _ _ _ _ rs id m h1 h2 h3=>exact ⟨_,rfl,rs,h2,h3,.inr ⟨id,m,rfl,h1⟩⟩
theorem LP.at {H:Nat->Option qb} {l:List Val} {L:qa} (h:LP H l L) (k n:Int) (s:Str):At H (.mk k n s l) [.int .i64 k,.int .i64 n,.str s,L]:=by
 obtain ⟨rs,h1,h2,⟨f,h3,rfl⟩ | ⟨id,m,rfl,h3⟩⟩:=h
 ·exact .lst k n s l rs f h3 h1 h2
 ·exact .sl k n s l rs id m h3 h1 h2
theorem LP.mono {H H':Nat->Option qb} (B:Sub H H') {l:List Val} {L:qa} (h:LP H l L):LP H' l L:=by
 obtain ⟨rs,h1,h2,h3⟩:=h
 refine ⟨rs,h1,λi a b=>(h2 i a b).mono B,?_⟩
 rcases h3 with h3 | ⟨id,m,e,h3⟩
 ·exact .inl h3
 ·exact .inr ⟨id,m,e,B _ _ h3⟩
theorem LP.nil {H:Nat->Option qb} {f:qfH} (hf:f = .no\/f = .full):LP H [] (.lst [] f):=⟨[],rfl,λi h=>by simp at h,.inl ⟨f,hf,rfl⟩⟩
theorem LP.facts {H:Nat->Option qb} {l:List Val} {L:qa} (h:LP H l L):L.dim = L/\L.storable = true/\(∀i t,qz L i t = t)/\qbB false L = some (.int .i64 (l.length:Nat)):=by
 obtain ⟨rs,h1,h2,⟨f,rfl | rfl,rfl⟩ | ⟨id,m,rfl,h3⟩⟩:=h
 ·exact ⟨rfl,rfl,λ_ _=>rfl,by simp [qbB,h1]⟩
 ·exact ⟨rfl,rfl,λ_ _=>rfl,by simp [qbB,h1]⟩
 ·exact ⟨rfl,rfl,λ_ _=>rfl,rfl⟩
theorem At.cells {H:Nat->Option qb} {v:Val} {cs:List qa} (h:At H v cs):∃k n s l L,v = .mk k n s l/\cs = [.int .i64 k,.int .i64 n,.str s,L]/\L.dim = L/\L.storable = true/\(∀i t,qz L i t = t)/\qbB false L = some (.int .i64 (l.length:Nat)):=by
 obtain ⟨k,n,s,l⟩:=v
 obtain ⟨L,rfl,hL⟩:=h.lp
 exact ⟨k,n,s,l,L,rfl,rfl,hL.facts⟩
theorem At.length {H:Nat->Option qb} {v:Val} {cs:List qa} (h:At H v cs):cs.length = 4:=by
 obtain ⟨k,n,s,l,L,rfl,rfl,_⟩:=h.cells
 rfl
theorem At.still {H:Nat->Option qb} {v:Val} {cs:List qa} (h:At H v cs):qb0 cs:=by
 obtain ⟨k,n,s,l,L,rfl,rfl,hd,hs,_⟩:=h.cells
 intro c hc
 simp only [List.mem_cons,List.not_mem_nil,or_false] at hc
 rcases hc with rfl | rfl | rfl | rfl <;> first | exact ⟨rfl,rfl⟩ | exact ⟨hd,hs⟩
theorem At.dims {H:Nat->Option qb} {v:Val} {cs:List qa} (h:At H v cs):∀c ∈ cs,c.dim = c:=λc hc=>(h.still c hc).1
theorem At.elem {H:Nat->Option qb} {l:List Val} {ess:List (List qa)} (hl:ess.length = l.length) (hv:∀(i:Nat) (h:i < l.length) (h':i < ess.length),At H l[i] ess[i]):(∀e ∈ ess,e.length = 4)/\∀(i:Nat) (h':i < ess.length),cut ess.flatten (i * 4) (some 4) = some (.agg ess[i]):=by
 have h1:∀e ∈ ess,e.length = 4:=λe he=>by
  obtain ⟨i,hi,rfl⟩:=List.getElem_of_mem he
  exact (hv i zo hi).length
 exact ⟨h1,λi h'=>qdD h1 h' (hv i zo h').dims⟩
theorem LP.item {H:Nat->Option qb} {l:List Val} {L:qa} (h:LP H l L) {i:Nat} (hi:i < l.length) {g:List qb} (hg:Cov H g):∃pp cs,qar 4 L (.int .i64 (i:Nat)) = some pp/\pp.dim = pp/\(∀m,qch (g ++ m) pp (some 4) = some (.agg cs))/\qch g pp (some 4) = some (.agg cs)/\At H l[i] cs:=by
 obtain ⟨rs,h1,h2,⟨f,hf,rfl⟩ | ⟨id,m,rfl,h3⟩⟩:=h
 ·have B:i < rs.length:=zo
  have h4:=h2 i hi B
  have hx:qar 4 (.lst (rs.map .agg) f) (.int .i64 (i:Nat)) = some (.iptr rs[i] 0):=qa4 (x:=.agg rs[i]) (by rw [jr,jh B];rfl) h4.length
  have hc:cut rs[i] 0 (some 4) = some (.agg rs[i]):=by
   rw [qfK (by rw [h4.length];omega),List.drop_zero,List.take_of_length_le (by rw [h4.length];omega),qc8 h4.dims]
  exact ⟨_,_,hx,rfl,λm=>hc,hc,h4⟩
 ·have B:i < rs.length:=zo
  have hc:=(At.elem h1 h2).2 i B
  exact ⟨_,rs[i],qck hi,rfl,λm=>by rw [qfP (hg.more m _ _ h3)];exact hc,by rw [qfP (hg _ _ h3)];exact hc,h2 i hi B⟩
theorem At.arg {H:Nat->Option qb}:∀v:Val,At H v v.enc
 | .mk k n s l=>by
  rw [qaU,show l.map qa6 = (l.map Val.enc).map .agg by rw [jI];rfl]
  refine .lst k n s l _ .no (.inl rfl) (by simp) λi h h'=>?_
  rw [List.getElem_map]
  exact At.arg l[i]
 termination_by v=>SizeOf.sizeOf v
 decreasing_by
 have:=List.sizeOf_lt_of_mem (List.getElem_mem h)
 simp only [Val.mk.sizeOf_spec]
 omega
theorem LP.arg {H:Nat->Option qb} (l:List Val):LP H l (.lst (l.map qa6) .no):=by
 refine ⟨l.map Val.enc,by simp,λi h h'=>?_,.inl ⟨.no,.inl rfl,by rw [jI];rfl⟩⟩
 rw [List.getElem_map]
 exact At.arg l[i]
theorem qfc {n:Nat}:∀{cs:List qa},(∀c ∈ cs,c.lower n = true)->qt n cs = true
 | [],_=>by simp only [qt]
 | c :: cs,h=>by simp only [qt,h c jG,qfc λx hx=>h x (jK _ hx),Bool.and_self]
theorem At.low {H:Nat->Option qb} {g:List qb} (hg:Cov H g) {v:Val} {cs:List qa} (h:At H v cs):qt g.length cs = true:=by
 induction h with
 | lst k n s l rs f h1 h2 _ ih=>
  have:qt g.length (rs.map .agg) = true:=qfc λc hc=>by
   obtain ⟨r,hr,rfl⟩:=jR.1 hc
   obtain ⟨i,hi,rfl⟩:=List.getElem_of_mem hr
   simp only [qa.lower]
   exact ih i zo hi
  simp only [qt,qa.lower,this,Bool.and_self]
 | sl k n s l rs id m h1 h2 _ _=>
  have:Nat.blt id g.length = true:=Nat.ble_eq_true_of_le (hg.lt h1)
  simp only [qt,qa.lower,this,Bool.and_self]
theorem LP.low {H:Nat->Option qb} {g:List qb} (hg:Cov H g) {l:List Val} {L:qa} (h:LP H l L):L.lower g.length = true:=by
 have:=(h.at 0 0 []).low hg
 simp only [qt,qa.lower,jX,jx] at this
 exact this
def qfa (k n:Int) (s:Str) (l:List Val):Bool:=bif k == 0 then (s == []) && ((l.length:Int) == 0) else bif k == 1 then ((n == 0 || n == 1) && (s == [])) && ((l.length:Int) == 0) else bif k == 2 then (qcX s && (n == 0)) && ((l.length:Int) == 0) else false
def qr:Nat->Val->Bool
 | 0,.mk k n s l=>qfa k n s l
 | d + 1,.mk k n s l=>bif k == 3 then ((n == 0) && (s == [])) && (decide (1 <= l.length) && decide (l.length <= 4)) && l.all (qr d) else qfa k n s l
theorem qaM {k n:Int} {s:Str} {l:List Val} (h:qfa k n s l = true):l = []:=by
 have key:((l.length:Int) == 0) = true->l = []:=λh=>List.length_eq_zero_iff.1 (by have:=of_decide_eq_true h;omega)
 unfold qfa at h
 cases h0:(k == 0) <;> cases h1:(k == 1) <;> cases h2:(k == 2) <;> simp only [h0,h1,h2,cond_true,cond_false,jk] at h <;> first | exact key h.2 | cases h
theorem qfy {d:Nat} {k n:Int} {s:Str} {l:List Val} (h:qr d (.mk k n s l) = true):l.length <= 4/\∀x ∈ l,∃d',qr d' x = true:=by
 have leaf:qfa k n s l = true->l.length <= 4/\∀x ∈ l,∃d',qr d' x = true:=λh0=>by
  have:=qaM h0
  subst this
  exact ⟨by simp,λx hx=>by cases hx⟩
 cases d with
 | zero=>exact leaf h
 | succ d=>
  rw [qr] at h
  cases h3:(k == 3) with
  | true=>
   rw [h3,cond_true] at h
   simp only [jk,decide_eq_true_eq,List.all_eq_true] at h
   exact ⟨h.1.2.2,λx hx=>⟨d,h.2 x hx⟩⟩
  | false=>
   rw [h3,cond_false] at h
   exact leaf h
inductive Tp where
 | mk (k:Int) (l:List Tp)
def Tp.enc:Tp->List qa
 | .mk k l=>[.int .i64 k,.lst (l.map λv=>.agg v.enc) .no]
def tpV (v:Tp):qa:=.agg v.enc
theorem qah (k:Int) (l:List Tp):(Tp.mk k l).enc = [.int .i64 k,.lst (l.map tpV) .no]:=by rw [Tp.enc];rfl
inductive Ta (H:Nat->Option qb):Tp->List qa->Prop
 | lst (k:Int) (l:List Tp) (rs:List (List qa)) (f:qfH):(f = .no\/f = .full)->rs.length = l.length->(∀(i:Nat) (h:i < l.length) (h':i < rs.length),Ta H l[i] rs[i])->Ta H (.mk k l) [.int .i64 k,.lst (rs.map .agg) f]
 | sl (k:Int) (l:List Tp) (rs:List (List qa)) (id m:Nat):H id = some (.cells rs.flatten)->rs.length = l.length->(∀(i:Nat) (h:i < l.length) (h':i < rs.length),Ta H l[i] rs[i])->Ta H (.mk k l) [.int .i64 k,.sl id 0 l.length l.length m]
theorem Ta.mono {H H':Nat->Option qb} (B:Sub H H') {v:Tp} {cs:List qa} (h:Ta H v cs):Ta H' v cs:=by
 induction h with
 | lst k l rs f h1 h2 _ ih=>exact .lst k l rs f h1 h2 ih
 | sl k l rs id m h1 h2 _ ih=>exact .sl k l rs id m (B _ _ h1) h2 ih
def TL (H:Nat->Option qb) (l:List Tp) (L:qa):Prop:=∃rs:List (List qa),rs.length = l.length/\(∀(i:Nat) (h:i < l.length) (h':i < rs.length),Ta H l[i] rs[i])/\((∃f,(f = .no\/f = .full)/\L = .lst (rs.map .agg) f)\/∃id m,L = .sl id 0 l.length l.length m/\H id = some (.cells rs.flatten))
theorem Ta.lp {H:Nat->Option qb} {k:Int} {l:List Tp} {cs:List qa} (h:Ta H (.mk k l) cs):∃L,cs = [.int .i64 k,L]/\TL H l L:=by
 cases h with
 | lst _ _ rs f h1 h2 h3=>exact ⟨_,rfl,rs,h2,h3,.inl ⟨f,h1,rfl⟩⟩
 | sl _ _ rs id m h1 h2 h3=>exact ⟨_,rfl,rs,h2,h3,.inr ⟨id,m,rfl,h1⟩⟩
theorem TL.at {H:Nat->Option qb} {l:List Tp} {L:qa} (h:TL H l L) (k:Int):Ta H (.mk k l) [.int .i64 k,L]:=by
 obtain ⟨rs,h1,h2,⟨f,h3,rfl⟩ | ⟨id,m,rfl,h3⟩⟩:=h
 ·exact .lst k l rs f h3 h1 h2
 ·exact .sl k l rs id m h3 h1 h2
theorem TL.mono {H H':Nat->Option qb} (B:Sub H H') {l:List Tp} {L:qa} (h:TL H l L):TL H' l L:=by
 obtain ⟨rs,h1,h2,h3⟩:=h
 refine ⟨rs,h1,λi a b=>(h2 i a b).mono B,?_⟩
 rcases h3 with h3 | ⟨id,m,e,h3⟩
 ·exact .inl h3
 ·exact .inr ⟨id,m,e,B _ _ h3⟩
theorem TL.nil {H:Nat->Option qb} {f:qfH} (hf:f = .no\/f = .full):TL H [] (.lst [] f):=⟨[],rfl,λi h=>by simp at h,.inl ⟨f,hf,rfl⟩⟩
theorem TL.facts {H:Nat->Option qb} {l:List Tp} {L:qa} (h:TL H l L):L.dim = L/\L.storable = true/\(∀i t,qz L i t = t)/\qbB false L = some (.int .i64 (l.length:Nat)):=by
 obtain ⟨rs,h1,h2,⟨f,rfl | rfl,rfl⟩ | ⟨id,m,rfl,h3⟩⟩:=h
 ·exact ⟨rfl,rfl,λ_ _=>rfl,by simp [qbB,h1]⟩
 ·exact ⟨rfl,rfl,λ_ _=>rfl,by simp [qbB,h1]⟩
 ·exact ⟨rfl,rfl,λ_ _=>rfl,rfl⟩
theorem Ta.cells {H:Nat->Option qb} {v:Tp} {cs:List qa} (h:Ta H v cs):∃k l L,v = .mk k l/\cs = [.int .i64 k,L]/\L.dim = L/\L.storable = true/\(∀i t,qz L i t = t)/\qbB false L = some (.int .i64 (l.length:Nat)):=by
 obtain ⟨k,l⟩:=v
 obtain ⟨L,rfl,hL⟩:=h.lp
 exact ⟨k,l,L,rfl,rfl,hL.facts⟩
theorem Ta.length {H:Nat->Option qb} {v:Tp} {cs:List qa} (h:Ta H v cs):cs.length = 2:=by
 obtain ⟨k,l,L,rfl,rfl,_⟩:=h.cells
 rfl
theorem Ta.still {H:Nat->Option qb} {v:Tp} {cs:List qa} (h:Ta H v cs):qb0 cs:=by
 obtain ⟨k,l,L,rfl,rfl,hd,hs,_⟩:=h.cells
 intro c hc
 simp only [List.mem_cons,List.not_mem_nil,or_false] at hc
 rcases hc with rfl | rfl <;> first | exact ⟨rfl,rfl⟩ | exact ⟨hd,hs⟩
theorem Ta.dims {H:Nat->Option qb} {v:Tp} {cs:List qa} (h:Ta H v cs):∀c ∈ cs,c.dim = c:=λc hc=>(h.still c hc).1
theorem Ta.elem {H:Nat->Option qb} {l:List Tp} {ess:List (List qa)} (hl:ess.length = l.length) (hv:∀(i:Nat) (h:i < l.length) (h':i < ess.length),Ta H l[i] ess[i]):(∀e ∈ ess,e.length = 2)/\∀(i:Nat) (h':i < ess.length),cut ess.flatten (i * 2) (some 2) = some (.agg ess[i]):=by
 have h1:∀e ∈ ess,e.length = 2:=λe he=>by
  obtain ⟨i,hi,rfl⟩:=List.getElem_of_mem he
  exact (hv i zo hi).length
 exact ⟨h1,λi h'=>qdD h1 h' (hv i zo h').dims⟩
theorem TL.item {H:Nat->Option qb} {l:List Tp} {L:qa} (h:TL H l L) {i:Nat} (hi:i < l.length) {g:List qb} (hg:Cov H g):∃pp cs,qar 2 L (.int .i64 (i:Nat)) = some pp/\pp.dim = pp/\(∀m,qch (g ++ m) pp (some 2) = some (.agg cs))/\qch g pp (some 2) = some (.agg cs)/\Ta H l[i] cs:=by
 obtain ⟨rs,h1,h2,⟨f,hf,rfl⟩ | ⟨id,m,rfl,h3⟩⟩:=h
 ·have B:i < rs.length:=zo
  have h4:=h2 i hi B
  have hx:qar 2 (.lst (rs.map .agg) f) (.int .i64 (i:Nat)) = some (.iptr rs[i] 0):=qa4 (x:=.agg rs[i]) (by rw [jr,jh B];rfl) h4.length
  have hc:cut rs[i] 0 (some 2) = some (.agg rs[i]):=by
   rw [qfK (by rw [h4.length];omega),List.drop_zero,List.take_of_length_le (by rw [h4.length];omega),qc8 h4.dims]
  exact ⟨_,_,hx,rfl,λm=>hc,hc,h4⟩
 ·have B:i < rs.length:=zo
  have hc:=(Ta.elem h1 h2).2 i B
  exact ⟨_,rs[i],qck hi,rfl,λm=>by rw [qfP (hg.more m _ _ h3)];exact hc,by rw [qfP (hg _ _ h3)];exact hc,h2 i hi B⟩
theorem Ta.arg {H:Nat->Option qb}:∀v:Tp,Ta H v v.enc
 | .mk k l=>by
  rw [qah,show l.map tpV = (l.map Tp.enc).map .agg by rw [jI];rfl]
  refine .lst k l _ .no (.inl rfl) (by simp) λi h h'=>?_
  rw [List.getElem_map]
  exact Ta.arg l[i]
 termination_by v=>SizeOf.sizeOf v
 decreasing_by
 have:=List.sizeOf_lt_of_mem (List.getElem_mem h)
 simp only [Tp.mk.sizeOf_spec]
 omega
theorem TL.arg {H:Nat->Option qb} (l:List Tp):TL H l (.lst (l.map tpV) .no):=by
 refine ⟨l.map Tp.enc,by simp,λi h h'=>?_,.inl ⟨.no,.inl rfl,by rw [jI];rfl⟩⟩
 rw [List.getElem_map]
 exact Ta.arg l[i]
theorem Ta.low {H:Nat->Option qb} {g:List qb} (hg:Cov H g) {v:Tp} {cs:List qa} (h:Ta H v cs):qt g.length cs = true:=by
 induction h with
 | lst k l rs f h1 h2 _ ih=>
  have:qt g.length (rs.map .agg) = true:=qfc λc hc=>by
   obtain ⟨r,hr,rfl⟩:=jR.1 hc
   obtain ⟨i,hi,rfl⟩:=List.getElem_of_mem hr
   simp only [qa.lower]
   exact ih i zo hi
  simp only [qt,qa.lower,this,Bool.and_self]
 | sl k l rs id m h1 h2 _ _=>
  have:Nat.blt id g.length = true:=Nat.ble_eq_true_of_le (hg.lt h1)
  simp only [qt,qa.lower,this,Bool.and_self]
theorem TL.low {H:Nat->Option qb} {g:List qb} (hg:Cov H g) {l:List Tp} {L:qa} (h:TL H l L):L.lower g.length = true:=by
 have:=(h.at 0).low hg
 simp only [qt,qa.lower,jX,jx] at this
 exact this
mutual
def qa2:Val->Tp
 | .mk k _ _ l=>.mk k (qaT l)
def qaT:List Val->List Tp
 | []=>[]
 | v :: l=>qa2 v :: qaT l
end
theorem qbN:∀l:List Val,qaT l = l.map qa2
 | []=>rfl
 | v :: l=>by rw [qaT,qbN l,List.map_cons]
mutual
def qaO:Tp->Tp->Bool
 | .mk k l,.mk k' l'=>(k == k') && qbZ l l'
def qbZ:List Tp->List Tp->Bool
 | [],[]=>true
 | a :: l,b :: l'=>qaO a b && qbZ l l'
 | _,_=>false
end
mutual
theorem qfV:∀{a b:Tp},qaO a b = true->a = b
 | .mk k l,.mk k' l',h=>by
  rw [qaO,jk,beq_iff_eq] at h
  rw [h.1,qjd h.2]
theorem qjd:∀{a b:List Tp},qbZ a b = true->a = b
 | [],[],_=>rfl
 | a :: l,b :: l',h=>by
  rw [qbZ,jk] at h
  rw [qfV h.1,qjd h.2]
 | [],_ :: _,h=>by simp [qbZ] at h
 | _ :: _,[],h=>by simp [qbZ] at h
end
mutual
theorem qnH:∀a:Tp,qaO a a = true
 | .mk k l=>by rw [qaO,qgI l,beq_self_eq_true,jx]
theorem qgI:∀l:List Tp,qbZ l l = true
 | []=>rfl
 | a :: l=>by rw [qbZ,qnH a,qgI l,jx]
end
theorem qho:∀{a b:List Tp},a.length ≠ b.length->qbZ a b = false
 | [],[],h=>absurd rfl h
 | [],_ :: _,_=>rfl
 | _ :: _,[],_=>rfl
 | a :: l,b :: l',h=>by rw [qbZ,qho (by simpa using h),Bool.and_false]
def tyB:Nat->Tp->Bool
 | 0,.mk k l=>bif ile 0 k && ile k 2 then (l.length:Int) == 0 else false
 | d + 1,.mk k l=>bif ile 0 k && ile k 2 then (l.length:Int) == 0 else (k == 3) && (decide (1 <= l.length) && decide (l.length <= 4)) && l.all (tyB d)
mutual
def qcE:Tp->Nat
 | .mk k l=>bif k == 3 then qdo l + 1 else 0
def qdo:List Tp->Nat
 | []=>0
 | t :: l=>max (qcE t) (qdo l)
end
theorem qq7 (t:List qa) (f:FuncId) (a b:List qo):pureV t (.mkF f a b) = some (.fn f (a.map (ev t)) (b.map (ev t))):=rfl
def Rt (H:Nat->Option qb) (d:Nat) (v:Val):Prop:=∀cs g,At H v cs->Cov H g->Wd (.fn 106 [] []) [.agg cs,.int .i64 (d:Nat)] g = some (.ret (.bool (qr d v)),g,false)
theorem qrU {H:Nat->Option qb} {d:Nat} (hd:d <= 3) {v:Val} {cs:List qa} (hv:At H v cs) (hy:Rt H d v) (g:List qb) (hg:Cov H g) (R:Nat) (hR:R < g.length) (hr:g[R]? = some (.cells [.int .i64 (d + 1:Nat)])) :
  Wd (.fn 127 [] [.ptr R 0]) [.agg cs] g = some (.ret (.bool (qr d v)),g,false):=by
 have B:=hy cs (g ++ [.cells cs]) hv (hg.more _)
 obtain ⟨k,n,s,l,L,rfl,rfl,J,I,E,M⟩:=hv.cells
 generalize qr d _ = b at *
 have w1:IntKind.i64.wrap (((d + 1:Nat):Int) - 1) = ((d:Nat):Int):=by rw [qbj zo zo];omega
 rw [qm 127 qCh]
 simp only [sB.1,qCh,seval,J,I,E,hR,hr,w1,B]
theorem quv {H:Nat->Option qb} {d:Nat} (hd:d <= 3) {l:List Val} {L:qa} (hL:LP H l L) (hy:∀x ∈ l,Rt H d x) (h:List qb) (hg:Cov H h) (R:Nat) (hR:R < h.length) (hr:h[R]? = some (.cells [.int .i64 (d + 1:Nat)])) :
  Wd (.fn 126 [] []) [L,.fn 127 [] [.ptr R 0]] h = some (.ret (.bool ((decide (1 <= l.length) && decide (l.length <= 4)) && l.all (qr d))),h,false):=by
 obtain ⟨I,aj,J,ak⟩:=hL.facts
 have loop:l.length <= 4->∀k st,(∃(tt:List qa) (i:Nat) (B:List qb),st = ⟨tt,h ++ B,false⟩/\tt.length = 26/\lkp tt 1 = .fn 127 [] [.ptr R 0]/\lkp tt 15 = L/\lkp tt 16 = .int .i64 (l.length:Nat)/\lkp tt 17 = .int .i64 (i:Nat)/\i + k = l.length/\l.all (qr d) = (l.drop i).all (qr d))->
   ∃x U,qj h.length Wd (.loop qgs) st = some (x,U)/\(∃(tt:List qa) (B:List qb),U = ⟨tt,h ++ B,false⟩/\tt.length = 26/\((x = .exit 0/\l.all (qr d) = true)\/(x = .ret/\lkp tt 4 = .bool false/\l.all (qr d) = false))):=by
  intro h4
  refine qx _ _ ?_
  rintro k st ⟨tt,i,B,rfl,ht,e1,aa,O,a8,ap,E⟩
  generalize he:qj h.length Wd qgs _ = r
  rcases Nat.lt_or_ge i l.length with hi | hi
  ·have c1:ilt (i:Int) (l.length:Int) = true:=by rw [qe];simp;omega
   have w:=qaf (n:=i) zo
   obtain ⟨pp,cs,hx,a1,_,ad,ab⟩:=hL.item hi (hg.more B)
   have al:=hy _ (List.getElem_mem hi)
   have a6:(h ++ B).length = h.length + B.length:=by simp
   have M:=qrU hd ab al (h ++ (B ++ [.cells cs])) (hg.more _) R (by simp;omega) (by rw [ja hR,hr])
   rw [jV hi,List.all_cons] at E
   obtain ⟨K,N,S,zs,Z,ar,am,ai,ah,af,_⟩:=ab.cells
   subst am
   have ae:Nat.ble h.length (h.length + B.length) = true:=qf zo
   have ac:∀i t,qz pp i t = t:=λi t=>by rw [<-a1];exact qad _ _ _
   cases hb:qr d l[i] with
   | true=>
    rw [hb,jX] at E
    rw [hb] at M
    simp only [sB.1,qgs,seval,ht,e1,aa,O,a8,c1,w,hx,a1,ac,ad,a6,ae,I,aj,J,ai,ah,af,M,qdp,qcs,jY,jp] at he
    subst he
    refine .inl ⟨_,k - 1,rfl,zo,_,i + 1,B ++ [.cells [.int .i64 K,.int .i64 N,.str S,Z]],rfl,Y0,?_,?_,?_,?_,zo,E⟩
    ·simp only [sB.1,seval,ht,e1]
    ·simp only [sB.1,seval,ht,aa]
    ·simp only [sB.1,seval,ht,O]
    ·simp only [sB.1,seval,ht]
   | false=>
    rw [hb,jN] at E
    rw [hb] at M
    simp only [sB.1,qgs,seval,ht,e1,aa,O,a8,c1,w,hx,a1,ac,ad,a6,ae,I,aj,J,ai,ah,af,M,qdp,qcs,jY,jp] at he
    subst he
    refine .inr ⟨_,_,rfl,by simp,_,B ++ [.cells [.int .i64 K,.int .i64 N,.str S,Z]],rfl,Y0,.inr ⟨rfl,?_,E⟩⟩
    simp only [sB.1,seval,ht]
  ·have c1:ilt (i:Int) (l.length:Int) = false:=by rw [qe];simp;omega
   simp only [sB.1,qgs,seval,ht,O,a8,c1] at he
   subst he
   rw [List.drop_eq_nil_of_le hi] at E
   exact .inr ⟨_,_,rfl,by simp,_,B,rfl,Y0,.inl ⟨rfl,E⟩⟩
 generalize hw:Wd _ _ h = w
 rw [qm 126 qAp] at hw
 by_cases a7:1 <= l.length/\l.length <= 4
 ·have d1:ilt (l.length:Int) 1 = false:=by rw [qe];simp;omega
  have d2:ilt 4 (l.length:Int) = false:=by rw [qe];simp;omega
  simp only [sB.1,qAp,seval,I,J,ak,d1,d2] at hw
  generalize hr:qj h.length Wd (.loop qgs) _ = r at hw
  obtain ⟨x,U,rfl,tt,B,rfl,ht,⟨rfl,ha⟩ | ⟨rfl,e4,ha⟩⟩:=qaH hr (loop a7.2 l.length _ ⟨_,0,[],by rw [List.append_nil],Y1,Y1,by simp only [sB.1,seval,I],Y1,u4,zo,rfl⟩)
  ·simp only [sB.1,seval,ht] at hw
   rw [ha,decide_eq_true a7.1,decide_eq_true a7.2]
   exact hw.symm
  ·simp only [sB.1,seval,ht,e4] at hw
   rw [ha,Bool.and_false]
   exact hw.symm
 ·have d1:(ilt (l.length:Int) 1 || ilt 4 (l.length:Int)) = true:=by rw [qe,qe];simp;omega
  have d2:(decide (1 <= l.length) && decide (l.length <= 4)) = false:=by
   rw [Bool.and_eq_false_iff,decide_eq_false_iff_not,decide_eq_false_iff_not]
   omega
  simp only [sB.1,qAp,seval,I,J,ak,d1] at hw
  rw [d2,jN]
  exact hw.symm
theorem qvj:∀d,d <= 3->∀{H:Nat->Option qb} (v:Val),Rt H d v:=by
 have a3:∀x:Int,(x == 3) = true->((x == 0) = false/\(x == 1) = false/\(x == 2) = false):=λx h=>by
  simp only [beq_iff_eq,beq_eq_false_iff_ne] at *
  omega
 intro d
 induction d with
 | zero=>
  rintro _ H ⟨k,n,s,l⟩ cs g hv hg
  obtain ⟨L,rfl,hL⟩:=hv.lp
  obtain ⟨J,E,B,I⟩:=hL.facts
  have M:=λg=>q9 s g
  have c1:ilt 0 ((0:Nat):Int) = false:=Eq.trans rfl rfl
  rw [qr]
  unfold qfa
  rw [qm 106 qw7]
  cases h0:(k == 0) <;> cases h1:(k == 1) <;> cases h2:(k == 2) <;> cases h3:(k == 3) <;> simp only [sB.1,qw7,seval,-Int.reduceNatCast',J,E,B,I,h0,h1,h2,h3,M,c1,cond_true,cond_false,Bool.and_false,jN]
 | succ d ih=>
  rintro hd H ⟨k,n,s,l⟩ cs g hv hg
  obtain ⟨L,rfl,hL⟩:=hv.lp
  obtain ⟨J,E,B,I⟩:=hL.facts
  have M:=λg=>q9 s g
  have c1:ilt 0 ((d + 1:Nat):Int) = true:=by rw [qe];simp
  have hit:=quv (d:=d) zo hL (λx _=>ih zo x) (g ++ [.cells [.int .i64 k,.int .i64 n,.str s,L],.cells [.int .i64 (d + 1:Nat)]]) (hg.more _) (g.length + 1) (by simp) (by rw [qbb];rfl)
  rw [qr]
  unfold qfa
  rw [qm 106 qw7]
  cases h3:(k == 3) with
  | true=>
   obtain ⟨h0,h1,h2⟩:=a3 k h3
   cases hn:(n == 0) <;> cases hs:(s == []) <;> simp only [sB.1,qw7,seval,J,E,B,I,h0,h1,h2,h3,hn,hs,hit,c1,qq7,qjY,qbb,cond_true,cond_false,Bool.and_false,jN,jX]
  | false=>
   cases h0:(k == 0) <;> cases h1:(k == 1) <;> cases h2:(k == 2) <;> simp only [sB.1,qw7,seval,J,E,B,I,h0,h1,h2,h3,M,c1,cond_true,cond_false]
theorem qel {H:Nat->Option qb} {v:Val} {cs:List qa} (hv:At H v cs) (g:List qb) (hg:Cov H g):Wd (.fn 79 [] []) [.agg cs] g = some (.ret (.bool (qr 3 v)),g,false):=by
 have h:=qvj 3 zo v cs (g ++ [.cells cs]) hv (hg.more _)
 have c3:((3:Nat):Int) = 3:=xk
 rw [c3] at h
 generalize qr 3 v = b at *
 obtain ⟨k,n,s,l,L,rfl,rfl,I,E,B,J⟩:=hv.cells
 rw [qm 79 c79]
 simp only [sB.1,c79,seval,I,E,B,h]
def qei (a b:Int):Int:=if a < b then -1 else if b < a then 1 else 0
def orI (a b:Int):Int:=if a = 0 then b else a
abbrev qf5:Str->Str->Int:=Lib.compareBytes
mutual
def qf7:Val->Val->Int
 | .mk k n s l,.mk k' n' s' l'=>orI (qei k k') (orI (qei n n') (orI (qf5 s s') (qeY l l')))
def qeY:List Val->List Val->Int
 | [],[]=>0
 | [],_ :: _=>-1
 | _ :: _,[]=>1
 | a :: aS,b :: bs=>orI (qf7 a b) (qeY aS bs)
end
section
variable {g:List qb}
theorem qyL (a:Int):Wd (.fn 128 [] []) [.int .i64 a] g = some (.ret (.bool false),g,false):=by
 rw [qm 128 qCi]
 simp only [sB.1,qCi,seval,beq_self_eq_true]
theorem qoD (a b:Int):Wd (.fn 109 [] []) [.int .i64 a,.int .i64 b] g = some (.ret (.int .i64 (qei a b)),g,false):=by
 have h1:=λa=>qyL (g:=g) a
 rw [qm 109 qzT]
 unfold qei
 by_cases l1:a < b
 ·have c1:ilt a b = true:=by rw [qe];simpa using l1
  simp only [sB.1,qzT,seval,h1,c1,l1,if_true]
 ·have c1:ilt a b = false:=by rw [qe];simpa using l1
  by_cases l2:b < a
  ·have c2:ilt b a = true:=by rw [qe];simpa using l2
   simp only [sB.1,qzT,seval,h1,c1,c2,l1,l2,if_true,if_false]
  ·have c2:ilt b a = false:=by rw [qe];simpa using l2
   simp only [sB.1,qzT,seval,h1,c1,c2,l1,l2,if_false]
theorem qwE (a b:Str):Wd (.fn 140 [] []) [.str a,.str b] g = some (.ret (.int .i64 (qf5 a b)),g,false):=by
 rw [show Wd = W T.get X from rfl,qwy qsG (show X 140 = some qxc from rfl)]
 rfl
theorem qzy (a b:Str):Wd (.fn 110 [] []) [.str a,.str b] g = some (.ret (.int .i64 (qf5 a b)),g,false):=by
 have h1:=qwE (g:=g) a b
 have h2:Wd (.fn 129 [] []) [.str a,.str b] g = some (.ret (.int .i64 (qf5 a b)),g,false):=by
  rw [qm 129 qCj]
  simp only [sB.1,qCj,seval,h1]
 rw [qm 110 qCd]
 simp only [sB.1,qCd,seval,h2]
def qdr:List Int->Int
 | []=>0
 | x :: xs=>orI x (qdr xs)
theorem qjP {xs:List Int} {i:Nat} (hi:i < xs.length):qdr (xs.drop i) = orI xs[i] (qdr (xs.drop (i + 1))):=by
 rw [jV hi,qdr]
theorem qED (xs:List Int) (hx:xs.length <= 100) (h:List qb) (R:Nat) (hr:h[R]? = some (.cells (xs.map (qa.int .i64)))):Wd (.fn 108 [] []) [.sl R 0 xs.length xs.length 0] h = some (.ret (.int .i64 (qdr xs)),h,false):=by
 have loop:∀k st,(∃(tt:List qa) (i:Nat),st = ⟨tt,h,false⟩/\tt.length = 18/\lkp tt 3 = .int .i64 0/\lkp tt 6 = .sl R 0 xs.length xs.length 0/\lkp tt 7 = .int .i64 (xs.length:Nat)/\lkp tt 8 = .int .i64 (i:Nat)/\i + k = xs.length/\qdr xs = qdr (xs.drop i))->
   ∃x B,qj h.length Wd (.loop qgq) st = some (x,B)/\(∃tt:List qa,B = ⟨tt,h,false⟩/\tt.length = 18/\lkp tt 3 = .int .i64 0/\((x = .exit 0/\qdr xs = 0)\/(x = .ret/\lkp tt 2 = .int .i64 (qdr xs)))):=by
  refine qx _ _ ?_
  rintro k st ⟨tt,i,rfl,ht,e3,e6,e7,e8,O,hf⟩
  generalize he:qj h.length Wd qgq _ = r
  rcases Nat.lt_or_ge i xs.length with hi | hi
  ·have c1:ilt (i:Int) (xs.length:Int) = true:=by rw [qe];simp;omega
   have w:=qaf (n:=i) zo
   have I:qar 1 (.sl R 0 xs.length xs.length 0) (.int .i64 (i:Nat)) = some (.ptr R i):=by rw [qck hi,Nat.mul_one]
   have hc:(xs.map (qa.int .i64))[i]? = some (.int .i64 xs[i]):=by rw [jr,jh hi];rfl
   rw [qjP hi] at hf
   cases hz:(xs[i] == 0) with
   | true=>
    have E:xs[i] = 0:=by simpa using hz
    rw [E] at hf hc
    have z0:(((0:Int)) == 0) = true:=xk
    simp only [sB.1,qgq,seval,ht,e3,e6,e7,e8,c1,w,I,hr,hc,z0,qdp,qcs,jL] at he
    subst he
    refine .inl ⟨_,k - 1,rfl,zo,_,i + 1,rfl,Y0,?_,?_,?_,?_,zo,?_⟩
    ·simp only [sB.1,seval,ht,e3]
    ·simp only [sB.1,seval,ht,e6]
    ·simp only [sB.1,seval,ht,e7]
    ·simp only [sB.1,seval,ht]
    ·rw [hf];rfl
   | false=>
    have E:¬ xs[i] = 0:=by simpa using hz
    have M:qdr xs = xs[i]:=by rw [hf,orI,if_neg E]
    simp only [sB.1,qgq,seval,ht,e3,e6,e7,e8,c1,w,I,hr,hc,hz,qdp,qcs,jL] at he
    subst he
    refine .inr ⟨_,_,rfl,by simp,_,rfl,Y0,?_,.inr ⟨rfl,?_⟩⟩
    ·simp only [sB.1,seval,ht,e3]
    ·simp only [sB.1,seval,ht,M]
  ·have c1:ilt (i:Int) (xs.length:Int) = false:=by rw [qe];simp;omega
   simp only [sB.1,qgq,seval,ht,e3,e6,e7,e8,c1] at he
   subst he
   refine .inr ⟨_,_,rfl,by simp,_,rfl,Y0,?_,.inl ⟨rfl,?_⟩⟩
   ·simp only [sB.1,seval,ht,e3]
   ·rw [hf,List.drop_eq_nil_of_le zo];rfl
 generalize hw:Wd _ _ h = w
 rw [qm 108 qCc] at hw
 simp only [sB.1,qCc,seval,qcJ,qdp,qcs] at hw
 generalize J:qj h.length Wd (.loop qgq) _ = r at hw
 obtain ⟨x,B,rfl,tt,rfl,ht,e3,⟨rfl,hf⟩ | ⟨rfl,e2⟩⟩:=qaH J (loop xs.length _ ⟨_,0,rfl,Y1,Y1,Y1,Y1,u4,zo,rfl⟩)
 ·simp only [sB.1,seval,ht,e3] at hw
  rw [hf]
  exact hw.symm
 ·simp only [sB.1,seval,ht,e2] at hw
  exact hw.symm
end
def Ord (H:Nat->Option qb) (v:Val):Prop:=∀w cs ds g,(∃d,qr d w = true)->At H v cs->At H w ds->Cov H g->Wd (.fn 81 [] []) [.agg cs,.agg ds] g = some (.ret (.int .i64 (qf7 v w)),g,false)
theorem qig {l l':List Val} {i:Nat} (h1:i < l.length) (h2:i < l'.length):qeY (l.drop i) (l'.drop i) = orI (qf7 l[i] l'[i]) (qeY (l.drop (i + 1)) (l'.drop (i + 1))):=by
 rw [jV h1,jV h2,qeY]
theorem qs7 {l l':List Val} {i:Nat} (h:i = min l.length l'.length):qeY (l.drop i) (l'.drop i) = qei l.length l'.length:=by
 unfold qei
 rcases Nat.lt_trichotomy l.length l'.length with hl | hl | hl
 ·have e:l.drop i = []:=List.drop_eq_nil_of_le zo
  rw [e,jV (show i < l'.length by omega),qeY,if_pos zo]
 ·have e:l.drop i = []:=List.drop_eq_nil_of_le zo
  have e':l'.drop i = []:=List.drop_eq_nil_of_le zo
  rw [e,e',qeY,if_neg zo,if_neg zo]
 ·have e:l'.drop i = []:=List.drop_eq_nil_of_le zo
  rw [e,jV (show i < l.length by omega),qeY,if_neg zo,if_pos zo]
theorem qrk {H:Nat->Option qb} {l l':List Val} {L L':qa} (hl:l.length <= 100) (hL:LP H l L) (U:LP H l' L') (ho:∀x ∈ l,Ord H x) (ab:l'.length <= 100) (a7:∀x ∈ l',∃d,qr d x = true) (h:List qb) (hg:Cov H h) :
  Wd (.fn 111 [] []) [L,L',.fn 81 [] []] h = some (.ret (.int .i64 (qeY l l')),h,false):=by
 obtain ⟨d1,s1,w1,n1⟩:=hL.facts
 obtain ⟨d2,s2,w2,n2⟩:=U.facts
 have a1:(if ((l'.length:Nat):Int) < ((l.length:Nat):Int) then ((l'.length:Nat):Int) else ((l.length:Nat):Int)) = ((min l.length l'.length:Nat):Int):=by
  split <;> omega
 have loop:∀k st,(∃(tt:List qa) (i:Nat),st = ⟨tt,h,false⟩/\tt.length = 36/\lkp tt 0 = L/\lkp tt 1 = L'/\lkp tt 2 = .fn 81 [] []/\lkp tt 13 = .int .i64 (min l.length l'.length:Nat)/\lkp tt 14 = .int .i64 (i:Nat)/\i + k = min l.length l'.length/\qeY l l' = qeY (l.drop i) (l'.drop i))->
   ∃x E,qj h.length Wd (.loop qgr) st = some (x,E)/\(∃tt:List qa,E = ⟨tt,h,false⟩/\tt.length = 36/\lkp tt 0 = L/\lkp tt 1 = L'/\((x = .exit 0/\qeY l l' = qei l.length l'.length)\/(x = .ret/\lkp tt 6 = .int .i64 (qeY l l')))):=by
  refine qx _ _ ?_
  rintro k st ⟨tt,i,rfl,ht,e0,e1,e2,B,S,ac,hf⟩
  generalize he:qj h.length Wd qgr _ = r
  rcases Nat.lt_or_ge i (min l.length l'.length) with hi | hi
  ·have O:i < l.length:=zo
   have M:i < l'.length:=zo
   have c1:ilt (i:Int) ((min l.length l'.length:Nat):Int) = true:=by rw [qe];simp;omega
   have w:=qaf (n:=i) zo
   obtain ⟨pp,cs,x1,x2,_,x3,x4⟩:=hL.item O hg
   have x5:∀i t,qz pp i t = t:=λi t=>by rw [<-x2];exact qad _ _ _
   obtain ⟨qq,ad,y1,y2,_,y3,y4⟩:=U.item M hg
   have y5:∀i t,qz qq i t = t:=λi t=>by rw [<-y2];exact qad _ _ _
   have J:=ho _ (List.getElem_mem O) _ _ _ h (a7 _ (List.getElem_mem M)) x4 y4 hg
   rw [qig O M] at hf
   cases hz:(qf7 l[i] l'[i] == 0) with
   | true=>
    have I:qf7 l[i] l'[i] = 0:=by simpa using hz
    rw [I] at hf J
    have z0:(((0:Int)) == 0) = true:=xk
    simp only [sB.1,qgr,seval,ht,e0,e1,e2,B,S,c1,w,d1,d2,w1,w2,x1,x2,x3,x5,y1,y2,y3,y5,J,z0] at he
    subst he
    refine .inl ⟨_,k - 1,rfl,zo,_,i + 1,rfl,Y0,?_,?_,?_,?_,?_,zo,?_⟩
    ·simp only [sB.1,seval,ht,e0]
    ·simp only [sB.1,seval,ht,e1]
    ·simp only [sB.1,seval,ht,e2]
    ·simp only [sB.1,seval,ht,B]
    ·simp only [sB.1,seval,ht]
    ·rw [hf];rfl
   | false=>
    have I:¬ qf7 l[i] l'[i] = 0:=by simpa using hz
    have a8:qeY l l' = qf7 l[i] l'[i]:=by rw [hf,orI,if_neg I]
    simp only [sB.1,qgr,seval,ht,e0,e1,e2,B,S,c1,w,d1,d2,w1,w2,x1,x2,x3,x5,y1,y2,y3,y5,J,hz] at he
    subst he
    refine .inr ⟨_,_,rfl,by simp,_,rfl,Y0,?_,?_,.inr ⟨rfl,?_⟩⟩
    ·simp only [sB.1,seval,ht,e0]
    ·simp only [sB.1,seval,ht,e1]
    ·simp only [sB.1,seval,ht,a8]
  ·have c1:ilt (i:Int) ((min l.length l'.length:Nat):Int) = false:=by rw [qe];simp;omega
   simp only [sB.1,qgr,seval,ht,B,S,c1] at he
   subst he
   refine .inr ⟨_,_,rfl,by simp,_,rfl,Y0,?_,?_,.inl ⟨rfl,?_⟩⟩
   ·simp only [sB.1,seval,ht,e0]
   ·simp only [sB.1,seval,ht,e1]
   ·rw [hf,qs7 zo]
 have aa:=qoD (g:=h) (l.length:Nat) (l'.length:Nat)
 generalize hw:Wd _ _ h = w
 rw [qm 111 qCe] at hw
 simp only [sB.1,qCe,seval,d1,d2,w1,w2,n1,n2,a1] at hw
 generalize a6:qj h.length Wd (.loop qgr) _ = r at hw
 obtain ⟨x,E,rfl,tt,rfl,ht,e0,e1,⟨rfl,hf⟩ | ⟨rfl,e6⟩⟩:=qaH a6 (loop (min l.length l'.length) _ ⟨_,0,rfl,Y1,Y1,Y1,Y1,Y1,u4,zo,rfl⟩)
 ·simp only [sB.1,seval,ht,e0,e1,d1,d2,n1,n2,aa] at hw
  rw [hf]
  exact hw.symm
 ·simp only [sB.1,seval,ht,e6] at hw
  exact hw.symm
theorem qEp (base:Nat) (a b c d:Int) (h:List qb):hop base (.lit 1 [.int .i64 0] 4 [0,1,2,3]) [.int .i64 a,.int .i64 b,.int .i64 c,.int .i64 d] h = some (.sl h.length 0 4 4 0,h ++ [.cells [.int .i64 a,.int .i64 b,.int .i64 c,.int .i64 d]],false):=xk
theorem qEC (x:Int):orI x 0 = x:=by
 unfold orI
 split <;> omega
theorem or4 (a b c d:Int) (h:List qb) (R:Nat) (hr:h[R]? = some (.cells [.int .i64 a,.int .i64 b,.int .i64 c,.int .i64 d])):Wd (.fn 108 [] []) [.sl R 0 4 4 0] h = some (.ret (.int .i64 (orI a (orI b (orI c d)))),h,false):=by
 have:=qED [a,b,c,d] (by simp) h R hr
 simpa [qdr,qEC] using this
theorem qhU {H:Nat->Option qb} {k n:Int} {s:Str} {l:List Val} (hl:l.length <= 4) (ho:∀x ∈ l,Ord H x):Ord H (.mk k n s l):=by
 rintro ⟨k',n',s',l'⟩ cs ds g ⟨d,J⟩ hv E hg
 obtain ⟨M,hit⟩:=qfy J
 obtain ⟨L,rfl,hL⟩:=hv.lp
 obtain ⟨L',rfl,B⟩:=E.lp
 obtain ⟨d1,s1,w1,n1⟩:=hL.facts
 obtain ⟨d2,s2,w2,n2⟩:=B.facts
 have I:=qrk zo hL B ho zo hit (g ++ [.cells [.int .i64 k,.int .i64 n,.str s,L],.cells [.int .i64 k',.int .i64 n',.str s',L']]) (hg.more _)
 have h1:=λ(g:List qb) a b=>qoD (g:=g) a b
 have h2:=λ(g:List qb) a b=>qzy (g:=g) a b
 have h4:=or4 (qei k k') (qei n n') (qf5 s s') (qeY l l') (g ++ [.cells [.int .i64 k,.int .i64 n,.str s,L],.cells [.int .i64 k',.int .i64 n',.str s',L'],.cells [.int .i64 (qei k k'),.int .i64 (qei n n'),.int .i64 (qf5 s s'),.int .i64 (qeY l l')]]) (g.length + 2) (by rw [qbb];rfl)
 generalize hw:Wd _ _ g = w
 rw [qm 81 c81] at hw
 simp only [sA.1,c81,seval,d1,d2,s1,s2,w1,w2,h1,h2,I,qEp,h4] at hw
 subst hw
 rw [qf7]
theorem quY:∀d,∀{H:Nat->Option qb} {v:Val},qr d v = true->Ord H v:=by
 intro d
 induction d with
 | zero=>
  rintro H ⟨k,n,s,l⟩ h0
  have hl:=qaM h0
  subst hl
  exact qhU (by simp) λx hx=>by cases hx
 | succ d ih=>
  rintro H ⟨k,n,s,l⟩ h0
  rw [qr] at h0
  cases h3:(k == 3) with
  | true=>
   rw [h3,cond_true] at h0
   simp only [jk,decide_eq_true_eq,List.all_eq_true] at h0
   exact qhU h0.1.2.2 λx hx=>ih (h0.2 x hx)
  | false=>
   rw [h3,cond_false] at h0
   have hl:=qaM h0
   subst hl
   exact qhU (by simp) λx hx=>by cases hx
def qk3 (v w:Val):Int:=bif qr 3 v && qr 3 w then qf7 v w else 0
theorem qz4 {H:Nat->Option qb} {v w:Val} {cs ds:List qa} (hv:At H v cs) (hw:At H w ds) (g:List qb) (hg:Cov H g):Wd (.fn 56 [] []) [.agg cs,.agg ds] g = some (.ret (.int .i64 (qk3 v w)),g,false):=by
 have r1:=qel hv (g ++ [.cells cs,.cells ds]) (hg.more _)
 have r2:=qel hw (g ++ [.cells cs,.cells ds]) (hg.more _)
 have r3:=λ(h0:qr 3 v = true) (h1:qr 3 w = true)=>quY 3 h0 w cs ds (g ++ [.cells cs,.cells ds]) ⟨3,h1⟩ hv hw (hg.more _)
 unfold qk3
 generalize qf7 v w = z at *
 generalize qr 3 v = a at *
 generalize qr 3 w = b at *
 obtain ⟨k,n,s,l,L,rfl,rfl,O,M,J,_⟩:=hv.cells
 obtain ⟨k',n',s',l',L',rfl,rfl,I,E,B,_⟩:=hw.cells
 rw [qm 56 c56]
 cases a with
 | false=>simp only [sB.1,c56,seval,O,M,J,I,E,B,r1,cond_false,jN]
 | true=>
  cases b with
  | false=>simp only [sB.1,c56,seval,O,M,J,I,E,B,r1,r2,cond_false,Bool.and_false]
  | true=>
   have r3:=r3 rfl rfl
   simp only [sB.1,c56,seval,O,M,J,I,E,B,r1,r2,r3,cond_true,jx]
end Go.Proofs.YtnibchoenjmmjaaGreatDoor.AE
