/- A part of the proof: the abstract executor and what goes through it (part 15). No condition. -/
import Derived.Test.YtnibchoenjmmjaaGreatDoorMq14
import Derived.Test.YtnibchoenjmmjaaGreatDoorMq8
import Derived.Test.YtnibchoenjmmjaaGreatDoorMq10
set_option maxRecDepth 100000
set_option maxHeartbeats 0
namespace Go.Proofs.YtnibchoenjmmjaaGreatDoor.AE
open Go.AE
def evF (E:qcp) (ns:List Nd):Nat→Int→Res
 | 0,_=>qbk 1
 | f + 1,i=>match ns[i.toNat]? with
  | none=>qbk 1
  | some nd=>qcO E nd (evF E ns f)
def evT (E:qcp) (ns:List Nd):Int→Res:=evF E ns (ns.length + 1)
theorem qfk {ev ev':Int→Res} {k:List Val→Res}:∀{l:List Int} {vs:List Val},(∀j ∈ l,ev j = ev' j)→qcD ev k l vs = qcD ev' k l vs
 | [],_,_=>rfl
 | j :: js,vs,h=>by
  rw [qcD,qcD,h j (List.mem_cons_self ..),qfk fun x hx=>h x (List.mem_cons_of_mem _ hx)]
theorem qeM {E:qcp} {nd:Nd} {ev ev':Int→Res} (hs:Cho nd.op nd.ins∨qiI nd.op nd.ins.length) (h:∀j ∈ nd.ins,ev j = ev' j):qcO E nd ev = qcO E nd ev':=by
 rw [qcO,qcO]
 rcases hs with hc | ha
 ·rw [hc.chB,cond_true,cond_true,qdy,qdy,h _ hc.head]
  have hm:=qcy hc (ev' (nd.ins.getD 0 0))
  rcases hm with e | e
  ·rw [e]
   have:ilt (-1) 0 = true:=by kernel_rfl
   rw [this]
   rfl
  ·rw [h _ e]
 ·rw [ha.chB,cond_false,cond_false]
  exact qfk h
theorem qsM {E:qcp} {ns:List Nd} (hs:∀i (hi:i < ns.length),qkX ns[i] i):∀(i:Nat),i < ns.length→∀f f',i < f→i < f'→evF E ns f i = evF E ns f' i:=by
 intro i
 induction i using Nat.strongRecOn with
 | _ i ih=>
  intro hi f f' h1 h2
  obtain ⟨a,rfl⟩ :∃a,f = a + 1:=⟨f - 1,by omega⟩
  obtain ⟨b,rfl⟩ :∃b,f' = b + 1:=⟨f' - 1,by omega⟩
  have e:ns[((i:Nat):Int).toNat]? = some ns[i]:=by rw [Int.toNat_natCast];exact List.getElem?_eq_getElem hi
  rw [evF,evF,e]
  simp only
  obtain ⟨cq1,cq2⟩:=hs i hi
  refine qeM cq1 fun j hj=>?_
  have hj2:=cq2 j hj
  obtain ⟨j',rfl⟩ :∃j':Nat,j = (j':Int):=⟨j.toNat,by omega⟩
  exact ih j' (by omega) (by omega) a b (by omega) (by omega)
theorem qzd {E:qcp} {ns:List Nd} (hs:∀i (hi:i < ns.length),qkX ns[i] i) {i:Nat} (hi:i < ns.length):evT E ns i = qcO E ns[i] (evT E ns):=by
 have e:ns[((i:Nat):Int).toNat]? = some ns[i]:=by rw [Int.toNat_natCast];exact List.getElem?_eq_getElem hi
 rw [evT,evF,e]
 simp only
 obtain ⟨cq1,cq2⟩:=hs i hi
 refine qeM cq1 fun j hj=>?_
 have hj2:=cq2 j hj
 obtain ⟨j',rfl⟩ :∃j':Nat,j = (j':Int):=⟨j.toNat,by omega⟩
 exact qsM hs j' (by omega) _ _ (by omega) (by omega)
mutual
def okV:Val→Prop
 | .mk _ n _ l=>I64 n∧qjF l
def qjF:List Val→Prop
 | []=>True
 | v :: l=>okV v∧qjF l
end
theorem qfc:∀{l:List Val},qjF l↔∀v ∈ l,okV v
 | []=>by simp [qjF]
 | v :: l=>by rw [qjF,qfc];simp
theorem qfP {v:Val} (h:okV v):I64 (qeX v):=by
 obtain ⟨k,n,s,l⟩:=v
 rw [okV] at h
 exact h.1
theorem qgK:I64 0:=⟨by omega,by omega⟩
theorem qAZ:I64 1:=⟨by omega,by omega⟩
def OkR (r:Res):Prop:=okV r.1∧(r.2 = 0→qE 3 r.1 = true)
theorem OkR.wrong {e:Int} (h:e ≠ 0):OkR (qbk e):=⟨by simp [qbk,qc0,okV,qjF,qgK],fun h'=>absurd h' h⟩
theorem qdf (n:Int):∀d,qE d (.mk 0 n [] []) = true
 | 0=>rfl
 | d + 1=>rfl
theorem OkR.whole {n:Int} (h:I64 n):OkR (qgG n):=⟨by simp [qgG,okV,qjF,h],fun _=>qdf n 3⟩
theorem OkR.truth (b:Bool):OkR (qdv b):=by
 cases b
 ·exact ⟨by simp [qdv,okV,qjF,qgK],fun _=>rfl⟩
 ·exact ⟨by simp [qdv,okV,qjF,qAZ],fun _=>rfl⟩
theorem OkR.checked {v:Val} (h:okV v):OkR (qa6 v):=by
 rw [qa6]
 cases hr:qE 3 v with
 | true=>exact ⟨h,fun _=>hr⟩
 | false=>exact OkR.wrong (by decide)
theorem qil:∀{d:Nat} {v:Val},qE d v = true→qE (d + 1) v = true
 | 0,.mk k n s l,h=>by
  rw [qE] at h
  rw [qE]
  cases h3:(k == 3) with
  | true=>
   have:k = 3:=by simpa using h3
   subst this
   simp [qgf] at h
  | false=>rw [cond_false];exact h
 | d + 1,.mk k n s l,h=>by
  rw [qE] at h
  rw [qE]
  cases h3:(k == 3) with
  | true=>
   rw [h3,cond_true] at h
   rw [cond_true]
   simp only [Bool.and_eq_true,List.all_eq_true] at h ⊢
   exact ⟨h.1,fun x hx=>qil (h.2 x hx)⟩
  | false=>
   rw [h3,cond_false] at h
   rw [cond_false]
   exact h
structure qgH (E:qcp):Prop extends qvf E where
 vr:∀v ∈ E.vals,okV v
 br:∀l ∈ E.bag,∀v ∈ l,okV v
 or:∀x ∈ E.oth,okV x.2.2
 er:I64 E.en∧I64 E.ed
theorem qsT (r:Int):I64 (qqd r):=by
 rw [qqd]
 cases h:qiK r with
 | true=>exact qaY.1 h
 | false=>exact qgK
theorem qDk {l:List Val}:OkR (qAr l):=by
 rw [qAr]
 cases l.all isI with
 | false=>exact OkR.wrong (by decide)
 | true=>
  rw [cond_true]
  cases h:qiK (qiv (l.map qeX)) with
  | true=>exact OkR.whole (qaY.1 h)
  | false=>exact OkR.wrong (by decide)
theorem quG {op a b:Int} (ha:I64 a) (hb:I64 b):OkR (.mk 0 (qdS op a b).1 [] [],(qdS op a b).2):=by
 have f:∀r,OkR (.mk 0 (qqd r) [] [],qtN r):=fun r=>⟨by simp [okV,qjF,qsT],fun _=>qdf _ 3⟩
 have z:∀e,OkR (.mk 0 0 [] [],e):=fun e=>⟨by simp [okV,qjF,qgK],fun _=>qdf _ 3⟩
 have tm:I64 (a.tmod b):=by
  have h1:(a.tmod b).natAbs ≤ a.natAbs:=by rw [Int.natAbs_tmod];exact Nat.mod_le _ _
  have h2:0 ≤ a→0 ≤ a.tmod b:=fun h=>Int.tmod_nonneg _ h
  have h3:a ≤ 0→a.tmod b ≤ 0:=fun h=>by
   have:=Int.tmod_nonneg b (show 0 ≤ -a by omega)
   rw [Int.neg_tmod] at this
   omega
  obtain ⟨p,q⟩:=ha
  constructor <;> omega
 unfold qdS
 by_cases h1:op = 15
 ·rw [if_pos h1];exact f _
 ·rw [if_neg h1]
  by_cases h2:op = 16
  ·rw [if_pos h2];exact f _
  ·rw [if_neg h2]
   by_cases h3:op = 17
   ·rw [if_pos h3];exact f _
   ·rw [if_neg h3]
    by_cases h4:b = 0
    ·rw [if_pos h4];exact z _
    ·rw [if_neg h4]
     by_cases h5:op = 18
     ·rw [if_pos h5];exact f _
     ·rw [if_neg h5]
      exact ⟨by simp [okV,qjF,tm],fun _=>qdf _ 3⟩
theorem qyq:okV qc0∧qE 3 qc0 = true:=⟨by simp [qc0,okV,qjF,qgK],rfl⟩
theorem qAs {op:Int} {vs:List Val} (h:∀v ∈ vs,okV v):OkR (qjX op vs):=by
 unfold qjX
 split
 ·rename_i v
  have hv:=h v (by simp)
  cases isI v
  ·exact OkR.wrong (by decide)
  ·exact quG qgK (qfP hv)
 ·rename_i v w
  have hv:=h v (by simp)
  have hw:=h w (by simp)
  cases isI v && isI w
  ·exact OkR.wrong (by decide)
  ·exact quG (qfP hv) (qfP hw)
 ·exact OkR.wrong (by decide)
theorem qe8 {α:Type} {l:List α} {i:Int} {x:α} (h:qkq l i = some x):x ∈ l:=by
 rcases qc7 h with ⟨e,_⟩ | ⟨j,hj,e,_⟩
 ·cases e
 ·cases e
  exact List.getElem_mem hj
theorem qzx {n:Int} {v:Val} (h:okV v) (hr:qE 3 v = true):OkR (qpn n v):=by
 obtain ⟨k,m,s,l⟩:=v
 rw [qpn]
 cases h3:(k == 3) with
 | false=>exact OkR.wrong (by decide)
 | true=>
  rw [Bool.not_true,cond_false]
  cases hx:qkq l n with
  | none=>exact OkR.wrong (by decide)
  | some x=>
   have hm:=qe8 hx
   rw [okV] at h
   refine ⟨qfc.1 h.2 x hm,fun _=>?_⟩
   rw [qE,h3,cond_true] at hr
   simp only [Bool.and_eq_true,List.all_eq_true] at hr
   exact qil (hr.2 x hm)
theorem qDl {E:qcp} (hE:qgH E) (op:Int) (nm sb:Str) (pl:Int):OkR (qyE E op nm sb pl):=by
 rw [qyE]
 cases op == 4 with
 | true=>
  rw [cond_true]
  cases hx:qkq E.vals pl with
  | none=>exact OkR.wrong (by decide)
  | some v=>exact OkR.checked (hE.vr v (qe8 hx))
 | false=>
  rw [cond_false]
  cases hx:E.oth.find? (fun x=>x.1 == nm && x.2.1 == sb) with
  | none=>exact OkR.wrong (by decide)
  | some x=>exact OkR.checked (hE.or x (List.mem_of_find?_eq_some hx))
theorem qBb {E:qcp} (hE:qgH E) (pl:Int):(qhk E pl).length ≤ 200∧∀v ∈ qhk E pl,okV v:=by
 rw [qhk]
 cases hx:qkq E.bag pl with
 | none=>simp
 | some l=>exact ⟨(hE.bs l (qe8 hx)).1,hE.br l (qe8 hx)⟩
theorem qAl {E:qcp} (hE:qgH E) (op pl:Int) {vs:List Val} (h:∀v ∈ vs,okV v∧qE 3 v = true):OkR (qqB E op pl vs):=by
 obtain ⟨h1,h2⟩:=qBb hE pl
 unfold qqB
 generalize qhk E pl = l at *
 cases op == 7 with
 | true=>exact OkR.whole ⟨by omega,by omega⟩
 | false=>
  cases op == 8 with
  | true=>exact OkR.truth _
  | false=>
   cases op == 9 with
   | true=>exact qDk
   | false=>
    rw [cond_false,cond_false,cond_false]
    cases l with
    | cons v l=>exact OkR.checked (h2 v (by simp))
    | nil=>
     cases vs with
     | nil=>exact OkR.wrong (by decide)
     | cons v vs=>exact ⟨(h v (by simp)).1,fun _=>(h v (by simp)).2⟩
theorem qz6 {E:qcp} (hE:qgH E) {nd:Nd} (hn:I64 nd.n) {vs:List Val} (h:∀v ∈ vs,okV v∧qE 3 v = true):OkR (qgj E nd vs):=by
 have hg:∀i,okV (vs.getD i qc0)∧qE 3 (vs.getD i qc0) = true:=fun i=>by
  rw [List.getD_eq_getElem?_getD]
  cases hx:vs[i]? with
  | none=>exact qyq
  | some v=>exact h v (List.mem_of_getElem? hx)
 unfold qgj
 cases nd.op == 0 with
 | true=>exact OkR.whole hn
 | false=>
  cases nd.op == 1 || nd.op == 2 with
  | true=>exact OkR.truth _
  | false=>
   cases nd.op == 3 with
   | true=>exact OkR.checked (by simp [okV,qjF,qgK])
   | false=>
    cases nd.op == 4 || nd.op == 5 with
    | true=>exact qDl hE _ _ _ _
    | false=>
     cases nd.op == 11 with
     | true=>exact ⟨by simp [okV,qjF,qgK,hE.er.1,hE.er.2],fun _=>rfl⟩
     | false=>
      cases nd.op == 7 || nd.op == 8 || nd.op == 9 || nd.op == 10 with
      | true=>exact qAl hE _ _ h
      | false=>
       cases nd.op == 6 with
       | true=>exact OkR.checked (by rw [okV,qfc];exact ⟨qgK,fun v hv=>(h v hv).1⟩)
       | false=>
        cases nd.op == 12 with
        | true=>exact qzx (hg 0).1 (hg 0).2
        | false=>
         cases nd.op == 20 with
         | true=>exact OkR.truth _
         | false=>
          cases nd.op == 21 with
          | true=>exact OkR.truth _
          | false=>
           cases nd.op == 22 with
           | true=>exact OkR.truth _
           | false=>
            cases nd.op == 14 with
            | true=>
             rw [cond_true]
             generalize vs.getD 0 qc0 = v
             obtain ⟨k,n,s,l⟩:=v
             simp only [cond_false,qyD]
             cases k == 1
             ·exact OkR.wrong (by decide)
             ·exact OkR.truth _
            | false=>exact qAs fun v hv=>(h v hv).1
theorem quC {E:qcp} (hE:qgH E) {nd:Nd} (hn:I64 nd.n) {ev:Int→Res} (he:∀j,OkR (ev j)):∀{l:List Int} {vs:List Val},(∀v ∈ vs,okV v∧qE 3 v = true)→OkR (qcD ev (qgj E nd) l vs)
 | [],vs,h=>by rw [qcD];exact qz6 hE hn h
 | j :: js,vs,h=>by
  rw [qcD]
  cases hz:(ev j).2 == 0 with
  | false=>exact he j
  | true=>
   rw [Bool.not_true,cond_false]
   refine quC hE hn he fun v hv=>?_
   rcases List.mem_append.1 hv with hv | hv
   ·exact h v hv
   ·rw [List.mem_singleton.1 hv]
    exact ⟨(he j).1,(he j).2 (by simpa using hz)⟩
theorem qvU {E:qcp} (hE:qgH E) {nd:Nd} (hn:I64 nd.n) {ev:Int→Res} (he:∀j,OkR (ev j)):OkR (qcO E nd ev):=by
 rw [qcO]
 cases qrC nd.op with
 | false=>exact quC hE hn he fun v hv=>by cases hv
 | true=>
  rw [cond_true]
  unfold qdy
  dsimp only
  cases !((ev (nd.ins.getD 0 0)).2 == 0) with
  | true=>exact he _
  | false=>
   cases !(qhY (ev (nd.ins.getD 0 0)).1 == 1) with
   | true=>exact OkR.wrong (by decide)
   | false=>
    cases ilt (qaz nd.op nd.ins (ev (nd.ins.getD 0 0))) 0 with
    | true=>exact he _
    | false=>
     simp only [cond_false]
     generalize qaz nd.op nd.ins (ev (nd.ins.getD 0 0)) = c
     cases ((ev c).2 == 0 && !(nd.op == 25)) && !(qhY (ev c).1 == 1) with
     | true=>exact OkR.wrong (by decide)
     | false=>exact he _
theorem qsN {E:qcp} (hE:qgH E) {ns:List Nd} (hn:∀nd ∈ ns,I64 nd.n):∀f i,OkR (evF E ns f i)
 | 0,i=>by rw [evF];exact OkR.wrong (by decide)
 | f + 1,i=>by
  rw [evF]
  cases hx:ns[i.toNat]? with
  | none=>exact OkR.wrong (by decide)
  | some nd=>exact qvU hE (hn nd (List.mem_of_getElem? hx)) (qsN hE hn f)
def qiA (dn:Int→Bool) (N:Nat):Nat:=(List.range N).countP fun i=>!(dn (i:Nat))
theorem qhE {α:Type} {p q:α→Bool}:∀{l:List α},(∀x ∈ l,p x = true→q x = true)→(∃x ∈ l,q x = true∧p x = false)→l.countP p < l.countP q
 | [],_,h=>by obtain ⟨x,hx,_⟩:=h;cases hx
 | a :: l,h1,h2=>by
  rw [List.countP_cons,List.countP_cons]
  have h3:l.countP p ≤ l.countP q:=List.countP_mono_left fun x hx=>h1 x (List.mem_cons_of_mem _ hx)
  obtain ⟨x,hx,hq,hp⟩:=h2
  rcases List.mem_cons.1 hx with rfl | hx
  ·rw [hp,hq]
   simp
   omega
  ·have h4:=qhE (fun x hx=>h1 x (List.mem_cons_of_mem _ hx)) ⟨x,hx,hq,hp⟩
   have h5:=h1 a (List.mem_cons_self ..)
   cases hpa:p a with
   | true=>rw [h5 hpa];simp;omega
   | false=>simp;split <;> omega
theorem qru {dn:Int→Bool} {N i:Nat} (hi:i < N) (h:dn (i:Nat) = false):qiA (fun j=>j == (i:Int) || dn j) N < qiA dn N:=by
 refine qhE (fun x _ hx=>?_) ⟨i,List.mem_range.2 hi,by simp [h],by simp⟩
 simp only [Bool.not_eq_true',Bool.or_eq_false_iff] at hx ⊢
 exact hx.2
def qer (H:Nat→Option qb) (G:List qb) (b D:Nat) (xs:List Nat) (V:qa):Prop:=∃id cap m cs,V = .sl id 0 xs.length cap m∧(m = 0∨m = 1)∧G[id]? = some (.cells cs)∧cs.length = cap∧cs.take xs.length = xs.map (fun i=>cI (i:Nat))∧H id = none∧id ≠ D∧b ≤ id
theorem qva:∀{l:List Nat} {N:Nat},l.Pairwise (fun a b=>b < a)→(∀x ∈ l,x < N)→l.length ≤ N
 | [],_,_,_=>Nat.zero_le _
 | a :: l,N,h,hb=>by
  obtain ⟨h1,h2⟩:=List.pairwise_cons.1 h
  have h3:=qva h2 h1
  have h4:=hb a (List.mem_cons_self ..)
  simp
  omega
theorem qtJ {op:Int} {ins:List Int} {dn:Int→Bool} {ev:Int→Res} {i:Nat} (hs:Cho op ins∨qiI op ins.length) (hin:∀j ∈ ins,0 ≤ j∧j < (i:Int)):qcA op ins dn ev = -1∨(∃j:Nat,qcA op ins dn ev = (j:Int)∧j < i∧dn (j:Nat) = false):=by
 have key:∀x,x ∈ ins→dn x = false→∃j:Nat,x = (j:Int)∧j < i∧dn (j:Nat) = false:=fun x hx hd=>by
  have:=hin x hx
  exact ⟨x.toNat,by omega,by omega,by rw [Int.toNat_of_nonneg this.1];exact hd⟩
 rw [qcA]
 rcases hs with hc | ha
 ·rw [hc.chB,cond_true]
  cases cq0:dn (ins.getD 0 0) with
  | false=>exact .inr (key _ hc.head cq0)
  | true=>
   rw [Bool.not_true,cond_false]
   have hm:=qcy hc (ev (ins.getD 0 0))
   generalize qaz op ins (ev (ins.getD 0 0)) = c at *
   cases cq1:ile 0 c && !(dn c) with
   | false=>exact .inl rfl
   | true=>
    rw [Bool.and_eq_true] at cq1
    rcases hm with rfl | hm
    ·have:ile 0 (-1) = false:=by kernel_rfl
     rw [this] at cq1
     cases cq1.1
    ·exact .inr (key _ hm (by simpa using cq1.2))
 ·rw [ha.chB,cond_false]
  have:∀l:List Int,(∀x ∈ l,x ∈ ins)→qbT dn ev l = -1∨(∃j:Nat,qbT dn ev l = (j:Int)∧j < i∧dn (j:Nat) = false):=by
   intro l
   induction l with
   | nil=>exact fun _=>.inl rfl
   | cons x l ih=>
    intro h
    rw [qbT]
    cases cq0:dn x with
    | false=>exact .inr (key x (h x (List.mem_cons_self ..)) cq0)
    | true=>
     rw [Bool.not_true,cond_false]
     cases (ev x).2 == 0 with
     | false=>exact .inl rfl
     | true=>exact ih fun y hy=>h y (List.mem_cons_of_mem _ hy)
  exact this ins fun _ h=>h
section
variable {g:List qb} {H:Nat→Option qb}
theorem qer.push {b D:Nat} {xs:List Nat} {V:qa} {G:List qb} (h:qer H G b D xs V) (hc:Cov H G) (hl:xs.length ≤ 100000) (hb:b ≤ G.length) (hD:D < G.length) (j:Nat) {base:Nat} (hbase:base ≤ b) :
  ∃V' G',hop base (.app 1) [V,.sl G.length 0 1 1 0] (G ++ [.cells [.int .i64 (j:Nat)]]) = some (V',G',false)∧qer H G' b D (xs ++ [j]) V'∧Cov H G'∧G.length ≤ G'.length∧V'.dim = V'∧(∀i t,qx V' i t = t)∧∀i,i < G.length→(∀id cap m,V = .sl id 0 xs.length cap m→i ≠ id)→G'[i]? = G[i]?:=by
 obtain ⟨id,cap,m,cs,rfl,hm,h1,h2,h3,h4,h5,h6⟩:=h
 have hlt:id < G.length:=(List.getElem?_eq_some_iff.1 h1).1
 have hcl:xs.length ≤ cs.length:=by
  have:=congrArg List.length h3
  simp at this
  omega
 obtain ⟨G1,hG1⟩ :∃G1,G1 = G ++ [qb.cells [.int .i64 (j:Nat)]]:=⟨_,rfl⟩
 have hG1l:G1.length = G.length + 1:=by rw [hG1];simp
 have g1:G1[id]? = some (.cells cs):=by rw [hG1,List.getElem?_append_left hlt];exact h1
 have g2:G1[G.length]? = some (.cells [.int .i64 (j:Nat)]):=by rw [hG1,qQ];rfl
 have hc1:Cov H G1:=by rw [hG1];exact hc.more _
 have old:∀i,i < G.length→G1[i]? = G[i]?:=fun i hi=>by rw [hG1,List.getElem?_append_left hi]
 have hr:qdk 1 G1 (.sl G.length 0 1 1 0) = some ([.int .i64 (j:Nat)],1):=by
  simp [qdk,g2,qa.dim]
 have hst:[qa.int .i64 (j:Nat)].all qa.storable = true:=rfl
 rw [←hG1]
 have hlim:xs.length + 1 ≤ qcE:=by simp only [qcE];omega
 have hop1:hop base (.app 1) [.sl id 0 xs.length cap m,.sl G.length 0 1 1 0] G1 = qeU base 1 (.sl id 0 xs.length cap m) (.sl G.length 0 1 1 0) G1:=rfl
 rw [hop1,qeU,hr]
 simp only [hst,Bool.not_true,if_false,Bool.false_eq_true,Nat.succ_ne_zero]
 rw [if_pos hlim]
 by_cases hn:xs.length + 1 ≤ cap
 ·rw [if_pos hn,qed,g1]
  simp only
  rw [if_pos ⟨by simp;omega,hst⟩]
  have hy:young base id [qa.int .i64 (j:Nat)] = false:=by
   rw [young,qi (by omega)]
   rfl
  refine ⟨_,_,by rw [hy],⟨id,cap,m,splice cs (0 + xs.length * 1) [.int .i64 (j:Nat)],by simp,hm,by rw [List.getElem?_set_self (by omega)],?_,?_,h4,h5,h6⟩,hc1.set h4 _,by simp;omega,rfl,fun _ _=>rfl,fun i hi hne=>?_⟩
  ·simp [splice];omega
  ·have e:(xs ++ [j]).map (fun i=>cI (i:Nat)) = xs.map (fun i=>cI (i:Nat)) ++ [.int .i64 (j:Nat)]:=by simp [cI]
   rw [e,←h3]
   simp only [splice,Nat.zero_add,Nat.mul_one,List.length_append,List.length_singleton]
   rw [List.take_append_of_le_length (by simp;omega)]
   rw [List.take_of_length_le (by simp;omega)]
  ·rw [List.getElem?_set_ne (by have:=hne id cap m rfl;omega)]
   exact old i hi
 ·rw [if_neg hn]
  have hcap:cs.length = xs.length:=by omega
  have hrow:qdk 1 G1 (.sl id 0 xs.length cap m) = some (xs.map (fun i=>cI (i:Nat)),xs.length):=by
   have hd:(xs.map (fun i=>cI (i:Nat))).map qa.dim = xs.map (fun i=>cI (i:Nat)):=qdd fun c hc'=>by
    obtain ⟨x,_,rfl⟩:=List.mem_map.1 hc'
    rfl
   simp only [qdk,g1,Nat.mul_one,Nat.zero_add,List.drop_zero,h3,hd]
   rw [if_pos hcl]
  rw [hrow,g1]
  simp only
  have e:(xs ++ [j]).map (fun i=>cI (i:Nat)) = xs.map (fun i=>cI (i:Nat)) ++ [.int .i64 (j:Nat)]:=by simp [cI]
  have fin:∀(G2:List qb),G2.length = G1.length→Cov H G2→qer H (G2 ++ [.cells (xs.map (fun i=>cI (i:Nat)) ++ [.int .i64 (j:Nat)])]) b D (xs ++ [j]) (.sl G1.length 0 (xs.length + 1) (xs.length + 1) 1):=fun G2 hl2 hcv=>by
   refine ⟨G1.length,xs.length + 1,1,_,by simp,.inr rfl,by rw [←hl2,qQ];rfl,by simp,?_,hc1.late (by omega),by omega,by omega⟩
   rw [e]
   exact List.take_of_length_le (by simp)
  rcases hm with rfl | rfl
  ·rw [if_pos rfl]
   exact ⟨_,_,rfl,fin G1 rfl hc1,hc1.more _,by simp;omega,rfl,fun _ _=>rfl,fun i hi _=>by rw [List.getElem?_append_left (by omega)];exact old i hi⟩
  ·rw [if_neg (by omega),if_pos ⟨trivial,rfl,by omega⟩]
   have hc2:=hc1.set h4 .dead
   refine ⟨_,_,rfl,fin (G1.set id .dead) (by simp) hc2,hc2.more _,by simp;omega,rfl,fun _ _=>rfl,fun i hi hne=>?_⟩
   rw [List.getElem?_append_left (by simp;omega),List.getElem?_set_ne (by have:=hne id cap 1 rfl;omega)]
   exact old i hi
theorem qer.top {b D:Nat} {xs:List Nat} {i:Nat} {V:qa} {G:List qb} (h:qer H G b D (xs ++ [i]) V):∃id cap m cs,V = .sl id 0 (xs.length + 1) cap m∧id < G.length∧G[id]? = some (.cells cs)∧cs[xs.length]? = some (cI (i:Nat))∧qer H G b D xs (.sl id 0 xs.length cap m)∧id ≠ D∧xs.length + 1 ≤ cap:=by
 obtain ⟨id,cap,m,cs,rfl,hm,h1,h2,h3,h4,h5,h6⟩:=h
 have hl:(xs ++ [i]).length = xs.length + 1:=by simp
 have hcl:xs.length + 1 ≤ cs.length:=by
  have:=congrArg List.length h3
  simp at this
  omega
 have e:(xs ++ [i]).map (fun i=>cI (i:Nat)) = xs.map (fun i=>cI (i:Nat)) ++ [cI (i:Nat)]:=by simp
 rw [e,hl] at h3
 refine ⟨id,cap,m,cs,by rw [hl],(List.getElem?_eq_some_iff.1 h1).1,h1,?_,⟨id,cap,m,cs,rfl,hm,h1,h2,?_,h4,h5,h6⟩,h5,by omega⟩
 ·have:=congrArg (fun l=>l[xs.length]?) h3
  rw [List.getElem?_take,if_pos (by omega)] at this
  rw [this,List.getElem?_append_right (by simp)]
  simp
 ·have e2:cs.take xs.length = (cs.take (xs.length + 1)).take xs.length:=by rw [List.take_take,Nat.min_eq_left (by omega)]
  have e3:(xs.map (fun i=>cI (i:Nat)) ++ [cI (i:Nat)]).take xs.length = xs.map (fun i=>cI (i:Nat)):=by
   rw [List.take_append_of_le_length (by simp)]
   exact List.take_of_length_le (by simp)
  rw [e2,h3,e3]
theorem qer.keep {H':Nat→Option qb} {b D:Nat} {xs:List Nat} {V:qa} {G G':List qb} (h:qer H G b D xs V) (hg:∀i,i < G.length→i ≠ D→G'[i]? = G[i]?) (hn:∀i,i < G.length→H i = none→H' i = none):qer H' G' b D xs V:=by
 obtain ⟨id,cap,m,cs,rfl,hm,h1,h2,h3,h4,h5,h6⟩:=h
 have hlt:=(List.getElem?_eq_some_iff.1 h1).1
 exact ⟨id,cap,m,cs,rfl,hm,by rw [hg id hlt h5];exact h1,h2,h3,hn id hlt h4,h5,h6⟩
structure Lo (H:Nat→Option qb) (h:List qb) (R D N:Nat) (rc:List qa) (ev:Int→Res) (H':Nat→Option qb) (G:List qb) (dn:Int→Bool) (xs:List Nat) (V:qa):Prop where
 sub:Sub H H'
 cov:Cov H' G
 old:∀i,i < h.length→G[i]? = h[i]?
 bse:h.length + 4 ≤ G.length
 res:G[h.length + 1]? = some (.cells qen)
 run:H' R = some (.cells rc)
 don:qbE H' G D N dn ev
 stk:qer H' G (h.length + 4) D xs V
 dno:H' D = none
 dlo:h.length + 3 ≤ D
 dec:xs.Pairwise (fun a b=>b < a)
 und:∀x ∈ xs,x < N∧dn (x:Nat) = false
 lst:dn ((N - 1:Nat):Int) = true∨(N - 1) ∈ xs
theorem Lo.top {h:List qb} {R D N:Nat} {rc:List qa} {ev:Int→Res} {H':Nat→Option qb} {G:List qb} {dn:Int→Bool} {xs:List Nat} {i:Nat} {V:qa} (L:Lo H h R D N rc ev H' G dn (xs ++ [i]) V):i < N∧dn (i:Nat) = false:=L.und i (by simp)
theorem Lo.push {h:List qb} {R D N:Nat} {rc:List qa} {ev:Int→Res} {H':Nat→Option qb} {G G':List qb} {dn:Int→Bool} {xs:List Nat} {i j:Nat} {V V':qa} (L:Lo H h R D N rc ev H' G dn (xs ++ [i]) V) (hj:j < i) (hd:dn (j:Nat) = false)
  (h1:qer H' G' (h.length + 4) D (xs ++ [i] ++ [j]) V') (h2:Cov H' G') (h3:G.length ≤ G'.length) (h4:∀k,k < G.length→(∀id cap m,V = .sl id 0 (xs ++ [i]).length cap m→k ≠ id)→G'[k]? = G[k]?):Lo H h R D N rc ev H' G' dn (xs ++ [i] ++ [j]) V':=by
 have hb:=L.bse
 have hnot:∀k,k < h.length + 4∨k = D→∀id cap m,V = .sl id 0 (xs ++ [i]).length cap m→k ≠ id:=fun k hk id cap m e=>by
  obtain ⟨id',cap',m',cs,e',_,_,_,_,_,h5,h6⟩:=L.stk
  rw [e'] at e
  cases e
  rcases hk with hk | rfl
  ·omega
  ·exact fun h=>h5 h.symm
 have hdl:D < G.length:=by obtain ⟨_,h,_⟩:=L.don;exact h
 have hi:=L.top
 refine ⟨L.sub,h2,fun k hk=>by rw [h4 k (by omega) (hnot k (.inl (by omega)))];exact L.old k hk,by omega,by rw [h4 _ (by omega) (hnot _ (.inl (by omega)))];exact L.res,L.run,?_,h1,L.dno,L.dlo,?_,?_,?_⟩
 ·obtain ⟨ds,d0,d1,d2,d3⟩:=L.don
  exact ⟨ds,by omega,by rw [h4 D hdl (hnot D (.inr rfl))];exact d1,d2,d3⟩
 ·rw [List.pairwise_append]
  refine ⟨L.dec,by simp,fun a ha b hb'=>?_⟩
  rw [List.mem_singleton.1 hb']
  rcases List.mem_append.1 ha with ha | ha
  ·have:=(List.pairwise_append.1 L.dec).2.2 a ha i (by simp)
   omega
  ·rw [List.mem_singleton.1 ha]
   exact hj
 ·intro x hx
  rcases List.mem_append.1 hx with hx | hx
  ·exact L.und x hx
  ·rw [List.mem_singleton.1 hx]
   exact ⟨by omega,hd⟩
 ·rcases L.lst with h | h
  ·exact .inl h
  ·exact .inr (List.mem_append_left _ h)
theorem Lo.done {h:List qb} {R D N:Nat} {rc:List qa} {ev:Int→Res} {H':Nat→Option qb} {G m:List qb} {dn:Int→Bool} {xs:List Nat} {i:Nat} {V:qa} {rs:List qa} {ds:List qa} (L:Lo H h R D N rc ev H' G dn (xs ++ [i]) V) (hr:RAt (ext H' G m) (ev i) rs) (hds:G[D]? = some (.cells ds)) {V':qa} (hV:qer H' G (h.length + 4) D xs V') :
  ∃H2,Lo H h R D N rc ev H2 ((G ++ m ++ [qb.cells rs]).set D (.cells (ds.set i (.ptr (G ++ m).length 0)))) (fun j=>j == (i:Int) || dn j) xs V':=by
 obtain ⟨ds',D0,D1,D2,D3⟩:=L.don
 rw [hds] at D1
 cases D1
 obtain ⟨hiN,hid⟩:=L.top
 have hb:=L.bse
 have hdl:=L.dlo
 obtain ⟨H2,hH2⟩ :∃H2:Nat→Option qb,H2 = fun k=>if k < G.length then H' k else (G ++ m ++ [qb.cells rs])[k]?:=⟨_,rfl⟩
 have o1:∀k,k < G.length→H2 k = H' k:=fun k hk=>by rw [hH2];exact if_pos hk
 have o2:∀k,G.length ≤ k→H2 k = (G ++ m ++ [qb.cells rs])[k]?:=fun k hk=>by rw [hH2];exact if_neg (by omega)
 have s1:Sub H' H2:=fun k x hx=>by rw [o1 k (L.cov.lt hx)];exact hx
 have s2:Sub (ext H' G m) H2:=fun k x hx=>by
  by_cases hk:k < G.length
  ·rw [qeu hk] at hx;rw [o1 k hk];exact hx
  ·rw [qft (by omega)] at hx
   rw [o2 k (by omega),List.getElem?_append_left (List.getElem?_eq_some_iff.1 hx).1]
   exact hx
 have hn2:H2 D = none:=by rw [o1 D D0];exact L.dno
 have hc2:Cov H2 (G ++ m ++ [qb.cells rs]):=fun k x hx=>by
  by_cases hk:k < G.length
  ·rw [o1 k hk] at hx
   rw [List.append_assoc,List.getElem?_append_left hk]
   exact L.cov k x hx
  ·rw [o2 k (by omega)] at hx
   exact hx
 have hget:∀k,k ≠ D→k < G.length→((G ++ m ++ [qb.cells rs]).set D (.cells (ds.set i (.ptr (G ++ m).length 0))))[k]? = G[k]?:=fun k hk hl=>by
  rw [List.getElem?_set_ne (by omega),List.append_assoc,List.getElem?_append_left hl]
 refine ⟨H2,fun k x hx=>s1 k x (L.sub k x hx),hc2.set hn2 _,fun k hk=>by rw [hget k (by omega) (by omega)];exact L.old k hk,by simp;omega,by rw [hget _ (by omega) (by omega)];exact L.res,s1 _ _ L.run,?_,?_,hn2,L.dlo,(List.pairwise_append.1 L.dec).1,?_,?_⟩
 ·refine ⟨ds.set i (.ptr (G ++ m).length 0),by simp;omega,by rw [List.getElem?_set_self (by simp;omega)],by simp [D2],fun k hk=>?_⟩
  by_cases hki:k = i
  ·subst hki
   refine ⟨fun h=>by simp at h,fun _=>⟨(G ++ m).length,rs,by rw [List.getElem?_set_self (by omega)],?_,hr.mono s2⟩⟩
   rw [o2 _ (by simp),qQ]
   rfl
  ·have hki':((k:Nat):Int) ≠ (i:Int):=by omega
   have hkb:(((k:Nat):Int) == (i:Int)) = false:=by simpa using hki'
   simp only [hkb,Bool.false_or]
   rw [List.getElem?_set_ne (by omega)]
   refine ⟨(D3 k hk).1,fun hd=>?_⟩
   obtain ⟨q,rs',e,hq,hr'⟩:=(D3 k hk).2 hd
   exact ⟨q,rs',e,s1 _ _ hq,hr'.mono s1⟩
 ·exact hV.keep (fun k hk hkd=>hget k hkd hk) fun k hk hn=>by rw [o1 k hk];exact hn
 ·intro x hx
  obtain ⟨u1,u2⟩:=L.und x (List.mem_append_left _ hx)
  have:=(List.pairwise_append.1 L.dec).2.2 x hx i (by simp)
  refine ⟨u1,?_⟩
  have hkb:(((x:Nat):Int) == (i:Int)) = false:=by simp;omega
  simp only [hkb,Bool.false_or]
  exact u2
 ·rcases L.lst with h | h
  ·exact .inl (by simp [h])
  ·rcases List.mem_append.1 h with h | h
   ·exact .inr h
   ·rw [List.mem_singleton.1 h]
    exact .inl (by simp)
theorem qog (E:qcp) (hE:qgH E) (ns:List Nd) (hS:∀i (hi:i < ns.length),qkX ns[i] i) (hI:∀nd ∈ ns,I64 nd.n) (hl:ns.length ≤ 90000) {h:List qb} {R D:Nat} {TV OL:qa} (hO:qcr H E.oth OL) (hT:qcJ H ns TV) :
  ∀k st,(∃(tt:List qa) (H':Nat→Option qb) (G:List qb) (dn:Int→Bool) (xs:List Nat) (V:qa),st = ⟨tt,G,false⟩∧tt.length = 86∧lkp tt 4 = .ptr (h.length + 1) 0∧lkp tt 6 = .ptr R 0∧lkp tt 7 = .int .i64 ((ns.length - 1:Nat):Int)∧lkp tt 8 = V∧Lo H h R D ns.length [TV,.lst (E.vals.map qa7) .no,qal E.bag,.int .i64 E.en,.int .i64 E.ed,OL,.sl D 0 ns.length ns.length 0] (evT E ns) H' G dn xs V∧k = qiA dn ns.length * (ns.length + 1) + (match xs.getLast? with | none=>0 | some i=>i + 1))→
   ∃x st',qm h.length Wd (.loop qw3) st = some (x,st')∧(∃(tt:List qa) (H':Nat→Option qb) (G:List qb) (dn:Int→Bool) (V:qa),st' = ⟨tt,G,false⟩∧tt.length = 86∧lkp tt 4 = .ptr (h.length + 1) 0∧lkp tt 6 = .ptr R 0∧lkp tt 7 = .int .i64 ((ns.length - 1:Nat):Int)∧Lo H h R D ns.length [TV,.lst (E.vals.map qa7) .no,qal E.bag,.int .i64 E.en,.int .i64 E.ed,OL,.sl D 0 ns.length ns.length 0] (evT E ns) H' G dn [] V∧x = .exit 0):=by
 refine qD _ _ ?_
 rintro k st ⟨tt,H',G,dn,xs,V,rfl,ht,e4,e6,e7,e8,L,hk⟩
 generalize he:qm h.length Wd qw3 _ = r
 have hVd:V.dim = V∧(∀i t,qx V i t = t)∧qbb false V = some (.int .i64 (xs.length:Nat)):=by
  obtain ⟨id,cap,m,cs,rfl,_⟩:=L.stk
  exact ⟨rfl,fun _ _=>rfl,rfl⟩
 obtain ⟨Vd,Vw,Vl⟩:=hVd
 rcases List.eq_nil_or_concat xs with rfl | ⟨ys,i,rfl⟩
 ·have cq0:ilt 0 ((([]:List Nat).length:Nat):Int) = false:=by kernel_rfl
  simp only [List.length_nil] at cq0 Vl
  simp only [sB.1,qw3,simprocAttr,-Int.reduceNatCast',ht,e8,Vd,Vw,Vl,cq0] at he
  subst he
  refine .inr ⟨_,_,rfl,by simp,_,H',G,dn,V,rfl,by simp only [qc,ht],?_,?_,?_,L,rfl⟩
  all_goals simp only [sB.1,simprocAttr,-Int.reduceNatCast',ht,e4,e6,e7]
 ·rw [List.concat_eq_append] at *
  obtain ⟨id,cap,m,cs,rfl,t1,t2,t3,t4,t5,t6⟩:=L.stk.top
  obtain ⟨hiN,hid⟩:=L.top
  have hyl:ys.length ≤ ns.length:=by
   have h1:=L.dec
   have h2:∀x ∈ ys ++ [i],x < ns.length:=fun x hx=>(L.und x hx).1
   have h3:=qva h1 h2
   simp at h3
   omega
  have hlen:(ys ++ [i]).length = ys.length + 1:=by simp
  rw [hlen] at Vl
  have cq0:ilt 0 ((ys.length + 1:Nat):Int) = true:=by rw [qf];simp
  have w1:IntKind.i64.wrap (((ys.length + 1:Nat):Int) - 1) = (ys.length:Nat):=by
   rw [IntKind.wrap_i64]
   omega
  have mV:qav 1 (.sl id 0 (ys.length + 1) cap m) (.int .i64 (ys.length:Nat)) = some (.ptr id ys.length):=by rw [qcf (by omega),Nat.mul_one]
  have hb:=L.bse
  have hRb:=L.cov _ _ L.run
  have hRl:=L.cov.lt L.run
  obtain ⟨ds,D0,D1,D2,D3⟩:=L.don
  have mD:qav 1 (.sl D 0 ns.length ns.length 0) (.int .i64 (i:Nat)) = some (.ptr D i):=by rw [qcf hiN,Nat.mul_one]
  have e0:=(D3 i hiN).1 hid
  have z0:qgm 0 false .nilptr .nilptr = some (.bool true):=by kernel_rfl
  have slD:∀id o n c w:Nat,(qa.sl id o n c w).dim = .sl id o n c w:=fun _ _ _ _ _=>rfl
  have hT':qcJ H' ns TV:=by
   obtain ⟨tid,rs,e,h1,h2⟩:=hT
   exact ⟨tid,rs,e,L.sub _ _ h1,h2.mono L.sub⟩
  have hne:=qp2 R D ns.length dn (evT E ns) ns hRl hRb L.cov hT' L.don i hiN rfl (hS i hiN)
  have hev:∀i,dn i = true→I64 (qeX (evT E ns i).1):=fun i _=>qfP (qsN hE hI _ i).1
  rcases qtJ (dn:=dn) (ev:=evT E ns) (hS i hiN).1 (hS i hiN).2 with hn | ⟨j,hn,hji,hjd⟩
  ·obtain ⟨rs,M,hco,hrs⟩:=qnB E hE.toqvf R D ns.length dn (evT E ns) ns hRl hRb (hO.mono L.sub) L.cov hT' L.don hev i hiN rfl (hS i hiN) hn
   rw [←qzd hS hiN] at hrs
   rw [hn] at hne
   have cq1:ile 0 (-1) = false:=by kernel_rfl
   obtain ⟨H2,L2⟩:=L.done hrs D1 t4
   obtain ⟨k',n',s',l',L',e,rfl,hL'⟩:=hrs.cells
   obtain ⟨d2,s2,w2,n2⟩:=hL'.facts
   have hB1:Nat.ble h.length (G.length + M.length) = true:=qi (by omega)
   have hB2:Nat.ble h.length D = true:=qi (by have:=L.dlo;omega)
   have hi1:i + 1 ≤ ds.length:=by omega
   have hsub:qyi 1 (.sl id 0 (ys.length + 1) cap m) (.int .i64 (ys.length:Nat)) = some (.sl id 0 ys.length cap m):=by
    have hm:m = 0∨m = 1:=by
     obtain ⟨id',cap',m',cs',e,h,_⟩:=t4
     cases e
     exact h
    rw [qyj,if_pos (by omega),if_pos (by simp;omega),if_neg (by omega),if_pos hm,Int.toNat_natCast]
   have hGG:(G ++ M ++ [qb.cells [.int .i64 k',.int .i64 n',.str s',L',.int .i64 (evT E ns i).2]]).set D (.cells (ds.set i (.ptr (G ++ M).length 0))) = G.set D (.cells (List.take i ds ++ .ptr (G.length + M.length) 0 :: List.drop (i + 1) ds)) ++ (M ++ [.cells [.int .i64 k',.int .i64 n',.str s',L',.int .i64 (evT E ns i).2]]):=by
    have hds:ds.set i (.ptr (G ++ M).length 0) = List.take i ds ++ .ptr (G.length + M.length) 0 :: List.drop (i + 1) ds:=by rw [List.set_eq_take_append_cons_drop,if_pos (by omega),List.length_append]
    rw [List.append_assoc,List.set_append_left _ _ D0,hds]
   rw [hGG] at L2
   simp only [sA.1,qw3,simprocAttr,-Int.reduceNatCast',qAi,ht,e4,e6,e7,e8,Vd,Vw,Vl,cq0,w1,mV,t1,t2,t3,hRb,hRl,D0,D1,mD,e0,z0,hne,cq1,hco,d2,s2,w2,slD,cI,Option.map_some,hB1,hB2,hi1,hsub,if_true] at he
   subst he
   have hu:=qru hiN hid
   refine .inl ⟨_,_,rfl,?_,_,H2,_,_,ys,_,rfl,by simp only [qc,ht],?_,?_,?_,?_,L2,rfl⟩
   rotate_left
   all_goals first | (simp only [sA.1,simprocAttr,-Int.reduceNatCast',ht,e4,e6,e7];done) | skip
   rw [hk]
   have hlast:(match ys.getLast? with | none=>0 | some i=>i + 1) ≤ ns.length:=by
    cases hy:ys.getLast? with
    | none=>simp
    | some x=>
     have:=(L.und x (List.mem_append_left _ (List.mem_of_getLast? hy))).1
     simp only
     omega
   have hmul:(qiA (fun j=>j == (i:Int) || dn j) ns.length + 1) * (ns.length + 1) ≤ qiA dn ns.length * (ns.length + 1):=Nat.mul_le_mul_right _ hu
   rw [Nat.add_mul] at hmul
   omega
  ·rw [hn] at hne
   have cq1:ile 0 (j:Int) = true:=by rw [qaw];simp
   obtain ⟨V',G',p1,p2,p3,p4,p5,p6,p7⟩:=L.stk.push L.cov (by simp;omega) L.bse D0 j (base:=h.length) (by omega)
   simp only [sA.1,qw3,simprocAttr,-Int.reduceNatCast',ht,e4,e6,e7,e8,Vd,Vw,Vl,cq0,w1,mV,t1,t2,t3,hRb,hRl,D0,D1,mD,e0,z0,hne,cq1,qCS,p1,p5,p6,slD,cI,Option.map_some] at he
   subst he
   have L2:=L.push hji hjd p2 p3 p4 p7
   refine .inl ⟨_,_,rfl,?_,_,H',_,dn,ys ++ [i] ++ [j],V',rfl,by simp only [qc,ht],?_,?_,?_,?_,L2,rfl⟩
   rotate_left
   all_goals first | (simp only [sA.1,simprocAttr,-Int.reduceNatCast',ht,e4,e6,e7,p5];done) | skip
   rw [hk]
   simp only [List.getLast?_concat]
   omega
end
def qi6 (r:Res):Res:=bif r.2 == 0 then r else (qc0,r.2)
section
variable {h:List qb} {H:Nat→Option qb}
theorem mkN (base n:Nat) (hn:n ≤ 100000) (h:List qb):hop base (.mk 1 [.nilptr]) [.int .i64 (n:Nat),.int .i64 (n:Nat)] h = some (.sl h.length 0 n n 0,h ++ [.cells (List.replicate n .nilptr)],false):=by
 have e:((List.replicate n [qa.nilptr]).flatten).map qa.dim = List.replicate n .nilptr:=by
  induction n with
  | zero=>rfl
  | succ n ih=>rw [List.replicate_succ,List.flatten_cons,List.map_append,ih (by omega),List.replicate_succ];rfl
 simp only [hop]
 rw [if_pos ⟨by omega,by omega,by omega,rfl⟩,Int.toNat_natCast,e]
theorem Lo.init {R D N:Nat} {rc:List qa} {ev:Int→Res} (hg:Cov H h) (hN:0 < N) {b0:qb} (hR:R = h.length + 2) (hD:D = h.length + 3):∃H',Lo H h R D N rc ev H' (h ++ [b0,.cells qen,.cells rc,.cells (List.replicate N .nilptr),.cells [.int .i64 ((N - 1:Nat):Int)]]) (fun _=>false) [N - 1] (.sl (h.length + 4) 0 1 1 0):=by
 subst hR
 subst hD
 obtain ⟨G,hG⟩ :∃G,G = h ++ [b0,.cells qen,.cells rc,.cells (List.replicate N .nilptr),.cells [.int .i64 ((N - 1:Nat):Int)]]:=⟨_,rfl⟩
 have hGl:G.length = h.length + 5:=by rw [hG];simp
 have at':∀k,G[h.length + k]? = [b0,.cells qen,.cells rc,.cells (List.replicate N .nilptr),.cells [.int .i64 ((N - 1:Nat):Int)]][k]?:=fun k=>by
  rw [hG,List.getElem?_append_right (by omega),Nat.add_sub_cancel_left]
 obtain ⟨H',hH'⟩ :∃H':Nat→Option qb,H' = fun i=>if i = h.length + 2 then some (.cells rc) else H i:=⟨_,rfl⟩
 have o1:H' (h.length + 2) = some (.cells rc):=by rw [hH'];simp
 have o2:∀i,i ≠ h.length + 2→H' i = H i:=fun i hi=>by rw [hH'];exact if_neg hi
 have ha:∀i,h.length ≤ i→H i = none:=fun i hi=>hg.late hi
 have hcG:Cov H G:=by rw [hG];exact hg.more _
 refine ⟨H',?_⟩
 rw [←hG]
 refine ⟨fun i x hx=>by rw [o2 i (by have:=hg.lt hx;omega)];exact hx,fun i x hx=>?_,fun i hi=>by rw [hG,List.getElem?_append_left hi],by omega,at' 1,o1,?_,?_,by rw [o2 _ (by omega)];exact ha _ (by omega),by omega,by simp,fun x hx=>⟨by rw [List.mem_singleton.1 hx];omega,rfl⟩,.inr (by simp)⟩
 ·by_cases hi:i = h.length + 2
  ·subst hi
   rw [o1] at hx
   cases hx
   exact at' 2
  ·rw [o2 i hi] at hx
   exact hcG i x hx
 ·refine ⟨List.replicate N .nilptr,by omega,at' 3,by simp,fun i hi=>⟨fun _=>?_,fun h=>by cases h⟩⟩
  rw [List.getElem?_replicate,if_pos hi]
 ·exact ⟨h.length + 4,1,0,_,rfl,.inl rfl,at' 4,rfl,rfl,by rw [o2 _ (by omega)];exact ha _ (by omega),by omega,by omega⟩
theorem qoh (E:qcp) (hE:qgH E) (ns:List Nd) (hS:qcz ns) (hI:∀nd ∈ ns,I64 nd.n) (hl:ns.length ≤ 90000) {TV OL:qa} (hg:Cov H h) (hO:qcr H E.oth OL) (hT:qcJ H ns TV) :
  ∃cs m,Wd (.fn 8 [] []) [TV,.agg [.lst (E.vals.map qa7) .no,qal E.bag,.int .i64 E.en,.int .i64 E.ed,OL]] h = some (.ret (.tup [.agg cs,.int .i64 (qi6 (evT E ns ((ns.length - 1:Nat):Int))).2]),h ++ m,false)∧At (qbV h.length (h ++ m)) (qi6 (evT E ns ((ns.length - 1:Nat):Int))).1 cs:=by
 have hN:0 < ns.length:=List.length_pos_iff.2 hS.1
 have Td:TV.dim = TV∧TV.storable = true∧(∀i t,qx TV i t = t)∧qbb false TV = some (.int .i64 (ns.length:Nat)):=by obtain ⟨_,_,rfl,_⟩:=hT;exact ⟨rfl,rfl,fun _ _=>rfl,rfl⟩
 obtain ⟨Td,Ts,Tw,Tl⟩:=Td
 obtain ⟨Od,Os,Ow,Ol⟩:=hO.facts
 have bd:(qal E.bag).dim = qal E.bag:=rfl
 have bs:(qal E.bag).storable = true:=by rw [qal];kernel_rfl
 have bw:∀i t,qx (qal E.bag) i t = t:=fun i t=>by rw [qal];rfl
 have vd:(qa.lst (E.vals.map qa7) .no).dim = .lst (E.vals.map qa7) .no:=rfl
 have bc:(qal E.bag).cells = [qal E.bag]:=rfl
 have Tc:TV.cells = [TV]:=by obtain ⟨_,_,rfl,_⟩:=hT;rfl
 have Oc:OL.cells = [OL]:=by obtain ⟨_,_,_,⟨_,rfl⟩ | ⟨_,_,rfl,_⟩⟩:=hO <;> rfl
 have hso:=fun m=>qua ns (hg.more m) hT hS (by omega)
 have hmk:=fun g=>mkN h.length ns.length (by omega) g
 have w1:IntKind.i64.wrap ((ns.length:Int) - 1) = ((ns.length - 1:Nat):Int):=by
  rw [IntKind.wrap_i64]
  omega
 have slD:∀id o n c w:Nat,(qa.sl id o n c w).dim = .sl id o n c w:=fun _ _ _ _ _=>rfl
 have hb2:=qrB h 2
 generalize hw:Wd _ _ h = w
 rw [qr rfl (show T.get 8 = some c8 by kernel_rfl)] at hw
 simp only [sA.1,c8,simprocAttr,-Int.reduceNatCast',Td,Ts,Tw,Tl,Od,Os,Ow,bd,bs,bw,bc,Tc,Oc,vd,hso,hmk,w1,qCS,slD,hb2] at hw
 obtain ⟨H0,L0⟩:=Lo.init (R:=h.length + 2) (D:=h.length + 3) (rc:=[TV,.lst (E.vals.map qa7) .no,qal E.bag,.int .i64 E.en,.int .i64 E.ed,OL,.sl (h.length + 3) 0 ns.length ns.length 0]) (ev:=evT E ns) (b0:=.cells [.lst (E.vals.map qa7) .no,qal E.bag,.int .i64 E.en,.int .i64 E.ed,OL]) hg hN rfl rfl
 have loop:=qog E hE ns hS.2 hI hl (h:=h) (R:=h.length + 2) (D:=h.length + 3) hO hT
 generalize hr:qm h.length Wd (.loop qw3) _ = r at hw
 obtain ⟨x,st',rfl,tt,H',G,dn,V,rfl,ht,e4,e6,e7,L,rfl⟩:=qaB hr (loop _ _ ⟨_,H0,_,_,_,_,rfl,by simp only [sB.1,simprocAttr,-Int.reduceNatCast'],by simp only [sB.1,simprocAttr,-Int.reduceNatCast'],by simp only [sB.1,simprocAttr,-Int.reduceNatCast'],by simp only [sB.1,simprocAttr,-Int.reduceNatCast'],by simp only [sB.1,simprocAttr,-Int.reduceNatCast',qcP],L0,rfl⟩)
 have hlast:dn ((ns.length - 1:Nat):Int) = true:=by
  rcases L.lst with h | h
  ·exact h
  ·cases h
 obtain ⟨ds,D0,D1,D2,D3⟩:=L.don
 obtain ⟨q,rs,eq0,hq,hrs⟩:=(D3 (ns.length - 1) (by omega)).2 hlast
 have hql:=L.cov.lt hq
 have hqb:=L.cov _ _ hq
 have hRl:=L.cov.lt L.run
 have hRb:=L.cov _ _ L.run
 have mD:qav 1 (.sl (h.length + 3) 0 ns.length ns.length 0) (.int .i64 ((ns.length - 1:Nat):Int)) = some (.ptr (h.length + 3) (ns.length - 1)):=by rw [qcf (by omega),Nat.mul_one]
 have hok:=qsN hE hI (ns.length + 1) ((ns.length - 1:Nat):Int)
 have hres:=L.res
 rw [qen] at hres
 have hrl:h.length + 1 < G.length:=by have:=L.bse;omega
 have htk:G.take h.length = h:=by
  apply List.ext_getElem?
  intro i
  rw [List.getElem?_take]
  split
  ·exact L.old i ‹_›
  ·rw [List.getElem?_eq_none (by omega)]
 change OkR (evT E ns ((ns.length - 1:Nat):Int)) at hok
 generalize evT E ns ((ns.length - 1:Nat):Int) = r0 at *
 obtain ⟨v,x0⟩:=r0
 obtain ⟨k,n,s,l,L',hv,rfl,hL'⟩:=hrs.cells
 obtain ⟨d2,s2,w2,n2⟩:=hL'.facts
 have hat:At H' v [.int .i64 k,.int .i64 n,.str s,L']:=by
  obtain ⟨cs,e,hc⟩:=hrs
  have e':[qa.int .i64 k,.int .i64 n,.str s,L'] ++ [.int .i64 x0] = cs ++ [.int .i64 x0]:=e
  rw [List.append_cancel_right e']
  exact hc
 simp only at hv
 rw [qi6]
 simp only at *
 have hqne:h.length + 1 ≠ q:=fun h=>by
  rw [←h,hres] at hqb
  cases hqb
 have hqs:∀X,(G.set (h.length + 1) X)[q]? = G[q]?:=fun X=>List.getElem?_set_ne hqne
 have hB1:Nat.ble h.length (h.length + 1) = true:=qi (by omega)
 cases cq0:(x0 == 0) with
 | false=>
  simp only [sA.1,simprocAttr,-Int.reduceNatCast',ht,e4,e6,e7,hRl,hRb,D0,D1,mD,eq0,hql,hqb,hqs,cq0,hres,hrl,slD,Option.map_some] at hw
  subst hw
  refine ⟨_,[],by rw [List.append_nil];exact congrArg some (qH (by rw [List.take_set_of_le (by omega),htk]) rfl),?_⟩
  exact At.leaf _ 0 0 []
 | true=>
  obtain ⟨cs,m,hcp,hvr⟩:=quJ 3 v (hok.2 (by simpa using cq0)) (H:=H') _ G hat L.cov
  obtain ⟨k2,n2',s2',l2,L2,_,rfl,d3,s3,w3,_⟩:=hvr.cells
  simp only [sA.1,simprocAttr,-Int.reduceNatCast',ht,e4,e6,e7,hRl,hRb,D0,D1,mD,eq0,hql,hqb,cq0,hres,hrl,slD,Option.map_some,d2,s2,w2,hcp,d3,s3,w3,hB1] at hw
  subst hw
  have hK:(G.set (h.length + 1) (.cells [.int .i64 k2,.int .i64 n2',.str s2',L2]) ++ m).take h.length = h:=by
   rw [List.take_append_of_le_length (by simp;omega),List.take_set_of_le (by omega),htk]
  have hx0:x0 = 0:=by simpa using cq0
  subst hx0
  obtain ⟨M,hm,hm2⟩:=qK (v:=.tup [.agg [.int .i64 k2,.int .i64 n2',.str s2',L2],.int .i64 0]) hK
  refine ⟨_,M,congrArg some hm,?_⟩
  rw [cond_true]
  cases hvr with
  | leaf k n s=>exact At.leaf _ _ _ _
  | node k n s l id ess h1 h2 h3 h4=>
   have hid:G.length ≤ id:=by
    by_cases hid:G.length ≤ id
    ·exact hid
    ·rw [qaq hid] at h2
     cases h2
   have hgm:=hm2 (by simp only [qa.lower,qv,Bool.true_and,Bool.and_true];exact qcN (by omega))
   refine (VR.node _ _ _ l id ess h1 h2 h3 h4).at.mono fun i x hx=>?_
   have hi:G.length ≤ i:=by
    by_cases hid:G.length ≤ i
    ·exact hid
    ·rw [qaq hid] at hx
     cases hx
   rw [qY hi] at hx
   rw [qY (by omega),hgm,List.getElem?_append_right (by simp;omega),List.length_set]
   rw [List.getElem?_append_right hi] at hx
   exact hx
end
def qf9 (H:Nat→Option qb) (nss:List (List Nd)) (V:qa):Prop:=(nss = []∧V = .lst [] .full)∨∃(id:Nat) (tbs:List qa),V = .sl id 0 nss.length nss.length 1∧H id = some (.cells tbs)∧tbs.length = nss.length∧∀(j:Nat) (h:j < nss.length) (h':j < tbs.length),qcJ H nss[j] tbs[j]
theorem qf9.facts {H:Nat→Option qb} {nss:List (List Nd)} {V:qa} (h:qf9 H nss V):V.dim = V∧V.storable = true∧(∀i t,qx V i t = t)∧qbb false V = some (.int .i64 (nss.length:Nat))∧V.cells = [V]:=by
 rcases h with ⟨rfl,rfl⟩ | ⟨id,tbs,rfl,_⟩ <;> exact ⟨rfl,rfl,fun _ _=>rfl,rfl,rfl⟩
theorem qf9.item {H:Nat→Option qb} {nss:List (List Nd)} {V:qa} (h:qf9 H nss V) {i:Nat} (hi:i < nss.length) {g:List qb} (hg:Cov H g):∃id tbs tb,V = .sl id 0 nss.length nss.length 1∧qav 1 V (.int .i64 (i:Nat)) = some (.ptr id i)∧id < g.length∧g[id]? = some (.cells tbs)∧tbs[i]? = some tb∧tb.dim = tb∧(∀i t,qx tb i t = t)∧qcJ H nss[i] tb:=by
 rcases h with ⟨rfl,rfl⟩ | ⟨id,tbs,rfl,h1,h2,h3⟩
 ·simp at hi
 ·have h4:i < tbs.length:=by omega
  have ht:=h3 i hi h4
  refine ⟨id,tbs,tbs[i],rfl,by rw [qcf hi,Nat.mul_one],hg.lt h1,hg _ _ h1,List.getElem?_eq_getElem h4,?_,?_,ht⟩
  ·obtain ⟨_,_,e,_⟩:=ht
   rw [e]
   rfl
  ·obtain ⟨_,_,e,_⟩:=ht
   rw [e]
   exact fun _ _=>rfl
def evR (E:qcp) (ns:List Nd):Res:=qi6 (evT E ns ((ns.length - 1:Nat):Int))
def qiJ (H:Nat→Option qb) (rs:List Res) (xs:List qa):Prop:=xs.length = rs.length∧∀(j:Nat) (h:j < rs.length) (h':j < xs.length),∃cs,xs[j] = .agg (cs ++ [.int .i64 rs[j].2])∧At H rs[j].1 cs
theorem qiJ.mono {H H':Nat→Option qb} (hs:Sub H H') {rs:List Res} {xs:List qa} (h:qiJ H rs xs):qiJ H' rs xs:=
 ⟨h.1,fun j h1 h2=>by obtain ⟨cs,e,h3⟩:=h.2 j h1 h2;exact ⟨cs,e,h3.mono hs⟩⟩
theorem qiJ.snoc {H:Nat→Option qb} {rs:List Res} {xs:List qa} (h:qiJ H rs xs) {r:Res} {cs:List qa} (hr:At H r.1 cs):qiJ H (rs ++ [r]) (xs ++ [.agg (cs ++ [.int .i64 r.2])]):=by
 refine ⟨by simp [h.1],fun j h1 h2=>?_⟩
 rcases Nat.lt_or_ge j rs.length with hj | hj
 ·have hj2:j < xs.length:=by have:=h.1;omega
  obtain ⟨cs',e,h3⟩:=h.2 j hj hj2
  exact ⟨cs',by rw [List.getElem_append_left hj2,e,List.getElem_append_left hj],by rw [List.getElem_append_left hj];exact h3⟩
 ·have hj2:j = rs.length:=by simp at h1;omega
  subst hj2
  refine ⟨cs,?_,?_⟩
  ·rw [List.getElem_append_right (by have:=h.1;omega),List.getElem_append_right (by omega)]
   simp
  ·rw [List.getElem_append_right (by omega)]
   simpa using hr
theorem qiJ.five {H:Nat→Option qb} {rs:List Res} {xs:List qa} (h:qiJ H rs xs):∀x ∈ xs,x.cells.length = 5:=fun x hx=>by
 obtain ⟨j,hj,rfl⟩:=List.getElem_of_mem hx
 obtain ⟨cs,e,h3⟩:=h.2 j (by have:=h.1;omega) hj
 rw [e]
 show (cs ++ [qa.int .i64 _]).length = 5
 rw [List.length_append,h3.length]
 rfl
theorem qrL (xs:List qa) (hx:∀x ∈ xs,x.cells.length = 5) (hl:xs.length ≤ 1000) (k n:Int) (s:Str) (L:qa) (hL:L.storable = true) (e:Int):qgN 5 xs [.agg [.int .i64 k,.int .i64 n,.str s,L,.int .i64 e]] = true:=by
 simp only [qgN,Bool.and_eq_true,decide_eq_true_eq]
 refine ⟨⟨?_,?_⟩,?_⟩
 ·simp only [List.length_cons,List.length_nil,qcE];omega
 ·simp [qa.cells,hL]
  exact ⟨rfl,rfl,rfl,rfl⟩
 ·cases xs with
  | nil=>rfl
  | cons x xs=>simp [hx x (by simp)]
theorem qzP (k n:Int) (s:Str) (L:qa) (hL:L.storable = true) (e:Int):qh4 5 [.int .i64 0,.int .i64 0,.str [],.lst [] .full,.int .i64 0] 1 [(0,.agg [.int .i64 k,.int .i64 n,.str s,L,.int .i64 e])] = some (.lst [.agg [.int .i64 k,.int .i64 n,.str s,L,.int .i64 e]] .full):=
 qpO (Eq.trans rfl rfl) (by omega) (Eq.trans rfl rfl) (by simp [hL];exact ⟨rfl,rfl,rfl,rfl⟩) (by omega)
section
variable {h:List qb} {H:Nat→Option qb}
theorem qn4 (E:qcp) (hE:qgH E) (nss:List (List Nd)) (hS:∀ns ∈ nss,qcz ns∧(∀nd ∈ ns,I64 nd.n)∧ns.length ≤ 90000) {V OL:qa} (hg:Cov H h) (hO:qcr H E.oth OL) (hT:qf9 H nss V) (hl:nss.length ≤ 100) :
  ∀k st,(∃(tt:List qa) (G:List qb) (i:Nat) (xs:List qa) (f:qdO),st = ⟨tt,G,false⟩∧tt.length = 30∧lkp tt 3 = .ptr h.length 0∧lkp tt 5 = .ptr (h.length + 1) 0∧lkp tt 10 = V∧lkp tt 11 = .int .i64 (nss.length:Nat)∧lkp tt 12 = .int .i64 (i:Nat)∧i + k = nss.length∧h.length + 2 ≤ G.length∧(∀j,j < h.length→G[j]? = h[j]?)∧G[h.length]? = some (.cells [.lst (E.vals.map qa7) .no,qal E.bag,.int .i64 E.en,.int .i64 E.ed,OL])∧G[h.length + 1]? = some (.cells [.lst xs f])∧((f = .full∧xs = [])∨f = .own 5)∧qiJ (qbV (h.length + 2) G) ((nss.take i).map (evR E)) xs)→
   ∃x st',qm h.length Wd (.loop qlX) st = some (x,st')∧(∃(tt:List qa) (G:List qb) (xs:List qa) (f:qdO),st' = ⟨tt,G,false⟩∧tt.length = 30∧lkp tt 5 = .ptr (h.length + 1) 0∧h.length + 2 ≤ G.length∧(∀j,j < h.length→G[j]? = h[j]?)∧G[h.length + 1]? = some (.cells [.lst xs f])∧qiJ (qbV (h.length + 2) G) (nss.map (evR E)) xs∧x = .exit 0):=by
 refine qD _ _ ?_
 rintro k st ⟨tt,G,i,xs,f,rfl,ht,e3,e5,e10,e11,e12,hik,hGl,hG,gE,gA,hf,hR⟩
 generalize he:qm h.length Wd qlX _ = r
 have hcG:Cov H G:=fun j x hx=>by rw [hG j (hg.lt hx)];exact hg j x hx
 obtain ⟨Vd,Vs,Vw,Vl,Vc⟩:=hT.facts
 obtain ⟨Od,Os,Ow,Ol⟩:=hO.facts
 have Oc:OL.cells = [OL]:=by obtain ⟨_,_,_,⟨_,rfl⟩ | ⟨_,_,rfl,_⟩⟩:=hO <;> rfl
 have bd:(qal E.bag).dim = qal E.bag:=rfl
 have bs:(qal E.bag).storable = true:=by rw [qal];kernel_rfl
 have bw:∀i t,qx (qal E.bag) i t = t:=fun i t=>by rw [qal];rfl
 have bc:(qal E.bag).cells = [qal E.bag]:=rfl
 have l0:h.length < G.length:=by omega
 have l1:h.length + 1 < G.length:=by omega
 have hB:Nat.ble h.length (h.length + 1) = true:=qi (by omega)
 rcases Nat.lt_or_ge i nss.length with hi | hi
 ·have cq1:ilt (i:Int) (nss.length:Int) = true:=by rw [qf];simp;omega
  have w:=q9 (n:=i) (by omega)
  obtain ⟨id,tbs,tb,eV,x1,x2,x3,x4,td,tw,hTb⟩:=hT.item hi hcG
  obtain ⟨s1,s2,s3⟩:=hS _ (List.getElem_mem hi)
  obtain ⟨cs,m,hev,hat⟩:=qoh E hE nss[i] s1 s2 s3 hcG hO hTb
  have htake:(nss.take i).map (evR E) ++ [evR E nss[i]] = (nss.take (i + 1)).map (evR E):=by
   rw [List.take_succ_eq_append_getElem hi,List.map_append];rfl
  rw [show qi6 (evT E nss[i] ((nss[i].length - 1:Nat):Int)) = evR E nss[i] from rfl] at hev hat
  generalize evR E nss[i] = rr at *
  obtain ⟨v,z⟩:=rr
  simp only at hev hat
  obtain ⟨vk,vn,vs,vl,L,ev,rfl,Ld,Ls,Lw,Ll⟩:=hat.cells
  have hxl:xs.length ≤ 1000:=by have:=hR.1;simp at this;omega
  have hap:=qrL xs hR.five hxl vk vn vs L Ls z
  have hli:=qzP vk vn vs L Ls z
  have gE2:(G ++ m)[h.length]? = G[h.length]?:=List.getElem?_append_left l0
  have gA2:∀X,(G ++ (m ++ [X]))[h.length + 1]? = some (.cells [.lst xs f]):=fun X=>by rw [List.getElem?_append_left l1];exact gA
  have hm2:∀X:qb,(G ++ (m ++ [X]))[G.length + m.length]? = some X:=fun X=>by rw [←List.append_assoc,List.getElem?_append_right (by simp)];simp
  have lm:∀X:qb,(G ++ (m ++ [X])).length = G.length + m.length + 1:=fun X=>by simp;omega
  have hBm:Nat.ble h.length (G.length + m.length) = true:=qi (by omega)
  have hs1:∀X c,Sub (qbV (h.length + 2) G) (qbV (h.length + 2) (G.set (h.length + 1) X ++ (m ++ [c]))):=fun X c j x hx=>by
   by_cases hj:h.length + 2 ≤ j
   ·rw [qY hj] at hx ⊢
    rw [List.getElem?_append_left (by simpa using (List.getElem?_eq_some_iff.1 hx).1),List.getElem?_set_ne (by omega),hx]
   ·rw [qaq hj] at hx;cases hx
  have hs2:∀X c,Sub (qbV G.length (G ++ m)) (qbV (h.length + 2) (G.set (h.length + 1) X ++ (m ++ [c]))):=fun X c j x hx=>by
   by_cases hj:G.length ≤ j
   ·rw [qY hj] at hx
    rw [qY (by omega),←List.append_assoc,List.getElem?_append_left (by have:=(List.getElem?_eq_some_iff.1 hx).1;simp at this ⊢;omega),List.getElem?_append_right (by simpa using hj),List.length_set]
    rw [List.getElem?_append_right hj] at hx
    exact hx
   ·rw [qaq hj] at hx;cases hx
  rcases hf with ⟨rfl,rfl⟩ | rfl <;>
  simp only [sA.1,qlX,simprocAttr,-Int.reduceNatCast',ht,e3,e5,e10,e11,e12,cq1,Vd,Vw,x1,x2,x3,x4,td,tw,gE,l0,l1,Od,Ow,bd,bw,bc,Oc,hev,Ld,Ls,Lw,gA,hBm,gA2,hm2,lm,hap,hli,hB,w] at he
  all_goals subst he
  all_goals refine .inl ⟨_,k - 1,rfl,by omega,_,_,i + 1,_,.own 5,rfl,by simp only [qc,ht],by simp only [sA.1,simprocAttr,-Int.reduceNatCast',ht,e3],by simp only [sA.1,simprocAttr,-Int.reduceNatCast',ht,e5],by simp only [sA.1,simprocAttr,-Int.reduceNatCast',ht,e10,Vd],by simp only [sA.1,simprocAttr,-Int.reduceNatCast',ht,e11],by simp only [sA.1,simprocAttr,-Int.reduceNatCast',ht],by omega,by simp;omega,fun j hj=>by rw [List.getElem?_append_left (by simp;omega),List.getElem?_set_ne (by omega),hG j hj],by rw [List.getElem?_append_left (by simp;omega),List.getElem?_set_ne (by omega)];exact gE,by rw [List.getElem?_append_left (by simp;omega),List.getElem?_set_self l1],.inr rfl,?_⟩
  all_goals
   rw [←htake]
   exact qiJ.snoc (r:=(v,z)) (hR.mono (hs1 _ _)) (hat.mono (hs2 _ _))
 ·have cq1:ilt (i:Int) (nss.length:Int) = false:=by rw [qf];simp;omega
  rw [List.take_of_length_le (by omega)] at hR
  simp only [sA.1,qlX,simprocAttr,-Int.reduceNatCast',ht,e11,e12,cq1] at he
  subst he
  exact .inr ⟨_,_,rfl,by simp,_,G,xs,f,rfl,by simp only [qc,ht],by simp only [sA.1,simprocAttr,-Int.reduceNatCast',ht,e5],hGl,hG,gA,hR,rfl⟩
theorem qsj (E:qcp) (hE:qgH E) (nss:List (List Nd)) (hS:∀ns ∈ nss,qcz ns∧(∀nd ∈ ns,I64 nd.n)∧ns.length ≤ 90000) {V OL:qa} (hg:Cov H h) (hO:qcr H E.oth OL) (hT:qf9 H nss V) (hl:nss.length ≤ 100) :
  ∃g xs f,Wd (.fn 14 [] []) [V,.agg [.lst (E.vals.map qa7) .no,qal E.bag,.int .i64 E.en,.int .i64 E.ed,OL]] h = some (.ret (.fn 32 [] [.ptr (h.length + 1) 0]),g,false)∧h.length + 2 ≤ g.length∧(∀j,j < h.length→g[j]? = h[j]?)∧g[h.length + 1]? = some (.cells [.lst xs f])∧qiJ (qbV (h.length + 2) g) (nss.map (evR E)) xs:=by
 obtain ⟨Vd,Vs,Vw,Vl,Vc⟩:=hT.facts
 obtain ⟨Od,Os,Ow,Ol⟩:=hO.facts
 have Oc:OL.cells = [OL]:=by obtain ⟨_,_,_,⟨_,rfl⟩ | ⟨_,_,rfl,_⟩⟩:=hO <;> rfl
 have bd:(qal E.bag).dim = qal E.bag:=rfl
 have bs:(qal E.bag).storable = true:=by rw [qal];kernel_rfl
 have bw:∀i t,qx (qal E.bag) i t = t:=fun i t=>by rw [qal];rfl
 have bc:(qal E.bag).cells = [qal E.bag]:=rfl
 have loop:=qn4 E hE nss hS hg hO hT hl (h:=h)
 generalize hw:Wd _ _ h = w
 rw [qr rfl (show T.get 14 = some c14 by kernel_rfl)] at hw
 simp only [sA.1,c14,simprocAttr,-Int.reduceNatCast',Vd,Vs,Vw,Vl,Vc,Od,Os,Ow,bd,bs,bw,bc,Oc] at hw
 generalize hr:qm h.length Wd (.loop qlX) _ = r at hw
 obtain ⟨x,st',rfl,tt,G,xs,f,rfl,ht,e5,hGl,hG,gA,hR,rfl⟩:=qaB hr (loop nss.length _ ⟨_,_,0,[],.full,rfl,by simp only [sA.1,simprocAttr,-Int.reduceNatCast'],by simp only [sA.1,simprocAttr,-Int.reduceNatCast'],by simp only [sA.1,simprocAttr,-Int.reduceNatCast'],by simp only [sA.1,simprocAttr,-Int.reduceNatCast',Vd],by simp only [sA.1,simprocAttr,-Int.reduceNatCast'],by simp only [sA.1,simprocAttr,-Int.reduceNatCast',Int.natCast_zero],by omega,by simp,fun j hj=>by rw [List.getElem?_append_left hj],by rw [qQ];rfl,by rw [qaL];rfl,.inl ⟨rfl,rfl⟩,⟨rfl,fun j h1 _=>by simp at h1⟩⟩)
 have hlo:Nat.blt (h.length + 1) h.length = false:=qcN (by omega)
 simp only [sA.1,simprocAttr,-Int.reduceNatCast',ht,e5] at hw
 subst hw
 refine ⟨G,xs,f,?_,hGl,hG,gA,hR⟩
 rw [qez]
 simp only [qa.lower,qv,hlo,Bool.false_and,Bool.and_false,Bool.and_true,Bool.true_and,cond_false]
end
theorem qAQ {nb mb sb:Bool} {lo hi n:Int} {nm sub:Str} {k:Nat} (h:fB nb mb sb lo hi n nm sub k = true):lo ≤ (k:Int)∧(k:Int) ≤ hi∧(nb = true∨n = 0):=by
 rw [fB] at h
 simp only [Bool.and_eq_true,Bool.or_eq_true,qaw,decide_eq_true_eq,beq_iff_eq] at h
 exact ⟨h.2.2.2.1,h.2.2.2.2,h.1⟩
def KA (op:Int) (k:Nat):Prop:=(op = 25∧k = 3)∨(op = 23∧k = 2)∨(op = 24∧k = 2)∨qiI op k
theorem qjE {op n:Int} {nm sub:Str} {k:Nat} (h:qjD op n nm sub k = true):KA op k∧(op = 12→0 ≤ n∧n < 4)∧(op = 0∨op = 12∨n = 0)∧(op = 0→0 ≤ n):=by
 by_cases ho:0 ≤ op∧op ≤ 25
 ·have:op = 0∨op = 12∨op = 1∨op = 2∨op = 3∨op = 4∨op = 5∨op = 6∨op = 7∨op = 8∨op = 9∨op = 10∨op = 11∨op = 13∨op = 14∨op = 15∨op = 16∨op = 17∨op = 18∨op = 19∨op = 20∨op = 21∨op = 22∨op = 23∨op = 24∨op = 25:=by omega
  rcases this with rfl | rfl | rfl | rfl | rfl | rfl | rfl | rfl | rfl | rfl | rfl | rfl | rfl | rfl | rfl | rfl | rfl | rfl | rfl | rfl | rfl | rfl | rfl | rfl | rfl | rfl
  ·obtain ⟨h1,h2⟩:=(Bool.and_eq_true _ _).mp (show (fB _ _ _ _ _ n nm sub k && ile 0 n) = true from h)
   obtain ⟨k1,k2,k3⟩:=qAQ h1
   simp only [qaw,decide_eq_true_eq] at h2
   exact ⟨by unfold KA qiI;omega,fun h=>by omega,.inl rfl,fun _=>h2⟩
  ·obtain ⟨h1,h2⟩:=(Bool.and_eq_true _ _).mp (show (fB _ _ _ _ _ n nm sub k && (ile 0 n && ilt n 4)) = true from h)
   obtain ⟨k1,k2,k3⟩:=qAQ h1
   simp only [Bool.and_eq_true,qaw,qf,decide_eq_true_eq] at h2
   exact ⟨by unfold KA qiI;omega,fun _=>h2,.inr (.inl rfl),fun h=>by omega⟩
  all_goals
   first
   | (obtain ⟨k1,k2,k3⟩:=qAQ (show fB false _ _ _ _ n nm sub k = true from h)
      exact ⟨by unfold KA qiI;omega,fun h=>by omega,.inr (.inr (by rcases k3 with h | h;cases h;exact h)),fun h=>by omega⟩)
   | (obtain ⟨k1,k2,k3⟩:=qAQ ((Bool.and_eq_true _ _).mp (show (fB false _ _ _ _ n nm sub k && _) = true from h)).1
      exact ⟨by unfold KA qiI;omega,fun h=>by omega,.inr (.inr (by rcases k3 with h | h;cases h;exact h)),fun h=>by omega⟩)
 ·rw [qg8 ho] at h
  cases h
end Go.Proofs.YtnibchoenjmmjaaGreatDoor.AE
