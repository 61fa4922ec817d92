/- A part of the proof: the abstract executor and what goes through it (part 20). No condition. -/
import Derived.Test.YtnibchoenjmmjaaGreatDoorMr14
import Derived.Test.YtnibchoenjmmjaaGreatDoorMr19
import Derived.Test.YtnibchoenjmmjaaGreatDoorMr15
import Derived.Test.YtnibchoenjmmjaaGreatDoorMr13
import Derived.Test.YtnibchoenjmmjaaGreatDoorMr16
set_option maxRecDepth 100000
set_option maxHeartbeats 0
open List renaming getElem?_append_left→ja,getElem?_append_right→jc,mem_cons_self→jG,take_set_of_le→jZ,getElem?_set_self→jg,drop_eq_getElem_cons→jV,getElem?_eq_getElem→jh,length_append→ji,length_set→Jc,mem_append→jJ,mem_cons_of_mem→jK,mem_singleton→Jd,mem_map→jR
open Bool renaming and_eq_true→jk,and_true→jx,not_true→j3,not_false→j4
open Nat renaming le_refl→jm
namespace Go.Proofs.YtnibchoenjmmjaaGreatDoor.AE
open Go.AE
def evF (E:qeZ) (ns:List Nd):Nat->Int->Res
 | 0,_=>qa3 1
 | f + 1,i=>match ns[i.toNat]? with
  | none=>qa3 1
  | some nd=>qdf E nd (evF E ns f)
def evT (E:qeZ) (ns:List Nd):Int->Res:=evF E ns (ns.length + 1)
theorem qf3 {ev B:Int->Res} {k:List Val->Res}:∀{l:List Int} {vs:List Val},(∀j ∈ l,ev j = B j)->qcC ev k l vs = qcC B k l vs
 | [],_,_=>rfl
 | j :: js,vs,h=>by
  rw [qcC,qcC,h j (jG ..),qf3 λx hx=>h x (jK _ hx)]
theorem qfm {E:qeZ} {nd:Nd} {ev B:Int->Res} (hs:Cho nd.op nd.ins\/qgS nd.op nd.ins.length) (h:∀j ∈ nd.ins,ev j = B j):qdf E nd ev = qdf E nd B:=by
 rw [qdf,qdf]
 rcases hs with hc | ha
 ·rw [hc.chB,cond_true,cond_true,qce,qce,h _ hc.head]
  have hm:=qdd hc (B (nd.ins.getD 0 0))
  rcases hm with e | e
  ·rw [e]
   have:ilt (-1) 0 = true:=xk
   rw [this]
   rfl
  ·rw [h _ e]
 ·rw [ha.chB,cond_false,cond_false]
  exact qf3 h
theorem qtS {E:qeZ} {ns:List Nd} (hs:∀i (hi:i < ns.length),qjs ns[i] i):∀(i:Nat),i < ns.length->∀f f',i < f->i < f'->evF E ns f i = evF E ns f' i:=by
 intro i
 induction i using Nat.strongRecOn with
 | _ i ih=>
  intro hi f f' h1 h2
  obtain ⟨a,rfl⟩ :∃a,f = a + 1:=⟨f - 1,zo⟩
  obtain ⟨b,rfl⟩ :∃b,f' = b + 1:=⟨f' - 1,zo⟩
  have e:ns[((i:Nat):Int).toNat]? = some ns[i]:=by rw [Int.toNat_natCast];exact jh hi
  rw [evF,evF,e]
  simp only
  obtain ⟨I,B⟩:=hs i hi
  refine qfm I λj hj=>?_
  have J:=B j hj
  obtain ⟨j',rfl⟩ :∃j':Nat,j = (j':Int):=⟨j.toNat,zo⟩
  exact ih j' zo zo a b zo zo
theorem qvW {E:qeZ} {ns:List Nd} (hs:∀i (hi:i < ns.length),qjs ns[i] i) {i:Nat} (hi:i < ns.length):evT E ns i = qdf E ns[i] (evT E ns):=by
 have e:ns[((i:Nat):Int).toNat]? = some ns[i]:=by rw [Int.toNat_natCast];exact jh hi
 rw [evT,evF,e]
 simp only
 obtain ⟨I,B⟩:=hs i hi
 refine qfm I λj hj=>?_
 have J:=B j hj
 obtain ⟨j',rfl⟩ :∃j':Nat,j = (j':Int):=⟨j.toNat,zo⟩
 exact qtS hs j' zo _ _ zo zo
mutual
def okV:Val->Prop
 | .mk _ n _ l=>I64 n/\qkp l
def qkp:List Val->Prop
 | []=>True
 | v :: l=>okV v/\qkp l
end
theorem qfS:∀{l:List Val},qkp l↔∀v ∈ l,okV v
 | []=>by simp [qkp]
 | v :: l=>by rw [qkp,qfS];simp
theorem qda {v:Val} (h:okV v):I64 (qbg v):=by
 obtain ⟨k,n,s,l⟩:=v
 rw [okV] at h
 exact h.1
theorem qfZ:I64 0:=⟨zo,zo⟩
theorem qCx:I64 1:=⟨zo,zo⟩
def OkR (r:Res):Prop:=okV r.1/\(r.2 = 0->qr 3 r.1 = true)
theorem OkR.wrong {e:Int} (h:e ≠ 0):OkR (qa3 e):=⟨by simp [qa3,qM,okV,qkp,qfZ],λh'=>absurd h' h⟩
theorem qcU (n:Int):∀d,qr d (.mk 0 n [] []) = true
 | 0=>rfl
 | d + 1=>rfl
theorem OkR.whole {n:Int} (h:I64 n):OkR (qcl n):=⟨by simp [qcl,okV,qkp,h],λ_=>qcU n 3⟩
theorem OkR.truth (b:Bool):OkR (qbq b):=by
 cases b
 ·exact ⟨by simp [qbq,okV,qkp,qfZ],λ_=>rfl⟩
 ·exact ⟨by simp [qbq,okV,qkp,qCx],λ_=>rfl⟩
theorem OkR.checked {v:Val} (h:okV v):OkR (qaG v):=by
 rw [qaG]
 cases hr:qr 3 v with
 | true=>exact ⟨h,λ_=>hr⟩
 | false=>exact OkR.wrong (by decide)
theorem qgE:∀{d:Nat} {v:Val},qr d v = true->qr (d + 1) v = true
 | 0,.mk k n s l,h=>by
  rw [qr] at h
  rw [qr]
  cases h3:(k == 3) with
  | true=>
   have:k = 3:=by simpa using h3
   subst this
   simp [qfa] at h
  | false=>rw [cond_false];exact h
 | d + 1,.mk k n s l,h=>by
  rw [qr] at h
  rw [qr]
  cases h3:(k == 3) with
  | true=>
   rw [h3,cond_true] at h
   rw [cond_true]
   simp only [jk,List.all_eq_true] at h ⊢
   exact ⟨h.1,λx hx=>qgE (h.2 x hx)⟩
  | false=>
   rw [h3,cond_false] at h
   rw [cond_false]
   exact h
structure qsJ (E:qeZ):Prop extends EnvOK E where
 vr:∀v ∈ E.vals,okV v
 br:∀l ∈ E.bag,∀v ∈ l,okV v
 or:∀x ∈ E.oth,okV x.2.2
 er:I64 E.en/\I64 E.ed
theorem qtZ (r:Int):I64 (qgT r):=by
 rw [qgT]
 cases h:qdR r with
 | true=>exact qas.1 h
 | false=>exact qfZ
theorem qET {l:List Val}:OkR (qzH l):=by
 rw [qzH]
 cases l.all isI with
 | false=>exact OkR.wrong (by decide)
 | true=>
  rw [cond_true]
  cases h:qdR (qcm (l.map qbg)) with
  | true=>exact OkR.whole (qas.1 h)
  | false=>exact OkR.wrong (by decide)
theorem qvP {op a b:Int} (ha:I64 a) (hb:I64 b):OkR (.mk 0 (qbH op a b).1 [] [],(qbH op a b).2):=by
 have f:∀r,OkR (.mk 0 (qgT r) [] [],qi2 r):=λr=>⟨by simp [okV,qkp,qtZ],λ_=>qcU _ 3⟩
 have z:∀e,OkR (.mk 0 0 [] [],e):=λe=>⟨by simp [okV,qkp,qfZ],λ_=>qcU _ 3⟩
 have tm:I64 (a.tmod b):=by
  have h1:(a.tmod b).natAbs <= a.natAbs:=by rw [Int.natAbs_tmod];exact Nat.mod_le _ _
  have h2:0 <= a->0 <= a.tmod b:=λh=>Int.tmod_nonneg _ h
  have h3:a <= 0->a.tmod b <= 0:=λh=>by
   have:=Int.tmod_nonneg b (show 0 <= -a by omega)
   rw [Int.neg_tmod] at this
   omega
  obtain ⟨p,q⟩:=ha
  constructor <;> omega
 unfold qbH
 by_cases h1:op = 15
 ·rw [if_pos h1];exact f _
 ·rw [if_neg h1]
  by_cases h2:op = 16
  ·rw [if_pos h2];exact f _
  ·rw [if_neg h2]
   by_cases h3:op = 17
   ·rw [if_pos h3];exact f _
   ·rw [if_neg h3]
    by_cases h4:b = 0
    ·rw [if_pos h4];exact z _
    ·rw [if_neg h4]
     by_cases h5:op = 18
     ·rw [if_pos h5];exact f _
     ·rw [if_neg h5]
      exact ⟨by simp [okV,qkp,tm],λ_=>qcU _ 3⟩
theorem qsI:okV qM/\qr 3 qM = true:=⟨by simp [qM,okV,qkp,qfZ],rfl⟩
theorem qBZ {op:Int} {vs:List Val} (h:∀v ∈ vs,okV v):OkR (qkK op vs):=by
 unfold qkK
 split
 ·rename_i v
  have hv:=h v (by simp)
  cases isI v
  ·exact OkR.wrong (by decide)
  ·exact qvP qfZ (qda hv)
 ·rename_i v w
  have hv:=h v (by simp)
  have hw:=h w (by simp)
  cases isI v && isI w
  ·exact OkR.wrong (by decide)
  ·exact qvP (qda hv) (qda hw)
 ·exact OkR.wrong (by decide)
theorem qfM {α:Type} {l:List α} {i:Int} {x:α} (h:qiz l i = some x):x ∈ l:=by
 rcases qdH h with ⟨e,_⟩ | ⟨j,hj,e,_⟩
 ·cases e
 ·cases e
  exact List.getElem_mem hj
theorem qA6 {n:Int} {v:Val} (h:okV v) (hr:qr 3 v = true):OkR (qiF n v):=by
 obtain ⟨k,m,s,l⟩:=v
 rw [qiF]
 cases h3:(k == 3) with
 | false=>exact OkR.wrong (by decide)
 | true=>
  rw [j3,cond_false]
  cases hx:qiz l n with
  | none=>exact OkR.wrong (by decide)
  | some x=>
   have hm:=qfM hx
   rw [okV] at h
   refine ⟨qfS.1 h.2 x hm,λ_=>?_⟩
   rw [qr,h3,cond_true] at hr
   simp only [jk,List.all_eq_true] at hr
   exact qgE (hr.2 x hm)
theorem qE7 {E:qeZ} (hE:qsJ E) (op:Int) (nm sb:Str) (pl:Int):OkR (qz2 E op nm sb pl):=by
 rw [qz2]
 cases op == 4 with
 | true=>
  rw [cond_true]
  cases hx:qiz E.vals pl with
  | none=>exact OkR.wrong (by decide)
  | some v=>exact OkR.checked (hE.vr v (qfM hx))
 | false=>
  rw [cond_false]
  cases hx:E.oth.find? (λx=>x.1 == nm && x.2.1 == sb) with
  | none=>exact OkR.wrong (by decide)
  | some x=>exact OkR.checked (hE.or x (List.mem_of_find?_eq_some hx))
theorem qCI {E:qeZ} (hE:qsJ E) (pl:Int):(qfA E pl).length <= 200/\∀v ∈ qfA E pl,okV v:=by
 rw [qfA]
 cases hx:qiz E.bag pl with
 | none=>simp
 | some l=>exact ⟨(hE.bs l (qfM hx)).1,hE.br l (qfM hx)⟩
theorem qBT {E:qeZ} (hE:qsJ E) (op pl:Int) {vs:List Val} (h:∀v ∈ vs,okV v/\qr 3 v = true):OkR (qi6 E op pl vs):=by
 obtain ⟨h1,h2⟩:=qCI hE pl
 unfold qi6
 generalize qfA E pl = l at *
 cases op == 7 with
 | true=>exact OkR.whole ⟨zo,zo⟩
 | false=>
  cases op == 8 with
  | true=>exact OkR.truth _
  | false=>
   cases op == 9 with
   | true=>exact qET
   | false=>
    rw [cond_false,cond_false,cond_false]
    cases l with
    | cons v l=>exact OkR.checked (h2 v (by simp))
    | nil=>
     cases vs with
     | nil=>exact OkR.wrong (by decide)
     | cons v vs=>exact ⟨(h v (by simp)).1,λ_=>(h v (by simp)).2⟩
theorem qwb {E:qeZ} (hE:qsJ E) {nd:Nd} (hn:I64 nd.n) {vs:List Val} (h:∀v ∈ vs,okV v/\qr 3 v = true):OkR (qaN E nd vs):=by
 have hg:∀i,okV (vs.getD i qM)/\qr 3 (vs.getD i qM) = true:=λi=>by
  rw [List.getD_eq_getElem?_getD]
  cases hx:vs[i]? with
  | none=>exact qsI
  | some v=>exact h v (List.mem_of_getElem? hx)
 unfold qaN
 cases nd.op == 0 with
 | true=>exact OkR.whole hn
 | false=>
  cases nd.op == 1 || nd.op == 2 with
  | true=>exact OkR.truth _
  | false=>
   cases nd.op == 3 with
   | true=>exact OkR.checked (by simp [okV,qkp,qfZ])
   | false=>
    cases nd.op == 4 || nd.op == 5 with
    | true=>exact qE7 hE _ _ _ _
    | false=>
     cases nd.op == 11 with
     | true=>exact ⟨by simp [okV,qkp,qfZ,hE.er.1,hE.er.2],λ_=>rfl⟩
     | false=>
      cases nd.op == 7 || nd.op == 8 || nd.op == 9 || nd.op == 10 with
      | true=>exact qBT hE _ _ h
      | false=>
       cases nd.op == 6 with
       | true=>exact OkR.checked (by rw [okV,qfS];exact ⟨qfZ,λv hv=>(h v hv).1⟩)
       | false=>
        cases nd.op == 12 with
        | true=>exact qA6 (hg 0).1 (hg 0).2
        | false=>
         cases nd.op == 20 with
         | true=>exact OkR.truth _
         | false=>
          cases nd.op == 21 with
          | true=>exact OkR.truth _
          | false=>
           cases nd.op == 22 with
           | true=>exact OkR.truth _
           | false=>
            cases nd.op == 14 with
            | true=>
             rw [cond_true]
             generalize vs.getD 0 qM = v
             obtain ⟨k,n,s,l⟩:=v
             simp only [cond_false,qz1]
             cases k == 1
             ·exact OkR.wrong (by decide)
             ·exact OkR.truth _
            | false=>exact qBZ λv hv=>(h v hv).1
theorem qvM {E:qeZ} (hE:qsJ E) {nd:Nd} (hn:I64 nd.n) {ev:Int->Res} (he:∀j,OkR (ev j)):∀{l:List Int} {vs:List Val},(∀v ∈ vs,okV v/\qr 3 v = true)->OkR (qcC ev (qaN E nd) l vs)
 | [],vs,h=>by rw [qcC];exact qwb hE hn h
 | j :: js,vs,h=>by
  rw [qcC]
  cases hz:(ev j).2 == 0 with
  | false=>exact he j
  | true=>
   rw [j3,cond_false]
   refine qvM hE hn he λv hv=>?_
   rcases jJ.1 hv with hv | hv
   ·exact h v hv
   ·rw [Jd.1 hv]
    exact ⟨(he j).1,(he j).2 (by simpa using hz)⟩
theorem qxd {E:qeZ} (hE:qsJ E) {nd:Nd} (hn:I64 nd.n) {ev:Int->Res} (he:∀j,OkR (ev j)):OkR (qdf E nd ev):=by
 rw [qdf]
 cases qlU nd.op with
 | false=>exact qvM hE hn he λv hv=>by cases hv
 | true=>
  rw [cond_true]
  unfold qce
  dsimp only
  cases !((ev (nd.ins.getD 0 0)).2 == 0) with
  | true=>exact he _
  | false=>
   cases !(qco (ev (nd.ins.getD 0 0)).1 == 1) with
   | true=>exact OkR.wrong (by decide)
   | false=>
    cases ilt (q6 nd.op nd.ins (ev (nd.ins.getD 0 0))) 0 with
    | true=>exact he _
    | false=>
     simp only [cond_false]
     generalize q6 nd.op nd.ins (ev (nd.ins.getD 0 0)) = c
     cases ((ev c).2 == 0 && !(nd.op == 25)) && !(qco (ev c).1 == 1) with
     | true=>exact OkR.wrong (by decide)
     | false=>exact he _
theorem qxI {E:qeZ} (hE:qsJ E) {ns:List Nd} (hn:∀nd ∈ ns,I64 nd.n):∀f i,OkR (evF E ns f i)
 | 0,i=>by rw [evF];exact OkR.wrong (by decide)
 | f + 1,i=>by
  rw [evF]
  cases hx:ns[i.toNat]? with
  | none=>exact OkR.wrong (by decide)
  | some nd=>exact qxd hE (hn nd (List.mem_of_getElem? hx)) (qxI hE hn f)
def okX:Nat->Exl->Prop
 | 0,_=>True
 | d + 1,.mk _ n _ _ aS=>I64 n/\∀a ∈ aS,okX d a
def NdP (b j:Nat) (nd:Nd):Prop:=(Cho nd.op nd.ins\/qgS nd.op nd.ins.length)/\(∀x ∈ nd.ins,(b:Int) <= x/\x < (b + j:Nat))/\I64 nd.n
def qn6 (b:Nat) (ns:List Nd):Prop:=∀j (h:j < ns.length),NdP b j ns[j]
theorem qpt {vn pn:List Str} (op n:Int) (nm sb:Str) (ins:List Int):(fin vn pn op n nm sb ins).op = op/\(fin vn pn op n nm sb ins).n = n/\(fin vn pn op n nm sb ins).ins = ins:=by
 unfold fin
 cases op == 3 <;> cases op == 4 <;> cases op == 5 <;> cases op == 7 <;> cases op == 8 <;> cases op == 9 <;> cases op == 10 <;> exact ⟨rfl,rfl,rfl⟩
theorem qn6.app {b:Nat} {out l:List Nd} (h:qn6 b out) (hl:qn6 (b + out.length) l):qn6 b (out ++ l):=λj hj=>by
 by_cases h1:j < out.length
 ·rw [List.getElem_append_left h1];exact h j h1
 ·rw [List.getElem_append_right zo]
  simp at hj
  obtain ⟨q1,q2,q3⟩:=hl (j - out.length) zo
  exact ⟨q1,λx hx=>by have:=q2 x hx;omega,q3⟩
theorem qn6.snoc {b:Nat} {out:List Nd} {nd:Nd} (h:qn6 b out) (hn:NdP b out.length nd):qn6 b (out ++ [nd]):=λj hj=>by
 by_cases h1:j < out.length
 ·rw [List.getElem_append_left h1];exact h j h1
 ·have:j = out.length:=by simp at hj;omega
  subst this
  rw [List.getElem_append_right zo]
  simpa using hn
theorem qlb {f:Nat->Exl->List Nd} (b:Nat):∀(aS:List Exl) (out:List Nd) (ins:List Int),(∀a ∈ aS,∀c,qn6 c (f c a)/\0 < (f c a).length)->qn6 b out->(∀x ∈ ins,(b:Int) <= x/\x < (b + out.length:Nat))->
  qn6 b (qa8 f b aS out ins).1/\(∀x ∈ (qa8 f b aS out ins).2,(b:Int) <= x/\x < (b + (qa8 f b aS out ins).1.length:Nat))/\(qa8 f b aS out ins).2.length = ins.length + aS.length
 | [],out,ins,_,ho,hi=>by rw [qa8];exact ⟨ho,hi,by simp⟩
 | a :: aS,out,ins,ha,ho,hi=>by
  obtain ⟨h1,h2⟩:=ha a (jG ..) (b + out.length)
  rw [qa8]
  obtain ⟨r1,r2,r3⟩:=qlb b aS (out ++ f (b + out.length) a) (ins ++ [((b + (out ++ f (b + out.length) a).length:Nat):Int) - 1]) (λx hx=>ha x (jK _ hx)) (ho.app h1) (λx hx=>by
   rw [ji]
   rcases jJ.1 hx with hx | hx
   ·have:=hi x hx;omega
   ·rw [Jd.1 hx,ji];omega)
  exact ⟨r1,r2,by rw [r3];simp;omega⟩
theorem qz5 {op:Int} {ins:List Int} (h:KA op ins.length):Cho op ins\/qgS op ins.length:=by
 rcases h with ⟨rfl,h⟩ | ⟨rfl,h⟩ | ⟨rfl,h⟩ | h
 ·match ins,h with
  | [a,b,c],_=>exact .inl (.inl ⟨rfl,a,b,c,rfl⟩)
 ·match ins,h with
  | [a,b],_=>exact .inl (.inr (.inl ⟨rfl,a,b,rfl⟩))
 ·match ins,h with
  | [a,b],_=>exact .inl (.inr (.inr ⟨rfl,a,b,rfl⟩))
 ·exact .inr h
theorem qBm {vn pn:List Str}:∀(d:Nat) (e:Exl),right d e = true->okX d e->∀b,qn6 b (low vn pn d b e)/\0 < (low vn pn d b e).length
 | 0,e,h,_,_=>by rw [right] at h;cases h
 | d + 1,.mk op n nm sb aS,h,hx,b=>by
  rw [right,jk,List.all_eq_true] at h
  obtain ⟨g1,g2,g3⟩:=qlb (f:=low vn pn d) b aS [] [] (λa ha c=>qBm d a (h.2 a ha) (hx.2 a ha) c) (λj hj=>by simp at hj) (λx hx=>by cases hx)
  rw [low]
  generalize qa8 (low vn pn d) b aS [] [] = gg at *
  obtain ⟨out,ins⟩:=gg
  simp only at *
  obtain ⟨f1,f2,f3⟩:=qpt (vn:=vn) (pn:=pn) op n nm sb ins
  refine ⟨g1.snoc ⟨?_,?_,?_⟩,by simp⟩
  ·rw [f1,f3]
   exact qz5 (by rw [g3];simpa using (qc9 h.1).1)
  ·rw [f3]
   exact g2
  ·rw [f2];exact hx.1
structure OkW (W:Wl):Prop where
 x:okX 20 W.e
 v:∀v ∈ W.vals,okV v
 b:∀l ∈ W.bag,∀v ∈ l,okV v
 o:∀v ∈ W.ofv,okV v
 t:I64 W.en/\I64 W.ed
theorem qap.r20 {W:Wl} (h:qap W):right 20 W.e = true:=by
 have:=h.ty
 rw [qfE] at this
 cases hq:right 20 W.e with
 | true=>rfl
 | false=>rw [hq] at this;cases this
theorem qjm {W:Wl} (h:qap W) (ho:OkW W):qoa (wNs W)/\(∀nd ∈ wNs W,I64 nd.n)/\(wNs W).length <= 90000:=by
 obtain ⟨h1,h2⟩:=qBm (vn:=W.N.vars.map (·.2.1)) (pn:=W.N.ports.map (·.1)) 20 W.e h.r20 ho.x 0
 refine ⟨⟨List.length_pos_iff.1 h2,λi hi=>?_⟩,λnd B=>?_,?_⟩
 ·obtain ⟨a,b,_⟩:=h1 i hi
  exact ⟨a,λx hx=>by have:=b x hx;omega⟩
 ·obtain ⟨i,hi,rfl⟩:=List.getElem_of_mem B
  exact (h1 i hi).2.2
 ·have e1:sz 20 W.e <= sz 40 W.e:=qkL 20 W.e 20
  have e2:=h.siz
  rw [wNs,qkl]
  omega
theorem qlI {W:Wl} (h:qap W) (ho:OkW W):qsJ (wE W):=by
 refine ⟨⟨by show W.vals.length <= 1000;have:=h.vl;have:=h.ve;omega,by show W.bag.length <= 1000;have:=h.pl;have:=h.be;omega,by show ((W.N.oth.zip W.ofv).map _).length <= 1000;have:=h.ol;simp;omega,λl hl=>?_⟩,ho.v,ho.b,λx hx=>?_,ho.t⟩
 ·obtain ⟨j,hj,rfl⟩:=List.getElem_of_mem hl
  have hj:j < W.bag.length:=hj
  obtain ⟨b1,_,b3⟩:=h.bs j hj (by have:=h.be;omega)
  refine ⟨by show (W.bag[j]).length <= 200;omega,λn hn=>?_,λv hv=>(qhF (b3 v hv)).1⟩
  obtain ⟨v,hv,rfl⟩:=jR.1 hn
  exact qda (ho.b _ (List.getElem_mem hj) v hv)
 ·obtain ⟨y,hy,rfl⟩:=jR.1 hx
  exact ho.o _ (List.of_mem_zip hy).2
def qfO (v:Val) (t:Tp):Prop:=qr 3 v = true/\qa2 v = t
theorem qhJ {v:Val} {t:Tp} (h:qec v t = true):qfO v t:=qhF h
def qv5:Val->List Val
 | .mk _ _ _ l=>l
theorem qdA (k n:Int) (s:Str) (l:List Val):qa2 (.mk k n s l) = .mk k (l.map qa2):=by rw [qa2,qbN]
theorem qfO.kind {v:Val} {t:Tp} (h:qfO v t):qco v = qP t:=by
 obtain ⟨k,n,s,l⟩:=v
 rw [<-h.2,qdA]
 rfl
theorem quD {n:Int} {s:Str} {l:List Val} (h:qr 3 (.mk 0 n s l) = true):s = []/\l = []:=by
 rw [qr] at h
 have h:qfa 0 n s l = true:=h
 have hl:=qaM h
 subst hl
 have h:((s == []) && true) = true:=h
 exact ⟨by simpa using h,rfl⟩
theorem qqB {n:Int} {s:Str} {l:List Val} (h:qr 3 (.mk 1 n s l) = true):(n = 0\/n = 1)/\s = []/\l = []:=by
 rw [qr] at h
 have h:qfa 1 n s l = true:=h
 have hl:=qaM h
 subst hl
 have h:(((n == 0 || n == 1) && (s == [])) && true) = true:=h
 simp only [jx,jk,Bool.or_eq_true,beq_iff_eq] at h
 exact ⟨h.1,h.2,rfl⟩
theorem qfO.int {v:Val} {t:Tp} (h:qfO v t) (hk:qP t = 0):∃n,v = .mk 0 n [] []:=by
 obtain ⟨k,n,s,l⟩:=v
 have e:=h.kind
 rw [hk] at e
 have e:k = 0:=e
 subst e
 obtain ⟨rfl,rfl⟩:=quD h.1
 exact ⟨n,rfl⟩
theorem qfO.bool {v:Val} {t:Tp} (h:qfO v t) (hk:qP t = 1):∃n,(n = 0\/n = 1)/\v = .mk 1 n [] []:=by
 obtain ⟨k,n,s,l⟩:=v
 have e:=h.kind
 rw [hk] at e
 have e:k = 1:=e
 subst e
 obtain ⟨h0,rfl,rfl⟩:=qqB h.1
 exact ⟨n,h0,rfl⟩
theorem qeD (n:Int):qfO (.mk 0 n [] []) qy:=⟨qcU n 3,rfl⟩
theorem qbI (b:Bool):qfO (qbq b).1 qac:=by cases b <;> exact ⟨rfl,rfl⟩
theorem qgF:∀(d:Nat) (v:Val),qr d v = true->∀k,qcE (qa2 v) <= k->qr k v = true
 | 0,.mk kk n s l,h,k,hd=>by
  rw [qr] at h
  have h3:(kk == 3) = false:=by
   cases h3:(kk == 3) with
   | false=>rfl
   | true=>
    have:kk = 3:=by simpa using h3
    subst this
    simp [qfa] at h
  cases k with
  | zero=>rw [qr];exact h
  | succ k=>rw [qr,h3,cond_false];exact h
 | d + 1,.mk kk n s l,h,k,hd=>by
  rw [qr] at h
  cases h3:(kk == 3) with
  | false=>
   rw [h3,cond_false] at h
   cases k with
   | zero=>rw [qr];exact h
   | succ k=>rw [qr,h3,cond_false];exact h
  | true=>
   rw [h3,cond_true] at h
   rw [qdA,qcE,h3,cond_true] at hd
   obtain ⟨q,rfl⟩ :∃q,k = q + 1:=⟨k - 1,zo⟩
   rw [qr,h3,cond_true]
   simp only [jk,List.all_eq_true] at h ⊢
   refine ⟨h.1,λx hx=>qgF d x (h.2 x hx) q ?_⟩
   have:=qin (l.map qa2) (qa2 x) (List.mem_map_of_mem hx)
   omega
def qzN (W:Wl) (nm:Str):Option Val:=((W.N.vars.zip W.vals).find? λx=>x.1.2.1 == nm).map (·.2)
def qzb (W:Wl) (p nm:Str):Option Val:=((W.N.oth.zip W.ofv).find? λx=>x.1.1 == p && x.1.2.1 == nm).map (·.2)
def qeX (W:Wl) (nm:Str):List Val:=match (W.N.ports.zip W.bag).find? (λx=>x.1.1 == nm) with
 | some x=>x.2
 | none=>[]
def qag (W:Wl) (op n:Int) (nm sb:Str) (vs:List Val):Res:=
 bif op == 0 then qcl n else bif op == 1 || op == 2 then qbq (op == 1) else bif op == 3 then (.mk 2 0 nm [],0) else
 bif op == 4 then (match qzN W nm with | some v=>(v,0) | none=>(qM,16)) else bif op == 5 then (match qzb W nm sb with | some v=>(v,0) | none=>(qM,16)) else
 bif op == 6 then (.mk 3 0 [] vs,0) else bif op == 7 then qcl ((qeX W nm).length:Nat) else bif op == 8 then qbq (ilt 0 ((qeX W nm).length:Nat)) else
 bif op == 9 then (bif qdR (qcm ((qeX W nm).map qbg)) then qcl (qcm ((qeX W nm).map qbg)) else (qM,2)) else
 bif op == 10 then (match qeX W nm with | v :: _=>(v,0) | []=>(vs.getD 0 qM,0)) else
 bif op == 11 then (.mk 3 0 [] [.mk 0 W.en [] [],.mk 0 W.ed [] []],0) else
 bif op == 12 then ((qv5 (vs.getD 0 qM)).getD n.toNat qM,0) else
 bif op == 13 then (.mk 0 (qbH 16 0 (qbg (vs.getD 0 qM))).1 [] [],(qbH 16 0 (qbg (vs.getD 0 qM))).2) else
 bif op == 14 then qbq (qbg (vs.getD 0 qM) == 0) else
 bif op == 20 then qbq (qf7 (vs.getD 0 qM) (vs.getD 1 qM) == 0) else
 bif op == 21 then qbq (ilt (qf7 (vs.getD 0 qM) (vs.getD 1 qM)) 0) else
 bif op == 22 then qbq (ile (qf7 (vs.getD 0 qM) (vs.getD 1 qM)) 0) else
 (.mk 0 (qbH op (qbg (vs.getD 0 qM)) (qbg (vs.getD 1 qM))).1 [] [],(qbH op (qbg (vs.getD 0 qM)) (qbg (vs.getD 1 qM))).2)
def qbA (f:Exl->Res) (k:List Val->Res):List Exl->List Val->Res
 | [],vs=>k vs
 | a :: aS,vs=>bif !((f a).2 == 0) then (qM,(f a).2) else qbA f k aS (vs ++ [(f a).1])
def qlo:Exl:=.mk 0 0 [] [] []
def evD (W:Wl):Nat->Exl->Res
 | 0,_=>(qM,16)
 | d + 1,.mk op n nm sb aS=>
  bif qlU op then
   bif !((evD W d (aS.getD 0 qlo)).2 == 0) then (qM,(evD W d (aS.getD 0 qlo)).2) else
   bif op == 25 then (bif qbg (evD W d (aS.getD 0 qlo)).1 == 1 then evD W d (aS.getD 1 qlo) else evD W d (aS.getD 2 qlo))
   else bif qbg (evD W d (aS.getD 0 qlo)).1 == op - 23 then evD W d (aS.getD 0 qlo) else evD W d (aS.getD 1 qlo)
  else qbA (evD W d) (qag W op n nm sb) aS []
def qat (r:Res) (t:Tp):Prop:=(r.2 = 0/\qfO r.1 t)\/((r.2 = 2\/r.2 = 3\/r.2 = 16)/\r.1 = qM)
theorem qat.ok {v:Val} {t:Tp} (h:qfO v t):qat (v,0) t:=.inl ⟨rfl,h⟩
def qcq:List Val->List Tp->Prop
 | [],[]=>True
 | v :: vs,t :: ts=>qfO v t/\qcq vs ts
 | _,_=>False
theorem qcq.length:∀{vs:List Val} {ts:List Tp},qcq vs ts->vs.length = ts.length
 | [],[],_=>rfl
 | _ :: _,_ :: _,h=>by simp [qcq.length h.2]
 | [],_ :: _,h=>h.elim
 | _ :: _,[],h=>h.elim
theorem qcq.snoc:∀{vs:List Val} {ts:List Tp} {v:Val} {t:Tp},qcq vs ts->qfO v t->qcq (vs ++ [v]) (ts ++ [t])
 | [],[],_,_,_,h=>⟨h,trivial⟩
 | _ :: _,_ :: _,_,_,h,h2=>⟨h.1,h.2.snoc h2⟩
 | [],_ :: _,_,_,h,_=>h.elim
 | _ :: _,[],_,_,h,_=>h.elim
theorem qcq.get:∀{vs:List Val} {ts:List Tp},qcq vs ts->∀i,i < vs.length->qfO (vs.getD i qM) (ts.getD i qy)
 | [],[],_,i,h=>by simp at h
 | v :: vs,t :: ts,h,0,_=>h.1
 | v :: vs,t :: ts,h,i + 1,hi=>by simpa using h.2.get i (by simpa using hi)
 | [],_ :: _,h,_,_=>h.elim
 | _ :: _,[],h,_,_=>h.elim
theorem qcq.map:∀{vs:List Val} {ts:List Tp},qcq vs ts->vs.map qa2 = ts/\∀v ∈ vs,qr 3 v = true
 | [],[],_=>⟨rfl,λv h=>by cases h⟩
 | v :: vs,t :: ts,h=>⟨by rw [List.map_cons,h.1.2,h.2.map.1],λx hx=>by
     rcases List.mem_cons.1 hx with rfl | hx
     ·exact h.1.1
     ·exact h.2.map.2 x hx⟩
 | [],_ :: _,h=>h.elim
 | _ :: _,[],h=>h.elim
theorem qyP (W:Wl) (nm:Str):nmd (qmI nm) (qg5 W) = qzN W nm:=by
 rw [nmd,qg5,qzN,List.find?_map,Option.map_map]
 rfl
theorem qBr (W:Wl) (p nm:Str):nmd (qzY p nm) (wOf W) = qzb W p nm:=by
 rw [nmd,wOf,qzb,List.find?_map,Option.map_map]
 rfl
theorem qc4 (W:Wl) (p:Str):qlR (qjq W) p = qeX W p:=by
 rw [qlR,qjq,qeX,List.find?_map]
 show (match (List.find? (λx:(Str×Tp)×List Val=>x.1.1 == p) (W.N.ports.zip W.bag)).map (λx=>(x.1.1,x.2)) with | some x=>x.2 | none=>[]) = _
 cases List.find? (λx:(Str×Tp)×List Val=>x.1.1 == p) (W.N.ports.zip W.bag) <;> rfl
structure qn2 (W:Wl) (V0 V1 V4:qa) (g:List qb):Prop where
 v0:SlR g 0 6 ((qg5 W).map qcR) V0
 v1:SlR g 0 2 ((qjq W).map qh5) V1
 v4:SlR g 0 6 ((wOf W).map qcR) V4
theorem qn2.keep {W:Wl} {V0 V1 V4:qa} {g g':List qb} (h:qn2 W V0 V1 V4 g) (hg:∀i,i < g.length->g'[i]? = g[i]?):qn2 W V0 V1 V4 g':=⟨h.v0.keep λi _ hi=>hg i hi,h.v1.keep λi _ hi=>hg i hi,h.v4.keep λi _ hi=>hg i hi⟩
def qjL (W:Wl) (V0 V1 V4:qa):List qa:=[V0,V1,.int .i64 W.en,.int .i64 W.ed,V4]
def EO (W:Wl) (V0 V1 V4:qa) (f:Exl->Res) (e:Exl):Prop:=∀g:List qb,qn2 W V0 V1 V4 g->∃cs m,Wd (.fn 11 [] []) [exV e,.agg (qjL W V0 V1 V4)] g = some (.ret (.tup [.agg cs,.int .i64 (f e).2]),g ++ m,false)/\At (qcx g.length (g ++ m)) (f e).1 cs
theorem ql6 {f:Exl->Res} {k:List Val->Res} {l:List Exl} {i:Nat} {vs:List Val} (hi:i < l.length):qbA f k (l.drop i) vs = bif !((f l[i]).2 == 0) then (qM,(f l[i]).2) else qbA f k (l.drop (i + 1)) (vs ++ [(f l[i]).1]):=by
 rw [jV hi,qbA]
section
variable {h:List qb}
def eb (W:Wl) (V0 V1 V4:qa) (op n:Int) (nm sb:Str) (aS:List Exl):List qb:=[.cells [.int .i64 op,.int .i64 n,.str nm,.str sb,.lst (aS.map exV) .no],.cells (qjL W V0 V1 V4),zr4,zr4]
structure ES (W:Wl) (V0 V1 V4:qa) (op n:Int) (nm sb:Str) (aS:List Exl) (h:List qb) (K:Nat->Option qb) (G:List qb) (vs:List Val) (V:qa):Prop where
 old:∀i,i < h.length + 4->G[i]? = (h ++ eb W V0 V1 V4 op n nm sb aS)[i]?
 len:h.length + 4 <= G.length
 cov:Cov K G
 bse:∀j x,K j = some x->h.length + 4 <= j
 sl:VSl K G (h.length + 4) vs V
theorem ES.at {W:Wl} {V0 V1 V4:qa} {op n:Int} {nm sb:Str} {aS:List Exl} {K:Nat->Option qb} {G:List qb} {vs:List Val} {V:qa} (S:ES W V0 V1 V4 op n nm sb aS h K G vs V) (j:Nat) (hj:j < 4):G[h.length + j]? = (eb W V0 V1 V4 op n nm sb aS)[j]?:=by
 rw [S.old _ zo,jc zo,Nat.add_sub_cancel_left]
theorem ES.lo {W:Wl} {V0 V1 V4:qa} {op n:Int} {nm sb:Str} {aS:List Exl} {K:Nat->Option qb} {G:List qb} {vs:List Val} {V:qa} (S:ES W V0 V1 V4 op n nm sb aS h K G vs V) (i:Nat) (hi:i < h.length):G[i]? = h[i]?:=by
 rw [S.old i zo,ja hi]
theorem ES.tk {W:Wl} {V0 V1 V4:qa} {op n:Int} {nm sb:Str} {aS:List Exl} {K:Nat->Option qb} {G:List qb} {vs:List Val} {V:qa} (S:ES W V0 V1 V4 op n nm sb aS h K G vs V):G.take h.length = h:=by
 apply List.ext_getElem?
 intro i
 rw [List.getElem?_take]
 split
 ·exact S.lo i ‹_›
 ·rw [List.getElem?_eq_none zo]
theorem qjN (W:Wl) (V0 V1 V4:qa) (hE:qn2 W V0 V1 V4 h) (op n:Int) (nm sb:Str) (aS:List Exl) (f:Exl->Res) (kk:List Val->Res) (ha:∀a ∈ aS,EO W V0 V1 V4 f a) (hl:aS.length <= 20) :
  ∀k st,(∃(tt:List qa) (G:List qb) (i:Nat) (K:Nat->Option qb) (V:qa) (vs:List Val),st = ⟨tt,G,false⟩/\tt.length = 348/\lkp tt 2 = .ptr h.length 0/\lkp tt 3 = .ptr (h.length + 1) 0/\lkp tt 4 = .ptr (h.length + 2) 0/\lkp tt 6 = .ptr (h.length + 3) 0/\lkp tt 11 = V/\lkp tt 12 = .int .i64 (i:Nat)/\i + k = aS.length/\vs.length = i/\ES W V0 V1 V4 op n nm sb aS h K G vs V/\qbA f kk aS [] = qbA f kk (aS.drop i) vs)->
   ∃x U,qj h.length Wd (.loop qj2) st = some (x,U)/\(∃(tt:List qa) (G:List qb) (K:Nat->Option qb) (V:qa) (vs:List Val),U = ⟨tt,G,false⟩/\tt.length = 348/\lkp tt 2 = .ptr h.length 0/\lkp tt 3 = .ptr (h.length + 1) 0/\lkp tt 4 = .ptr (h.length + 2) 0/\lkp tt 6 = .ptr (h.length + 3) 0/\((x = .exit 1/\lkp tt 11 = V/\vs.length = aS.length/\ES W V0 V1 V4 op n nm sb aS h K G vs V/\qbA f kk aS [] = kk vs)\/(x = .ret/\G.take h.length = h/\h.length + 2 < G.length/\G[h.length + 2]? = some zr4/\lkp tt 5 = .int .i64 (qbA f kk aS []).2/\(qbA f kk aS []).1 = qM))):=by
 refine qx _ _ ?_
 rintro k st ⟨tt,G,i,K,V,vs,rfl,ht,e2,e3,e4,e6,e11,e12,ap,ad,S,hA⟩
 generalize he:qj h.length Wd qj2 _ = r
 have au:=S.len
 have b0:G[h.length]? = some (.cells [.int .i64 op,.int .i64 n,.str nm,.str sb,.lst (aS.map exV) .no]):=S.at 0 zo
 have b1:G[h.length + 1]? = some (.cells (qjL W V0 V1 V4)):=S.at 1 zo
 have b2:G[h.length + 2]? = some (.cells [.int .i64 0,.int .i64 0,.str [],.lst [] .full]):=S.at 2 zo
 have b3:G[h.length + 3]? = some (.cells [.int .i64 0,.int .i64 0,.str [],.lst [] .full]):=S.at 3 zo
 obtain ⟨vd,ac,vw,vl⟩:=S.sl.facts
 obtain ⟨d0,s0,w0,_,k0⟩:=hE.v0.facts
 obtain ⟨d1,s1,w1,_,k1⟩:=hE.v1.facts
 obtain ⟨d4,s4,w4,_,k4⟩:=hE.v4.facts
 rw [qjL] at b1
 rcases Nat.lt_or_ge i aS.length with hi | hi
 ·have c1E:ilt (i:Int) (aS.length:Int) = true:=by rw [qe];simp;omega
  have w:=qU (n:=i) zo
  have ae:=ha _ (List.getElem_mem hi)
  rw [ql6 hi] at hA
  have x1:=qj1 hi
  obtain ⟨rs,m,B,M⟩:=ae (G ++ [.cells [.int .i64 0,.int .i64 0,.str [],.lst [] .full]]) (hE.keep λi hi=>by rw [ja zo,S.lo i hi])
  generalize ar:f aS[i] = fa at *
  obtain ⟨v,x0⟩:=fa
  simp only at hA B M
  obtain ⟨vk,vn,vz,I,LL,rfl,rfl,ld,J,lw,_⟩:=M.cells
  generalize aS[i] = a at *
  obtain ⟨ay,aA,az,av,aB⟩:=a
  rw [qD,qjL] at B
  rw [qb3] at x1
  have hB:∀j,j < 6->Nat.ble h.length (h.length + j) = true:=λj _=>qf zo
  have a1:Nat.ble h.length G.length = true:=qf zo
  cases E:(x0 == 0) with
  | false=>
   simp only [E,j4,cond_true] at hA
   simp only [sA.1,qj2,seval,ht,e2,e3,e4,e6,e11,e12,c1E,b0,b1,b2,b3,x1,B,ld,J,lw,d0,s0,w0,k0,d1,s1,w1,k1,d4,s4,w4,k4,E,show h.length < G.length by omega,show h.length + 1 < G.length by omega,show h.length + 2 < G.length by omega,show h.length + 3 < G.length by omega,a1,hB 2 zo] at he
   subst he
   refine .inr ⟨_,_,rfl,by simp,_,_,K,V,vs,rfl,Y0,?_,?_,?_,?_,.inr ⟨rfl,?_,?_,?_,?_,?_⟩⟩
   ·simp only [sA.1,seval,ht,e2]
   ·simp only [sA.1,seval,ht,e3]
   ·simp only [sA.1,seval,ht,e4]
   ·simp only [sA.1,seval,ht,e6]
   ·rw [List.take_append_of_le_length (by simp;omega),jZ zo,S.tk]
   ·simp;omega
   ·rw [ja (by simp;omega),jg zo,zr4]
   ·simp only [sA.1,seval,ht,hA]
   ·rw [hA]
  | true=>
   simp only [E,j3,cond_false] at hA
   have a8:=λ(g:List qb)=>qyn h.length vk vn vz LL ld J g
   obtain ⟨X,hX⟩ :∃X,X = G ++ qb.cells [.int .i64 vk,.int .i64 vn,.str vz,LL] :: m:=⟨_,rfl⟩
   have ah:X.length = G.length + (m.length + 1):=by rw [hX];simp
   obtain ⟨K',O⟩ :∃K':Nat->Option qb,K' = λi=>if i < G.length then K i else if i = G.length then none else X[i]?:=⟨_,rfl⟩
   have o1:∀i,i < G.length->K' i = K i:=λi hi=>by rw [O];exact if_pos hi
   have o2:K' G.length = none:=by rw [O];simp
   have o3:∀i,G.length < i->K' i = X[i]?:=λi hi=>by rw [O];simp only;rw [if_neg zo,if_neg zo]
   have oX:∀i,i < G.length->X[i]? = G[i]?:=λi hi=>by rw [hX,ja hi]
   have a7:Sub K K':=λi x hx=>by rw [o1 i (S.cov.lt hx)];exact hx
   have aa:Cov K' X:=λi x hx=>by
    rcases Nat.lt_trichotomy i G.length with hi | hi | hi
    ·rw [o1 i hi] at hx;rw [oX i hi];exact S.cov i x hx
    ·subst hi;rw [o2] at hx;cases hx
    ·rw [o3 i hi] at hx;exact hx
   have ab:∀j x,K' j = some x->h.length + 4 <= j:=λj x hx=>by
    by_cases hj:j < G.length
    ·rw [o1 j hj] at hx;exact S.bse j x hx
    ·omega
   have a6:At K' (.mk vk vn vz I) [.int .i64 vk,.int .i64 vn,.str vz,LL]:=M.mono λi x hx=>by
    by_cases hi:(G ++ [qb.cells [.int .i64 0,.int .i64 0,.str [],.lst [] .full]]).length <= i
    ·rw [qL hi] at hx
     simp at hi
     rw [o3 i zo,hX]
     rw [List.append_assoc,jc zo] at hx
     rw [jc zo]
     obtain ⟨q,hq⟩ :∃q,i - G.length = q + 1:=⟨i - G.length - 1,zo⟩
     rw [hq] at hx ⊢
     simpa using hx
    ·rw [qav hi] at hx
     cases hx
   have aj:VSl K' X (h.length + 4) vs V:=S.sl.keep a7 (λj hj hn=>by rw [o1 j hj];exact hn) λj _ hj=>oX j hj
   obtain ⟨G',af,ai,ak,am,hold⟩:=aj.next (base:=h.length) aa zo zo a6
   have al:hop h.length (.app 4) [V,.sl (G.length + (m.length + 1)) 0 1 1 0] (G ++ qb.cells [.int .i64 vk,.int .i64 vn,.str vz,LL] :: (m ++ [qb.cells [.int .i64 vk,.int .i64 vn,.str vz,LL]])) = some (.sl (X.length + 1) 0 (vs.length + 1) (vs.length + 1) 4,G',false):=by
    have e2:G ++ qb.cells [.int .i64 vk,.int .i64 vn,.str vz,LL] :: (m ++ [qb.cells [.int .i64 vk,.int .i64 vn,.str vz,LL]]) = X ++ [qb.cells [.int .i64 vk,.int .i64 vn,.str vz,LL]]:=by rw [hX];simp
    rw [e2,<-ah]
    exact af
   have S':ES W V0 V1 V4 op n nm sb aS h K' G' (vs ++ [.mk vk vn vz I]) (.sl (X.length + 1) 0 (vs.length + 1) (vs.length + 1) 4):=⟨λj hj=>by rw [hold j zo,oX j zo];exact S.old j hj,zo,ak,ab,ai⟩
   simp only [sA.1,qj2,seval,ht,e2,e3,e4,e6,e11,e12,c1E,b0,b1,b2,b3,x1,B,ld,J,lw,d0,s0,w0,k0,d1,s1,w1,k1,d4,s4,w4,k4,E,show h.length < G.length by omega,show h.length + 1 < G.length by omega,show h.length + 2 < G.length by omega,show h.length + 3 < G.length by omega,a1,hB 2 zo,vd,ac,vw,a8,al,w] at he
   subst he
   refine .inl ⟨_,k - 1,rfl,zo,_,G',i + 1,K',_,vs ++ [.mk vk vn vz I],rfl,Y0,?_,?_,?_,?_,?_,?_,zo,by simp [ad],S',hA⟩
   all_goals simp only [sA.1,seval,ht,e2,e3,e4,e6,w]
 ·have c1E:ilt (i:Int) (aS.length:Int) = false:=by rw [qe];simp;omega
  rw [List.drop_of_length_le hi,qbA] at hA
  simp only [sA.1,qj2,seval,ht,e2,e12,c1E,b0,show h.length < G.length by omega] at he
  subst he
  refine .inr ⟨_,_,rfl,by simp,_,G,K,V,vs,rfl,Y0,?_,?_,?_,?_,.inl ⟨rfl,?_,zo,S,hA⟩⟩
  all_goals simp only [sA.1,seval,ht,e2,e3,e4,e6,e11]
end
section
variable {h:List qb}
theorem qzG (L:List Val) (l:List Int) (I:L.map qbg = l) (f:qfH) (hf:f = .no\/f = .full) (hs:qhZ l) (hl:l.length <= 200):Wd (.fn 30 [] []) [.lst (L.map qa6) f] h = some (.ret (.tup [.int .i64 (qgT (qcm l)),.bool (qdR (qcm l))]),h,false):=by
 have J:L.length = l.length:=by rw [<-I,List.length_map]
 have hd:∀xs,(qa.lst xs f).dim = .lst xs f:=λxs=>by rcases hf with rfl | rfl <;> rfl
 have loop:∀k st,(∃tt i A B,st = ⟨tt,h,false⟩/\tt.length = 51/\lkp tt 0 = .lst (L.map qa6) f/\lkp tt 6 = .int .i64 (i:Nat)/\lkp tt 4 = .int .i64 A/\lkp tt 5 = .int .i64 B/\i + k = l.length/\A + sHi (l.drop i) = sHi l/\B + sLo (l.drop i) = sLo l∧-2147483648 * (i:Int) <= A/\A <= 2147483648 * (i:Int)/\0 <= B/\B <= 4294967296 * (i:Int))->
   ∃x E,qj h.length Wd (.loop qmR) st = some (x,E)/\(x = .exit 0/\∃tt,E = ⟨tt,h,false⟩/\tt.length = 51/\lkp tt 4 = .int .i64 (sHi l)/\lkp tt 5 = .int .i64 (sLo l)):=by
  refine qx _ _ ?_
  rintro k st ⟨tt,i,A,B,rfl,ht,e0,e6,e4,e5,O,hA,hB,a1,a2,b1,b2⟩
  generalize he:qj h.length Wd qmR _ = r
  rcases Nat.lt_or_ge i l.length with hi | hi
  ·have c1E:ilt (i:Int) (l.length:Int) = true:=by rw [qe];simp;omega
   obtain ⟨vk,vz,vl,M⟩ :∃k s q,L[i]' zo = .mk k l[i] s q:=by
    subst I
    simp only [List.getElem_map]
    rcases L[i]' zo with ⟨k,n,s,q⟩
    exact ⟨k,s,q,rfl⟩
   have hx:qar 4 (.lst (L.map qa6) f) (.int .i64 (i:Nat)) = some (.iptr [.int .i64 vk,.int .i64 l[i],.str vz,.lst (vl.map qa6) .no] 0):=qa4 (x:=.agg [.int .i64 vk,.int .i64 l[i],.str vz,.lst (vl.map qa6) .no]) (by rw [List.getElem?_map,jh zo,M,Option.map_some,qkP]) rfl
   have w:=qU (n:=i) zo
   obtain ⟨n1,n2⟩:=hs _ (List.getElem_mem hi)
   rw [jV hi,sHi] at hA
   rw [jV hi,sLo] at hB
   simp only [sA.1,qmR,seval,ht,e0,e6,e4,e5,c1E,hd,hx,w,J] at he
   obtain ⟨t1,t2,t3⟩:=tm l[i]
   have d:=td l[i]
   generalize l[i] = n at *
   have v1:IntKind.i64.wrap (B + n % 4294967296) = B + n % 4294967296:=qbS zo zo
   have v2:IntKind.i64.wrap (n - n % 4294967296) = n - n % 4294967296:=qbS zo zo
   have v3:IntKind.i64.wrap (n / 4294967296) = n / 4294967296:=qbS zo zo
   have v4:IntKind.i64.wrap (A + n / 4294967296) = A + n / 4294967296:=qbS zo zo
   cases hb:ilt (n.tmod 4294967296) 0 with
   | true=>
    rw [qe,decide_eq_true_eq] at hb
    have t1:=t1 hb
    have v0:IntKind.i64.wrap (n.tmod 4294967296 + 4294967296) = n % 4294967296:=by rw [t1];exact qbS zo zo
    have hb:ilt (n.tmod 4294967296) 0 = true:=by rw [qe,decide_eq_true hb]
    simp only [sA.1,hb,seval,ht,e0,e6,e4,e5,hd,hx,w,v0,v1,v2,v3,v4,d] at he
    subst he
    refine .inl ⟨_,k - 1,rfl,zo,_,i + 1,A + n / 4294967296,B + n % 4294967296,rfl,Y0,by simp only [sA.1,seval,ht,e0],u3,u3,u3,zo,zo,zo,?_,?_,?_,?_⟩ <;> first | omega | (rw [Int.natCast_add];omega)
   | false=>
    rw [qe,decide_eq_false_iff_not] at hb
    have t2:=t2 zo
    have hb:ilt (n % 4294967296) 0 = false:=by rw [<-t2,qe,decide_eq_false hb]
    simp only [sA.1,hb,seval,ht,e0,e6,e4,e5,hd,hx,w,t2,v1,v2,v3,v4,d] at he
    subst he
    refine .inl ⟨_,k - 1,rfl,zo,_,i + 1,A + n / 4294967296,B + n % 4294967296,rfl,Y0,by simp only [sA.1,seval,ht,e0],u3,u3,u3,zo,zo,zo,?_,?_,?_,?_⟩ <;> first | omega | (rw [Int.natCast_add];omega)
  ·have c1E:ilt (i:Int) (l.length:Int) = false:=by rw [qe];simp;omega
   simp only [sA.1,qmR,seval,ht,e0,e6,c1E,hd,J] at he
   subst he
   rw [List.drop_eq_nil_of_le hi,sHi,Int.add_zero] at hA
   rw [List.drop_eq_nil_of_le hi,sLo,Int.add_zero] at hB
   subst hA
   subst hB
   exact .inr ⟨_,_,rfl,by simp,rfl,_,rfl,Y0,w6,z13⟩
 have hT:-9223372036854775808 * 200 <= qcm l/\qcm l <= 9223372036854775808 * 200:=by
  obtain ⟨h1,h2⟩:=qgM hs
  omega
 have hh:=qv4 l
 obtain ⟨p1,p2⟩:=qws l
 obtain ⟨p3,p4⟩:=qwr hs
 have g1:(sLo l).tdiv 4294967296 = sLo l / 4294967296:=Int.tdiv_eq_ediv_of_nonneg p1
 have g2:(sLo l).tmod 4294967296 = sLo l % 4294967296:=Int.tmod_eq_emod_of_nonneg p1
 have v1:IntKind.i64.wrap (sLo l / 4294967296) = sLo l / 4294967296:=qbS zo zo
 have e1:sHi l + sLo l / 4294967296 = qcm l / 4294967296:=zo
 have e2:sLo l % 4294967296 = qcm l % 4294967296:=zo
 have v2:IntKind.i64.wrap (sHi l + sLo l / 4294967296) = qcm l / 4294967296:=by rw [e1];exact qbS zo zo
 have q:(ilt 2147483647 (qcm l / 4294967296) || ilt (qcm l / 4294967296) (-2147483648)) = !qdR (qcm l):=by
  rw [Bool.eq_iff_iff,Bool.not_eq_true',<-Bool.not_eq_true,qas,I64,Bool.or_eq_true,qe,qe,decide_eq_true_eq,decide_eq_true_eq]
  omega
 rw [qm 30 c30]
 simp only [sA.1,c30,seval,hd]
 generalize hr:qj h.length Wd (.loop qmR) _ = r
 obtain ⟨x,E,rfl,rfl,tt,rfl,ht,e4,e5⟩:=qaH hr (loop l.length _ ⟨_,0,0,0,rfl,Y2,Y2,y9,Y2,Y2,zo,by simp,by simp,by simp,by simp,by simp,by simp⟩)
 cases hf:qdR (qcm l) with
 | true=>
  have hI:=qas.1 hf
  unfold I64 at hI
  rw [hf] at q
  have v3:IntKind.i64.wrap (qcm l / 4294967296 * 4294967296) = qcm l / 4294967296 * 4294967296:=qbS zo zo
  have v4:IntKind.i64.wrap (qcm l / 4294967296 * 4294967296 + qcm l % 4294967296) = qcm l:=by
   rw [show qcm l / 4294967296 * 4294967296 + qcm l % 4294967296 = qcm l by omega]
   exact qbS zo zo
  simp only [sA.1,seval,ht,e4,e5,g1,g2,v1,v2,e2,q,v3,v4,j3]
  simp [qgT,hf]
 | false=>
  rw [hf] at q
  simp only [sA.1,seval,ht,e4,e5,g1,g2,v1,v2,e2,q,j4]
  simp [qgT,hf]
end
mutual
theorem qn7 {n:Nat} {K:Nat->Option qb} (hK:∀i x,K i = some x->n <= i) {H:Nat->Option qb}:∀(t:Val) {cs:List qa},At K t cs->qt n cs = true->At H t cs
 | .mk k m s l,cs,h,hl=>by
  obtain ⟨L,rfl,rs,h1,h2,h3⟩:=h.lp
  simp only [qt,jk] at hl
  rcases h3 with ⟨f,hf,rfl⟩ | ⟨id,m,rfl,h4⟩
  ·have B:qt n (rs.map .agg) = true:=hl.2.2.2.1
   exact .lst k m s l rs f hf h1 λi a b=>qkT hK l rs h1 (λi a b=>h2 i a b) B i a b
  ·have:=hK _ _ h4
   have h5:Nat.blt id n = true:=hl.2.2.2.1
   rw [qde this] at h5
   cases h5
theorem qkT {n:Nat} {K:Nat->Option qb} (hK:∀i x,K i = some x->n <= i) {H:Nat->Option qb}:∀(l:List Val) (rs:List (List qa)),rs.length = l.length->(∀(i:Nat) (h:i < l.length) (h':i < rs.length),At K l[i] rs[i])->qt n (rs.map .agg) = true->∀(i:Nat) (h:i < l.length) (h':i < rs.length),At H l[i] rs[i]
 | [],_,_,_,_,i,h,_=>by simp at h
 | t :: l,[],h1,_,_,_,_,_=>by simp at h1
 | t :: l,r :: rs,h1,h2,h3,i,h,h'=>by
  rw [List.map_cons,qt,jk] at h3
  have B:qt n r = true:=h3.1
  cases i with
  | zero=>exact qn7 hK t (h2 0 (by simp) (by simp)) B
  | succ i=>exact qkT hK l rs (by simpa using h1) (λi a b=>h2 (i + 1) (by simp;omega) (by simp;omega)) h3.2 i (by simpa using h) (by simpa using h')
end
theorem qaQ {h F:List qb} {b:Nat} {r:Res} {rs:List qa} {f:Int} (hT:At (qcx b F) r.1 rs) (hb:h.length <= b) (hF:F.take h.length = h) (hf:r.2 = f):∃cs m,some (qaE h.length (.ret (.tup [.agg rs,.int .i64 f])) F false) = some (.ret (.tup [.agg cs,.int .i64 r.2]),h ++ m,false)/\At (qcx h.length (h ++ m)) r.1 cs:=by
 subst hf
 obtain ⟨m,hm,B⟩:=qI (v:=.tup [.agg rs,.int .i64 r.2]) hF
 refine ⟨rs,m,congrArg some hm,?_⟩
 cases hl:(qa.tup [.agg rs,.int .i64 r.2]).lower h.length with
 | true=>
  have E:qt h.length rs = true:=by
   simp only [qa.lower,qt,jx] at hl
   exact hl
  refine qn7 (n:=h.length) (K:=qcx b F) (λi x hx=>?_) r.1 hT E
  by_cases hi:b <= i
  ·omega
  ·rw [qav hi] at hx;cases hx
 | false=>
  rw [B hl]
  refine hT.mono λi x hx=>?_
  by_cases hi:b <= i
  ·rw [qL hi] at hx;rw [qL zo];exact hx
  ·rw [qav hi] at hx;cases hx
theorem atE {H:Nat->Option qb} (k n:Int) (s:Str) (l:List Val):At H (.mk k n s l) [.int .i64 k,.int .i64 n,.str s,.lst (l.map qa6) .no]:=by rw [<-qaU];exact At.arg _
theorem qax {h F:List qb} {k n f:Int} {s:Str} {r:Res} (hF:F.take h.length = h) (h1:r.1 = .mk k n s []) (hf:r.2 = f):∃cs m,some (qaE h.length (.ret (.tup [.agg [.int .i64 k,.int .i64 n,.str s,.lst [] .full],.int .i64 f])) F false) = some (.ret (.tup [.agg cs,.int .i64 r.2]),h ++ m,false)/\At (qcx h.length (h ++ m)) r.1 cs:=
 qaQ (b:=h.length) (by rw [h1];exact At.leaf _ k n s) (jm _) hF hf
def Two (f:Exl->Res) (aS:List Exl) (Q:List Val->Prop):Prop:=(∃vs,Q vs/\∀k,qbA f k aS [] = k vs)\/∃e,∀k,qbA f k aS [] = (qM,e)
def qcp (vs:List Val):Res:=(.mk 3 0 [] vs,0)
theorem quN {vs ws:List Val} (h:qcp vs = qcp ws):vs = ws:=by
 rw [qcp,qcp] at h
 injection h with h _
 injection h
theorem qiU {vs:List Val} (h:(qcp vs).1 = qM):False:=by
 rw [qcp,qM] at h
 injection h with h
 exact absurd h (by decide)
def qa0:qE:=match c11.code with
 | .seq _ (.seq _ (.seq _ (.seq _ (.seq _ r))))=>r
 | c=>c
structure Aft (W:Wl) (V0 V1 V4:qa) (h:List qb) (o n:Int) (nm sb:Str) (aS:List Exl) (tt:List qa) (G:List qb) (K:Nat->Option qb) (V:qa) (ws:List Val):Prop where
 F:tt.length = 348/\lkp tt 2 = .ptr h.length 0/\lkp tt 3 = .ptr (h.length + 1) 0/\lkp tt 4 = .ptr (h.length + 2) 0/\lkp tt 6 = .ptr (h.length + 3) 0/\lkp tt 11 = V/\G[h.length]? = some (.cells [.int .i64 o,.int .i64 n,.str nm,.str sb,.lst (aS.map exV) .no])/\G[h.length + 1]? = some (.cells [V0,V1,.int .i64 W.en,.int .i64 W.ed,V4])/\G[h.length + 2]? = some (.cells [.int .i64 0,.int .i64 0,.str [],.lst [] .full])/\G[h.length + 3]? = some (.cells [.int .i64 0,.int .i64 0,.str [],.lst [] .full])/\h.length < G.length/\h.length + 1 < G.length/\h.length + 2 < G.length/\h.length + 3 < G.length/\Nat.ble h.length (h.length + 2) = true/\V.dim = V/\V.storable = true/\∀i t,qz V i t = t
 N:V0.dim = V0/\V0.storable = true/\(∀i t,qz V0 i t = t)/\V0.cells = [V0]/\V1.dim = V1/\V1.storable = true/\(∀i t,qz V1 i t = t)/\V1.cells = [V1]/\V4.dim = V4/\V4.storable = true/\(∀i t,qz V4 i t = t)/\V4.cells = [V4]
 S:ES W V0 V1 V4 o n nm sb aS h K G ws V
 E:qn2 W V0 V1 V4 G
 tks:∀X,(G.set (h.length + 2) X).take h.length = h
def qaa (W:Wl) (h:List qb) (o n:Int) (nm sb:Str) (ws:List Val) (tt:List qa) (G:List qb):Prop:=
 ∃cs m,qdQ c11.results h (qj h.length Wd qa0 ⟨tt,G,false⟩) = some (.ret (.tup [.agg cs,.int .i64 (qag W o n nm sb ws).2]),h ++ m,false)/\At (qcx h.length (h ++ m)) (qag W o n nm sb ws).1 cs
theorem qaK {h:List qb} {W:Wl} {V0 V1 V4:qa} (hE:qn2 W V0 V1 V4 h) {o n:Int} (ho:o < 23) {nm sb:Str} {aS:List Exl} {f:Exl->Res} (ha:∀a ∈ aS,EO W V0 V1 V4 f a) (hl:aS.length <= 20) {Q:List Val->Prop} (hM:Two f aS Q) (hZ:∀{tt G K V ws},Q ws->Aft W V0 V1 V4 h o n nm sb aS tt G K V ws->qaa W h o n nm sb ws tt G):∃cs m,Wd (.fn 11 [] []) [exV (.mk o n nm sb aS),.agg (qjL W V0 V1 V4)] h = some (.ret (.tup [.agg cs,.int .i64 (qbA f (qag W o n nm sb) aS []).2]),h ++ m,false)/\At (qcx h.length (h ++ m)) (qbA f (qag W o n nm sb) aS []).1 cs:=by
 have loop:=qjN (h:=h) W V0 V1 V4 hE o n nm sb aS f qcp ha hl
 obtain ⟨d0,s0,w0,_,k0⟩:=hE.v0.facts
 obtain ⟨d1,s1,w1,_,k1⟩:=hE.v1.facts
 obtain ⟨d4,s4,w4,_,k4⟩:=hE.v4.facts
 have o1:(o == 23) = false:=by rw [beq_eq_false_iff_ne];omega
 have o2:(o == 24) = false:=by rw [beq_eq_false_iff_ne];omega
 have o3:(o == 25) = false:=by rw [beq_eq_false_iff_ne];omega
 have M:Nat.ble h.length (h.length + 3) = true:=qf zo
 generalize hw:Wd _ _ h = w
 rw [qD,qjL] at hw
 rw [qm 11 c11] at hw
 simp only [sA.1,c11,seval,d0,s0,w0,k0,d1,s1,w1,k1,d4,s4,w4,k4,M,o1,o2,o3] at hw
 generalize hr:qj h.length Wd (.loop qj2) _ = r at hw
 obtain ⟨x,O,rfl,tt,G,K,V,vs,rfl,ht,e2,e3,e4,e6,⟨rfl,e11,U,S,hA⟩ | ⟨rfl,E,I,J,e5,hz⟩⟩:=qaH hr (loop aS.length _ ⟨_,_,0,λ_=>none,.lst [] .full,[],rfl,Y2,Y2,Y2,Y2,Y2,Y2,y9,zo,rfl,⟨λ_ _=>rfl,by simp,(λ_ _ e=>by cases e),(λ_ _ e=>by cases e),.inl ⟨rfl,rfl⟩⟩,rfl⟩)
 ·rcases hM with ⟨ws,hQ,hk⟩ | ⟨e,hk⟩
  ·obtain rfl:=quN ((hk qcp).symm.trans hA)
   rw [hk]
   obtain ⟨vd,B,vw,_⟩:=S.sl.facts
   have a1:=S.len
   subst hw
   exact hZ hQ ⟨⟨ht,e2,e3,e4,e6,e11,S.at 0 zo,S.at 1 zo,S.at 2 zo,S.at 3 zo,zo,zo,zo,zo,qf zo,vd,B,vw⟩,⟨d0,s0,w0,k0,d1,s1,w1,k1,d4,s4,w4,k4⟩,S,hE.keep λi hi=>S.lo i hi,λX=>by rw [jZ zo,S.tk]⟩
  ·rw [hk] at hA
   exact absurd (congrArg Prod.fst hA) λq=>qiU q.symm
 ·rcases hM with ⟨ws,hQ,hk⟩ | ⟨e,hk⟩
  ·rw [hk] at hz
   exact (qiU hz).elim
  ·rw [hk] at e5 ⊢
   simp only [sA.1,seval,ht,e4,e5,J,I,zr4] at hw
   subst hw
   exact qax E rfl rfl
section
variable {h:List qb} {W:Wl} {V0 V1 V4:qa} {n:Int} {nm sb:Str} {aS:List Exl} {tt:List qa} {G:List qb} {K:Nat->Option qb} {V:qa} {ws:List Val}
theorem qCR (A:Aft W V0 V1 V4 h 0 n nm sb aS tt G K V ws):qaa W h 0 n nm sb ws tt G:=by
 obtain ⟨F,N,S,E,B⟩:=A
 unfold qaa;generalize hw:qdQ _ _ _ = w
 simp only [sA.1,seval,qa0,c11,F] at hw
 subst hw
 exact qax (B _) rfl rfl
theorem qCS (A:Aft W V0 V1 V4 h 1 n nm sb aS tt G K V ws):qaa W h 1 n nm sb ws tt G:=by
 obtain ⟨F,N,S,E,B⟩:=A
 unfold qaa;generalize hw:qdQ _ _ _ = w
 simp only [sA.1,seval,qa0,c11,F,qcc] at hw
 subst hw
 exact qax (B _) rfl rfl
theorem qCT (A:Aft W V0 V1 V4 h 2 n nm sb aS tt G K V ws):qaa W h 2 n nm sb ws tt G:=by
 obtain ⟨F,N,S,E,B⟩:=A
 unfold qaa;generalize hw:qdQ _ _ _ = w
 simp only [sA.1,seval,qa0,c11,F,qcc] at hw
 subst hw
 exact qax (B _) rfl rfl
theorem qCU (A:Aft W V0 V1 V4 h 3 n nm sb aS tt G K V ws):qaa W h 3 n nm sb ws tt G:=by
 obtain ⟨F,N,S,E,B⟩:=A
 unfold qaa;generalize hw:qdQ _ _ _ = w
 simp only [sA.1,seval,qa0,c11,F] at hw
 subst hw
 exact qax (B _) rfl rfl
theorem qCV (M:(qg5 W).length <= 50) (A:Aft W V0 V1 V4 h 4 n nm sb aS tt G K V ws):qaa W h 4 n nm sb ws tt G:=by
 obtain ⟨F,N,S,U,E⟩:=A
 obtain ⟨ht,e2,e3,e4,e6,e11,a0,a1,a2,a3,l0,l1,l2,l3,J,vd,a6,vw⟩:=id F
 obtain ⟨d0,s0,w0,k0,d1,s1,w1,k1,d4,s4,w4,k4⟩:=id N
 have a8:=S.len
 unfold qaa;generalize hw:qdQ _ _ _ = w
 rw [show qag W 4 n nm sb ws = (match qzN W nm with | some v=>(v,0) | none=>(qM,16)) from rfl,<-qyP]
 have lp:=qnY (h:=h) 4 n nm sb aS (qg5 W) M V0 V1 V4 W.en W.ed G U.v0 a0 a1 a2
 simp only [sA.1,seval,qa0,c11,F] at hw
 generalize O:qj h.length Wd (.loop qj3) _ = r2 at hw
 obtain ⟨x2,st2,rfl,a7,I,f4,f6,⟨rfl,rfl,hn⟩ | ⟨v,cs,rfl,rfl,rfl,f5,hn⟩⟩:=qaH O (lp (qg5 W).length _ ⟨_,0,rfl,u3,x10,u7,w6,x8,x11,zo,rfl⟩)
 ·rw [hn]
  simp only [sA.1,seval,I,f4,f6,a2,a3,l2,l3,J] at hw
  subst hw
  exact qax (E _) rfl rfl
 ·rw [hn]
  obtain ⟨vk,vn,vz,B⟩:=v
  rw [qaU] at hw
  simp only [sA.1,seval,I,f4,f5,a2,l2,J,jg l2,Jc] at hw
  subst hw
  exact qaQ (b:=h.length) (r:=(.mk vk vn vz B,0)) (atE vk vn vz B) (jm _) (E _) rfl
theorem qCW (M:(wOf W).length <= 50) (A:Aft W V0 V1 V4 h 5 n nm sb aS tt G K V ws):qaa W h 5 n nm sb ws tt G:=by
 obtain ⟨F,N,S,U,E⟩:=A
 obtain ⟨ht,e2,e3,e4,e6,e11,a0,a1,a2,a3,l0,l1,l2,l3,J,vd,a6,vw⟩:=id F
 obtain ⟨d0,s0,w0,k0,d1,s1,w1,k1,d4,s4,w4,k4⟩:=id N
 have a8:=S.len
 unfold qaa;generalize hw:qdQ _ _ _ = w
 rw [show qag W 5 n nm sb ws = (match qzb W nm sb with | some v=>(v,0) | none=>(qM,16)) from rfl,<-qBr]
 have lp:=qre (h:=h) 5 n nm sb aS (wOf W) M V0 V1 V4 W.en W.ed G U.v4 a0 a1 a2
 simp only [sA.1,seval,qa0,c11,F] at hw
 generalize O:qj h.length Wd (.loop qiK) _ = r2 at hw
 obtain ⟨x2,st2,rfl,a7,I,f4,f6,⟨rfl,rfl,hn⟩ | ⟨v,cs,rfl,rfl,rfl,f5,hn⟩⟩:=qaH O (lp (wOf W).length _ ⟨_,0,rfl,u3,x10,u7,w6,x8,x11,zo,rfl⟩)
 ·rw [hn]
  simp only [sA.1,seval,I,f4,f6,a2,a3,l2,l3,J] at hw
  subst hw
  exact qax (E _) rfl rfl
 ·rw [hn]
  obtain ⟨vk,vn,vz,B⟩:=v
  rw [qaU] at hw
  simp only [sA.1,seval,I,f4,f5,a2,l2,J,jg l2,Jc] at hw
  subst hw
  exact qaQ (b:=h.length) (r:=(.mk vk vn vz B,0)) (atE vk vn vz B) (jm _) (E _) rfl
end
end Go.Proofs.YtnibchoenjmmjaaGreatDoor.AE
