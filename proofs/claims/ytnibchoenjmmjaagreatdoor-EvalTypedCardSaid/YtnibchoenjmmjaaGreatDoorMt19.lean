/- Proved: part 19. No condition. -/
import Derived.Test.YtnibchoenjmmjaaGreatDoorMt14
import Derived.Test.YtnibchoenjmmjaaGreatDoorMt18
import Derived.Test.YtnibchoenjmmjaaGreatDoorMt15
import Derived.Test.YtnibchoenjmmjaaGreatDoorMt13
import Derived.Test.YtnibchoenjmmjaaGreatDoorMt16
set_option maxRecDepth 100000
set_option maxHeartbeats 0
open List renaming getElem?_append_left→ja,mem_cons_self→jJ,take_set_of_le→j8,getElem?_set_ne→jg,getElem?_set_self→jh,drop_eq_getElem_cons→jX,getElem?_eq_getElem→ji,length_append→jj,append_assoc→jr,append_nil→jK,mem_append→jM,mem_cons_of_mem→jN,getElem?_map→ju,mem_singleton→Je,length_cons→jD,length_nil→jE,mem_map→jU,take_left→Jf
open Bool renaming and_eq_true→jm,true_and→jY,false_and→jQ,and_true→jA,not_true→j0,not_false→j3,true_or→jZ
open Option renaming map_some→jO
open Nat renaming zero_add→jz
namespace Go.Proofs.YtnibchoenjmmjaaGreatDoor.AE
open Go.AE
def evF (E:qfh) (ns:List Nd):Nat->Int->Res
 | 0,_=>qbk 1
 | f + 1,i=>match ns[i.toNat]? with
  | none=>qbk 1
  | some nd=>qdr E nd (evF E ns f)
def evT (E:qfh) (ns:List Nd):Int->Res:=evF E ns (ns.length + 1)
theorem qgl {ev B:Int->Res} {k:List Val->Res}:∀{l:List Int} {vs:List Val},(∀j ∈ l,ev j = B j)->qcT ev k l vs = qcT B k l vs
 | [],_,_=>rfl
 | j :: js,vs,h=>by
  rw [qcT,qcT,h j (jJ ..),qgl λx hx=>h x (jN _ hx)]
theorem qfE {E:qfh} {nd:Nd} {ev B:Int->Res} (hs:Cho nd.op nd.ins\/qhp nd.op nd.ins.length) (h:∀j ∈ nd.ins,ev j = B j):qdr E nd ev = qdr E nd B:=by
 rw [qdr,qdr]
 rcases hs with hc | ha
 ·rw [hc.chB,cond_true,cond_true,qcv,qcv,h _ hc.head]
  have hm:=qdq hc (B (nd.ins.getD 0 0))
  rcases hm with e | e
  ·rw [e]
   have:ilt (-1) 0 = true:=xk
   rw [this]
   rfl
  ·rw [h _ e]
 ·rw [ha.chB,cond_false,cond_false]
  exact qgl h
theorem qtU {E:qfh} {ns:List Nd} (hs:∀i (hi:i < ns.length),qjN ns[i] i):∀(i:Nat),i < ns.length->∀f f',i < f->i < f'->evF E ns f i = evF E ns f' i:=by
 intro i
 induction i using Nat.strongRecOn with
 | _ i ih=>
  intro hi f f' h1 h2
  obtain ⟨a,rfl⟩ :∃a,f = a + 1:=⟨f - 1,zo⟩
  obtain ⟨b,rfl⟩ :∃b,f' = b + 1:=⟨f' - 1,zo⟩
  have e:ns[((i:Nat):Int).toNat]? = some ns[i]:=by rw [Int.toNat_natCast];exact ji hi
  rw [evF,evF,e]
  simp only
  obtain ⟨I,B⟩:=hs i hi
  refine qfE I λj hj=>?_
  have J:=B j hj
  obtain ⟨j',rfl⟩ :∃j':Nat,j = (j':Int):=⟨j.toNat,zo⟩
  exact ih j' zo zo a b zo zo
theorem qvV {E:qfh} {ns:List Nd} (hs:∀i (hi:i < ns.length),qjN ns[i] i) {i:Nat} (hi:i < ns.length):evT E ns i = qdr E ns[i] (evT E ns):=by
 have e:ns[((i:Nat):Int).toNat]? = some ns[i]:=by rw [Int.toNat_natCast];exact ji hi
 rw [evT,evF,e]
 simp only
 obtain ⟨I,B⟩:=hs i hi
 refine qfE I λj hj=>?_
 have J:=B j hj
 obtain ⟨j',rfl⟩ :∃j':Nat,j = (j':Int):=⟨j.toNat,zo⟩
 exact qtU hs j' zo _ _ zo zo
mutual
def okV:Val->Prop
 | .mk _ n _ l=>I64 n/\qkK l
def qkK:List Val->Prop
 | []=>True
 | v :: l=>okV v/\qkK l
end
theorem qgb:∀{l:List Val},qkK l↔∀v ∈ l,okV v
 | []=>by simp [qkK]
 | v :: l=>by rw [qkK,qgb];simp
theorem qgT {v:Val} (h:okV v):I64 (qb9 v):=by
 obtain ⟨k,n,s,l⟩:=v
 rw [okV] at h
 exact h.1
theorem qhP:I64 0:=⟨zo,zo⟩
theorem qCB:I64 1:=⟨zo,zo⟩
def OkR (r:Res):Prop:=okV r.1/\(r.2 = 0->qu 3 r.1 = true)
theorem OkR.wrong {e:Int} (h:e ≠ 0):OkR (qbk e):=⟨by simp [qbk,qap,okV,qkK,qhP],λh'=>absurd h' h⟩
theorem qda (n:Int):∀d,qu d (.mk 0 n [] []) = true
 | 0=>rfl
 | d + 1=>rfl
theorem OkR.whole {n:Int} (h:I64 n):OkR (qdP n):=⟨by simp [qdP,okV,qkK,h],λ_=>qda n 3⟩
theorem OkR.truth (b:Bool):OkR (qbH b):=by
 cases b
 ·exact ⟨by simp [qbH,okV,qkK,qhP],λ_=>rfl⟩
 ·exact ⟨by simp [qbH,okV,qkK,qCB],λ_=>rfl⟩
theorem OkR.checked {v:Val} (h:okV v):OkR (qa3 v):=by
 rw [qa3]
 cases hr:qu 3 v with
 | true=>exact ⟨h,λ_=>hr⟩
 | false=>exact OkR.wrong (by decide)
theorem qg0:∀{d:Nat} {v:Val},qu d v = true->qu (d + 1) v = true
 | 0,.mk k n s l,h=>by
  rw [qu] at h
  rw [qu]
  cases h3:(k == 3) with
  | true=>
   have:k = 3:=by simpa using h3
   subst this
   simp [qet] at h
  | false=>rw [cond_false];exact h
 | d + 1,.mk k n s l,h=>by
  rw [qu] at h
  rw [qu]
  cases h3:(k == 3) with
  | true=>
   rw [h3,cond_true] at h
   rw [cond_true]
   simp only [jm,List.all_eq_true] at h ⊢
   exact ⟨h.1,λx hx=>qg0 (h.2 x hx)⟩
  | false=>
   rw [h3,cond_false] at h
   rw [cond_false]
   exact h
structure qsN (E:qfh):Prop extends EnvOK E where
 vr:∀v ∈ E.vals,okV v
 br:∀l ∈ E.bag,∀v ∈ l,okV v
 or:∀x ∈ E.oth,okV x.2.2
 er:I64 E.en/\I64 E.ed
theorem qt1 (r:Int):I64 (qnv r):=by
 rw [qnv]
 cases h:qhu r with
 | true=>exact qbz.1 h
 | false=>exact qhP
theorem qEX {l:List Val}:OkR (qzF l):=by
 rw [qzF]
 cases l.all isI with
 | false=>exact OkR.wrong (by decide)
 | true=>
  rw [cond_true]
  cases h:qhu (qhe (l.map qb9)) with
  | true=>exact OkR.whole (qbz.1 h)
  | false=>exact OkR.wrong (by decide)
theorem qvP {op a b:Int} (ha:I64 a) (hb:I64 b):OkR (.mk 0 (qcV op a b).1 [] [],(qcV op a b).2):=by
 have f:∀r,OkR (.mk 0 (qnv r) [] [],qod r):=λr=>⟨by simp [okV,qkK,qt1],λ_=>qda _ 3⟩
 have z:∀e,OkR (.mk 0 0 [] [],e):=λe=>⟨by simp [okV,qkK,qhP],λ_=>qda _ 3⟩
 have tm:I64 (a.tmod b):=by
  have h1:(a.tmod b).natAbs <= a.natAbs:=by rw [Int.natAbs_tmod];exact Nat.mod_le _ _
  have h2:0 <= a->0 <= a.tmod b:=λh=>Int.tmod_nonneg _ h
  have h3:a <= 0->a.tmod b <= 0:=λh=>by
   have:=Int.tmod_nonneg b (show 0 <= -a by omega)
   rw [Int.neg_tmod] at this
   omega
  obtain ⟨p,q⟩:=ha
  constructor <;> omega
 unfold qcV
 by_cases h1:op = 15
 ·rw [if_pos h1];exact f _
 ·rw [if_neg h1]
  by_cases h2:op = 16
  ·rw [if_pos h2];exact f _
  ·rw [if_neg h2]
   by_cases h3:op = 17
   ·rw [if_pos h3];exact f _
   ·rw [if_neg h3]
    by_cases h4:b = 0
    ·rw [if_pos h4];exact z _
    ·rw [if_neg h4]
     by_cases h5:op = 18
     ·rw [if_pos h5];exact f _
     ·rw [if_neg h5]
      exact ⟨by simp [okV,qkK,tm],λ_=>qda _ 3⟩
theorem qzN:okV qap/\qu 3 qap = true:=⟨by simp [qap,okV,qkK,qhP],rfl⟩
theorem qBY {op:Int} {vs:List Val} (h:∀v ∈ vs,okV v):OkR (qk4 op vs):=by
 unfold qk4
 split
 ·rename_i v
  have hv:=h v (by simp)
  cases isI v
  ·exact OkR.wrong (by decide)
  ·exact qvP qhP (qgT hv)
 ·rename_i v w
  have hv:=h v (by simp)
  have hw:=h w (by simp)
  cases isI v && isI w
  ·exact OkR.wrong (by decide)
  ·exact qvP (qgT hv) (qgT hw)
 ·exact OkR.wrong (by decide)
theorem qf3 {α:Type} {l:List α} {i:Int} {x:α} (h:qiW l i = some x):x ∈ l:=by
 rcases qdX h with ⟨e,_⟩ | ⟨j,hj,e,_⟩
 ·cases e
 ·cases e
  exact List.getElem_mem hj
theorem qAV {n:Int} {v:Val} (h:okV v) (hr:qu 3 v = true):OkR (qi2 n v):=by
 obtain ⟨k,m,s,l⟩:=v
 rw [qi2]
 cases h3:(k == 3) with
 | false=>exact OkR.wrong (by decide)
 | true=>
  rw [j0,cond_false]
  cases hx:qiW l n with
  | none=>exact OkR.wrong (by decide)
  | some x=>
   have hm:=qf3 hx
   rw [okV] at h
   refine ⟨qgb.1 h.2 x hm,λ_=>?_⟩
   rw [qu,h3,cond_true] at hr
   simp only [jm,List.all_eq_true] at hr
   exact qg0 (hr.2 x hm)
theorem qFb {E:qfh} (hE:qsN E) (op:Int) (nm sb:Str) (pl:Int):OkR (qz0 E op nm sb pl):=by
 rw [qz0]
 cases op == 4 with
 | true=>
  rw [cond_true]
  cases hx:qiW E.vals pl with
  | none=>exact OkR.wrong (by decide)
  | some v=>exact OkR.checked (hE.vr v (qf3 hx))
 | false=>
  rw [cond_false]
  cases hx:E.oth.find? (λx=>x.1 == nm && x.2.1 == sb) with
  | none=>exact OkR.wrong (by decide)
  | some x=>exact OkR.checked (hE.or x (List.mem_of_find?_eq_some hx))
theorem qCN {E:qfh} (hE:qsN E) (pl:Int):(qfR E pl).length <= 200/\∀v ∈ qfR E pl,okV v:=by
 rw [qfR]
 cases hx:qiW E.bag pl with
 | none=>simp
 | some l=>exact ⟨(hE.bs l (qf3 hx)).1,hE.br l (qf3 hx)⟩
theorem qBO {E:qfh} (hE:qsN E) (op pl:Int) {vs:List Val} (h:∀v ∈ vs,okV v/\qu 3 v = true):OkR (qjr E op pl vs):=by
 obtain ⟨h1,h2⟩:=qCN hE pl
 unfold qjr
 generalize qfR E pl = l at *
 cases op == 7 with
 | true=>exact OkR.whole ⟨zo,zo⟩
 | false=>
  cases op == 8 with
  | true=>exact OkR.truth _
  | false=>
   cases op == 9 with
   | true=>exact qEX
   | false=>
    rw [cond_false,cond_false,cond_false]
    cases l with
    | cons v l=>exact OkR.checked (h2 v (by simp))
    | nil=>
     cases vs with
     | nil=>exact OkR.wrong (by decide)
     | cons v vs=>exact ⟨(h v (by simp)).1,λ_=>(h v (by simp)).2⟩
theorem qBx {E:qfh} (hE:qsN E) {nd:Nd} (hn:I64 nd.n) {vs:List Val} (h:∀v ∈ vs,okV v/\qu 3 v = true):OkR (qa6 E nd vs):=by
 have hg:∀i,okV (vs.getD i qap)/\qu 3 (vs.getD i qap) = true:=λi=>by
  rw [List.getD_eq_getElem?_getD]
  cases hx:vs[i]? with
  | none=>exact qzN
  | some v=>exact h v (List.mem_of_getElem? hx)
 unfold qa6
 cases nd.op == 0 with
 | true=>exact OkR.whole hn
 | false=>
  cases nd.op == 1 || nd.op == 2 with
  | true=>exact OkR.truth _
  | false=>
   cases nd.op == 3 with
   | true=>exact OkR.checked (by simp [okV,qkK,qhP])
   | false=>
    cases nd.op == 4 || nd.op == 5 with
    | true=>exact qFb hE _ _ _ _
    | false=>
     cases nd.op == 11 with
     | true=>exact ⟨by simp [okV,qkK,qhP,hE.er.1,hE.er.2],λ_=>rfl⟩
     | false=>
      cases nd.op == 7 || nd.op == 8 || nd.op == 9 || nd.op == 10 with
      | true=>exact qBO hE _ _ h
      | false=>
       cases nd.op == 6 with
       | true=>exact OkR.checked (by rw [okV,qgb];exact ⟨qhP,λv hv=>(h v hv).1⟩)
       | false=>
        cases nd.op == 12 with
        | true=>exact qAV (hg 0).1 (hg 0).2
        | false=>
         cases nd.op == 20 with
         | true=>exact OkR.truth _
         | false=>
          cases nd.op == 21 with
          | true=>exact OkR.truth _
          | false=>
           cases nd.op == 22 with
           | true=>exact OkR.truth _
           | false=>
            cases nd.op == 14 with
            | true=>
             rw [cond_true]
             generalize vs.getD 0 qap = v
             obtain ⟨k,n,s,l⟩:=v
             simp only [cond_false,qCr]
             cases k == 1
             ·exact OkR.wrong (by decide)
             ·exact OkR.truth _
            | false=>exact qBY λv hv=>(h v hv).1
theorem qvM {E:qfh} (hE:qsN E) {nd:Nd} (hn:I64 nd.n) {ev:Int->Res} (he:∀j,OkR (ev j)):∀{l:List Int} {vs:List Val},(∀v ∈ vs,okV v/\qu 3 v = true)->OkR (qcT ev (qa6 E nd) l vs)
 | [],vs,h=>by rw [qcT];exact qBx hE hn h
 | j :: js,vs,h=>by
  rw [qcT]
  cases hz:(ev j).2 == 0 with
  | false=>exact he j
  | true=>
   rw [j0,cond_false]
   refine qvM hE hn he λv hv=>?_
   rcases jM.1 hv with hv | hv
   ·exact h v hv
   ·rw [Je.1 hv]
    exact ⟨(he j).1,(he j).2 (by simpa using hz)⟩
theorem qxb {E:qfh} (hE:qsN E) {nd:Nd} (hn:I64 nd.n) {ev:Int->Res} (he:∀j,OkR (ev j)):OkR (qdr E nd ev):=by
 rw [qdr]
 cases qoc nd.op with
 | false=>exact qvM hE hn he λv hv=>by cases hv
 | true=>
  rw [cond_true]
  unfold qcv
  dsimp only
  cases !((ev (nd.ins.getD 0 0)).2 == 0) with
  | true=>exact he _
  | false=>
   cases !(qcF (ev (nd.ins.getD 0 0)).1 == 1) with
   | true=>exact OkR.wrong (by decide)
   | false=>
    cases ilt (qas nd.op nd.ins (ev (nd.ins.getD 0 0))) 0 with
    | true=>exact he _
    | false=>
     simp only [cond_false]
     generalize qas nd.op nd.ins (ev (nd.ins.getD 0 0)) = c
     cases ((ev c).2 == 0 && !(nd.op == 25)) && !(qcF (ev c).1 == 1) with
     | true=>exact OkR.wrong (by decide)
     | false=>exact he _
theorem qxF {E:qfh} (hE:qsN E) {ns:List Nd} (hn:∀nd ∈ ns,I64 nd.n):∀f i,OkR (evF E ns f i)
 | 0,i=>by rw [evF];exact OkR.wrong (by decide)
 | f + 1,i=>by
  rw [evF]
  cases hx:ns[i.toNat]? with
  | none=>exact OkR.wrong (by decide)
  | some nd=>exact qxb hE (hn nd (List.mem_of_getElem? hx)) (qxF hE hn f)
def okX:Nat->Exl->Prop
 | 0,_=>True
 | d + 1,.mk _ n _ _ aS=>I64 n/\∀a ∈ aS,okX d a
def NdP (b j:Nat) (nd:Nd):Prop:=(Cho nd.op nd.ins\/qhp nd.op nd.ins.length)/\(∀x ∈ nd.ins,(b:Int) <= x/\x < (b + j:Nat))/\I64 nd.n
def qog (b:Nat) (ns:List Nd):Prop:=∀j (h:j < ns.length),NdP b j ns[j]
theorem qvY {vn pn:List Str} (op n:Int) (nm sb:Str) (ins:List Int):(fin vn pn op n nm sb ins).op = op/\(fin vn pn op n nm sb ins).n = n/\(fin vn pn op n nm sb ins).ins = ins:=by
 unfold fin
 cases op == 3 <;> cases op == 4 <;> cases op == 5 <;> cases op == 7 <;> cases op == 8 <;> cases op == 9 <;> cases op == 10 <;> exact ⟨rfl,rfl,rfl⟩
theorem qog.app {b:Nat} {out l:List Nd} (h:qog b out) (hl:qog (b + out.length) l):qog b (out ++ l):=λj hj=>by
 by_cases h1:j < out.length
 ·rw [List.getElem_append_left h1];exact h j h1
 ·rw [List.getElem_append_right zo]
  simp at hj
  obtain ⟨q1,q2,q3⟩:=hl (j - out.length) zo
  exact ⟨q1,λx hx=>by have:=q2 x hx;omega,q3⟩
theorem qog.snoc {b:Nat} {out:List Nd} {nd:Nd} (h:qog b out) (hn:NdP b out.length nd):qog b (out ++ [nd]):=λj hj=>by
 by_cases h1:j < out.length
 ·rw [List.getElem_append_left h1];exact h j h1
 ·have:j = out.length:=by simp at hj;omega
  subst this
  rw [List.getElem_append_right zo]
  simpa using hn
theorem qly {f:Nat->Exl->List Nd} (b:Nat):∀(aS:List Exl) (out:List Nd) (ins:List Int),(∀a ∈ aS,∀c,qog c (f c a)/\0 < (f c a).length)->qog b out->(∀x ∈ ins,(b:Int) <= x/\x < (b + out.length:Nat))->
  qog b (qbp f b aS out ins).1/\(∀x ∈ (qbp f b aS out ins).2,(b:Int) <= x/\x < (b + (qbp f b aS out ins).1.length:Nat))/\(qbp f b aS out ins).2.length = ins.length + aS.length
 | [],out,ins,_,ho,hi=>by rw [qbp];exact ⟨ho,hi,by simp⟩
 | a :: aS,out,ins,ha,ho,hi=>by
  obtain ⟨h1,h2⟩:=ha a (jJ ..) (b + out.length)
  rw [qbp]
  obtain ⟨r1,r2,r3⟩:=qly b aS (out ++ f (b + out.length) a) (ins ++ [((b + (out ++ f (b + out.length) a).length:Nat):Int) - 1]) (λx hx=>ha x (jN _ hx)) (ho.app h1) (λx hx=>by
   rw [jj]
   rcases jM.1 hx with hx | hx
   ·have:=hi x hx;omega
   ·rw [Je.1 hx,jj];omega)
  exact ⟨r1,r2,by rw [r3];simp;omega⟩
theorem qz3 {op:Int} {ins:List Int} (h:KA op ins.length):Cho op ins\/qhp op ins.length:=by
 rcases h with ⟨rfl,h⟩ | ⟨rfl,h⟩ | ⟨rfl,h⟩ | h
 ·match ins,h with
  | [a,b,c],_=>exact .inl (.inl ⟨rfl,a,b,c,rfl⟩)
 ·match ins,h with
  | [a,b],_=>exact .inl (.inr (.inl ⟨rfl,a,b,rfl⟩))
 ·match ins,h with
  | [a,b],_=>exact .inl (.inr (.inr ⟨rfl,a,b,rfl⟩))
 ·exact .inr h
theorem qBi {vn pn:List Str}:∀(d:Nat) (e:Exl),right d e = true->okX d e->∀b,qog b (low vn pn d b e)/\0 < (low vn pn d b e).length
 | 0,e,h,_,_=>by rw [right] at h;cases h
 | d + 1,.mk op n nm sb aS,h,hx,b=>by
  rw [right,jm,List.all_eq_true] at h
  obtain ⟨g1,g2,g3⟩:=qly (f:=low vn pn d) b aS [] [] (λa ha c=>qBi d a (h.2 a ha) (hx.2 a ha) c) (λj hj=>by simp at hj) (λx hx=>by cases hx)
  rw [low]
  generalize qbp (low vn pn d) b aS [] [] = gg at *
  obtain ⟨out,ins⟩:=gg
  simp only at *
  obtain ⟨f1,f2,f3⟩:=qvY (vn:=vn) (pn:=pn) op n nm sb ins
  refine ⟨g1.snoc ⟨?_,?_,?_⟩,by simp⟩
  ·rw [f1,f3]
   exact qz3 (by rw [g3];simpa using (qdK h.1).1)
  ·rw [f3]
   exact g2
  ·rw [f2];exact hx.1
structure OkW (W:Wl):Prop where
 x:okX 20 W.e
 v:∀v ∈ W.vals,okV v
 b:∀l ∈ W.bag,∀v ∈ l,okV v
 o:∀v ∈ W.ofv,okV v
 t:I64 W.en/\I64 W.ed
theorem qaN.r20 {W:Wl} (h:qaN W):right 20 W.e = true:=by
 have:=h.ty
 rw [qfb] at this
 cases hq:right 20 W.e with
 | true=>rfl
 | false=>rw [hq] at this;cases this
theorem qjI {W:Wl} (h:qaN W) (ho:OkW W):qoj (wNs W)/\(∀nd ∈ wNs W,I64 nd.n)/\(wNs W).length <= 90000:=by
 obtain ⟨h1,h2⟩:=qBi (vn:=W.N.vars.map (·.2.1)) (pn:=W.N.ports.map (·.1)) 20 W.e h.r20 ho.x 0
 refine ⟨⟨List.length_pos_iff.1 h2,λi hi=>?_⟩,λnd B=>?_,?_⟩
 ·obtain ⟨a,b,_⟩:=h1 i hi
  exact ⟨a,λx hx=>by have:=b x hx;omega⟩
 ·obtain ⟨i,hi,rfl⟩:=List.getElem_of_mem B
  exact (h1 i hi).2.2
 ·have e1:sz 20 W.e <= sz 40 W.e:=qk5 20 W.e 20
  have e2:=h.siz
  rw [wNs,qkH]
  omega
theorem qvF {W:Wl} (h:qaN W) (ho:OkW W):qsN (wE W):=by
 refine ⟨⟨by show W.vals.length <= 1000;have:=h.vl;have:=h.ve;omega,by show W.bag.length <= 1000;have:=h.pl;have:=h.be;omega,by show ((W.N.oth.zip W.ofv).map _).length <= 1000;have:=h.ol;simp;omega,λl hl=>?_⟩,ho.v,ho.b,λx hx=>?_,ho.t⟩
 ·obtain ⟨j,hj,rfl⟩:=List.getElem_of_mem hl
  have hj:j < W.bag.length:=hj
  obtain ⟨b1,_,b3⟩:=h.bs j hj (by have:=h.be;omega)
  refine ⟨by show (W.bag[j]).length <= 200;omega,λn hn=>?_,λv hv=>(qh1 (b3 v hv)).1⟩
  obtain ⟨v,hv,rfl⟩:=jU.1 hn
  exact qgT (ho.b _ (List.getElem_mem hj) v hv)
 ·obtain ⟨y,hy,rfl⟩:=jU.1 hx
  exact ho.o _ (List.of_mem_zip hy).2
def qf5 (v:Val) (t:Tp):Prop:=qu 3 v = true/\qbq v = t
theorem qh5 {v:Val} {t:Tp} (h:qd6 v t = true):qf5 v t:=qh1 h
def qv3:Val->List Val
 | .mk _ _ _ l=>l
theorem qfc (k n:Int) (s:Str) (l:List Val):qbq (.mk k n s l) = .mk k (l.map qbq):=by rw [qbq,qb5]
theorem qf5.kind {v:Val} {t:Tp} (h:qf5 v t):qcF v = qV t:=by
 obtain ⟨k,n,s,l⟩:=v
 rw [<-h.2,qfc]
 rfl
theorem quF {n:Int} {s:Str} {l:List Val} (h:qu 3 (.mk 0 n s l) = true):s = []/\l = []:=by
 rw [qu] at h
 have h:qet 0 n s l = true:=h
 have hl:=qa5 h
 subst hl
 have h:((s == []) && true) = true:=h
 exact ⟨by simpa using h,rfl⟩
theorem qqL {n:Int} {s:Str} {l:List Val} (h:qu 3 (.mk 1 n s l) = true):(n = 0\/n = 1)/\s = []/\l = []:=by
 rw [qu] at h
 have h:qet 1 n s l = true:=h
 have hl:=qa5 h
 subst hl
 have h:(((n == 0 || n == 1) && (s == [])) && true) = true:=h
 simp only [jA,jm,Bool.or_eq_true,beq_iff_eq] at h
 exact ⟨h.1,h.2,rfl⟩
theorem qf5.int {v:Val} {t:Tp} (h:qf5 v t) (hk:qV t = 0):∃n,v = .mk 0 n [] []:=by
 obtain ⟨k,n,s,l⟩:=v
 have e:=h.kind
 rw [hk] at e
 have e:k = 0:=e
 subst e
 obtain ⟨rfl,rfl⟩:=quF h.1
 exact ⟨n,rfl⟩
theorem qf5.bool {v:Val} {t:Tp} (h:qf5 v t) (hk:qV t = 1):∃n,(n = 0\/n = 1)/\v = .mk 1 n [] []:=by
 obtain ⟨k,n,s,l⟩:=v
 have e:=h.kind
 rw [hk] at e
 have e:k = 1:=e
 subst e
 obtain ⟨h0,rfl,rfl⟩:=qqL h.1
 exact ⟨n,h0,rfl⟩
theorem qeW (n:Int):qf5 (.mk 0 n [] []) qw:=⟨qda n 3,rfl⟩
theorem qbZ (b:Bool):qf5 (qbH b).1 qaw:=by cases b <;> exact ⟨rfl,rfl⟩
theorem qg1:∀(d:Nat) (v:Val),qu d v = true->∀k,qbW (qbq v) <= k->qu k v = true
 | 0,.mk kk n s l,h,k,hd=>by
  rw [qu] at h
  have h3:(kk == 3) = false:=by
   cases h3:(kk == 3) with
   | false=>rfl
   | true=>
    have:kk = 3:=by simpa using h3
    subst this
    simp [qet] at h
  cases k with
  | zero=>rw [qu];exact h
  | succ k=>rw [qu,h3,cond_false];exact h
 | d + 1,.mk kk n s l,h,k,hd=>by
  rw [qu] at h
  cases h3:(kk == 3) with
  | false=>
   rw [h3,cond_false] at h
   cases k with
   | zero=>rw [qu];exact h
   | succ k=>rw [qu,h3,cond_false];exact h
  | true=>
   rw [h3,cond_true] at h
   rw [qfc,qbW,h3,cond_true] at hd
   obtain ⟨q,rfl⟩ :∃q,k = q + 1:=⟨k - 1,zo⟩
   rw [qu,h3,cond_true]
   simp only [jm,List.all_eq_true] at h ⊢
   refine ⟨h.1,λx hx=>qg1 d x (h.2 x hx) q ?_⟩
   have:=qgs (l.map qbq) (qbq x) (List.mem_map_of_mem hx)
   omega
def qCu (W:Wl) (nm:Str):Option Val:=((W.N.vars.zip W.vals).find? λx=>x.1.2.1 == nm).map (·.2)
def qCs (W:Wl) (p nm:Str):Option Val:=((W.N.oth.zip W.ofv).find? λx=>x.1.1 == p && x.1.2.1 == nm).map (·.2)
def qlm (W:Wl) (nm:Str):List Val:=match (W.N.ports.zip W.bag).find? (λx=>x.1.1 == nm) with
 | some x=>x.2
 | none=>[]
def qaM (W:Wl) (op n:Int) (nm sb:Str) (vs:List Val):Res:=
 bif op == 0 then qdP n else bif op == 1 || op == 2 then qbH (op == 1) else bif op == 3 then (.mk 2 0 nm [],0) else
 bif op == 4 then (match qCu W nm with | some v=>(v,0) | none=>(qap,16)) else bif op == 5 then (match qCs W nm sb with | some v=>(v,0) | none=>(qap,16)) else
 bif op == 6 then (.mk 3 0 [] vs,0) else bif op == 7 then qdP ((qlm W nm).length:Nat) else bif op == 8 then qbH (ilt 0 ((qlm W nm).length:Nat)) else
 bif op == 9 then (bif qhu (qhe ((qlm W nm).map qb9)) then qdP (qhe ((qlm W nm).map qb9)) else (qap,2)) else
 bif op == 10 then (match qlm W nm with | v :: _=>(v,0) | []=>(vs.getD 0 qap,0)) else
 bif op == 11 then (.mk 3 0 [] [.mk 0 W.en [] [],.mk 0 W.ed [] []],0) else
 bif op == 12 then ((qv3 (vs.getD 0 qap)).getD n.toNat qap,0) else
 bif op == 13 then (.mk 0 (qcV 16 0 (qb9 (vs.getD 0 qap))).1 [] [],(qcV 16 0 (qb9 (vs.getD 0 qap))).2) else
 bif op == 14 then qbH (qb9 (vs.getD 0 qap) == 0) else
 bif op == 20 then qbH (qgo (vs.getD 0 qap) (vs.getD 1 qap) == 0) else
 bif op == 21 then qbH (ilt (qgo (vs.getD 0 qap) (vs.getD 1 qap)) 0) else
 bif op == 22 then qbH (ile (qgo (vs.getD 0 qap) (vs.getD 1 qap)) 0) else
 (.mk 0 (qcV op (qb9 (vs.getD 0 qap)) (qb9 (vs.getD 1 qap))).1 [] [],(qcV op (qb9 (vs.getD 0 qap)) (qb9 (vs.getD 1 qap))).2)
def qhX (f:Exl->Res) (k:List Val->Res):List Exl->List Val->Res
 | [],vs=>k vs
 | a :: aS,vs=>bif !((f a).2 == 0) then (qap,(f a).2) else qhX f k aS (vs ++ [(f a).1])
def qv9:Exl:=.mk 0 0 [] [] []
def evD (W:Wl):Nat->Exl->Res
 | 0,_=>(qap,16)
 | d + 1,.mk op n nm sb aS=>
  bif qoc op then
   bif !((evD W d (aS.getD 0 qv9)).2 == 0) then (qap,(evD W d (aS.getD 0 qv9)).2) else
   bif op == 25 then (bif qb9 (evD W d (aS.getD 0 qv9)).1 == 1 then evD W d (aS.getD 1 qv9) else evD W d (aS.getD 2 qv9))
   else bif qb9 (evD W d (aS.getD 0 qv9)).1 == op - 23 then evD W d (aS.getD 0 qv9) else evD W d (aS.getD 1 qv9)
  else qhX (evD W d) (qaM W op n nm sb) aS []
def qaL (r:Res) (t:Tp):Prop:=(r.2 = 0/\qf5 r.1 t)\/((r.2 = 2\/r.2 = 3\/r.2 = 16)/\r.1 = qap)
theorem qaL.ok {v:Val} {t:Tp} (h:qf5 v t):qaL (v,0) t:=.inl ⟨rfl,h⟩
def qdh:List Val->List Tp->Prop
 | [],[]=>True
 | v :: vs,t :: ts=>qf5 v t/\qdh vs ts
 | _,_=>False
theorem qdh.length:∀{vs:List Val} {ts:List Tp},qdh vs ts->vs.length = ts.length
 | [],[],_=>rfl
 | _ :: _,_ :: _,h=>by simp [qdh.length h.2]
 | [],_ :: _,h=>h.elim
 | _ :: _,[],h=>h.elim
theorem qdh.snoc:∀{vs:List Val} {ts:List Tp} {v:Val} {t:Tp},qdh vs ts->qf5 v t->qdh (vs ++ [v]) (ts ++ [t])
 | [],[],_,_,_,h=>⟨h,trivial⟩
 | _ :: _,_ :: _,_,_,h,h2=>⟨h.1,h.2.snoc h2⟩
 | [],_ :: _,_,_,h,_=>h.elim
 | _ :: _,[],_,_,h,_=>h.elim
theorem qdh.get:∀{vs:List Val} {ts:List Tp},qdh vs ts->∀i,i < vs.length->qf5 (vs.getD i qap) (ts.getD i qw)
 | [],[],_,i,h=>by simp at h
 | v :: vs,t :: ts,h,0,_=>h.1
 | v :: vs,t :: ts,h,i + 1,hi=>by simpa using h.2.get i (by simpa using hi)
 | [],_ :: _,h,_,_=>h.elim
 | _ :: _,[],h,_,_=>h.elim
theorem qdh.map:∀{vs:List Val} {ts:List Tp},qdh vs ts->vs.map qbq = ts/\∀v ∈ vs,qu 3 v = true
 | [],[],_=>⟨rfl,λv h=>by cases h⟩
 | v :: vs,t :: ts,h=>⟨by rw [List.map_cons,h.1.2,h.2.map.1],λx hx=>by
     rcases List.mem_cons.1 hx with rfl | hx
     ·exact h.1.1
     ·exact h.2.map.2 x hx⟩
 | [],_ :: _,h=>h.elim
 | _ :: _,[],h=>h.elim
structure qCA (W:Wl) (V0 V1 V4:qa) (g:List qb):Prop where
 v0:SlR g 0 6 ((qFc W).map qkL) V0
 v1:SlR g 0 2 ((qIc W).map qGg) V1
 v4:SlR g 0 6 ((wOf W).map qkL) V4
theorem qCA.keep {W:Wl} {V0 V1 V4:qa} {g g':List qb} (h:qCA W V0 V1 V4 g) (hg:∀i,i < g.length->g'[i]? = g[i]?):qCA W V0 V1 V4 g':=⟨h.v0.keep λi _ hi=>hg i hi,h.v1.keep λi _ hi=>hg i hi,h.v4.keep λi _ hi=>hg i hi⟩
def qGh (W:Wl) (V0 V1 V4:qa):List qa:=[V0,V1,.int .i64 W.en,.int .i64 W.ed,V4]
section
variable {h:List qb}
def eb (W:Wl) (V0 V1 V4:qa) (op n:Int) (nm sb:Str) (aS:List Exl):List qb:=[.cells [.int .i64 op,.int .i64 n,.str nm,.str sb,.lst (aS.map exV) .no],.cells (qGh W V0 V1 V4),zr4,zr4]
structure ES (W:Wl) (V0 V1 V4:qa) (op n:Int) (nm sb:Str) (aS:List Exl) (h:List qb) (K:Nat->Option qb) (G:List qb) (vs:List Val) (V:qa):Prop where
 old:∀i,i < h.length + 4->G[i]? = (h ++ eb W V0 V1 V4 op n nm sb aS)[i]?
 len:h.length + 4 <= G.length
 cov:Cov K G
 bse:∀j x,K j = some x->h.length + 4 <= j
 sl:VSl K G (h.length + 4) vs V
theorem ES.at {W:Wl} {V0 V1 V4:qa} {op n:Int} {nm sb:Str} {aS:List Exl} {K:Nat->Option qb} {G:List qb} {vs:List Val} {V:qa} (S:ES W V0 V1 V4 op n nm sb aS h K G vs V) (j:Nat) (hj:j < 4):G[h.length + j]? = (eb W V0 V1 V4 op n nm sb aS)[j]?:=by
 rw [S.old _ zo,List.getElem?_append_right zo,Nat.add_sub_cancel_left]
theorem ES.lo {W:Wl} {V0 V1 V4:qa} {op n:Int} {nm sb:Str} {aS:List Exl} {K:Nat->Option qb} {G:List qb} {vs:List Val} {V:qa} (S:ES W V0 V1 V4 op n nm sb aS h K G vs V) (i:Nat) (hi:i < h.length):G[i]? = h[i]?:=by
 rw [S.old i zo,ja hi]
theorem ES.tk {W:Wl} {V0 V1 V4:qa} {op n:Int} {nm sb:Str} {aS:List Exl} {K:Nat->Option qb} {G:List qb} {vs:List Val} {V:qa} (S:ES W V0 V1 V4 op n nm sb aS h K G vs V):G.take h.length = h:=by
 apply List.ext_getElem?
 intro i
 rw [List.getElem?_take]
 split
 ·exact S.lo i ‹_›
 ·rw [List.getElem?_eq_none zo]
end
section
variable {h:List qb}
end
mutual
theorem qwt {n:Nat} {K:Nat->Option qb} (hK:∀i x,K i = some x->n <= i) {H:Nat->Option qb}:∀(t:Val) {cs:List qa},At K t cs->qr n cs = true->At H t cs
 | .mk k m s l,cs,h,hl=>by
  obtain ⟨L,rfl,rs,h1,h2,h3⟩:=h.lp
  simp only [qr,jm] at hl
  rcases h3 with ⟨f,hf,rfl⟩ | ⟨id,m,rfl,h4⟩
  ·have B:qr n (rs.map .agg) = true:=hl.2.2.2.1
   exact .lst k m s l rs f hf h1 λi a b=>qlf hK l rs h1 (λi a b=>h2 i a b) B i a b
  ·have:=hK _ _ h4
   have h5:Nat.blt id n = true:=hl.2.2.2.1
   rw [qcJ this] at h5
   cases h5
theorem qlf {n:Nat} {K:Nat->Option qb} (hK:∀i x,K i = some x->n <= i) {H:Nat->Option qb}:∀(l:List Val) (rs:List (List qa)),rs.length = l.length->(∀(i:Nat) (h:i < l.length) (h':i < rs.length),At K l[i] rs[i])->qr n (rs.map .agg) = true->∀(i:Nat) (h:i < l.length) (h':i < rs.length),At H l[i] rs[i]
 | [],_,_,_,_,i,h,_=>by simp at h
 | t :: l,[],h1,_,_,_,_,_=>by simp at h1
 | t :: l,r :: rs,h1,h2,h3,i,h,h'=>by
  rw [List.map_cons,qr,jm] at h3
  have B:qr n r = true:=h3.1
  cases i with
  | zero=>exact qwt hK t (h2 0 (by simp) (by simp)) B
  | succ i=>exact qlf hK l rs (by simpa using h1) (λi a b=>h2 (i + 1) (by simp;omega) (by simp;omega)) h3.2 i (by simpa using h) (by simpa using h')
end
def qdw (vs:List Val):Res:=(.mk 3 0 [] vs,0)
def TyO (h:List qb) (t:Tp) (w:Option (qcb×List qb×Bool)):Prop:=∃cs m,w = some (.ret (.tup [.agg cs,.int .i64 0]),h ++ m,false)/\Ta (qcG h.length (h ++ m)) t cs
theorem qbU {h F:List qb} {b:Nat} {t:Tp} {rs:List qa} (hT:Ta (qcG b F) t rs) (hb:h.length <= b) (hF:F.take h.length = h):TyO h t (some (qaU h.length (.ret (.tup [.agg rs,.int .i64 0])) F false)):=by
 obtain ⟨m,hm,B⟩:=qce (v:=.tup [.agg rs,.int .i64 0]) hF
 refine ⟨rs,m,congrArg some hm,?_⟩
 cases hl:(qa.tup [.agg rs,.int .i64 0]).lower h.length with
 | true=>
  have E:qr h.length rs = true:=by
   simp only [qa.lower,qr,jA] at hl
   exact hl
  refine qjP (n:=h.length) (K:=qcG b F) (λi x hx=>?_) t hT E
  by_cases hi:b <= i
  ·omega
  ·rw [qaD hi] at hx;cases hx
 | false=>
  rw [B hl]
  refine hT.mono λi x hx=>?_
  by_cases hi:b <= i
  ·rw [qP hi] at hx;rw [qP zo];exact hx
  ·rw [qaD hi] at hx;cases hx
theorem qba (k:Int) (h:List qb):Wd (.fn 62 [] []) [.int .i64 k] h = some (.ret (.agg [.int .i64 k,.lst [] .full]),h,false):=by
 rw [qi 62 c62]
 simp only [c62,sT.1,sC.1,qL,qE,Nat.testBit,seval,q8,splice,jZ]
def qa9:List Tp->List Int->Bool
 | [],[]=>true
 | t :: ts,w :: ws=>(qV t == w) && qa9 ts ws
 | _,_=>false
theorem qhy:∀{ts:List Tp} {ws:List Int},ts.length ≠ ws.length->qa9 ts ws = false
 | [],[],h=>absurd rfl h
 | [],_ :: _,_=>rfl
 | _ :: _,[],_=>rfl
 | t :: ts,w :: ws,h=>by rw [qa9,qhy (by simpa using h),Bool.and_false]
theorem qkn {ts:List Tp} {ws:List Int} {i:Nat} (h1:i < ts.length) (h2:i < ws.length):qa9 (ts.drop i) (ws.drop i) = ((qV ts[i] == ws[i]) && qa9 (ts.drop (i + 1)) (ws.drop (i + 1))):=by
 rw [jX h1,jX h2,qa9]
theorem qf9 {H:Nat->Option qb} {ts:List Tp} {L:qa} (hL:TL H ts L) (hl:ts.length <= 20) (ws:List Int) (R m:Nat) (h:List qb) (hg:Cov H h) (hR:h[R]? = some (.cells (ws.map (qa.int .i64)))):Wd (.fn 92 [] []) [L,.sl R 0 ws.length ws.length m] h = some (.ret (.bool (qa9 ts ws)),h,false):=by
 obtain ⟨d1,s1,w1,n1⟩:=hL.facts
 generalize hw:Wd _ _ h = w
 rw [qi 92 c92] at hw
 cases hn:((ts.length:Int) == (ws.length:Int)) with
 | false=>
  have a1:ts.length ≠ ws.length:=λe=>by rw [e,beq_self_eq_true] at hn;cases hn
  simp only [c92,sT.1,sC.1,qL,qE,Nat.testBit,seval,d1,s1,w1,n1,qci,q9,qz,hn,j3] at hw
  rw [qhy a1]
  exact hw.symm
 | true=>
  have a1:ts.length = ws.length:=by have:=of_decide_eq_true hn;omega
  have loop:∀q st,(∃(tt:List qa) (i:Nat) (J:List qb),st = ⟨tt,h ++ J,false⟩/\tt.length = 27/\lkp tt 1 = .sl R 0 ws.length ws.length m/\lkp tt 12 = L/\lkp tt 13 = .int .i64 (ts.length:Nat)/\lkp tt 14 = .int .i64 (i:Nat)/\i + q = ts.length/\qa9 ts ws = qa9 (ts.drop i) (ws.drop i))->
    ∃x B,qm h.length Wd (.loop qkB) st = some (x,B)/\(∃(tt:List qa) (J:List qb),B = ⟨tt,h ++ J,false⟩/\tt.length = 27/\((x = .exit 0/\qa9 ts ws = true)\/(x = .ret/\lkp tt 4 = .bool false/\qa9 ts ws = false))):=by
   refine qy _ (λx B=>∃(tt:List qa) (J:List qb),B = ⟨tt,h ++ J,false⟩/\tt.length = 27/\((x = .exit 0/\qa9 ts ws = true)\/(x = .ret/\lkp tt 4 = .bool false/\qa9 ts ws = false))) ?_
   rintro q st ⟨tt,i,J,rfl,ht,e1,U,E,S,a7,hf⟩
   generalize he:qm h.length Wd qkB _ = r
   rcases Nat.lt_or_ge i ts.length with hi | hi
   ·have q1:ilt (i:Int) (ts.length:Int) = true:=by rw [qf];simp;omega
    have w:=qag (n:=i) zo
    have M:i < ws.length:=zo
    obtain ⟨pp,cs,x1,x2,x3,_,x4⟩:=hL.item hi hg
    have x3:=x3 J
    obtain ⟨k,l',LL,ek,rfl,zd,zs,zw,_⟩:=x4.cells
    have x5:∀i t,qo pp i t = t:=λi t=>by rw [<-x2];exact qH _ _ _
    have y1:qaW 1 (.sl R 0 ws.length ws.length m) (.int .i64 (i:Nat)) = some (.ptr R i):=by rw [qcC M,Nat.mul_one]
    have y2:(ws.map (qa.int .i64))[i]? = some (.int .i64 ws[i]):=by rw [ju,ji M];rfl
    have I:(h ++ J).length = h.length + J.length:=by simp
    have b1:(h ++ (J ++ [qb.cells [.int .i64 k,LL]]))[h.length + J.length]? = some (.cells [.int .i64 k,LL]):=by rw [qQ,qF];rfl
    have b2:(h ++ (J ++ [qb.cells [.int .i64 k,LL]]))[R]? = some (.cells (ws.map (qa.int .i64))):=by rw [ja (List.getElem?_eq_some_iff.1 hR).1];exact hR
    have a6:Nat.ble h.length (h.length + J.length) = true:=qe zo
    rw [qkn hi M,ek,qV] at hf
    cases hb:(k == ws[i]) with
    | true=>
     rw [hb,jY] at hf
     simp only [qkB,sT.1,sC.1,sTA.1,sCA.1,qL,qai,qaj,Src.isTmp,qD,Src.hangs,qh.isT,qak,qE,Nat.testBit,bne,seval,ht,e1,U,E,S,q1,w,I,b1,b2,a6,d1,w1,x1,x2,x3,x5,y1,y2,zd,zs,zw,hb,q9,qz,j0,jZ,jr,jO] at he
     subst he
     refine .inl ⟨_,q - 1,rfl,zo,_,i + 1,(J ++ [qb.cells [.int .i64 k,LL]]),rfl,Y0,?_,?_,?_,?_,zo,hf⟩
     ·simp only [sT.1,sC.1,sTA.1,sCA.1,qL,qai,qaj,Src.isTmp,qD,Src.hangs,qh.isT,qak,qE,Nat.testBit,bne,seval,ht,e1]
     ·simp only [sT.1,sC.1,sTA.1,sCA.1,qL,qai,qaj,Src.isTmp,qD,Src.hangs,qh.isT,qak,qE,Nat.testBit,bne,seval,ht,U]
     ·simp only [sT.1,sC.1,sTA.1,sCA.1,qL,qai,qaj,Src.isTmp,qD,Src.hangs,qh.isT,qak,qE,Nat.testBit,bne,seval,ht,E]
     ·simp only [sT.1,sC.1,sTA.1,sCA.1,qL,qai,qaj,Src.isTmp,qD,Src.hangs,qh.isT,qak,qE,Nat.testBit,bne,seval,ht]
    | false=>
     rw [hb,jQ] at hf
     simp only [qkB,sT.1,sC.1,sTA.1,sCA.1,qL,qai,qaj,Src.isTmp,qD,Src.hangs,qh.isT,qak,qE,Nat.testBit,bne,seval,ht,e1,U,E,S,q1,w,I,b1,b2,a6,d1,w1,x1,x2,x3,x5,y1,y2,zd,zs,zw,hb,q9,qz,j3,jZ,jr,jO] at he
     subst he
     refine .inr ⟨_,_,rfl,by simp,_,(J ++ [qb.cells [.int .i64 k,LL]]),rfl,Y0,.inr ⟨rfl,?_,hf⟩⟩
     simp only [sT.1,sC.1,sTA.1,sCA.1,qL,qai,qaj,Src.isTmp,qD,Src.hangs,qh.isT,qak,qE,Nat.testBit,bne,seval,ht]
   ·have q1:ilt (i:Int) (ts.length:Int) = false:=by rw [qf];simp;omega
    simp only [qkB,sT.1,sC.1,sTA.1,sCA.1,qL,qai,qaj,Src.isTmp,qD,Src.hangs,qh.isT,qak,qE,Nat.testBit,bne,seval,ht,E,S,q1] at he
    subst he
    rw [List.drop_eq_nil_of_le hi,List.drop_eq_nil_of_le zo] at hf
    exact .inr ⟨_,_,rfl,by simp,_,J,rfl,Y0,.inl ⟨rfl,hf⟩⟩
  simp only [c92,sT.1,sC.1,qL,qE,Nat.testBit,seval,d1,s1,w1,n1,qci,q9,qz,hn,j0] at hw
  generalize hr:qm h.length Wd (.loop qkB) _ = r at hw
  obtain ⟨x,B,rfl,tt,J,rfl,ht,⟨rfl,ha⟩ | ⟨rfl,e4,ha⟩⟩:=known hr (loop ts.length _ ⟨_,0,[],by rw [jK],x11,by simp only [sT.1,sC.1,qL,qE,Nat.testBit,seval,q9],by simp only [sT.1,sC.1,qL,qE,Nat.testBit,seval,d1],x11,by simp only [sT.1,sC.1,qL,qE,Nat.testBit,seval,Int.natCast_zero],zo,rfl⟩)
  ·simp only [sT.1,sC.1,qL,qE,Nat.testBit,seval,ht] at hw
   rw [ha]
   exact hw.symm
  ·simp only [sT.1,sC.1,qL,qE,Nat.testBit,seval,ht,e4] at hw
   rw [ha]
   exact hw.symm
theorem qh7 {H:Nat->Option qb} {t:Tp} {cs:List qa} (ht:Ta H t cs) (h3:tyB 3 t = true) (h:List qb) (hg:Cov H h):TyO h t (Wd (.fn 87 [] []) [.agg cs,.bool true] h):=by
 obtain ⟨k,L,rfl,d1,s1,w1⟩:=ht.two
 have h1:=qfA ht (h ++ [.cells [.int .i64 k,L],.cells [.int .i64 0,.lst [] .full]]) (hg.more _)
 rw [h3] at h1
 obtain ⟨ts,m,h2,hT⟩:=qlt 3 (qhb h3) H _ (h ++ [.cells [.int .i64 k,L],.cells [.int .i64 0,.lst [] .full]]) ht (hg.more _)
 obtain ⟨kk,LL,rfl,zd,zs,zw⟩:=hT.two
 obtain ⟨F,hF⟩ :∃F,F = h ++ [qb.cells [.int .i64 k,L],.cells [.int .i64 0,.lst [] .full]] ++ m:=⟨_,rfl⟩
 rw [<-hF] at h2 hT
 have E:h.length + 2 <= F.length:=by rw [hF];simp
 have b1:F[h.length + 1]? = some (.cells [.int .i64 0,.lst [] .full]):=by rw [hF,jr,qQ];rfl
 have hS:∀X,(F.set (h.length + 1) X)[h.length + 1]? = some X:=λX=>jh zo
 have hb:Nat.ble h.length (h.length + 1) = true:=qe zo
 have B:h.length + 1 < F.length:=zo
 generalize hw:Wd _ _ h = w
 rw [qi 87 c87] at hw
 simp only [c87,sT.1,sC.1,qL,qE,Nat.testBit,seval,q8,splice,d1,s1,w1,h1,h2,b1,hS,hb,B,zd,zs,zw,j0,jZ] at hw
 subst hw
 refine qbU (b:=h.length + 2) (hT.mono λi x hx=>?_) zo ?_
 ·have hi:h.length + 2 <= i:=by
   by_cases hi:(h ++ [qb.cells [.int .i64 k,L],.cells [.int .i64 0,.lst [] .full]]).length <= i
   ·simpa using hi
   ·rw [qaD hi] at hx;cases hx
  rw [qP (by simpa using hi)] at hx
  rw [qP hi,jg zo]
  exact hx
 ·rw [j8 zo,hF,jr,Jf]
structure KN (N:Nms) (g:List qb) (V P O:qa):Prop where
 v:qec g 4 V (N.vars.map nvR)
 p:qec g 3 P (N.ports.map npR)
 o:qec g 4 O (N.oth.map nvR)
 tv:∀x ∈ N.vars,tyB 3 x.2.2 = true
 tp:∀x ∈ N.ports,tyB 3 x.2 = true
 to:∀x ∈ N.oth,tyB 3 x.2.2 = true
 vl:N.vars.length <= 50
 pl:N.ports.length <= 50
 ol:N.oth.length <= 50
theorem qec.more {g:List qb} {k:Nat} {V:qa} {rows:List (List qa)} (h:qec g k V rows) (m:List qb):qec (g ++ m) k V rows:=
 ⟨h.f,λi hi=>by obtain ⟨pp,a,b,c⟩:=h.r i hi;exact ⟨pp,a,b,λn=>by rw [jr];exact c _⟩⟩
theorem KN.more {N:Nms} {g:List qb} {V P O:qa} (h:KN N g V P O) (m:List qb):KN N (g ++ m) V P O:=⟨h.v.more m,h.p.more m,h.o.more m,h.tv,h.tp,h.to,h.vl,h.pl,h.ol⟩
def nm4 (N:Nms) (V P O:qa):List qa:=[V,P,.bool N.bagq,O]
theorem qzM (nm:Str) (x:Str×Str×Tp) (g:List qb) (R:Nat) (hR:R < g.length) (hr:g[R]? = some (.cells [.str nm])):Wd (.fn 86 [] [.ptr R 0]) [.agg (nvR x)] g = some (.ret (.bool (x.2.1 == nm)),g,false):=by
 obtain ⟨a,b,k,l⟩:=x
 simp only [nvR,qaf]
 rw [qi 86 c86]
 simp only [c86,sT.1,sC.1,qL,qE,Nat.testBit,seval,hR,hr]
theorem qu8 (nm:Str) (x:Str×Tp) (g:List qb) (R:Nat) (hR:R < g.length) (hr:g[R]? = some (.cells [.str nm])):Wd (.fn 117 [] [.ptr R 0]) [.agg (npR x)] g = some (.ret (.bool (x.1 == nm)),g,false):=by
 obtain ⟨a,k,l⟩:=x
 simp only [npR,qaf]
 rw [qi 117 qCj]
 simp only [qCj,sT.1,sC.1,qL,qE,Nat.testBit,seval,hR,hr]
theorem qzb (nm sb:Str) (x:Str×Str×Tp) (g:List qb) (R S:Nat) (hR:R < g.length) (hr:g[R]? = some (.cells [.str nm])) (hS:S < g.length) (hs:g[S]? = some (.cells [.str sb])):Wd (.fn 88 [] [.ptr R 0,.ptr S 0]) [.agg (nvR x)] g = some (.ret (.bool (x.1 == nm && x.2.1 == sb)),g,false):=by
 obtain ⟨a,b,k,l⟩:=x
 simp only [nvR,qaf]
 rw [qi 88 c88]
 cases h1:(a == nm) <;> simp only [c88,sT.1,sC.1,qL,qE,Nat.testBit,seval,hR,hr,hS,hs,h1,jY,jQ]
theorem TyO.known {h F:List qb} {t:Tp} {b:Nat} {w:Option (qcb×List qb×Bool)} (hT:TyO F t w):∃k L m,w = some (.ret (.tup [.agg [.int .i64 k,L],.int .i64 0]),F ++ m,false)/\Ta (qcG F.length (F ++ m)) t [.int .i64 k,L]/\L.dim = L/\L.storable = true/\(∀i t,qo L i t = t):=by
 obtain ⟨cs,m,h1,h2⟩:=hT
 obtain ⟨k,L,rfl,a,b,c⟩:=h2.two
 exact ⟨k,L,m,h1,h2,a,b,c⟩
theorem qyg {N:Nms} {V P O:qa} {h:List qb} (hN:KN N h V P O) {nm:Str} {x:Str×Str×Tp} (hx:N.vars.find? (λx=>x.2.1 == nm) = some x):TyO h x.2.2 (Wd (.fn 63 [] []) [.str nm,.agg (nm4 N V P O)] h):=by
 have B:tyB 3 x.2.2 = true:=hN.tv _ (List.mem_of_find?_eq_some hx)
 obtain ⟨v1,v2,v3,_⟩:=hN.v.f
 obtain ⟨p1,p2,p3,_⟩:=hN.p.f
 obtain ⟨o1,o2,o3,_⟩:=hN.o.f
 have f1:=qiR ((hN.v).more [.cells [.str nm],.cells [V,P,.bool N.bagq,O],.cells [.int .i64 0,.lst [] .full]]) (by have:=hN.vl;omega) _ 86 [.ptr h.length 0] λx _ m=>qzM nm x _ h.length (by simp) (by rw [jr,qF];rfl)
 rw [hx] at f1
 obtain ⟨pa,pn,tk,tl⟩:=x
 simp only at B
 have e0:nvR ⟨pa,pn,.mk tk tl⟩ = [.str pa,.str pn,.int .i64 tk,.lst (tl.map tpV) .no]:=by simp only [nvR,qaf]
 simp only [e0] at f1
 have k1:=qh7 (Ta.arg (H:=λ_=>none) (.mk tk tl)) B (h ++ [.cells [.str nm],.cells [V,P,.bool N.bagq,O],.cells [.int .i64 0,.lst [] .full],.cells [.str pa,.str pn,.int .i64 tk,.lst (tl.map tpV) .no]]) (λi x hx=>by cases hx)
 rw [qaf] at k1
 obtain ⟨kk,LL,m,h2,hT,zd,zs,zw⟩:=TyO.known (h:=h) (b:=0) k1
 obtain ⟨F,hF⟩ :∃F,F = h ++ [.cells [.str nm],.cells [V,P,.bool N.bagq,O],.cells [.int .i64 0,.lst [] .full],.cells [.str pa,.str pn,.int .i64 tk,.lst (tl.map tpV) .no]] ++ m:=⟨_,rfl⟩
 rw [<-hF] at h2 hT
 have J:h.length + 4 <= F.length:=by rw [hF];simp
 have b1:F[h.length + 2]? = some (.cells [.int .i64 0,.lst [] .full]):=by rw [hF,jr,qQ];rfl
 have hS:∀X,(F.set (h.length + 2) X)[h.length + 2]? = some X:=λX=>jh zo
 have hb:Nat.ble h.length (h.length + 2) = true:=qe zo
 have I:Nat.ble h.length (h.length + 3) = true:=qe zo
 have E:h.length + 2 < F.length:=zo
 generalize hw:Wd _ _ h = w
 rw [nm4] at hw
 rw [qi 63 c63] at hw
 simp only [c63,sT.1,sC.1,qL,qE,Nat.testBit,seval,qdJ,q8,splice,v1,v2,v3,p1,p2,p3,o1,o2,o3,f1,h2,b1,hS,hb,I,E,zd,zs,zw,j0,jZ] at hw
 subst hw
 refine qbU (h:=h) (b:=h.length + 4) (hT.mono λi x hx=>?_) zo ?_
 ·have hi:h.length + 4 <= i:=by
   by_cases hi:(h ++ [qb.cells [.str nm],.cells [V,P,.bool N.bagq,O],.cells [.int .i64 0,.lst [] .full],.cells [.str pa,.str pn,.int .i64 tk,.lst (tl.map tpV) .no]]).length <= i
   ·simpa using hi
   ·rw [qaD hi] at hx;cases hx
  rw [qP (by simpa using hi)] at hx
  rw [qP hi,jg zo]
  exact hx
 ·rw [j8 zo,hF,jr,Jf]
theorem qyf {N:Nms} {V P O:qa} {h:List qb} (hN:KN N h V P O) {nm sb:Str} {x:Str×Str×Tp} (hx:N.oth.find? (λx=>x.1 == nm && x.2.1 == sb) = some x):TyO h x.2.2 (Wd (.fn 64 [] []) [.str nm,.str sb,.agg (nm4 N V P O)] h):=by
 have B:tyB 3 x.2.2 = true:=hN.to _ (List.mem_of_find?_eq_some hx)
 obtain ⟨v1,v2,v3,_⟩:=hN.v.f
 obtain ⟨p1,p2,p3,_⟩:=hN.p.f
 obtain ⟨o1,o2,o3,_⟩:=hN.o.f
 have f1:=qiR ((hN.o).more [.cells [.str nm],.cells [.str sb],.cells [V,P,.bool N.bagq,O],.cells [.int .i64 0,.lst [] .full]]) (by have:=hN.ol;omega) _ 88 [.ptr h.length 0,.ptr (h.length + 1) 0] λx _ m=>qzb nm sb x _ h.length (h.length + 1) (by simp) (by rw [jr,qF];rfl) (by simp) (by rw [jr,qQ];rfl)
 rw [hx] at f1
 obtain ⟨pa,pn,tk,tl⟩:=x
 simp only at B
 have e0:nvR ⟨pa,pn,.mk tk tl⟩ = [.str pa,.str pn,.int .i64 tk,.lst (tl.map tpV) .no]:=by simp only [nvR,qaf]
 simp only [e0] at f1
 have k1:=qh7 (Ta.arg (H:=λ_=>none) (.mk tk tl)) B (h ++ [.cells [.str nm],.cells [.str sb],.cells [V,P,.bool N.bagq,O],.cells [.int .i64 0,.lst [] .full],.cells [.str pa,.str pn,.int .i64 tk,.lst (tl.map tpV) .no]]) (λi x hx=>by cases hx)
 rw [qaf] at k1
 obtain ⟨kk,LL,m,h2,hT,zd,zs,zw⟩:=TyO.known (h:=h) (b:=0) k1
 obtain ⟨F,hF⟩ :∃F,F = h ++ [.cells [.str nm],.cells [.str sb],.cells [V,P,.bool N.bagq,O],.cells [.int .i64 0,.lst [] .full],.cells [.str pa,.str pn,.int .i64 tk,.lst (tl.map tpV) .no]] ++ m:=⟨_,rfl⟩
 rw [<-hF] at h2 hT
 have J:h.length + 5 <= F.length:=by rw [hF];simp
 have b1:F[h.length + 3]? = some (.cells [.int .i64 0,.lst [] .full]):=by rw [hF,jr,qQ];rfl
 have hS:∀X,(F.set (h.length + 3) X)[h.length + 3]? = some X:=λX=>jh zo
 have hb:Nat.ble h.length (h.length + 3) = true:=qe zo
 have I:Nat.ble h.length (h.length + 4) = true:=qe zo
 have E:h.length + 3 < F.length:=zo
 generalize hw:Wd _ _ h = w
 rw [nm4] at hw
 rw [qi 64 c64] at hw
 simp only [c64,sT.1,sC.1,qL,qE,Nat.testBit,seval,qdJ,q8,splice,v1,v2,v3,p1,p2,p3,o1,o2,o3,f1,h2,b1,hS,hb,I,E,zd,zs,zw,j0,jZ] at hw
 subst hw
 refine qbU (h:=h) (b:=h.length + 5) (hT.mono λi x hx=>?_) zo ?_
 ·have hi:h.length + 5 <= i:=by
   by_cases hi:(h ++ [qb.cells [.str nm],.cells [.str sb],.cells [V,P,.bool N.bagq,O],.cells [.int .i64 0,.lst [] .full],.cells [.str pa,.str pn,.int .i64 tk,.lst (tl.map tpV) .no]]).length <= i
   ·simpa using hi
   ·rw [qaD hi] at hx;cases hx
  rw [qP (by simpa using hi)] at hx
  rw [qP hi,jg zo]
  exact hx
 ·rw [j8 zo,hF,jr,Jf]
theorem qga {N:Nms} {V P O:qa} {h:List qb} (hN:KN N h V P O) {nm:Str} {x:Str×Tp} (I:N.bagq = true) (hx:N.ports.find? (λx=>x.1 == nm) = some x):TyO h x.2 (Wd (.fn 89 [] []) [.str nm,.agg (nm4 N V P O)] h):=by
 have B:tyB 3 x.2 = true:=hN.tp _ (List.mem_of_find?_eq_some hx)
 obtain ⟨v1,v2,v3,_⟩:=hN.v.f
 obtain ⟨p1,p2,p3,_⟩:=hN.p.f
 obtain ⟨o1,o2,o3,_⟩:=hN.o.f
 have f1:=qpD ((hN.p).more [.cells [.str nm],.cells [V,P,.bool true,O],.cells [.int .i64 0,.lst [] .full]]) (by have:=hN.pl;omega) _ 117 [.ptr h.length 0] λx _ m=>qu8 nm x _ h.length (by simp) (by rw [jr,qF];rfl)
 rw [hx] at f1
 obtain ⟨pn,tk,tl⟩:=x
 simp only at B
 have e0:npR ⟨pn,.mk tk tl⟩ = [.str pn,.int .i64 tk,.lst (tl.map tpV) .no]:=by simp only [npR,qaf]
 simp only [e0] at f1
 have k1:=qh7 (Ta.arg (H:=λ_=>none) (.mk tk tl)) B (h ++ [.cells [.str nm],.cells [V,P,.bool true,O],.cells [.int .i64 0,.lst [] .full],.cells [.str pn,.int .i64 tk,.lst (tl.map tpV) .no]]) (λi x hx=>by cases hx)
 rw [qaf] at k1
 obtain ⟨kk,LL,m,h2,hT,zd,zs,zw⟩:=TyO.known (h:=h) (b:=0) k1
 obtain ⟨F,hF⟩ :∃F,F = h ++ [.cells [.str nm],.cells [V,P,.bool true,O],.cells [.int .i64 0,.lst [] .full],.cells [.str pn,.int .i64 tk,.lst (tl.map tpV) .no]] ++ m:=⟨_,rfl⟩
 rw [<-hF] at h2 hT
 have M:h.length + 4 <= F.length:=by rw [hF];simp
 have b1:F[h.length + 2]? = some (.cells [.int .i64 0,.lst [] .full]):=by rw [hF,jr,qQ];rfl
 have hS:∀X,(F.set (h.length + 2) X)[h.length + 2]? = some X:=λX=>jh zo
 have hb:Nat.ble h.length (h.length + 2) = true:=qe zo
 have J:Nat.ble h.length (h.length + 3) = true:=qe zo
 have E:h.length + 2 < F.length:=zo
 generalize hw:Wd _ _ h = w
 rw [nm4,I] at hw
 rw [qi 89 c89] at hw
 simp only [c89,sT.1,sC.1,qL,qE,Nat.testBit,seval,qdJ,q8,splice,v1,v2,v3,p1,p2,p3,o1,o2,o3,f1,h2,b1,hS,hb,J,E,zd,zs,zw,j0,jZ] at hw
 subst hw
 refine qbU (h:=h) (b:=h.length + 4) (hT.mono λi x hx=>?_) zo ?_
 ·have hi:h.length + 4 <= i:=by
   by_cases hi:(h ++ [qb.cells [.str nm],.cells [V,P,.bool true,O],.cells [.int .i64 0,.lst [] .full],.cells [.str pn,.int .i64 tk,.lst (tl.map tpV) .no]]).length <= i
   ·simpa using hi
   ·rw [qaD hi] at hx;cases hx
  rw [qP (by simpa using hi)] at hx
  rw [qP hi,jg zo]
  exact hx
 ·rw [j8 zo,hF,jr,Jf]
def TyX (H:Nat->Option qb) (h:List qb) (t:Tp) (w:Option (qcb×List qb×Bool)):Prop:=∃cs m,w = some (.ret (.tup [.agg cs,.int .i64 0]),h ++ m,false)/\Ta (ext H h m) t cs
theorem TyO.x {H:Nat->Option qb} {h:List qb} {t:Tp} {w:Option (qcb×List qb×Bool)} (hT:TyO h t w):TyX H h t w:=by
 obtain ⟨cs,m,h1,h2⟩:=hT
 exact ⟨cs,m,h1,h2.mono qdU⟩
theorem TyX.of {H:Nat->Option qb} {h:List qb} (hg:Cov H h) {t:Tp} {cs:List qa} (hT:Ta H t cs):TyX H h t (some (.ret (.tup [.agg cs,.int .i64 0]),h,false)):=⟨cs,[],by rw [jK],hT.mono (qcx hg)⟩
theorem qgP (H:Nat->Option qb) (k:Int):Ta H (.mk k []) [.int .i64 k,.lst [] .full]:=.lst k [] [] .full (.inr rfl) rfl λi h=>by simp at h
theorem TL.cl {H:Nat->Option qb} {l:List Tp} {L:qa} (h:TL H l L):L.cells = [L]:=by
 obtain ⟨rs,_,_,⟨f,_,rfl⟩ | ⟨id,m,rfl,_⟩⟩:=h <;> rfl
theorem quB {H:Nat->Option qb} {l:List Tp} {cs:List qa} (hT:Ta H (.mk 3 l) cs) {n:Nat} (hn:n < l.length) (I:n < 100000) (h:List qb) (hg:Cov H h):TyX H h l[n] (Wd (.fn 67 [] []) [.int .i64 (n:Nat),.agg cs] h):=by
 obtain ⟨L,rfl,hL⟩:=hT.lp
 obtain ⟨d1,s1,w1,n1⟩:=hL.facts
 obtain ⟨pp,cs,x1,x2,x3,_,x4⟩:=hL.item hn hg
 have x3:=x3 [.cells [.int .i64 3,L],.cells [.int .i64 0,.lst [] .full]]
 have B:=x4.low hg
 obtain ⟨ik,iL,rfl,zd,zs,zw⟩:=x4.two
 have x5:∀i t,qo pp i t = t:=λi t=>by rw [<-x2];exact qH _ _ _
 have q1:ilt (n:Int) 0 = false:=by rw [qf];simp
 have q2:ile (l.length:Int) (n:Int) = false:=by rw [qaT];simp;omega
 have hb:Nat.ble h.length (h.length + 1) = true:=qe zo
 simp only [qr,jm] at B
 have E:=B.2.1
 generalize hw:Wd _ _ h = w
 rw [qi 67 c67] at hw
 simp only [c67,sT.1,sC.1,qL,qE,Nat.testBit,seval,q8,splice,d1,s1,w1,n1,x1,x2,x3,x5,q1,q2,zd,zs,zw,hb,E,jZ] at hw
 subst hw
 exact TyX.of hg x4
theorem qqF {H:Nat->Option qb} {ts:List Tp} {L:qa} (hL:TL H ts L) (h3:tyB 3 (.mk 3 ts) = true) (h:List qb) (hg:Cov H h):TyX H h (.mk 3 ts) (Wd (.fn 66 [] []) [L] h):=by
 obtain ⟨d1,s1,w1,n1⟩:=hL.facts
 have hT:=hL.at 3
 have hc:=hL.cl
 have B:=hL.low hg
 have h1:=qfA hT (h ++ [.cells [.int .i64 0,.lst [] .full],.cells [.int .i64 3,L]]) (hg.more _)
 rw [h3] at h1
 have hb:Nat.ble h.length (h.length + 1) = true:=qe zo
 generalize hw:Wd _ _ h = w
 rw [qi 66 c66] at hw
 simp only [c66,sT.1,sC.1,qL,qE,Nat.testBit,seval,q8,splice,d1,s1,w1,n1,hc,h1,B,hb,j0,jZ] at hw
 subst hw
 exact TyX.of hg hT
theorem TL.kind {H:Nat->Option qb} {l:List Tp} {L:qa} (h:TL H l L) {i:Nat} (hi:i < l.length) {g:List qb} (hg:Cov H g):∃pp qq,qaW 2 L (.int .i64 (i:Nat)) = some pp/\pp.dim = pp/\faV 0 pp = some qq/\qq.dim = qq/\qcl g qq none = some (.int .i64 (qV l[i])):=by
 obtain ⟨rs,h1,h2,⟨f,hf,rfl⟩ | ⟨id,m,rfl,h3⟩⟩:=h
 ·have B:i < rs.length:=zo
  have h4:=h2 i hi B
  have hx:qaW 2 (.lst (rs.map .agg) f) (.int .i64 (i:Nat)) = some (.iptr rs[i] 0):=qbl (x:=.agg rs[i]) (by rw [ju,ji B];rfl) h4.length
  obtain ⟨k,l',LL,e1,e2,_⟩:=h4.cells
  refine ⟨_,_,hx,rfl,rfl,rfl,?_⟩
  show cut rs[i] 0 none = _
  rw [e1,e2]
  rfl
 ·have B:i < rs.length:=zo
  obtain ⟨k,l',LL,e1,e2,_⟩:=(h2 i hi B).cells
  have hk:∀v ∈ rs,v.length = 2:=λv hv=>by
   obtain ⟨j,hj,rfl⟩:=List.getElem_of_mem hv
   exact (h2 j zo hj).length
  refine ⟨_,_,qcC hi,rfl,rfl,rfl,?_⟩
  rw [qdZ (hg _ _ h3),qhV,qoy hk B zo,e1,e2]
  rfl
section
variable {H:Nat->Option qb} {ts:List Tp} {L:qa} {h:List qb}
theorem qBT (hL:TL H ts L) (hg:Cov H h) (hl:ts.length <= 20) (hk:qa9 ts [0] = true) {op:Int} (ho:op = 13):TyX H h (.mk 0 []) (Wd (.fn 68 [] []) [.int .i64 op,L] h):=by
 obtain ⟨d1,s1,w1,n1⟩:=hL.facts
 have h1:=qf9 hL hl [0] (h.length + 1) 0 (h ++ [.cells [.int .i64 0,.lst [] .full],.cells [.int .i64 0]]) (hg.more _) (by rw [qQ];rfl)
 rw [hk] at h1
 simp only [jD,jE,jz,Nat.reduceAdd] at h1
 have hp:=λg=>qba 0 g
 have hl:=λg=>qBg h.length 0 g
 have hb:Nat.ble h.length (h.length + 1) = true:=qe zo
 generalize hw:Wd _ _ h = w
 rw [qi 68 c68] at hw
 rcases ho with rfl <;>
 simp only [c68,sT.1,sC.1,sTA.1,sCA.1,qL,qai,qaj,Src.isTmp,qD,Src.hangs,qh.isT,qak,qE,Nat.testBit,bne,seval,qbm,qR,qT,qao,qS,q9,qz,qam,qO,qM,qac,qab,qav,qad,q8,splice,d1,s1,w1,n1,h1,hp,hl,hb,jZ] at hw
 all_goals subst hw
 all_goals exact TyX.of hg (qgP H 0)
theorem qBU (hL:TL H ts L) (hg:Cov H h) (hl:ts.length <= 20) (hk:qa9 ts [1] = true) {op:Int} (ho:op = 14):TyX H h (.mk 1 []) (Wd (.fn 68 [] []) [.int .i64 op,L] h):=by
 obtain ⟨d1,s1,w1,n1⟩:=hL.facts
 have h1:=qf9 hL hl [1] (h.length + 1) 0 (h ++ [.cells [.int .i64 0,.lst [] .full],.cells [.int .i64 1]]) (hg.more _) (by rw [qQ];rfl)
 rw [hk] at h1
 simp only [jD,jE,jz,Nat.reduceAdd] at h1
 have hp:=λg=>qba 1 g
 have hl:=λg=>qBg h.length 1 g
 have hb:Nat.ble h.length (h.length + 1) = true:=qe zo
 generalize hw:Wd _ _ h = w
 rw [qi 68 c68] at hw
 rcases ho with rfl <;>
 simp only [c68,sT.1,sC.1,sTA.1,sCA.1,qL,qai,qaj,Src.isTmp,qD,Src.hangs,qh.isT,qak,qE,Nat.testBit,bne,seval,qbm,qR,qT,qao,qS,q9,qz,qam,qO,qM,qac,qab,qav,qad,q8,splice,d1,s1,w1,n1,h1,hp,hl,hb,jZ] at hw
 all_goals subst hw
 all_goals exact TyX.of hg (qgP H 1)
theorem qjB (hL:TL H ts L) (hg:Cov H h) (hl:ts.length <= 20) (hk:qa9 ts [0,0] = true) {op:Int} (ho:op = 15\/op = 16\/op = 17\/op = 18\/op = 19):TyX H h (.mk 0 []) (Wd (.fn 68 [] []) [.int .i64 op,L] h):=by
 obtain ⟨d1,s1,w1,n1⟩:=hL.facts
 have h1:=qf9 hL hl [0,0] (h.length + 1) 0 (h ++ [.cells [.int .i64 0,.lst [] .full],.cells [.int .i64 0,.int .i64 0]]) (hg.more _) (by rw [qQ];rfl)
 rw [hk] at h1
 simp only [jD,jE,jz,Nat.reduceAdd] at h1
 have hp:=λg=>qba 0 g
 have hl:=λg=>qF5 h.length 0 0 g
 have hb:Nat.ble h.length (h.length + 1) = true:=qe zo
 generalize hw:Wd _ _ h = w
 rw [qi 68 c68] at hw
 rcases ho with rfl | rfl | rfl | rfl | rfl <;>
 simp only [c68,sT.1,sC.1,sTA.1,sCA.1,qL,qai,qaj,Src.isTmp,qD,Src.hangs,qh.isT,qak,qE,Nat.testBit,bne,seval,qbm,qR,qT,qao,qS,q9,qz,qam,qO,qM,qac,qab,qav,qad,q8,splice,d1,s1,w1,n1,h1,hp,hl,hb,jZ] at hw
 all_goals subst hw
 all_goals exact TyX.of hg (qgP H 0)
theorem qwp (hL:TL H ts L) (hg:Cov H h) (hl:ts.length <= 20) (hk:qa9 ts [1,1] = true) {op:Int} (ho:op = 23\/op = 24):TyX H h (.mk 1 []) (Wd (.fn 68 [] []) [.int .i64 op,L] h):=by
 obtain ⟨d1,s1,w1,n1⟩:=hL.facts
 have h1:=qf9 hL hl [1,1] (h.length + 1) 0 (h ++ [.cells [.int .i64 0,.lst [] .full],.cells [.int .i64 1,.int .i64 1]]) (hg.more _) (by rw [qQ];rfl)
 rw [hk] at h1
 simp only [jD,jE,jz,Nat.reduceAdd] at h1
 have hp:=λg=>qba 1 g
 have hl:=λg=>qF5 h.length 1 1 g
 have hb:Nat.ble h.length (h.length + 1) = true:=qe zo
 generalize hw:Wd _ _ h = w
 rw [qi 68 c68] at hw
 rcases ho with rfl | rfl <;>
 simp only [c68,sT.1,sC.1,sTA.1,sCA.1,qL,qai,qaj,Src.isTmp,qD,Src.hangs,qh.isT,qak,qE,Nat.testBit,bne,seval,qbm,qR,qT,qao,qS,q9,qz,qam,qO,qM,qac,qab,qav,qad,q8,splice,d1,s1,w1,n1,h1,hp,hl,hb,jZ] at hw
 all_goals subst hw
 all_goals exact TyX.of hg (qgP H 1)
theorem qsf {a:Tp} (hL:TL H [a,a] L) (hg:Cov H h) {d:Nat} (hS:tpS d a) {op:Int} (ho:op = 20\/op = 21\/op = 22):TyX H h (.mk 1 []) (Wd (.fn 68 [] []) [.int .i64 op,L] h):=by
 obtain ⟨d1,s1,w1,n1⟩:=hL.facts
 have G:=[qb.cells [.int .i64 0,.lst [] .full]]
 obtain ⟨pp,cs,x1,x2,x3,_,x4⟩:=hL.item (i:=0) (by simp) (hg.more [qb.cells [.int .i64 0,.lst [] .full]])
 obtain ⟨qq,ds,y1,y2,y3,_,y4⟩:=hL.item (i:=1) (by simp) (hg.more [qb.cells [.int .i64 0,.lst [] .full]])
 have x3:=x3 []
 have y3:=y3 []
 rw [jK] at x3 y3
 have h1:=qeA d hS a cs ds _ x4 y4 (hg.more [qb.cells [.int .i64 0,.lst [] .full]])
 rw [qdb] at h1
 have x5:∀i t,qo pp i t = t:=λi t=>by rw [<-x2];exact qH _ _ _
 have y5:∀i t,qo qq i t = t:=λi t=>by rw [<-y2];exact qH _ _ _
 have hp:=λg=>qba 1 g
 have n1:qbG false L = some (.int .i64 2):=n1
 have x1:qaW 2 L (.int .i64 0) = some pp:=x1
 have y1:qaW 2 L (.int .i64 1) = some qq:=y1
 generalize hw:Wd _ _ h = w
 rw [qi 68 c68] at hw
 rcases ho with rfl | rfl | rfl <;>
 simp only [c68,sT.1,sC.1,sTA.1,sCA.1,qL,qai,qaj,Src.isTmp,qD,Src.hangs,qh.isT,qak,qE,Nat.testBit,bne,seval,qbm,qR,qT,qao,qS,q9,qz,qam,qO,qM,qac,qab,qav,qad,q8,splice,d1,s1,w1,n1,x1,x2,x3,x5,y1,y2,y3,y5,h1,hp,jZ] at hw
 all_goals subst hw
 all_goals exact TyX.of hg (qgP H 1)
theorem qBV {c a:Tp} (hc:qV c = 1) (hL:TL H [c,a,a] L) (hg:Cov H h) {d:Nat} (hS:tpS d a):TyX H h a (Wd (.fn 68 [] []) [.int .i64 25,L] h):=by
 obtain ⟨d1,s1,w1,n1⟩:=hL.facts
 obtain ⟨rr,rq,z1,z2,z3,z4,z5⟩:=hL.kind (i:=0) (by simp) (hg.more [qb.cells [.int .i64 0,.lst [] .full]])
 obtain ⟨pp,cs,x1,x2,x3,_,x4⟩:=hL.item (i:=1) (by simp) (hg.more [qb.cells [.int .i64 0,.lst [] .full]])
 obtain ⟨qq,ds,y1,y2,y3,_,y4⟩:=hL.item (i:=2) (by simp) (hg.more [qb.cells [.int .i64 0,.lst [] .full]])
 have x3:=x3 []
 have y3:=y3 []
 rw [jK] at x3 y3
 have z5:_ = some (qa.int .i64 (qV c)):=z5
 rw [hc] at z5
 have z6:∀i t,qo rr i t = t:=λi t=>by rw [<-z2];exact qH _ _ _
 have z7:∀i t,qo rq i t = t:=λi t=>by rw [<-z4];exact qH _ _ _
 have h1:=qeA d hS a cs ds _ x4 y4 (hg.more [qb.cells [.int .i64 0,.lst [] .full]])
 rw [qdb] at h1
 have x4:Ta H a cs:=x4
 have B:=x4.low hg
 obtain ⟨ik,iL,rfl,td,ts,tw⟩:=x4.two
 simp only [qr,jm] at B
 have E:=B.2.1
 have x5:∀i t,qo pp i t = t:=λi t=>by rw [<-x2];exact qH _ _ _
 have y5:∀i t,qo qq i t = t:=λi t=>by rw [<-y2];exact qH _ _ _
 have n1:qbG false L = some (.int .i64 3):=n1
 have z1:qaW 2 L (.int .i64 0) = some rr:=z1
 have x1:qaW 2 L (.int .i64 1) = some pp:=x1
 have y1:qaW 2 L (.int .i64 2) = some qq:=y1
 generalize hw:Wd _ _ h = w
 rw [qi 68 c68] at hw
 simp only [c68,sT.1,sC.1,sTA.1,sCA.1,qL,qai,qaj,Src.isTmp,qD,Src.hangs,qh.isT,qak,qE,Nat.testBit,bne,seval,qbm,qR,qT,qao,qS,q9,qz,qam,qO,qM,qac,qab,qav,qad,q8,splice,d1,s1,w1,n1,x1,x2,x3,x5,y1,y2,y3,y5,z1,z2,z3,z4,z5,z6,z7,h1,E,td,ts,tw,jZ] at hw
 subst hw
 exact TyX.of hg x4
end
end Go.Proofs.YtnibchoenjmmjaaGreatDoor.AE
