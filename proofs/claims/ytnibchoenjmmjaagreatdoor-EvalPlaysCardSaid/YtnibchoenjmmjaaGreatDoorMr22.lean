/- A part of the proof: the abstract executor and what goes through it (part 22). No condition. -/
import Derived.Test.YtnibchoenjmmjaaGreatDoorMr21
import Derived.Test.YtnibchoenjmmjaaGreatDoorMr20
import Derived.Test.YtnibchoenjmmjaaGreatDoorMr7
import Derived.Test.YtnibchoenjmmjaaGreatDoorMr19
import Derived.Test.YtnibchoenjmmjaaGreatDoorMr9
set_option maxRecDepth 100000
set_option maxHeartbeats 0
open List renaming getElem?_append_left→ja,getElem?_append_right→jc,getElem?_eq_some_iff→jd,mem_cons_self→jG,take_append_of_le_length→jU,take_set_of_le→jZ,getElem?_set_ne→jf,getElem?_set_self→jg,getElem?_eq_getElem→jh,length_append→ji,append_assoc→jp,append_nil→jH,mem_append→jJ,mem_cons_of_mem→jK,mem_singleton→Jd,nil_append→j6,cons_append→jy,mem_map→jR,all_cons→jE,all_nil→jF
open Bool renaming and_eq_true→jk,and_true→jx,not_true→j3,not_false→j4,false_or→jP
open Option renaming map_some→jL
open List.cons renaming injEq→Je
open Nat renaming add_assoc→ju,zero_add→jw
namespace Go.Proofs.YtnibchoenjmmjaaGreatDoor.AE
open Go.AE
def Seg (ns:List Nd) (c:Nat) (l:List Nd):Prop:=∀j (hj:j < l.length),ns[c + j]? = some l[j]
theorem Seg.left {ns:List Nd} {c:Nat} {l m:List Nd} (h:Seg ns c (l ++ m)):Seg ns c l:=λj hj=>by
 rw [h j (by simp;omega),List.getElem_append_left hj]
theorem Seg.right {ns:List Nd} {c:Nat} {l m:List Nd} (h:Seg ns c (l ++ m)):Seg ns (c + l.length) m:=λj hj=>by
 rw [ju,h (l.length + j) (by simp;omega),List.getElem_append_right zo]
 simp
theorem qha {f:Nat->Exl->List Nd} (b:Nat):∀(aS:List Exl) (out:List Nd) (ins:List Int),∃m,(qa8 f b aS out ins).1 = out ++ m
 | [],out,ins=>⟨[],by rw [qa8];simp⟩
 | a :: aS,out,ins=>by
  rw [qa8]
  obtain ⟨m,e⟩:=qha b aS (out ++ f (b + out.length) a) (ins ++ [((b + (out ++ f (b + out.length) a).length:Nat):Int) - 1])
  exact ⟨f (b + out.length) a ++ m,by rw [e,jp]⟩
theorem qix {f:Nat->Exl->List Nd} {ns:List Nd} {ev:Int->Res} {g:Exl->Res} (b:Nat):∀(aS:List Exl) (out:List Nd) (ins:List Int),(∀a ∈ aS,∀c,Seg ns c (f c a)->ev (((c + (f c a).length:Nat):Int) - 1) = g a)->Seg ns b (qa8 f b aS out ins).1->∃js,(qa8 f b aS out ins).2 = ins ++ js/\js.map ev = aS.map g
 | [],out,ins,_,_=>⟨[],by rw [qa8];simp,rfl⟩
 | a :: aS,out,ins,ha,hs=>by
  rw [qa8] at hs ⊢
  obtain ⟨m,e⟩:=qha (f:=f) b aS (out ++ f (b + out.length) a) (ins ++ [((b + (out ++ f (b + out.length) a).length:Nat):Int) - 1])
  have h1:=ha a (jG ..) (b + out.length) (by
   have B:=hs
   rw [e] at B
   exact B.left.right)
  obtain ⟨js,h2,h3⟩:=qix b aS _ _ (λx hx=>ha x (jK _ hx)) hs
  refine ⟨(((b + (out ++ f (b + out.length) a).length:Nat):Int) - 1) :: js,by rw [h2,jp];rfl,?_⟩
  rw [List.map_cons,List.map_cons,h3,<-h1,ji,ju]
theorem qof {ev:Int->Res} {g:Exl->Res} {tt:Exl->Tp} {k1 k2:List Val->Res}:∀{aS:List Exl} {js:List Int} {vs:List Val} {ts:List Tp},js.map ev = aS.map g->(∀a ∈ aS,qat (g a) (tt a))->qcq vs ts->(∀ws,qcq ws (ts ++ aS.map tt)->k1 ws = k2 ws)->qcC ev k1 js vs = qbA g k2 aS vs
 | [],[],vs,ts,_,_,hv,hk=>by rw [qcC,qbA];exact hk vs (by simpa using hv)
 | a :: aS,[],vs,ts,h,_,_,_=>by cases h
 | [],j :: js,vs,ts,h,_,_,_=>by cases h
 | a :: aS,j :: js,vs,ts,h,ha,hv,hk=>by
  rw [List.map_cons,List.map_cons] at h
  obtain ⟨h1,h2⟩:=List.cons.inj h
  rw [qcC,qbA,h1]
  have B:=ha a (jG ..)
  cases hq:((g a).2 == 0) with
  | false=>
   rw [j4,cond_true,cond_true]
   exact (B.err hq (tt a)).1
  | true=>
   rw [j3,cond_false,cond_false]
   exact qof h2 (λx hx=>ha x (jK _ hx)) (hv.snoc (B.val hq).2) (by simpa using hk)
theorem qgO {r:Res} (h:qat r qac) (h2:(r.2 == 0) = true):∃m,(m = 0\/m = 1)/\r = (.mk 1 m [] [],0):=by
 obtain ⟨h1,h3⟩:=h.val h2
 obtain ⟨m,hm,e⟩:=h3.bool rfl
 exact ⟨m,hm,by rw [<-e,<-h1]⟩
theorem qnX {r:Res} (h:qat r qac):((r.2 == 0) && !(qco r.1 == 1)) = false:=by
 cases hq:(r.2 == 0) with
 | false=>rfl
 | true=>
  obtain ⟨m,_,e⟩:=qgO h hq
  rw [e]
  rfl
theorem qAs {ev:Int->Res} {a b c:Res} {x y z:Int} (hx:ev x = a) (hy:ev y = b) (hz:ev z = c) (ha:qat a qac) (y0:0 <= y) (z0:0 <= z):qce 25 [x,y,z] ev = bif !(a.2 == 0) then (qM,a.2) else bif qbg a.1 == 1 then b else c:=by
 have iy:ilt y 0 = false:=by rw [qe];simp;omega
 have iz:ilt z 0 = false:=by rw [qe];simp;omega
 have e0:qce 25 [x,y,z] ev = (bif !((ev x).2 == 0) then ev x else bif !(qco (ev x).1 == 1) then qa3 1 else bif ilt (q6 25 [x,y,z] (ev x)) 0 then ev x else bif ((ev (q6 25 [x,y,z] (ev x))).2 == 0 && false) && !(qco (ev (q6 25 [x,y,z] (ev x))).1 == 1) then qa3 1 else ev (q6 25 [x,y,z] (ev x))):=rfl
 rw [e0,hx]
 cases hq:(a.2 == 0) with
 | false=>
  rw [j4,cond_true,cond_true]
  exact (ha.err hq qac).1
 | true=>
  obtain ⟨m,hm,rfl⟩:=qgO ha hq
  rcases hm with rfl | rfl
  ·have e:q6 25 [x,y,z] (.mk 1 0 [] [],0) = z:=rfl
   rw [e,iz,hz]
   simp [qco,qbg]
  ·have e:q6 25 [x,y,z] (.mk 1 1 [] [],0) = y:=rfl
   rw [e,iy,hy]
   simp [qco,qbg]
theorem qoz {ev:Int->Res} {a b:Res} {x y:Int} {op:Int} (hop:op = 23\/op = 24) (hx:ev x = a) (hy:ev y = b) (ha:qat a qac) (hb:qat b qac) (y0:0 <= y):qce op [x,y] ev = bif !(a.2 == 0) then (qM,a.2) else bif qbg a.1 == op - 23 then a else b:=by
 have iy:ilt y 0 = false:=by rw [qe];simp;omega
 have i1:ilt (-1) 0 = true:=xk
 have e0:qce op [x,y] ev = (bif !((ev x).2 == 0) then ev x else bif !(qco (ev x).1 == 1) then qa3 1 else bif ilt (q6 op [x,y] (ev x)) 0 then ev x else bif ((ev (q6 op [x,y] (ev x))).2 == 0 && !(op == 25)) && !(qco (ev (q6 op [x,y] (ev x))).1 == 1) then qa3 1 else ev (q6 op [x,y] (ev x))):=rfl
 have B:=qnX hb
 rw [e0,hx]
 cases hq:(a.2 == 0) with
 | false=>
  rw [j4,cond_true,cond_true]
  exact (ha.err hq qac).1
 | true=>
  obtain ⟨m,hm,rfl⟩:=qgO ha hq
  rcases hop with rfl | rfl <;> rcases hm with rfl | rfl
  ·have e:q6 23 [x,y] (.mk 1 0 [] [],0) = -1:=rfl
   rw [e,i1]
   simp [qco,qbg]
  ·have e:q6 23 [x,y] (.mk 1 1 [] [],0) = y:=rfl
   rw [e,iy,hy]
   have e2:((b.2 == 0 && !((23:Int) == 25)) && !(qco b.1 == 1)) = false:=by
    rw [show (!((23:Int) == 25)) = true from rfl,jx];exact B
   rw [e2]
   simp [qco,qbg]
  ·have e:q6 24 [x,y] (.mk 1 0 [] [],0) = y:=rfl
   rw [e,iy,hy]
   have e2:((b.2 == 0 && !((24:Int) == 25)) && !(qco b.1 == 1)) = false:=by
    rw [show (!((24:Int) == 25)) = true from rfl,jx];exact B
   rw [e2]
   simp [qco,qbg]
  ·have e:q6 24 [x,y] (.mk 1 1 [] [],0) = -1:=rfl
   rw [e,i1]
   simp [qco,qbg]
theorem qvX {W:Wl} (hR:qap W) {ns:List Nd} (hS:∀i (hi:i < ns.length),qjs ns[i] i):∀(d:Nat) (e:Exl) (b:Nat),right d e = true->(qQ W.N d e).2 = 0->Seg ns b (low (W.N.vars.map (·.2.1)) (W.N.ports.map (·.1)) d b e)->evT (wE W) ns (((b + (low (W.N.vars.map (·.2.1)) (W.N.ports.map (·.1)) d b e).length:Nat):Int) - 1) = evD W d e
 | 0,e,b,h,_,_=>by rw [right] at h;cases h
 | d + 1,.mk op n nm sb aS,b,h,hk,hs=>by
  rw [right,jk,List.all_eq_true] at h
  rw [qQ] at hk
  obtain ⟨O,a8⟩:=qeE hk
  rw [a8,j6] at hk
  have ht:∀a ∈ aS,qat (evD W d a) (qQ W.N d a).1:=λa ha=>qdq hR d a (h.2 a ha) (O a ha)
  have ih:=λa (ha:a ∈ aS) c a7=>qvX hR hS d a c (h.2 a ha) (O a ha) a7
  rw [low] at hs ⊢
  obtain ⟨js,a1,B⟩:=qix (f:=low (W.N.vars.map (·.2.1)) (W.N.ports.map (·.1)) d) (ev:=evT (wE W) ns) (g:=evD W d) b aS [] [] ih hs.left
  rw [j6] at a1
  rw [a1] at hs ⊢
  generalize (qa8 (low (W.N.vars.map (·.2.1)) (W.N.ports.map (·.1)) d) b aS [] []).1 = out at *
  have E:=hs out.length (by simp)
  have hlt:b + out.length < ns.length:=by
   rcases Nat.lt_or_ge (b + out.length) ns.length with h1 | h1
   ·exact h1
   ·rw [List.getElem?_eq_none h1] at E;cases E
  rw [jh hlt,List.getElem_append_right (Nat.le_refl _)] at E
  have U:ns[b + out.length] = qdi W op n nm sb js:=by
   have:=Option.some.inj E
   rw [this]
   simp
  have a6:(((b + (out ++ [fin (W.N.vars.map (·.2.1)) (W.N.ports.map (·.1)) op n nm sb js]).length:Nat):Int) - 1) = ((b + out.length:Nat):Int):=by simp;omega
  rw [a6,qvW hS hlt,U]
  have S:=hS _ hlt
  rw [U] at S
  obtain ⟨f1,f2,f3⟩:=qpt (vn:=W.N.vars.map (·.2.1)) (pn:=W.N.ports.map (·.1)) op n nm sb js
  have M:js.length = aS.length:=by have:=congrArg List.length B;simpa using this
  obtain ⟨aa,_⟩:=qc9 h.1
  rw [qdf,evD,f1,f3]
  have I:∀j ∈ js,0 <= j:=λj hj=>(S.2 j (by rw [f3];exact hj)).1
  rcases aa with ⟨rfl,hl⟩ | ⟨rfl,hl⟩ | ⟨rfl,hl⟩ | hA
  ·have l3:∀{α:Type} (l:List α),l.length = 3->∃a b c,l = [a,b,c]:=λl h=>by
    match l,h with
    | [a,b,c],_=>exact ⟨a,b,c,rfl⟩
   obtain ⟨a,b',c,rfl⟩:=l3 aS hl
   obtain ⟨x,y,z,rfl⟩:=l3 js (by rw [M];rfl)
   ·skip
    have hk:(ifT (qP (qQ W.N d a).1 == 1 && qaO (qQ W.N d b').1 (qQ W.N d c).1) (qQ W.N d b').1).2 = 0:=hk
    obtain ⟨h1,_⟩:=qbv (show ifT (qP (qQ W.N d a).1 == 1 && qaO (qQ W.N d b').1 (qQ W.N d c).1) (qQ W.N d b').1 = ((ifT (qP (qQ W.N d a).1 == 1 && qaO (qQ W.N d b').1 (qQ W.N d c).1) (qQ W.N d b').1).1,0) from Prod.ext rfl hk)
    rw [jk,beq_iff_eq] at h1
    simp only [List.map_cons,List.map_nil,Je] at B
    obtain ⟨q1,q2,q3,_⟩:=B
    exact qAs q1 q2 q3 ((ht a (by simp)).truth h1.1) (I y (by simp)) (I z (by simp))
  ·have l2:∀{α:Type} (l:List α),l.length = 2->∃a b,l = [a,b]:=λl h=>by
    match l,h with
    | [a,b],_=>exact ⟨a,b,rfl⟩
   obtain ⟨a,b',rfl⟩:=l2 aS hl
   obtain ⟨x,y,rfl⟩:=l2 js (by rw [M];rfl)
   ·skip
    have hk:(ifT ([(qQ W.N d a).1,(qQ W.N d b').1].all λt=>qP t == 1) qac).2 = 0:=hk
    obtain ⟨h1,_⟩:=qbv (show ifT ([(qQ W.N d a).1,(qQ W.N d b').1].all λt=>qP t == 1) qac = ((ifT ([(qQ W.N d a).1,(qQ W.N d b').1].all λt=>qP t == 1) qac).1,0) from Prod.ext rfl hk)
    simp only [jE,jF,jx,jk,beq_iff_eq] at h1
    simp only [List.map_cons,List.map_nil,Je] at B
    obtain ⟨q1,q2,_⟩:=B
    exact qoz (.inl rfl) q1 q2 ((ht a (by simp)).truth h1.1) ((ht b' (by simp)).truth h1.2) (I y (by simp))
  ·have l2:∀{α:Type} (l:List α),l.length = 2->∃a b,l = [a,b]:=λl h=>by
    match l,h with
    | [a,b],_=>exact ⟨a,b,rfl⟩
   obtain ⟨a,b',rfl⟩:=l2 aS hl
   obtain ⟨x,y,rfl⟩:=l2 js (by rw [M];rfl)
   ·skip
    have hk:(ifT ([(qQ W.N d a).1,(qQ W.N d b').1].all λt=>qP t == 1) qac).2 = 0:=hk
    obtain ⟨h1,_⟩:=qbv (show ifT ([(qQ W.N d a).1,(qQ W.N d b').1].all λt=>qP t == 1) qac = ((ifT ([(qQ W.N d a).1,(qQ W.N d b').1].all λt=>qP t == 1) qac).1,0) from Prod.ext rfl hk)
    simp only [jE,jF,jx,jk,beq_iff_eq] at h1
    simp only [List.map_cons,List.map_nil,Je] at B
    obtain ⟨q1,q2,_⟩:=B
    exact qoz (.inr rfl) q1 q2 ((ht a (by simp)).truth h1.1) ((ht b' (by simp)).truth h1.2) (I y (by simp))
  ·rw [hA.chB,cond_false,cond_false]
   refine qof (tt:=λa=>(qQ W.N d a).1) B ht (ts:=[]) (vs:=[]) trivial λws J=>?_
   rw [j6] at J
   have hl:ws.length = aS.length:=by rw [J.length];simp
   exact (qsw hR js J (by rw [hl];exact h.1) (by rw [hl];exact hA) (Prod.ext rfl hk)).1
theorem qtT {W:Wl} (hR:qap W) (ho:OkW W):evT (wE W) (wNs W) (((wNs W).length - 1:Nat):Int) = evD W 20 W.e/\qat (evD W 20 W.e) (qfE W.N W.e).1:=by
 obtain ⟨hS,_,_⟩:=qjm hR ho
 have B:=hR.ty
 have e0:qfE W.N W.e = qQ W.N 20 W.e:=by rw [qfE,hR.r20,cond_true]
 rw [e0] at B ⊢
 have E:=List.length_pos_iff.2 hS.1
 have h:=qvX hR hS.2 20 W.e 0 hR.r20 B (λj hj=>by rw [jw];exact jh hj)
 refine ⟨?_,qdq hR 20 W.e hR.r20 B⟩
 rw [<-h]
 congr 1
 rw [wNs] at E ⊢
 omega
theorem qsz {f:Exl->Res} {tt:Exl->Tp}:∀{aS:List Exl} {vs:List Val} {ts:List Tp},(∀a ∈ aS,qat (f a) (tt a)/\okV (f a).1)->qcq vs ts->(∀v ∈ vs,okV v)->(∃ws,(qcq ws (ts ++ aS.map tt)/\∀v ∈ ws,okV v)/\∀k,qbA f k aS vs = k ws)\/∃e,∀k,qbA f k aS vs = (qM,e)
 | [],vs,ts,_,hv,ho=>.inl ⟨vs,⟨by simpa using hv,ho⟩,λk=>by rw [qbA]⟩
 | a :: aS,vs,ts,ha,hv,ho=>by
  obtain ⟨h1,h2⟩:=ha a jG
  cases hq:((f a).2 == 0) with
  | false=>exact .inr ⟨(f a).2,λk=>by rw [qbA,hq,j4,cond_true]⟩
  | true=>
   have h3:=(h1.val hq).2
   rcases qsz (aS:=aS) (vs:=vs ++ [(f a).1]) (ts:=ts ++ [tt a]) (λx hx=>ha x (jK _ hx)) (hv.snoc h3) (λv hx=>by
    rcases jJ.1 hx with hx | hx
    ·exact ho v hx
    ·rw [Jd.1 hx];exact h2) with ⟨ws,⟨w1,w2⟩,w3⟩ | ⟨e,he⟩
   ·exact .inl ⟨ws,⟨by simpa using w1,w2⟩,λk=>by rw [qbA,hq,j3,cond_false];exact w3 k⟩
   ·exact .inr ⟨e,λk=>by rw [qbA,hq,j3,cond_false];exact he k⟩
theorem Two.imp {f:Exl->Res} {aS:List Exl} {Q R:List Val->Prop} (h:Two f aS Q) (hi:∀vs,Q vs->R vs):Two f aS R:=Or.imp (λ⟨vs,h1,h2⟩=>⟨vs,hi vs h1,h2⟩) id h
theorem qym {W:Wl} (hR:qap W):(qg5 W).length <= 50/\(wOf W).length <= 50/\(qjq W).length <= 50:=by
 have:=hR.vl;have:=hR.ol;have:=hR.pl
 refine ⟨?_,?_,?_⟩
 ·rw [qg5];simp;omega
 ·rw [wOf];simp;omega
 ·rw [qjq];simp;omega
theorem qwQ {W:Wl} (hR:qap W) (ho:OkW W) (nm:Str):(qeX W nm).length <= 200/\∀v ∈ qeX W nm,okV v:=by
 rw [qeX]
 cases hf:(W.N.ports.zip W.bag).find? (λx=>x.1.1 == nm) with
 | none=>exact ⟨by simp,λv h=>by simp at h⟩
 | some x=>
  obtain ⟨p,l⟩:=x
  obtain ⟨j,h1,h2,e1,e2⟩:=qh3 (List.mem_of_find?_eq_some hf)
  subst e2
  exact ⟨by have:=(hR.bs j h2 h1).1;show (W.bag[j]).length <= 200;omega,λv hv=>ho.b _ (List.getElem_mem h2) v hv⟩
theorem qvm {l:List Val} (h:∀v ∈ l,okV v):qhZ (l.map qbg):=λn hn=>by
 obtain ⟨v,hv,rfl⟩:=jR.1 hn
 exact qda (h v hv)
section
variable {h:List qb}
theorem qtq {W:Wl} (hR:qap W) (hO:OkW W) {V0 V1 V4:qa} (hE:qn2 W V0 V1 V4 h) {op n:Int} {nm sb:Str} {aS:List Exl} {f:Exl->Res} {tt:Exl->Tp} (ha:∀a ∈ aS,EO W V0 V1 V4 f a) (hT:∀a ∈ aS,qat (f a) (tt a)/\okV (f a).1) (hB:qfC op n nm sb aS.length = true) (hA:qgS op aS.length) (hk:(qam W.N op n nm sb (aS.map tt)).2 = 0):∃cs m,Wd (.fn 11 [] []) [exV (.mk op n nm sb aS),.agg (qjL W V0 V1 V4)] h = some (.ret (.tup [.agg cs,.int .i64 (qbA f (qag W op n nm sb) aS []).2]),h ++ m,false)/\At (qcx h.length (h ++ m)) (qbA f (qag W op n nm sb) aS []).1 cs:=by
 obtain ⟨hv,ho,hb⟩:=qym hR
 have hl:aS.length <= 20:=by unfold qgS at hA;omega
 have h2:=qsz hT (vs:=[]) (ts:=[]) trivial (λv h=>by cases h)
 rw [j6] at h2
 have h2:Two f aS (λws=>qcq ws (aS.map tt)/\∀v ∈ ws,okV v):=h2
 have tr:=h2.imp (R:=λ_=>True) λ_ _=>trivial
 obtain ⟨t,M⟩ :∃t,qam W.N op n nm sb (aS.map tt) = (t,0):=⟨_,Prod.ext rfl hk⟩
 obtain ⟨q1,q2⟩:=qwQ hR hO nm
 have one:aS.length = 1->Two f aS (λvs=>∃k m s l,vs = [.mk k m s l]/\I64 m/\qfO (.mk k m s l) ((aS.map tt).getD 0 qy)):=λh1=>h2.imp λvs ⟨g1,g2⟩=>by
  have J:vs.length = 1:=by rw [g1.length];simpa using h1
  match vs,J with
  | [.mk k m s l],_=>exact ⟨k,m,s,l,rfl,qda (v:=.mk k m s l) (g2 _ (by simp)),g1.get 0 (by simp)⟩
 have two:aS.length = 2->Two f aS (λvs=>∃vk vn vz B uk un uz ul,vs = [.mk vk vn vz B,.mk uk un uz ul]/\(I64 vn/\I64 un)/\(qr 3 (.mk vk vn vz B) = true/\qr 3 (.mk uk un uz ul) = true)):=λh1=>h2.imp λvs ⟨g1,g2⟩=>by
  have J:vs.length = 2:=by rw [g1.length];simpa using h1
  match vs,J with
  | [.mk vk vn vz B,.mk uk un uz ul],_=>exact ⟨_,_,_,_,_,_,_,_,rfl,⟨qda (g2 (.mk vk vn vz B) (by simp)),qda (g2 (.mk uk un uz ul) (by simp))⟩,(g1.get 0 (by simp)).1,(g1.get 1 (by simp)).1⟩
 have E:=λh1=>(two h1).imp (R:=λvs=>∃vk vn vz B uk un uz ul,vs = [.mk vk vn vz B,.mk uk un uz ul]/\I64 vn/\I64 un) λvs ⟨a,b,c,d,e,f,g,i,h1,h2,_⟩=>⟨a,b,c,d,e,f,g,i,h1,h2⟩
 have I:=λh1=>(two h1).imp (R:=λvs=>∃vk vn vz B uk un uz ul,vs = [.mk vk vn vz B,.mk uk un uz ul]/\qr 3 (.mk vk vn vz B) = true/\qr 3 (.mk uk un uz ul) = true) λvs ⟨a,b,c,d,e,f,g,i,h1,_,h2⟩=>⟨a,b,c,d,e,f,g,i,h1,h2⟩
 obtain ⟨kA,k12,_,_⟩:=qc9 hB
 rcases hA with ⟨rfl | rfl | rfl | rfl | rfl | rfl | rfl | rfl | rfl | rfl,h0⟩ | ⟨rfl,h1,h4⟩ | ⟨rfl | rfl | rfl | rfl,h1⟩ | ⟨rfl | rfl | rfl | rfl | rfl | rfl | rfl | rfl,h1⟩
 ·exact qaK hE zo ha hl tr λ_ A=>qCR A
 ·exact qaK hE zo ha hl tr λ_ A=>qCS A
 ·exact qaK hE zo ha hl tr λ_ A=>qCT A
 ·exact qaK hE zo ha hl tr λ_ A=>qCU A
 ·exact qaK hE zo ha hl tr λ_ A=>qCV hv A
 ·exact qaK hE zo ha hl tr λ_ A=>qCW ho A
 ·exact qaK hE zo ha hl tr λ_ A=>qCY hb A
 ·exact qaK hE zo ha hl tr λ_ A=>qCZ hb A
 ·exact qaK hE zo ha hl tr λ_ A=>qC0 hb ⟨qvm q2,q1⟩ A
 ·exact qaK hE zo ha hl tr λ_ A=>qAA A
 ·exact qaK hE zo ha hl tr λ_ A=>qCX A
 ·exact qaK hE zo ha hl ((one h1).imp λvs ⟨k,m,s,l,e,_⟩=>⟨_,e⟩) λhQ A=>qAz hb hQ A
 ·refine qaK hE zo ha hl ((one h1).imp λvs ⟨k,m,s,l,e,_,hh⟩=>⟨k,m,s,l,e,?_⟩) λhQ A=>qAB (k12 rfl).1 hQ A
  have hk:ifT (qP ((aS.map tt).getD 0 qy) == 3 && ilt n ((qcu ((aS.map tt).getD 0 qy)).length:Nat)) ((qcu ((aS.map tt).getD 0 qy)).getD n.toNat qy) = (t,0):=M
  obtain ⟨hq,_⟩:=qbv hk
  rw [jk] at hq
  have h6:=hq.2
  have h7:=hh.2
  rw [qdA] at h7
  rw [<-h7] at h6
  have h6:ilt n ((l.map qa2).length:Nat) = true:=h6
  rw [qe] at h6
  simp at h6
  have:=(k12 rfl).1
  omega
 ·exact qaK hE zo ha hl ((one h1).imp λvs ⟨k,m,s,l,e,hi,_⟩=>⟨k,m,s,l,e,hi⟩) λhQ A=>qAC hQ A
 ·exact qaK hE zo ha hl ((one h1).imp λvs ⟨k,m,s,l,e,_⟩=>⟨k,m,s,l,e⟩) λhQ A=>qAD hQ A
 ·exact qaK hE zo ha hl (E h1) λhQ A=>qAE hQ A
 ·exact qaK hE zo ha hl (E h1) λhQ A=>qAF hQ A
 ·exact qaK hE zo ha hl (E h1) λhQ A=>qAG hQ A
 ·exact qaK hE zo ha hl (E h1) λhQ A=>qAH hQ A
 ·exact qaK hE zo ha hl (E h1) λhQ A=>qAI hQ A
 ·exact qaK hE zo ha hl (I h1) λhQ A=>qAJ hQ A
 ·exact qaK hE zo ha hl (I h1) λhQ A=>qAK hQ A
 ·exact qaK hE zo ha hl (I h1) λhQ A=>qAL hQ A
end
section
variable {h:List qb}
def qsy (f:Exl->Res) (op:Int) (a b:Exl):Res:=bif !((f a).2 == 0) then (qM,(f a).2) else bif qbg (f a).1 == op - 23 then f a else f b
theorem qlG (W:Wl) (V0 V1 V4:qa) (hE:qn2 W V0 V1 V4 h) (op:Int) (hop:op = 23\/op = 24) (n:Int) (nm sb:Str) (a b:Exl) (f:Exl->Res) (ha:EO W V0 V1 V4 f a) (hb:EO W V0 V1 V4 f b):∃cs m,Wd (.fn 11 [] []) [exV (.mk op n nm sb [a,b]),.agg (qjL W V0 V1 V4)] h = some (.ret (.tup [.agg cs,.int .i64 (qsy f op a b).2]),h ++ m,false)/\At (qcx h.length (h ++ m)) (qsy f op a b).1 cs:=by
 obtain ⟨d0,s0,w0,_,k0⟩:=hE.v0.facts
 obtain ⟨d1,s1,w1,_,k1⟩:=hE.v1.facts
 obtain ⟨d4,s4,w4,_,k4⟩:=hE.v4.facts
 have ab:∀j,Nat.ble h.length (h.length + j) = true:=λj=>qf zo
 have kp:∀X:List qb,qn2 W V0 V1 V4 (h ++ X):=λX=>hE.keep λi hi=>by rw [ja hi]
 have tk:∀X:List qb,(h ++ X).take h.length = h:=λX=>by simp
 have x0:qar 5 (.lst [exV a,exV b] .no) (.int .i64 0) = some (.iptr a.enc 0):=qj1 (aS:=[a,b]) (i:=0) (by simp)
 have x1:qar 5 (.lst [exV a,exV b] .no) (.int .i64 1) = some (.iptr b.enc 0):=qj1 (aS:=[a,b]) (i:=1) (by simp)
 obtain ⟨cs,m,I,ae⟩:=ha (h ++ [qb.cells [.int .i64 op,.int .i64 n,.str nm,.str sb,.lst [exV a,exV b] .no],qb.cells [V0,V1,.int .i64 W.en,.int .i64 W.ed,V4],qb.cells [.int .i64 0,.int .i64 0,.str [],.lst [] .full],qb.cells [.int .i64 0,.int .i64 0,.str [],.lst [] .full],qb.cells [.int .i64 0,.int .i64 0,.str [],.lst [] .full]]) (kp _)
 rw [qsy]
 generalize ah:f a = fa at *
 obtain ⟨v,x⟩:=fa
 simp only at I ae
 obtain ⟨vk,vn,vz,O,LL,rfl,rfl,ld,ls,lw,_⟩:=ae.cells
 obtain ⟨F,hF⟩ :∃F,F = h ++ qb.cells [.int .i64 op,.int .i64 n,.str nm,.str sb,.lst [exV a,exV b] .no] :: qb.cells [V0,V1,.int .i64 W.en,.int .i64 W.ed,V4] :: qb.cells [.int .i64 0,.int .i64 0,.str [],.lst [] .full] :: qb.cells [.int .i64 0,.int .i64 0,.str [],.lst [] .full] :: qb.cells [.int .i64 vk,.int .i64 vn,.str vz,LL] :: m:=⟨_,rfl⟩
 have ai:F.length = h.length + (m.length + 5):=by rw [hF];simp
 have M:∀Y,At (qcx (h.length + 5) (F.set (h.length + 2) Y)) (.mk vk vn vz O) [.int .i64 vk,.int .i64 vn,.str vz,LL]:=λY=>ae.mono λi y hy=>by
  by_cases hi:h.length + 5 <= i
  ·rw [qL (by simpa using hi)] at hy
   rw [qL hi,jf zo,hF]
   rw [jp,jc zo] at hy
   rw [jc zo]
   obtain ⟨q,hq⟩ :∃q,i - h.length = q + 5:=⟨i - h.length - 5,zo⟩
   rw [hq] at hy ⊢
   simpa using hy
  ·rw [qav (by simpa using hi)] at hy
   cases hy
 have a8:∀Y,(F.set (h.length + 2) Y).take h.length = h:=λY=>by rw [jZ zo,hF,tk]
 obtain ⟨aj,p,aa,ad⟩:=hb F (by rw [hF];exact kp _)
 generalize af:f b = fb at *
 obtain ⟨u,y⟩:=fb
 simp only at aa ad
 obtain ⟨uk,un,uz,ul,MM,rfl,rfl,bd,bs,bw,_⟩:=ad.cells
 have J:∀Y,At (qcx F.length ((F ++ p).set (h.length + 2) Y)) (.mk uk un uz ul) [.int .i64 uk,.int .i64 un,.str uz,MM]:=λY=>ad.mono λi x hx=>by
  by_cases hi:F.length <= i
  ·rw [qL hi] at hx ⊢
   rw [jf zo]
   exact hx
  ·rw [qav hi] at hx;cases hx
 have a7:∀Y,((F ++ p).set (h.length + 2) Y).take h.length = h:=λY=>by rw [jZ zo,hF,jp,tk]
 obtain ⟨av,az,ay,au,aA⟩:=a
 obtain ⟨al,ap,am,ak,ar⟩:=b
 rw [qb3] at x0 x1
 rw [hF] at aa
 rw [qD,qjL] at I aa
 simp only [qD] at I aa x0 x1 hF
 generalize hw:Wd _ _ h = w
 rw [qD,qjL] at hw
 rw [qm 11 c11] at hw
 clear ah af
 have ac:∀(A B C D E:qb) (l:List qb) (Y:qb),(h ++ A :: B :: C :: D :: E :: l).set (h.length + 2) Y = h ++ A :: B :: Y :: D :: E :: l:=λA B C D E l Y=>by
  rw [List.set_append_right _ _ zo,Nat.add_sub_cancel_left]
  rfl
 have a6:IntKind.i64.wrap 0 = 0:=xk
 have a1:IntKind.i64.wrap 1 = 1:=xk
 have U:IntKind.i64.wrap (23 - 23) = 0:=xk
 have S:IntKind.i64.wrap (24 - 23) = 1:=xk
 rcases hop with rfl | rfl
 ·cases c0:(x == 0) with
  | false=>
   simp only [sA.1,c11,seval,d0,s0,w0,k0,d1,s1,w1,k1,d4,s4,w4,k4,ab,x0,x1,I,ld,ls,lw,qD,a6,a1,U,S,c0] at hw
   subst hw
   rw [j4,cond_true]
   exact ⟨_,[],by rw [jH],At.leaf _ 0 0 []⟩
  | true=>
   cases c1:(vn == 0) with
   | true=>
    simp only [sA.1,c11,seval,d0,s0,w0,k0,d1,s1,w1,k1,d4,s4,w4,k4,ab,x0,x1,I,ld,ls,lw,qD,a6,a1,U,S,c0,c1] at hw
    subst hw
    rw [j3,cond_false,show (qbg (.mk vk vn vz O) == 23 - 23) = true from c1,cond_true]
    rw [hF] at M a8
    simp only [ac] at M a8
    exact qaQ (b:=h.length + 5) (r:=(.mk vk vn vz O,x)) (M _) zo (a8 _) (by simpa using c0)
   | false=>
    simp only [sA.1,c11,seval,d0,s0,w0,k0,d1,s1,w1,k1,d4,s4,w4,k4,ab,x0,x1,I,ld,ls,lw,qD,a6,a1,U,S,c0,c1,aa,bd,bs,bw] at hw
    subst hw
    rw [j3,cond_false,show (qbg (.mk vk vn vz O) == 23 - 23) = false from c1,cond_false]
    rw [hF] at J a7
    simp only [jp,jy,ac] at J a7
    exact qaQ (r:=(.mk uk un uz ul,y)) (J _) (by simp) (a7 _) rfl
 ·cases c0:(x == 0) with
  | false=>
   simp only [sA.1,c11,seval,d0,s0,w0,k0,d1,s1,w1,k1,d4,s4,w4,k4,ab,x0,x1,I,ld,ls,lw,qD,a6,a1,U,S,c0] at hw
   subst hw
   rw [j4,cond_true]
   exact ⟨_,[],by rw [jH],At.leaf _ 0 0 []⟩
  | true=>
   cases c1:(vn == 1) with
   | true=>
    simp only [sA.1,c11,seval,d0,s0,w0,k0,d1,s1,w1,k1,d4,s4,w4,k4,ab,x0,x1,I,ld,ls,lw,qD,a6,a1,U,S,c0,c1] at hw
    subst hw
    rw [j3,cond_false,show (qbg (.mk vk vn vz O) == 24 - 23) = true from c1,cond_true]
    rw [hF] at M a8
    simp only [ac] at M a8
    exact qaQ (b:=h.length + 5) (r:=(.mk vk vn vz O,x)) (M _) zo (a8 _) (by simpa using c0)
   | false=>
    simp only [sA.1,c11,seval,d0,s0,w0,k0,d1,s1,w1,k1,d4,s4,w4,k4,ab,x0,x1,I,ld,ls,lw,qD,a6,a1,U,S,c0,c1,aa,bd,bs,bw] at hw
    subst hw
    rw [j3,cond_false,show (qbg (.mk vk vn vz O) == 24 - 23) = false from c1,cond_false]
    rw [hF] at J a7
    simp only [jp,jy,ac] at J a7
    exact qaQ (r:=(.mk uk un uz ul,y)) (J _) (by simp) (a7 _) rfl
def qh1 (f:Exl->Res) (a b c:Exl):Res:=bif !((f a).2 == 0) then (qM,(f a).2) else bif qbg (f a).1 == 1 then f b else f c
theorem qnV (W:Wl) (V0 V1 V4:qa) (hE:qn2 W V0 V1 V4 h) (n:Int) (nm sb:Str) (a b:Exl) (c:Exl) (f:Exl->Res) (ha:EO W V0 V1 V4 f a) (hb:EO W V0 V1 V4 f b) (hc:EO W V0 V1 V4 f c):∃cs m,Wd (.fn 11 [] []) [exV (.mk 25 n nm sb [a,b,c]),.agg (qjL W V0 V1 V4)] h = some (.ret (.tup [.agg cs,.int .i64 (qh1 f a b c).2]),h ++ m,false)/\At (qcx h.length (h ++ m)) (qh1 f a b c).1 cs:=by
 obtain ⟨d0,s0,w0,_,k0⟩:=hE.v0.facts
 obtain ⟨d1,s1,w1,_,k1⟩:=hE.v1.facts
 obtain ⟨d4,s4,w4,_,k4⟩:=hE.v4.facts
 have ah:∀j,Nat.ble h.length (h.length + j) = true:=λj=>qf zo
 have kp:∀X:List qb,qn2 W V0 V1 V4 (h ++ X):=λX=>hE.keep λi hi=>by rw [ja hi]
 have tk:∀X:List qb,(h ++ X).take h.length = h:=λX=>by simp
 have x0:qar 5 (.lst [exV a,exV b,exV c] .no) (.int .i64 0) = some (.iptr a.enc 0):=qj1 (aS:=[a,b,c]) (i:=0) (by simp)
 have x1:qar 5 (.lst [exV a,exV b,exV c] .no) (.int .i64 1) = some (.iptr b.enc 0):=qj1 (aS:=[a,b,c]) (i:=1) (by simp)
 have x2:qar 5 (.lst [exV a,exV b,exV c] .no) (.int .i64 2) = some (.iptr c.enc 0):=qj1 (aS:=[a,b,c]) (i:=2) (by simp)
 obtain ⟨cs,m,I,af⟩:=ha (h ++ [qb.cells [.int .i64 25,.int .i64 n,.str nm,.str sb,.lst [exV a,exV b,exV c] .no],qb.cells [V0,V1,.int .i64 W.en,.int .i64 W.ed,V4],qb.cells [.int .i64 0,.int .i64 0,.str [],.lst [] .full],qb.cells [.int .i64 0,.int .i64 0,.str [],.lst [] .full],qb.cells [.int .i64 0,.int .i64 0,.str [],.lst [] .full]]) (kp _)
 rw [qh1]
 generalize ak:f a = fa at *
 obtain ⟨v,x⟩:=fa
 simp only at I af
 obtain ⟨vk,vn,vz,a8,LL,rfl,rfl,ld,ls,lw,_⟩:=af.cells
 obtain ⟨F,hF⟩ :∃F,F = h ++ qb.cells [.int .i64 25,.int .i64 n,.str nm,.str sb,.lst [exV a,exV b,exV c] .no] :: qb.cells [V0,V1,.int .i64 W.en,.int .i64 W.ed,V4] :: qb.cells [.int .i64 0,.int .i64 0,.str [],.lst [] .full] :: qb.cells [.int .i64 0,.int .i64 0,.str [],.lst [] .full] :: qb.cells [.int .i64 vk,.int .i64 vn,.str vz,LL] :: m:=⟨_,rfl⟩
 have ap:F.length = h.length + (m.length + 5):=by rw [hF];simp
 have al:∀Y,At (qcx (h.length + 5) (F.set (h.length + 2) Y)) (.mk vk vn vz a8) [.int .i64 vk,.int .i64 vn,.str vz,LL]:=λY=>af.mono λi y hy=>by
  by_cases hi:h.length + 5 <= i
  ·rw [qL (by simpa using hi)] at hy
   rw [qL hi,jf zo,hF]
   rw [jp,jc zo] at hy
   rw [jc zo]
   obtain ⟨q,hq⟩ :∃q,i - h.length = q + 5:=⟨i - h.length - 5,zo⟩
   rw [hq] at hy ⊢
   simpa using hy
  ·rw [qav (by simpa using hi)] at hy
   cases hy
 have am:∀Y,(F.set (h.length + 2) Y).take h.length = h:=λY=>by rw [jZ zo,hF,tk]
 obtain ⟨au,p,M,ae⟩:=hb F (by rw [hF];exact kp _)
 generalize aj:f b = fb at *
 obtain ⟨u,y⟩:=fb
 simp only at M ae
 obtain ⟨uk,un,uz,ul,MM,rfl,rfl,bd,bs,bw,_⟩:=ae.cells
 have S:∀Y,At (qcx F.length ((F ++ p).set (h.length + 2) Y)) (.mk uk un uz ul) [.int .i64 uk,.int .i64 un,.str uz,MM]:=λY=>ae.mono λi x hx=>by
  by_cases hi:F.length <= i
  ·rw [qL hi] at hx ⊢
   rw [jf zo]
   exact hx
  ·rw [qav hi] at hx;cases hx
 have ab:∀Y,((F ++ p).set (h.length + 2) Y).take h.length = h:=λY=>by rw [jZ zo,hF,jp,tk]
 obtain ⟨ar,r,J,ad⟩:=hc F (by rw [hF];exact kp _)
 generalize ai:f c = fc at *
 obtain ⟨o,z⟩:=fc
 simp only at J ad
 obtain ⟨ok,on,oz,ol,OO,rfl,rfl,cd,cs,cw,_⟩:=ad.cells
 have O:∀Y,At (qcx F.length ((F ++ r).set (h.length + 2) Y)) (.mk ok on oz ol) [.int .i64 ok,.int .i64 on,.str oz,OO]:=λY=>ad.mono λi x hx=>by
  by_cases hi:F.length <= i
  ·rw [qL hi] at hx ⊢
   rw [jf zo]
   exact hx
  ·rw [qav hi] at hx;cases hx
 have aa:∀Y,((F ++ r).set (h.length + 2) Y).take h.length = h:=λY=>by rw [jZ zo,hF,jp,tk]
 obtain ⟨aI,aK,aJ,aH,aL⟩:=a
 obtain ⟨aD,aF,aE,aC,aG⟩:=b
 obtain ⟨ay,aA,az,av,aB⟩:=c
 rw [qb3] at x0 x1 x2
 rw [hF] at M J
 rw [qD,qjL] at I M J
 simp only [qD] at I M J x2 x0 x1 hF
 generalize hw:Wd _ _ h = w
 rw [qD,qjL] at hw
 rw [qm 11 c11] at hw
 clear ak aj ai
 have ac:∀(A B C D E:qb) (l:List qb) (Y:qb),(h ++ A :: B :: C :: D :: E :: l).set (h.length + 2) Y = h ++ A :: B :: Y :: D :: E :: l:=λA B C D E l Y=>by
  rw [List.set_append_right _ _ zo,Nat.add_sub_cancel_left]
  rfl
 have a7:IntKind.i64.wrap 0 = 0:=xk
 have a6:IntKind.i64.wrap 1 = 1:=xk
 have a1:IntKind.i64.wrap (23 - 23) = 0:=xk
 have U:IntKind.i64.wrap (24 - 23) = 1:=xk
 cases c0:(x == 0) with
 | false=>
  simp only [sA.1,c11,seval,d0,s0,w0,k0,d1,s1,w1,k1,d4,s4,w4,k4,ah,x0,x1,x2,I,ld,ls,lw,qD,a7,a6,a1,U,c0] at hw
  subst hw
  rw [j4,cond_true]
  exact ⟨_,[],by rw [jH],At.leaf _ 0 0 []⟩
 | true=>
  cases c1:(vn == 1) with
  | true=>
   simp only [sA.1,c11,seval,d0,s0,w0,k0,d1,s1,w1,k1,d4,s4,w4,k4,ah,x0,x1,x2,I,ld,ls,lw,qD,a7,a6,a1,U,c0,c1,M,bd,bs,bw] at hw
   subst hw
   rw [j3,cond_false,show (qbg (.mk vk vn vz a8) == 1) = true from c1,cond_true]
   rw [hF] at S ab
   simp only [jp,jy,ac] at S ab
   exact qaQ (r:=(.mk uk un uz ul,y)) (S _) (by simp) (ab _) rfl
  | false=>
   simp only [sA.1,c11,seval,d0,s0,w0,k0,d1,s1,w1,k1,d4,s4,w4,k4,ah,x0,x1,x2,I,ld,ls,lw,qD,a7,a6,a1,U,c0,c1,J,cd,cs,cw] at hw
   subst hw
   rw [j3,cond_false,show (qbg (.mk vk vn vz a8) == 1) = false from c1,cond_false]
   rw [hF] at O aa
   simp only [jp,jy,ac] at O aa
   exact qaQ (r:=(.mk ok on oz ol,z)) (O _) (by simp) (aa _) rfl
end
theorem qwO (h:List qb):Wd (.fn 6 [] []) [] h = some (.ret (.bool true),h,false):=by
 rw [show Wd = W T.get X from rfl,qwy qsG (show X 6 = some qd7 from rfl)]
 rfl
theorem qtQ {W:Wl} (hR:qap W) (hO:OkW W) {op n:Int} {nm sb:Str} {vs:List Val} {ts:List Tp} (hT:qcq vs ts) (hB:qfC op n nm sb vs.length = true) (hA:qgS op vs.length) (hk:(qam W.N op n nm sb ts).2 = 0) (hn:I64 n) (ho:∀v ∈ vs,okV v):okV (qag W op n nm sb vs).1:=by
 obtain ⟨t,B⟩ :∃t,qam W.N op n nm sb ts = (t,0):=⟨_,Prod.ext rfl hk⟩
 have h1:=(qsw hR [] hT hB hA B).1
 rw [<-h1]
 refine (qwb (qlI hR hO) (nd:=qdi W op n nm sb []) ?_ λv hv=>⟨ho v hv,hT.map.2 v hv⟩).1
 obtain ⟨_,f2,_⟩:=qpt (vn:=W.N.vars.map (·.2.1)) (pn:=W.N.ports.map (·.1)) op n nm sb []
 show I64 (fin _ _ op n nm sb []).n
 rw [f2]
 exact hn
theorem qvV {W:Wl} (hR:qap W) (hO:OkW W):∀(d:Nat) (e:Exl),right d e = true->okX d e->(qQ W.N d e).2 = 0->okV (evD W d e).1
 | 0,e,h,_,_=>by rw [right] at h;cases h
 | d + 1,.mk op n nm sb aS,h,hx,hk=>by
  rw [right,jk,List.all_eq_true] at h
  rw [qQ] at hk
  obtain ⟨B,I⟩:=qeE hk
  rw [I,j6] at hk
  have ht:∀a ∈ aS,qat (evD W d a) (qQ W.N d a).1/\okV (evD W d a).1:=λa ha=>⟨qdq hR d a (h.2 a ha) (B a ha),qvV hR hO d a (h.2 a ha) (hx.2 a ha) (B a ha)⟩
  obtain ⟨J,_⟩:=qc9 h.1
  rw [evD]
  have zr:okV (qM):=qsI.1
  have gd:∀i,okV (evD W d (aS.getD i qlo)).1:=λi=>by
   rw [List.getD_eq_getElem?_getD]
   cases hq:aS[i]? with
   | none=>
    show okV (evD W d qlo).1
    cases d with
    | zero=>exact zr
    | succ d=>rw [qlo,evD];exact (by show okV (qcl 0).1;rw [qcl,okV];exact ⟨qfZ,trivial⟩)
   | some a=>exact (ht a (List.mem_of_getElem? hq)).2
  cases hc:qlU op with
  | true=>
   rw [cond_true]
   cases (!((evD W d (aS.getD 0 qlo)).2 == 0)) with
   | true=>exact zr
   | false=>
    rw [cond_false]
    cases (op == 25) with
    | true=>rw [cond_true];cases (qbg (evD W d (aS.getD 0 qlo)).1 == 1) <;> exact gd _
    | false=>rw [cond_false];cases (qbg (evD W d (aS.getD 0 qlo)).1 == op - 23) <;> exact gd _
  | false=>
   rw [cond_false]
   have hA:qgS op aS.length:=by
    rcases J with ⟨rfl,_⟩ | ⟨rfl,_⟩ | ⟨rfl,_⟩ | hA
    ·exact absurd hc (by decide)
    ·exact absurd hc (by decide)
    ·exact absurd hc (by decide)
    ·exact hA
   rcases qsz ht (vs:=[]) (ts:=[]) trivial (λv h=>by cases h) with ⟨ws,⟨w1,w2⟩,w3⟩ | ⟨x,E⟩
   ·rw [w3]
    rw [j6] at w1
    have hl:ws.length = aS.length:=by rw [w1.length];simp
    exact qtQ hR hO w1 (by rw [hl];exact h.1) (by rw [hl];exact hA) hk hx.1 w2
   ·rw [E];exact zr
theorem qhC {W:Wl} (hR:qap W) (hO:OkW W) {V0 V1 V4:qa}:∀(d:Nat) (e:Exl),right d e = true->okX d e->(qQ W.N d e).2 = 0->EO W V0 V1 V4 (evD W d) e
 | 0,e,h,_,_=>by rw [right] at h;cases h
 | d + 1,.mk op n nm sb aS,h,hx,hk=>λg hE=>by
  rw [right,jk,List.all_eq_true] at h
  rw [qQ] at hk
  obtain ⟨B,E⟩:=qeE hk
  rw [E,j6] at hk
  have ht:∀a ∈ aS,qat (evD W d a) (qQ W.N d a).1/\okV (evD W d a).1:=λa ha=>⟨qdq hR d a (h.2 a ha) (B a ha),qvV hR hO d a (h.2 a ha) (hx.2 a ha) (B a ha)⟩
  have ha:∀a ∈ aS,EO W V0 V1 V4 (evD W d) a:=λa ha=>qhC hR hO d a (h.2 a ha) (hx.2 a ha) (B a ha)
  obtain ⟨I,_⟩:=qc9 h.1
  rw [evD]
  rcases I with ⟨rfl,hl⟩ | ⟨rfl,hl⟩ | ⟨rfl,hl⟩ | hA
  ·match aS,hl with
   | [a,b,c],_=>exact qnV W V0 V1 V4 hE n nm sb a b c (evD W d) (ha a (by simp)) (ha b (by simp)) (ha c (by simp))
  ·match aS,hl with
   | [a,b],_=>exact qlG W V0 V1 V4 hE 23 (.inl rfl) n nm sb a b (evD W d) (ha a (by simp)) (ha b (by simp))
  ·match aS,hl with
   | [a,b],_=>exact qlG W V0 V1 V4 hE 24 (.inr rfl) n nm sb a b (evD W d) (ha a (by simp)) (ha b (by simp))
  ·rw [hA.chB,cond_false]
   exact qtq hR hO hE ha ht h.1 hA hk
def qjj (dn:Int->Bool) (N:Nat):Nat:=(List.range N).countP λi=>!(dn (i:Nat))
theorem qim {α:Type} {p q:α->Bool}:∀{l:List α},(∀x ∈ l,p x = true->q x = true)->(∃x ∈ l,q x = true/\p x = false)->l.countP p < l.countP q
 | [],_,h=>by obtain ⟨x,hx,_⟩:=h;cases hx
 | a :: l,h1,h2=>by
  rw [List.countP_cons,List.countP_cons]
  have h3:l.countP p <= l.countP q:=List.countP_mono_left λx hx=>h1 x (jK _ hx)
  obtain ⟨x,hx,hq,hp⟩:=h2
  rcases List.mem_cons.1 hx with rfl | hx
  ·rw [hp,hq]
   simp
   omega
  ·have h4:=qim (λx hx=>h1 x (jK _ hx)) ⟨x,hx,hq,hp⟩
   have h5:=h1 a (jG ..)
   cases B:p a with
   | true=>rw [h5 B];simp;omega
   | false=>simp;split <;> omega
theorem qsC {dn:Int->Bool} {N i:Nat} (hi:i < N) (h:dn (i:Nat) = false):qjj (λj=>j == (i:Int) || dn j) N < qjj dn N:=by
 refine qim (λx _ hx=>?_) ⟨i,List.mem_range.2 hi,by simp [h],by simp⟩
 simp only [Bool.not_eq_true',Bool.or_eq_false_iff] at hx ⊢
 exact hx.2
def qe1 (H:Nat->Option qb) (G:List qb) (b D:Nat) (xs:List Nat) (V:qa):Prop:=∃id cap m cs,V = .sl id 0 xs.length cap m/\(m = 0\/m = 1)/\G[id]? = some (.cells cs)/\cs.length = cap/\cs.take xs.length = xs.map (λi=>cI (i:Nat))/\H id = none/\id ≠ D/\b <= id
theorem qwn:∀{l:List Nat} {N:Nat},l.Pairwise (λa b=>b < a)->(∀x ∈ l,x < N)->l.length <= N
 | [],_,_,_=>Nat.zero_le _
 | a :: l,N,h,hb=>by
  obtain ⟨h1,h2⟩:=List.pairwise_cons.1 h
  have h3:=qwn h2 h1
  have h4:=hb a (jG ..)
  simp
  omega
theorem quU {op:Int} {ins:List Int} {dn:Int->Bool} {ev:Int->Res} {i:Nat} (hs:Cho op ins\/qgS op ins.length) (I:∀j ∈ ins,0 <= j/\j < (i:Int)):qdg op ins dn ev = -1\/(∃j:Nat,qdg op ins dn ev = (j:Int)/\j < i/\dn (j:Nat) = false):=by
 have key:∀x,x ∈ ins->dn x = false->∃j:Nat,x = (j:Int)/\j < i/\dn (j:Nat) = false:=λx hx hd=>by
  have:=I x hx
  exact ⟨x.toNat,zo,zo,by rw [Int.toNat_of_nonneg this.1];exact hd⟩
 rw [qdg]
 rcases hs with hc | ha
 ·rw [hc.chB,cond_true]
  cases E:dn (ins.getD 0 0) with
  | false=>exact .inr (key _ hc.head E)
  | true=>
   rw [j3,cond_false]
   have hm:=qdd hc (ev (ins.getD 0 0))
   generalize q6 op ins (ev (ins.getD 0 0)) = c at *
   cases B:ile 0 c && !(dn c) with
   | false=>exact .inl rfl
   | true=>
    rw [jk] at B
    rcases hm with rfl | hm
    ·have:ile 0 (-1) = false:=xk
     rw [this] at B
     cases B.1
    ·exact .inr (key _ hm (by simpa using B.2))
 ·rw [ha.chB,cond_false]
  have:∀l:List Int,(∀x ∈ l,x ∈ ins)->qcj dn ev l = -1\/(∃j:Nat,qcj dn ev l = (j:Int)/\j < i/\dn (j:Nat) = false):=by
   intro l
   induction l with
   | nil=>exact λ_=>.inl rfl
   | cons x l ih=>
    intro h
    rw [qcj]
    cases E:dn x with
    | false=>exact .inr (key x (h x (jG ..)) E)
    | true=>
     rw [j3,cond_false]
     cases (ev x).2 == 0 with
     | false=>exact .inl rfl
     | true=>exact ih λy hy=>h y (jK _ hy)
  exact this ins λ_ h=>h
section
variable {g:List qb} {H:Nat->Option qb}
theorem qe1.push {b D:Nat} {xs:List Nat} {V:qa} {G:List qb} (h:qe1 H G b D xs V) (hc:Cov H G) (hl:xs.length <= 100000) (hb:b <= G.length) (hD:D < G.length) (j:Nat) {base:Nat} (a8:base <= b) :
  ∃V' G',hop base (.app 1) [V,.sl G.length 0 1 1 0] (G ++ [.cells [.int .i64 (j:Nat)]]) = some (V',G',false)/\qe1 H G' b D (xs ++ [j]) V'/\Cov H G'/\G.length <= G'.length/\V'.dim = V'/\(∀i t,qz V' i t = t)/\∀i,i < G.length->(∀id cap m,V = .sl id 0 xs.length cap m->i ≠ id)->G'[i]? = G[i]?:=by
 obtain ⟨id,cap,m,cs,rfl,hm,h1,h2,h3,h4,h5,h6⟩:=h
 have hlt:id < G.length:=(jd.1 h1).1
 have a6:xs.length <= cs.length:=by
  have:=congrArg List.length h3
  simp at this
  omega
 obtain ⟨G1,B⟩ :∃G1,G1 = G ++ [qb.cells [.int .i64 (j:Nat)]]:=⟨_,rfl⟩
 have ab:G1.length = G.length + 1:=by rw [B];simp
 have g1:G1[id]? = some (.cells cs):=by rw [B,ja hlt];exact h1
 have g2:G1[G.length]? = some (.cells [.int .i64 (j:Nat)]):=by rw [B,qY];rfl
 have E:Cov H G1:=by rw [B];exact hc.more _
 have old:∀i,i < G.length->G1[i]? = G[i]?:=λi hi=>by rw [B,ja hi]
 have hr:qdS 1 G1 (.sl G.length 0 1 1 0) = some ([.int .i64 (j:Nat)],1):=by
  simp [qdS,g2,qa.dim]
 have J:[qa.int .i64 (j:Nat)].all qa.storable = true:=rfl
 rw [<-B]
 have U:xs.length + 1 <= qdv:=by simp only [qdv];omega
 have S:hop base (.app 1) [.sl id 0 xs.length cap m,.sl G.length 0 1 1 0] G1 = qfu base 1 (.sl id 0 xs.length cap m) (.sl G.length 0 1 1 0) G1:=rfl
 rw [S,qfu,hr]
 simp only [J,j3,if_false,Bool.false_eq_true,Nat.succ_ne_zero]
 rw [if_pos U]
 by_cases hn:xs.length + 1 <= cap
 ·rw [if_pos hn,qeM,g1]
  simp only
  rw [if_pos ⟨by simp;omega,J⟩]
  have hy:young base id [qa.int .i64 (j:Nat)] = false:=by
   rw [young,qf zo]
   rfl
  refine ⟨_,_,by rw [hy],⟨id,cap,m,splice cs (0 + xs.length * 1) [.int .i64 (j:Nat)],by simp,hm,by rw [jg zo],?_,?_,h4,h5,h6⟩,E.set h4 _,by simp;omega,rfl,λ_ _=>rfl,λi hi I=>?_⟩
  ·simp [splice];omega
  ·have e:(xs ++ [j]).map (λi=>cI (i:Nat)) = xs.map (λi=>cI (i:Nat)) ++ [.int .i64 (j:Nat)]:=by simp [cI]
   rw [e,<-h3]
   simp only [splice,jw,Nat.mul_one,ji,List.length_singleton]
   rw [jU (by simp;omega)]
   rw [List.take_of_length_le (by simp;omega)]
  ·rw [jf (by have:=I id cap m rfl;omega)]
   exact old i hi
 ·rw [if_neg hn]
  have aa:cs.length = xs.length:=zo
  have O:qdS 1 G1 (.sl id 0 xs.length cap m) = some (xs.map (λi=>cI (i:Nat)),xs.length):=by
   have hd:(xs.map (λi=>cI (i:Nat))).map qa.dim = xs.map (λi=>cI (i:Nat)):=qc8 λc a7=>by
    obtain ⟨x,_,rfl⟩:=jR.1 a7
    rfl
   simp only [qdS,g1,Nat.mul_one,jw,List.drop_zero,h3,hd]
   rw [if_pos a6]
  rw [O,g1]
  simp only
  have e:(xs ++ [j]).map (λi=>cI (i:Nat)) = xs.map (λi=>cI (i:Nat)) ++ [.int .i64 (j:Nat)]:=by simp [cI]
  have fin:∀(G2:List qb),G2.length = G1.length->Cov H G2->qe1 H (G2 ++ [.cells (xs.map (λi=>cI (i:Nat)) ++ [.int .i64 (j:Nat)])]) b D (xs ++ [j]) (.sl G1.length 0 (xs.length + 1) (xs.length + 1) 1):=λG2 a1 ac=>by
   refine ⟨G1.length,xs.length + 1,1,_,by simp,.inr rfl,by rw [<-a1,qY];rfl,by simp,?_,E.late zo,zo,zo⟩
   rw [e]
   exact List.take_of_length_le (by simp)
  rcases hm with rfl | rfl
  ·rw [if_pos rfl]
   exact ⟨_,_,rfl,fin G1 rfl E,E.more _,by simp;omega,rfl,λ_ _=>rfl,λi hi _=>by rw [ja zo];exact old i hi⟩
  ·rw [if_neg zo,if_pos ⟨trivial,rfl,zo⟩]
   have M:=E.set h4 .dead
   refine ⟨_,_,rfl,fin (G1.set id .dead) (by simp) M,M.more _,by simp;omega,rfl,λ_ _=>rfl,λi hi I=>?_⟩
   rw [ja (by simp;omega),jf (by have:=I id cap 1 rfl;omega)]
   exact old i hi
theorem qe1.top {b D:Nat} {xs:List Nat} {i:Nat} {V:qa} {G:List qb} (h:qe1 H G b D (xs ++ [i]) V):∃id cap m cs,V = .sl id 0 (xs.length + 1) cap m/\id < G.length/\G[id]? = some (.cells cs)/\cs[xs.length]? = some (cI (i:Nat))/\qe1 H G b D xs (.sl id 0 xs.length cap m)/\id ≠ D/\xs.length + 1 <= cap:=by
 obtain ⟨id,cap,m,cs,rfl,hm,h1,h2,h3,h4,h5,h6⟩:=h
 have hl:(xs ++ [i]).length = xs.length + 1:=by simp
 have B:xs.length + 1 <= cs.length:=by
  have:=congrArg List.length h3
  simp at this
  omega
 have e:(xs ++ [i]).map (λi=>cI (i:Nat)) = xs.map (λi=>cI (i:Nat)) ++ [cI (i:Nat)]:=by simp
 rw [e,hl] at h3
 refine ⟨id,cap,m,cs,by rw [hl],(jd.1 h1).1,h1,?_,⟨id,cap,m,cs,rfl,hm,h1,h2,?_,h4,h5,h6⟩,h5,zo⟩
 ·have:=congrArg (λl=>l[xs.length]?) h3
  rw [List.getElem?_take,if_pos zo] at this
  rw [this,jc (by simp)]
  simp
 ·have e2:cs.take xs.length = (cs.take (xs.length + 1)).take xs.length:=by rw [List.take_take,Nat.min_eq_left zo]
  have e3:(xs.map (λi=>cI (i:Nat)) ++ [cI (i:Nat)]).take xs.length = xs.map (λi=>cI (i:Nat)):=by
   rw [jU (by simp)]
   exact List.take_of_length_le (by simp)
  rw [e2,h3,e3]
theorem qe1.keep {H':Nat->Option qb} {b D:Nat} {xs:List Nat} {V:qa} {G G':List qb} (h:qe1 H G b D xs V) (hg:∀i,i < G.length->i ≠ D->G'[i]? = G[i]?) (hn:∀i,i < G.length->H i = none->H' i = none):qe1 H' G' b D xs V:=by
 obtain ⟨id,cap,m,cs,rfl,hm,h1,h2,h3,h4,h5,h6⟩:=h
 have hlt:=(jd.1 h1).1
 exact ⟨id,cap,m,cs,rfl,hm,by rw [hg id hlt h5];exact h1,h2,h3,hn id hlt h4,h5,h6⟩
structure Lo (H:Nat->Option qb) (h:List qb) (R D N:Nat) (rc:List qa) (ev:Int->Res) (H':Nat->Option qb) (G:List qb) (dn:Int->Bool) (xs:List Nat) (V:qa):Prop where
 sub:Sub H H'
 cov:Cov H' G
 old:∀i,i < h.length->G[i]? = h[i]?
 bse:h.length + 4 <= G.length
 res:G[h.length + 1]? = some (.cells qeV)
 run:H' R = some (.cells rc)
 don:qb1 H' G D N dn ev
 stk:qe1 H' G (h.length + 4) D xs V
 dno:H' D = none
 dlo:h.length + 3 <= D
 dec:xs.Pairwise (λa b=>b < a)
 und:∀x ∈ xs,x < N/\dn (x:Nat) = false
 lst:dn ((N - 1:Nat):Int) = true\/(N - 1) ∈ xs
theorem Lo.top {h:List qb} {R D N:Nat} {rc:List qa} {ev:Int->Res} {H':Nat->Option qb} {G:List qb} {dn:Int->Bool} {xs:List Nat} {i:Nat} {V:qa} (L:Lo H h R D N rc ev H' G dn (xs ++ [i]) V):i < N/\dn (i:Nat) = false:=L.und i (by simp)
theorem Lo.push {h:List qb} {R D N:Nat} {rc:List qa} {ev:Int->Res} {H':Nat->Option qb} {G G':List qb} {dn:Int->Bool} {xs:List Nat} {i j:Nat} {V V':qa} (L:Lo H h R D N rc ev H' G dn (xs ++ [i]) V) (hj:j < i) (hd:dn (j:Nat) = false)
  (h1:qe1 H' G' (h.length + 4) D (xs ++ [i] ++ [j]) V') (h2:Cov H' G') (h3:G.length <= G'.length) (h4:∀k,k < G.length->(∀id cap m,V = .sl id 0 (xs ++ [i]).length cap m->k ≠ id)->G'[k]? = G[k]?):Lo H h R D N rc ev H' G' dn (xs ++ [i] ++ [j]) V':=by
 have hb:=L.bse
 have B:∀k,k < h.length + 4\/k = D->∀id cap m,V = .sl id 0 (xs ++ [i]).length cap m->k ≠ id:=λk hk id cap m e=>by
  obtain ⟨M,J,m',cs,e',_,_,_,_,_,h5,h6⟩:=L.stk
  rw [e'] at e
  cases e
  rcases hk with hk | rfl
  ·omega
  ·exact λh=>h5 h.symm
 have E:D < G.length:=by obtain ⟨_,h,_⟩:=L.don;exact h
 have hi:=L.top
 refine ⟨L.sub,h2,λk hk=>by rw [h4 k zo (B k (.inl zo))];exact L.old k hk,zo,by rw [h4 _ zo (B _ (.inl zo))];exact L.res,L.run,?_,h1,L.dno,L.dlo,?_,?_,?_⟩
 ·obtain ⟨ds,d0,d1,d2,d3⟩:=L.don
  exact ⟨ds,zo,by rw [h4 D E (B D (.inr rfl))];exact d1,d2,d3⟩
 ·rw [List.pairwise_append]
  refine ⟨L.dec,by simp,λa ha b I=>?_⟩
  rw [Jd.1 I]
  rcases jJ.1 ha with ha | ha
  ·have:=(List.pairwise_append.1 L.dec).2.2 a ha i (by simp)
   omega
  ·rw [Jd.1 ha]
   exact hj
 ·intro x hx
  rcases jJ.1 hx with hx | hx
  ·exact L.und x hx
  ·rw [Jd.1 hx]
   exact ⟨zo,hd⟩
 ·rcases L.lst with h | h
  ·exact .inl h
  ·exact .inr (List.mem_append_left _ h)
theorem Lo.done {h:List qb} {R D N:Nat} {rc:List qa} {ev:Int->Res} {H':Nat->Option qb} {G m:List qb} {dn:Int->Bool} {xs:List Nat} {i:Nat} {V:qa} {rs:List qa} {ds:List qa} (L:Lo H h R D N rc ev H' G dn (xs ++ [i]) V) (hr:RAt (ext H' G m) (ev i) rs) (a6:G[D]? = some (.cells ds)) {V':qa} (hV:qe1 H' G (h.length + 4) D xs V') :
  ∃H2,Lo H h R D N rc ev H2 ((G ++ m ++ [qb.cells rs]).set D (.cells (ds.set i (.ptr (G ++ m).length 0)))) (λj=>j == (i:Int) || dn j) xs V':=by
 obtain ⟨ab,D0,D1,D2,D3⟩:=L.don
 rw [a6] at D1
 cases D1
 obtain ⟨a8,hid⟩:=L.top
 have hb:=L.bse
 have aa:=L.dlo
 obtain ⟨H2,J⟩ :∃H2:Nat->Option qb,H2 = λk=>if k < G.length then H' k else (G ++ m ++ [qb.cells rs])[k]?:=⟨_,rfl⟩
 have o1:∀k,k < G.length->H2 k = H' k:=λk hk=>by rw [J];exact if_pos hk
 have o2:∀k,G.length <= k->H2 k = (G ++ m ++ [qb.cells rs])[k]?:=λk hk=>by rw [J];exact if_neg zo
 have s1:Sub H' H2:=λk x hx=>by rw [o1 k (L.cov.lt hx)];exact hx
 have s2:Sub (ext H' G m) H2:=λk x hx=>by
  by_cases hk:k < G.length
  ·rw [qe5 hk] at hx;rw [o1 k hk];exact hx
  ·rw [qge zo] at hx
   rw [o2 k zo,ja (jd.1 hx).1]
   exact hx
 have I:H2 D = none:=by rw [o1 D D0];exact L.dno
 have a7:Cov H2 (G ++ m ++ [qb.cells rs]):=λk x hx=>by
  by_cases hk:k < G.length
  ·rw [o1 k hk] at hx
   rw [jp,ja hk]
   exact L.cov k x hx
  ·rw [o2 k zo] at hx
   exact hx
 have B:∀k,k ≠ D->k < G.length->((G ++ m ++ [qb.cells rs]).set D (.cells (ds.set i (.ptr (G ++ m).length 0))))[k]? = G[k]?:=λk hk hl=>by
  rw [jf zo,jp,ja hl]
 refine ⟨H2,λk x hx=>s1 k x (L.sub k x hx),a7.set I _,λk hk=>by rw [B k zo zo];exact L.old k hk,by simp;omega,by rw [B _ zo zo];exact L.res,s1 _ _ L.run,?_,?_,I,L.dlo,(List.pairwise_append.1 L.dec).1,?_,?_⟩
 ·refine ⟨ds.set i (.ptr (G ++ m).length 0),by simp;omega,by rw [jg (by simp;omega)],by simp [D2],λk hk=>?_⟩
  by_cases U:k = i
  ·subst U
   refine ⟨λh=>by simp at h,λ_=>⟨(G ++ m).length,rs,by rw [jg zo],?_,hr.mono s2⟩⟩
   rw [o2 _ (by simp),qY]
   rfl
  ·have M:((k:Nat):Int) ≠ (i:Int):=zo
   have E:(((k:Nat):Int) == (i:Int)) = false:=by simpa using M
   simp only [E,jP]
   rw [jf zo]
   refine ⟨(D3 k hk).1,λhd=>?_⟩
   obtain ⟨q,O,e,hq,S⟩:=(D3 k hk).2 hd
   exact ⟨q,O,e,s1 _ _ hq,S.mono s1⟩
 ·exact hV.keep (λk hk a1=>B k a1 hk) λk hk hn=>by rw [o1 k hk];exact hn
 ·intro x hx
  obtain ⟨u1,u2⟩:=L.und x (List.mem_append_left _ hx)
  have:=(List.pairwise_append.1 L.dec).2.2 x hx i (by simp)
  refine ⟨u1,?_⟩
  have E:(((x:Nat):Int) == (i:Int)) = false:=by simp;omega
  simp only [E,jP]
  exact u2
 ·rcases L.lst with h | h
  ·exact .inl (by simp [h])
  ·rcases jJ.1 h with h | h
   ·exact .inr h
   ·rw [Jd.1 h]
    exact .inl (by simp)
theorem qpl (E:qeZ) (hE:qsJ E) (ns:List Nd) (hS:∀i (hi:i < ns.length),qjs ns[i] i) (hI:∀nd ∈ ns,I64 nd.n) (hl:ns.length <= 90000) {h:List qb} {R D:Nat} {TV OL:qa} (hO:qd5 H E.oth OL) (hT:qen H ns TV) :
  ∀k st,(∃(tt:List qa) (H':Nat->Option qb) (G:List qb) (dn:Int->Bool) (xs:List Nat) (V:qa),st = ⟨tt,G,false⟩/\tt.length = 86/\lkp tt 4 = .ptr (h.length + 1) 0/\lkp tt 6 = .ptr R 0/\lkp tt 7 = .int .i64 ((ns.length - 1:Nat):Int)/\lkp tt 8 = V/\Lo H h R D ns.length [TV,.lst (E.vals.map qa6) .no,qaV E.bag,.int .i64 E.en,.int .i64 E.ed,OL,.sl D 0 ns.length ns.length 0] (evT E ns) H' G dn xs V/\k = qjj dn ns.length * (ns.length + 1) + (match xs.getLast? with | none=>0 | some i=>i + 1))->
   ∃x a6,qj h.length Wd (.loop qyk) st = some (x,a6)/\(∃(tt:List qa) (H':Nat->Option qb) (G:List qb) (dn:Int->Bool) (V:qa),a6 = ⟨tt,G,false⟩/\tt.length = 86/\lkp tt 4 = .ptr (h.length + 1) 0/\lkp tt 6 = .ptr R 0/\lkp tt 7 = .int .i64 ((ns.length - 1:Nat):Int)/\Lo H h R D ns.length [TV,.lst (E.vals.map qa6) .no,qaV E.bag,.int .i64 E.en,.int .i64 E.ed,OL,.sl D 0 ns.length ns.length 0] (evT E ns) H' G dn [] V/\x = .exit 0):=by
 refine qx _ _ ?_
 rintro k st ⟨tt,H',G,dn,xs,V,rfl,ht,e4,e6,e7,e8,L,hk⟩
 generalize he:qj h.length Wd qyk _ = r
 have ak:V.dim = V/\(∀i t,qz V i t = t)/\qbB false V = some (.int .i64 (xs.length:Nat)):=by
  obtain ⟨id,cap,m,cs,rfl,_⟩:=L.stk
  exact ⟨rfl,λ_ _=>rfl,rfl⟩
 obtain ⟨Vd,Vw,Vl⟩:=ak
 rcases List.eq_nil_or_concat xs with rfl | ⟨ys,i,rfl⟩
 ·have I:ilt 0 ((([]:List Nat).length:Nat):Int) = false:=xk
  simp only [List.length_nil] at I Vl
  simp only [sB.1,qyk,seval,ht,e8,Vd,Vw,Vl,I] at he
  subst he
  refine .inr ⟨_,_,rfl,by simp,_,H',G,dn,V,rfl,Y0,?_,?_,?_,L,rfl⟩
  all_goals simp only [sB.1,seval,ht,e4,e6,e7]
 ·rw [List.concat_eq_append] at *
  obtain ⟨id,cap,m,cs,rfl,t1,t2,t3,t4,t5,t6⟩:=L.stk.top
  obtain ⟨B,hid⟩:=L.top
  have az:ys.length <= ns.length:=by
   have h1:=L.dec
   have h2:∀x ∈ ys ++ [i],x < ns.length:=λx hx=>(L.und x hx).1
   have h3:=qwn h1 h2
   simp at h3
   omega
  have ab:(ys ++ [i]).length = ys.length + 1:=by simp
  rw [ab] at Vl
  have I:ilt 0 ((ys.length + 1:Nat):Int) = true:=by rw [qe];simp
  have w1:IntKind.i64.wrap (((ys.length + 1:Nat):Int) - 1) = (ys.length:Nat):=by
   rw [IntKind.wrap_i64]
   omega
  have mV:qar 1 (.sl id 0 (ys.length + 1) cap m) (.int .i64 (ys.length:Nat)) = some (.ptr id ys.length):=by rw [qck zo,Nat.mul_one]
  have hb:=L.bse
  have S:=L.cov _ _ L.run
  have O:=L.cov.lt L.run
  obtain ⟨ds,D0,D1,D2,D3⟩:=L.don
  have mD:qar 1 (.sl D 0 ns.length ns.length 0) (.int .i64 (i:Nat)) = some (.ptr D i):=by rw [qck B,Nat.mul_one]
  have e0:=(D3 i B).1 hid
  have z0:qg8 0 false .nilptr .nilptr = some (.bool true):=xk
  have a7:∀id o n c w:Nat,(qa.sl id o n c w).dim = .sl id o n c w:=λ_ _ _ _ _=>rfl
  have a8:qen H' ns TV:=by
   obtain ⟨ac,rs,e,h1,h2⟩:=hT
   exact ⟨ac,rs,e,L.sub _ _ h1,h2.mono L.sub⟩
  have J:=qq9 R D ns.length dn (evT E ns) ns O S L.cov a8 L.don i B rfl (hS i B)
  have ah:∀i,dn i = true->I64 (qbg (evT E ns i).1):=λi _=>qda (qxI hE hI _ i).1
  rcases quU (dn:=dn) (ev:=evT E ns) (hS i B).1 (hS i B).2 with hn | ⟨j,hn,ad,ae⟩
  ·obtain ⟨rs,M,aj,U⟩:=qoH E hE.toEnvOK R D ns.length dn (evT E ns) ns O S (hO.mono L.sub) L.cov a8 L.don ah i B rfl (hS i B) hn
   rw [<-qvW hS B] at U
   rw [hn] at J
   have a1:ile 0 (-1) = false:=xk
   obtain ⟨H2,L2⟩:=L.done U D1 t4
   obtain ⟨k',n',s',l',L',e,rfl,al⟩:=U.cells
   obtain ⟨d2,s2,w2,n2⟩:=al.facts
   have ar:Nat.ble h.length (G.length + M.length) = true:=qf zo
   have ap:Nat.ble h.length D = true:=qf (by have:=L.dlo;omega)
   have af:i + 1 <= ds.length:=zo
   have aa:qzE 1 (.sl id 0 (ys.length + 1) cap m) (.int .i64 (ys.length:Nat)) = some (.sl id 0 ys.length cap m):=by
    have hm:m = 0\/m = 1:=by
     obtain ⟨ay,av,m',aA,e,h,_⟩:=t4
     cases e
     exact h
    rw [qzF,if_pos zo,if_pos (by simp;omega),if_neg zo,if_pos hm,Int.toNat_natCast]
   have am:(G ++ M ++ [qb.cells [.int .i64 k',.int .i64 n',.str s',L',.int .i64 (evT E ns i).2]]).set D (.cells (ds.set i (.ptr (G ++ M).length 0))) = G.set D (.cells (List.take i ds ++ .ptr (G.length + M.length) 0 :: List.drop (i + 1) ds)) ++ (M ++ [.cells [.int .i64 k',.int .i64 n',.str s',L',.int .i64 (evT E ns i).2]]):=by
    have ai:ds.set i (.ptr (G ++ M).length 0) = List.take i ds ++ .ptr (G.length + M.length) 0 :: List.drop (i + 1) ds:=by rw [List.set_eq_take_append_cons_drop,if_pos zo,ji]
    rw [jp,List.set_append_left _ _ D0,ai]
   rw [am] at L2
   simp only [sA.1,qyk,seval,qBO,ht,e4,e6,e7,e8,Vd,Vw,Vl,I,w1,mV,t1,t2,t3,S,O,D0,D1,mD,e0,z0,J,a1,aj,d2,s2,w2,a7,cI,jL,ar,ap,af,aa,if_true] at he
   subst he
   have hu:=qsC B hid
   refine .inl ⟨_,_,rfl,?_,_,H2,_,_,ys,_,rfl,Y0,?_,?_,?_,?_,L2,rfl⟩
   rotate_left
   all_goals first | (simp only [sA.1,seval,ht,e4,e6,e7];done) | skip
   rw [hk]
   have au:(match ys.getLast? with | none=>0 | some i=>i + 1) <= ns.length:=by
    cases hy:ys.getLast? with
    | none=>simp
    | some x=>
     have:=(L.und x (List.mem_append_left _ (List.mem_of_getLast? hy))).1
     simp only
     omega
   have hmul:(qjj (λj=>j == (i:Int) || dn j) ns.length + 1) * (ns.length + 1) <= qjj dn ns.length * (ns.length + 1):=Nat.mul_le_mul_right _ hu
   rw [Nat.add_mul] at hmul
   omega
  ·rw [hn] at J
   have a1:ile 0 (j:Int) = true:=by rw [qaI];simp
   obtain ⟨V',G',p1,p2,p3,p4,p5,p6,p7⟩:=L.stk.push L.cov (by simp;omega) L.bse D0 j (base:=h.length) zo
   simp only [sA.1,qyk,seval,ht,e4,e6,e7,e8,Vd,Vw,Vl,I,w1,mV,t1,t2,t3,S,O,D0,D1,mD,e0,z0,J,a1,qEo,p1,p5,p6,a7,cI,jL] at he
   subst he
   have L2:=L.push ad ae p2 p3 p4 p7
   refine .inl ⟨_,_,rfl,?_,_,H',_,dn,ys ++ [i] ++ [j],V',rfl,Y0,?_,?_,?_,?_,L2,rfl⟩
   rotate_left
   all_goals first | (simp only [sA.1,seval,ht,e4,e6,e7,p5];done) | skip
   rw [hk]
   simp only [List.getLast?_concat]
   omega
end
end Go.Proofs.YtnibchoenjmmjaaGreatDoor.AE
