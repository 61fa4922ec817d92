/- Proved: part 14. No condition. -/
import Derived.Test.YtnibchoenjmmjaaGreatDoorMt13
import Derived.Test.YtnibchoenjmmjaaGreatDoorMt9
import Derived.Test.YtnibchoenjmmjaaGreatDoorMt10
set_option maxRecDepth 100000
set_option maxHeartbeats 0
open List renaming getElem?_append_left→ja,getElem?_eq_some_iff→je,append_nil→jK,nil_append→j4,cons_append→jB
open Bool renaming and_eq_true→jm,true_and→jY,and_true→jA,not_true→j0,not_false→j3
namespace Go.Proofs.YtnibchoenjmmjaaGreatDoor.AE
open Go.AE
def qi2 (n:Int):Val->Res
 | .mk k _ _ l=>bif !(k == 3) then qbk 1 else match qiW l n with | some v=>(v,0) | none=>qbk 1
def qk4 (op:Int):List Val->Res
 | [v]=>bif isI v then (.mk 0 (qcV 16 0 (qb9 v)).1 [] [],(qcV 16 0 (qb9 v)).2) else qbk 1
 | [v,w]=>bif isI v && isI w then (.mk 0 (qcV op (qb9 v) (qb9 w)).1 [] [],(qcV op (qb9 v) (qb9 w)).2) else qbk 1
 | _=>qbk 1
def qCr:Val->Res
 | .mk k n _ _=>bif !(k == 1) then qbk 1 else qbH (n == 0)
def qa6 (E:qfh) (nd:Nd) (vs:List Val):Res:=
 bif nd.op == 0 then qdP nd.n else bif nd.op == 1 || nd.op == 2 then qbH (nd.op == 1) else bif nd.op == 3 then qa3 (.mk 2 0 nd.nm []) else
 bif nd.op == 4 || nd.op == 5 then qz0 E nd.op nd.nm nd.sb nd.pl else bif nd.op == 11 then (.mk 3 0 [] [.mk 0 E.en [] [],.mk 0 E.ed [] []],0) else
 bif nd.op == 7 || nd.op == 8 || nd.op == 9 || nd.op == 10 then qjr E nd.op nd.pl vs else bif nd.op == 6 then qa3 (.mk 3 0 [] vs) else
 bif nd.op == 12 then qi2 nd.n (vs.getD 0 qap) else bif nd.op == 20 then qbH (qlq (vs.getD 0 qap) (vs.getD 1 qap) == 0) else
 bif nd.op == 21 then qbH (ilt (qlq (vs.getD 0 qap) (vs.getD 1 qap)) 0) else bif nd.op == 22 then qbH (ile (qlq (vs.getD 0 qap) (vs.getD 1 qap)) 0) else
 bif nd.op == 14 then qCr (vs.getD 0 qap) else qk4 nd.op vs
def qdr (E:qfh) (nd:Nd) (ev:Int->Res):Res:=bif qoc nd.op then qcv nd.op nd.ins ev else qcT ev (qa6 E nd) nd.ins []
def qhp (op:Int) (n:Nat):Prop:=((op = 0\/op = 1\/op = 2\/op = 3\/op = 4\/op = 5\/op = 7\/op = 8\/op = 9\/op = 11)/\n = 0)\/(op = 6/\1 <= n/\n <= 4)\/((op = 10\/op = 12\/op = 13\/op = 14)/\n = 1)\/((op = 15\/op = 16\/op = 17\/op = 18\/op = 19\/op = 20\/op = 21\/op = 22)/\n = 2)
structure EnvOK (E:qfh):Prop where
 vl:E.vals.length <= 1000
 bl:E.bag.length <= 1000
 ol:E.oth.length <= 1000
 bs:∀l ∈ E.bag,l.length <= 200/\qsg (l.map qb9)/\∀v ∈ l,qu 3 v = true
section
variable {g:List qb} {H:Nat->Option qb}
theorem qg9 {G:List qb} (h:G.take g.length = g):G = g ++ G.drop g.length:=by
 have:=List.take_append_drop g.length G
 rw [h] at this
 exact this.symm
theorem qce {v:qa} {G:List qb} (h:G.take g.length = g):∃m,qaU g.length (.ret v) G false = (.ret v,g ++ m,false)/\(v.lower g.length = false->g ++ m = G):=by
 rw [qeu]
 cases hv:v.lower g.length with
 | true=>exact ⟨[],by rw [cond_true,h,jK],λh=>by cases h⟩
 | false=>exact ⟨G.drop g.length,by rw [cond_false,<-qg9 h],λ_=>(qg9 h).symm⟩
theorem qma {H:Nat->Option qb} {v:Val} {cs:List qa} (hv:At H v cs) (hg:Cov H g):Wd (.fn 52 [] []) [.agg cs] g = some (.ret (.agg (bif qu 3 v then cs ++ [.int .i64 0] else [.int .i64 0,.int .i64 0,.str [],.lst [] .full,.int .i64 1])),g,false):=by
 have h1:=qeE hv (g ++ [.cells cs,.cells [.int .i64 0,.int .i64 0,.str [],.lst [] .full,.int .i64 0]]) (hg.more _)
 have h2:∀h,Wd (.fn 55 [] []) [.int .i64 1] h = some (.ret (rI 0 1),h,false):=λh=>qaP 1
 obtain ⟨k,n,s,l⟩:=v
 obtain ⟨L,rfl,hL⟩:=hv.lp
 obtain ⟨J,I,E,S⟩:=hL.facts
 have B:=hL.low hg
 have M:Nat.ble g.length (g.length + 1) = true:=qe zo
 cases hr:qu 3 (.mk k n s l) with
 | true=>
  rw [hr] at h1
  rw [qi 52 c52]
  simp only [sB.1,c52,seval,q8,J,I,E,B,M,h1,splice,Bool.true_or,cond_true,jB,j4]
 | false=>
  rw [hr] at h1
  rw [qi 52 c52]
  simp only [sB.1,c52,seval,q8,J,I,E,B,h1,h2,rI,splice,cond_false]
theorem At.cut1 {v:Val} {cs:List qa} (h:At H v cs):cut cs 0 (some 4) = some (.agg cs):=by
 have e:=(At.elem (H:=H) (l:=[v]) (ess:=[cs]) rfl λi a b=>by
  have:i = 0:=by simp at a;omega
  subst this
  exact h).2 0 (by simp)
 simpa using e
theorem qHV (base:Nat) (a b:Int) (h:List qb):hop base (.lit 4 [.int .i64 0,.int .i64 0,.str [],.lst [] .full] 2 [0,1]) [.agg [.int .i64 0,.int .i64 a,.str [],.lst [] .full],.agg [.int .i64 0,.int .i64 b,.str [],.lst [] .full]] h = some (.sl h.length 0 2 2 0,h ++ [.cells [.int .i64 0,.int .i64 a,.str [],.lst [] .full,.int .i64 0,.int .i64 b,.str [],.lst [] .full]],false):=xk
theorem VSl.one {b:Nat} {G:List qb} {v:Val} {V:qa} (h:VSl H G b [v] V):∃id cs,V = .sl id 0 1 1 4/\b <= id/\id < G.length/\G[id]? = some (.cells cs)/\At H v cs:=by
 rcases h with ⟨e,_⟩ | ⟨id,rs,rfl,h1,h2,h3,h4,h5,h6⟩
 ·cases e
 ·obtain ⟨r,rfl⟩:=List.length_eq_one_iff.1 h5
  exact ⟨id,r,rfl,h1,(je.1 h3).1,by simpa using h3,h6 0 (by simp) (by simp)⟩
theorem VSl.two {b:Nat} {G:List qb} {v w:Val} {V:qa} (h:VSl H G b [v,w] V):∃id cs ds,V = .sl id 0 2 2 4/\b <= id/\id < G.length/\G[id]? = some (.cells (cs ++ ds))/\At H v cs/\At H w ds:=by
 rcases h with ⟨e,_⟩ | ⟨id,rs,rfl,h1,h2,h3,h4,h5,h6⟩
 ·cases e
 ·obtain ⟨r,q,rfl⟩ :∃r q,rs = [r,q]:=by
   match rs,h5 with
   | [r,q],_=>exact ⟨r,q,rfl⟩
  exact ⟨id,r,q,rfl,h1,(je.1 h3).1,by simpa using h3,h6 0 (by simp) (by simp),h6 1 (by simp) (by simp)⟩
theorem qtc (E:qfh) (hE:EnvOK E) (R D N:Nat) (dn:Int->Bool) (ev:Int->Res) (ns:List Nd) {TV OL:qa} (hR:R < g.length) (hb:g[R]? = some (.cells [TV,.lst (E.vals.map qbX) .no,qbh E.bag,.int .i64 E.en,.int .i64 E.ed,OL,.sl D 0 N N 0])) (hO:qek H E.oth OL) (hg:Cov H g) (hT:qeF H ns TV) (hD:qcj H g D N dn ev) (al:∀i,dn i = true->I64 (qb9 (ev i).1)) (i:Nat) (hi:i < ns.length) (hc:qoc ns[i].op = false) (aD:qhp ns[i].op ns[i].ins.length) (b2:∀j ∈ ns[i].ins,0 <= j/\j < N) (hn:qcB dn ev ns[i].ins = -1) :
  ∃rs m,Wd (.fn 26 [] []) [.ptr R 0,.int .i64 (i:Nat)] g = some (.ret (.agg rs),g ++ m,false)/\RAt (ext H g m) (qcT ev (qa6 E ns[i]) ns[i].ins []) rs:=by
 obtain ⟨bb,I,b7,hlt,x1,x2,hI⟩:=hT.item hi hg
 subst b7
 obtain ⟨Id,Is,Iw,Il⟩:=hI.facts
 generalize ns[i] = nd at *
 obtain ⟨op,n,nm,sb,pl,ins⟩:=nd
 simp only at *
 have ww:∀e h,Wd (.fn 55 [] []) [.int .i64 e] h = some (.ret (rI 0 e),h,false):=λe h=>qaP e
 have w7:=λ(x:Int) h=>qbb (h:=h) x
 have w8:=λb h=>ql0 (g:=h) b
 simp only [rI] at w7 ww
 have d:∀id o n c w:Nat,(qa.sl id o n c w).dim = .sl id o n c w:=λ_ _ _ _ _=>rfl
 have st:∀id o n c w:Nat,(qa.sl id o n c w).storable = true:=λ_ _ _ _ _=>rfl
 have dw:∀id o n c w i t,qo (qa.sl id o n c w) i t = t:=λ_ _ _ _ _ _ _=>rfl
 have aB:Nat.ble g.length g.length = true:=qe zo
 have aA:Nat.ble g.length (g.length + 1) = true:=qe zo
 obtain ⟨aR,aQ,aP⟩ :(op == 23) = false/\(op == 24) = false/\(op == 25) = false:=by
  simpa [qoc] using hc
 obtain ⟨G0,U⟩ :∃G0,G0 = g ++ [zr5,qb.cells [.int .i64 op,.int .i64 n,.str nm,.str sb,.int .i64 pl,I]]:=⟨_,rfl⟩
 have ba:G0.length = g.length + 2:=by rw [U];simp
 have loop:=qmd R D N dn ev (qa6 E ⟨op,n,nm,sb,pl,ins⟩) hR hb hg hD [.int .i64 op,.int .i64 n,.str nm,.str sb,.int .i64 pl,I] hI b2 (by rcases aD with ⟨_,h⟩ | ⟨_,_,h⟩ | ⟨_,h⟩ | ⟨_,h⟩ <;> omega) G0 U
 generalize hw:Wd _ _ g = w
 rw [qi 26 c26] at hw
 simp only [sA.1,c26,seval,hR,hb,hlt,x1,x2,Id,Is,Iw,Il,d,st,dw,aB,aA,aR,aQ,aP] at hw
 generalize hr:qm g.length Wd (.loop qkp) _ = r at hw
 obtain ⟨x,bc,rfl,tt,G,V,vs,rs,rfl,ht,e0,e4,e5,⟨rfl,e6,ap,bd,S,hV,hA,au,hM⟩ | ⟨rfl,hk,af,b5,B⟩⟩:=known hr (loop ins.length _ ⟨_,G0,0,.lst [] .full,[],by rw [U],X1,X1,X1,X1,X1,by simp only [sB.1,seval,Id],X1,X2,zo,rfl,λ_ _=>rfl,zo,by rw [U];exact hg.more _,.inl ⟨rfl,rfl⟩,rfl,hn,λv hv=>by cases hv⟩)
 ·rw [hA]
  have old:∀i,i < g.length->G[i]? = g[i]?:=λi hi=>by rw [ap i zo,U,ja hi]
  have GR:R < G.length:=zo
  have ac:=(old R hR).trans hb
  have af:g.length < G.length:=zo
  have aL:g.length + 1 < G.length:=zo
  have hz:G[g.length]? = some zr5:=by rw [ap _ zo,U,qF];rfl
  have aX:G[g.length + 1]? = some (.cells [.int .i64 op,.int .i64 n,.str nm,.str sb,.int .i64 pl,I]):=by rw [ap _ zo,U,qQ];rfl
  have aT:G.take g.length = g:=by
   apply List.ext_getElem?
   intro i
   rw [List.getElem?_take]
   split
   ·exact old i ‹_›
   ·rw [List.getElem?_eq_none zo]
  have a8:∀b,(G.set g.length b).take g.length = g:=λb=>by rw [List.take_set_of_le zo,aT]
  have up:∀{m r rs},RAt H r rs->RAt (ext H g m) r rs:=λh=>h.mono (qcx hg)
  obtain ⟨Vd,Vs,Vw,Vl⟩:=hV.facts
  have F:=yq ht (yq e0 (yq e4 (yq e5 (yq e6 (yq hz (yq aX (yq af (yq aL (yq GR (yq ac (yq aB (yq aA (yq Id (yq Is (yq Iw (yq Vd (yq Vs (yq Vw (yq w7 (yq w8 ww))))))))))))))))))))
  have fin:∀{b r rs},RAt H r rs->∃ar m,some (qaU g.length (.ret (.agg rs)) (G.set g.length b) false) = some (.ret (.agg ar),g ++ m,false)/\RAt (ext H g m) r ar:=λh=>by
   obtain ⟨m,hm,_⟩:=qce (v:=.agg _) (a8 _)
   exact ⟨_,m,congrArg some hm,h.mono (qcx hg)⟩
  have opn:∀{f xs r},(∃rs,Wd f xs G = some (.ret (.agg rs),G,false)/\RAt H r rs)->∃rs k n s L e,rs = [.int .i64 k,.int .i64 n,.str s,L,.int .i64 e]/\(Wd f xs G = some (.ret (.agg rs),G,false)/\L.dim = L/\L.storable = true/\(∀i t,qo L i t = t)/\L.lower g.length = true)/\RAt H r rs:=λ⟨rs,h1,h2⟩=>by
   obtain ⟨k,n,s,l,L,e,rfl,hL⟩:=h2.cells
   obtain ⟨d,s',w,_⟩:=hL.facts
   exact ⟨_,k,n,s,L,_,rfl,⟨h1,d,s',w,hL.low hg⟩,h2⟩
  rcases aD with ⟨ho,h0⟩ | ⟨rfl,h1,h4⟩ | ⟨ho,h1⟩ | ⟨ho,h2⟩
  ·have:vs = []:=List.length_eq_zero_iff.1 zo
   subst this
   have pv:=λhp=>opn (qjk E S R GR ac hE.bl hE.bs op n nm sb pl I Id Is Iw hp [] Vd Vs Vw (λh=>by subst h;revert ho;omega))
   have vr:=opn (qlb E S R GR ac hO hE.ol hE.vl op n nm sb pl I Id Is Iw)
   rcases ho with rfl | rfl | rfl | rfl | rfl | rfl | rfl | rfl | rfl | rfl
   ·simp only [sA.1,seval,F] at hw
    subst hw
    exact fin (RAt.whole H n)
   ·simp only [sA.1,seval,F] at hw
    subst hw
    exact fin (RAt.truth H true)
   ·simp only [sA.1,seval,F] at hw
    subst hw
    exact fin (RAt.truth H false)
   ·obtain ⟨_,_,_,_,_,_,rfl,C,B⟩:=opn (qdR (At.leaf H 2 0 nm) S)
    simp only [sA.1,seval,F,C] at hw
    subst hw
    exact fin (B)
   iterate 2 (
    obtain ⟨_,_,_,_,_,_,rfl,C,B⟩:=vr
    simp only [sA.1,seval,F,C] at hw
    subst hw
    exact fin (B))
   iterate 3 (
    obtain ⟨_,_,_,_,_,_,rfl,C,B⟩:=pv zo
    simp only [sA.1,seval,F,C] at hw
    subst hw
    exact fin (B))
   ·have hl:=qHV g.length E.en E.ed G
    simp only [sA.1,seval,F,hl] at hw
    subst hw
    have hK:(G.set g.length (.cells [.int .i64 3,.int .i64 0,.str [],.sl G.length 0 2 2 0,.int .i64 0]) ++ [qb.cells [.int .i64 0,.int .i64 E.en,.str [],.lst [] .full,.int .i64 0,.int .i64 E.ed,.str [],.lst [] .full]]).take g.length = g:=by rw [List.take_append_of_le_length (by simp;omega),a8]
    obtain ⟨m,hm,ae⟩:=qce (v:=.agg [.int .i64 3,.int .i64 0,.str [],.sl G.length 0 2 2 0,.int .i64 0]) hK
    have ak:=ae (by simp only [qa.lower,qr,jY,jA];exact qcJ zo)
    refine ⟨_,m,congrArg some hm,[.int .i64 3,.int .i64 0,.str [],.sl G.length 0 2 2 0],rfl,?_⟩
    have e1:ext H g m G.length = some (.cells [[qa.int .i64 0,.int .i64 E.en,.str [],.lst [] .full],[.int .i64 0,.int .i64 E.ed,.str [],.lst [] .full]].flatten):=by
     rw [qer zo,ak,List.getElem?_append_right (by simp)]
     simp
    refine (LP.at (l:=[.mk 0 E.en [] [],.mk 0 E.ed [] []]) ⟨_,rfl,λi a b=>?_,.inr ⟨_,0,rfl,e1⟩⟩ 3 0 [])
    have:i = 0\/i = 1:=by simp at a;omega
    rcases this with rfl | rfl
    ·exact At.leaf _ 0 _ []
    ·exact At.leaf _ 0 _ []
  ·obtain ⟨H1,am⟩ :∃H1:Nat->Option qb,H1 = λi=>if i < g.length then H i else if i = g.length then none else G[i]?:=⟨_,rfl⟩
   have o1:∀i,i < g.length->H1 i = H i:=λi hi=>by rw [am];exact if_pos hi
   have o2:∀i,g.length < i->H1 i = G[i]?:=λi hi=>by rw [am];simp only;rw [if_neg zo,if_neg zo]
   have o3:H1 g.length = none:=by rw [am];simp
   have aV:Sub H H1:=λi x hx=>by rw [o1 i (hg.lt hx)];exact hx
   have b4:Cov H1 G:=λi x hx=>by
    rcases Nat.lt_trichotomy i g.length with h | h | h
    ·rw [o1 i h] at hx;exact S i x hx
    ·subst h;rw [o3] at hx;cases hx
    ·rw [o2 i h] at hx;exact hx
   have aY:LP H1 vs V:=hV.lp aV λi a _ _=>o2 i zo
   have aC:=aY.at 3 0 []
   have a6:=qma aC b4
   have Vc:V.cells = [V]:=by rcases hV with ⟨_,rfl⟩ | ⟨id,rs,rfl,_⟩ <;> rfl
   have e:qa6 E ⟨6,n,nm,sb,pl,ins⟩ vs = qa3 (.mk 3 0 [] vs):=rfl
   rw [e,qa3]
   have aW:vs ≠ []:=λh=>by rw [h] at au;simp at au;omega
   cases ay:qu 3 (.mk 3 0 [] vs) with
   | false=>
    rw [ay,cond_false] at a6
    simp only [sA.1,seval,F,a6,Vc] at hw
    subst hw
    exact fin (RAt.wrong H 1)
   | true=>
    rw [ay,cond_true] at a6
    simp only [jB,j4] at a6
    simp only [sA.1,seval,F,a6,Vc] at hw
    subst hw
    obtain ⟨m,hm,ae⟩:=qce (v:=.agg [.int .i64 3,.int .i64 0,.str [],V,.int .i64 0]) (a8 (.cells [.int .i64 3,.int .i64 0,.str [],V,.int .i64 0]))
    have b6:V.lower g.length = false:=by
     rcases hV with ⟨h,_⟩ | ⟨id,rs,rfl,h1,_⟩
     ·exact absurd h aW
     ·exact qcJ zo
    have ak:=ae (by simp only [qa.lower,qr,b6,jY,jA])
    have aU:Sub H1 (ext H g m):=λi x hx=>by
     rcases Nat.lt_trichotomy i g.length with h | h | h
     ·rw [qcY h,<-o1 i h];exact hx
     ·subst h;rw [o3] at hx;cases hx
     ·rw [o2 i h] at hx
      rw [qer zo,ak,List.getElem?_set_ne zo]
      exact hx
    exact ⟨_,m,congrArg some hm,_,rfl,aC.mono aU⟩
  ·obtain ⟨v,rfl⟩ :∃v,vs = [v]:=by
    match vs,(show vs.length = 1 by omega) with
    | [v],_=>exact ⟨v,rfl⟩
   obtain ⟨id,cs,rfl,aM,M,J,hv⟩:=hV.one
   have b3:=hv.length
   obtain ⟨k1,n1,z1,l1,L1,rfl,rfl,a1⟩ :∃k n s l L,v = .mk k n s l/\cs = [.int .i64 k,.int .i64 n,.str s,L]/\LP H l L:=by
    obtain ⟨k,n,s,l⟩:=v
    obtain ⟨L,e,h⟩:=hv.lp
    exact ⟨k,n,s,l,L,rfl,e,h⟩
   obtain ⟨d1,s1,w1,q1⟩:=a1.facts
   have aK:=a1.low hg
   have ad:qaW 4 (.sl id 0 1 1 4) (.int .i64 0) = some (.ptr id 0):=xk
   have Y:=yq M (yq J (yq ad (yq d1 (yq s1 (yq w1 q1)))))
   rcases ho with rfl | rfl | rfl | rfl
   ·obtain ⟨_,_,_,_,_,_,rfl,C,B⟩:=opn (qjk E S R GR ac hE.bl hE.bs 10 n nm sb pl I Id Is Iw zo [.mk k1 n1 z1 l1] (L:=.sl id 0 1 1 4) rfl rfl (λ_ _=>rfl) (λ_=>⟨_,_,.ptr id 0,_,rfl,ad,rfl,λm=>by rw [qlE,ja M,J,ldB];exact hv.cut1,hv⟩))
    simp only [sA.1,seval,F,C] at hw
    subst hw
    exact fin (B)
   ·rw [show qa6 E ⟨12,n,nm,sb,pl,ins⟩ [.mk k1 n1 z1 l1] = qi2 n (.mk k1 n1 z1 l1) from rfl,qi2]
    cases ab:(k1 == 3) with
    | false=>
     simp only [sA.1,seval,F,Y,ab] at hw
     subst hw
     exact fin (RAt.wrong H 1)
    | true=>
     rw [j0,cond_false]
     generalize hx:qiW l1 n = x
     rcases qdX hx with ⟨rfl,c | ⟨c,c'⟩⟩ | ⟨i,hi,rfl,rfl,c,c'⟩
     ·simp only [sA.1,seval,F,Y,ab,c] at hw
      subst hw
      exact fin (RAt.wrong H 1)
     ·simp only [sA.1,seval,F,Y,ab,c,c'] at hw
      subst hw
      exact fin (RAt.wrong H 1)
     ·obtain ⟨pp,cs,x2,x3,x4,x5,x6⟩:=a1.item hi S
      have x7:∀i t,qo pp i t = t:=λi t=>by rw [<-x3];exact qH _ _ _
      have B:RAt H (l1[i],0) (cs ++ [.int .i64 0]):=⟨cs,rfl,x6⟩
      obtain ⟨k',n',s',l',L',e,_⟩:=x6.cells
      obtain ⟨LL,rfl,aE⟩ :∃LL,cs = [.int .i64 k',.int .i64 n',.str s',LL]/\LP H l' LL:=by
       rw [e] at x6
       exact x6.lp
      obtain ⟨d2,s2,w2,n2⟩:=aE.facts
      have aa:=aE.low hg
      simp only [sA.1,seval,F,Y,ab,c,c',x2,x3,x4,x5,x7,d2,s2,w2,aa] at hw
      subst hw
      exact fin (B)
   ·have a7:∃rs,Wd (.fn 57 [] []) [.int .i64 13,.sl id 0 1 1 4] G = some (.ret (.agg rs),G,false)/\RAt H (qk4 13 [.mk k1 n1 z1 l1]) rs:=by
     rw [qk4]
     cases hi:(k1 == 0) with
     | true=>
      have aj:k1 = 0:=by simpa using hi
      subst aj
      obtain ⟨j,hj,ah⟩:=hM (.mk 0 n1 z1 l1) (by simp)
      have hI:=al j hj
      rw [ah] at hI
      exact ⟨_,qyM d1 s1 M J hI,At.leaf H 0 _ [] |> λh=>⟨_,rfl,h⟩⟩
     | false=>exact ⟨_,qnU d1 s1 M J hi,by simp only [isI,hi,cond_false];exact RAt.wrong H 1⟩
    obtain ⟨_,_,_,_,_,_,rfl,C,B⟩:=opn a7
    simp only [sA.1,seval,F,C] at hw
    subst hw
    exact fin (B)
   ·rw [show qa6 E ⟨14,n,nm,sb,pl,ins⟩ [.mk k1 n1 z1 l1] = qCr (.mk k1 n1 z1 l1) from rfl,qCr]
    cases az:(k1 == 1) with
    | true=>
     simp only [sA.1,seval,F,Y,az] at hw
     subst hw
     exact fin (RAt.truth H _)
    | false=>
     simp only [sA.1,seval,F,Y,az] at hw
     subst hw
     exact fin (RAt.wrong H 1)
  ·obtain ⟨v,v',rfl⟩ :∃v v',vs = [v,v']:=by
    match vs,(show vs.length = 2 by omega) with
    | [v,v'],_=>exact ⟨v,v',rfl⟩
   obtain ⟨id,cs,b8,rfl,aM,M,J,hv,av⟩:=hV.two
   have b3:=hv.length
   obtain ⟨k1,n1,z1,l1,L1,rfl,rfl,a1⟩ :∃k n s l L,v = .mk k n s l/\cs = [.int .i64 k,.int .i64 n,.str s,L]/\LP H l L:=by
    obtain ⟨k,n,s,l⟩:=v
    obtain ⟨L,e,h⟩:=hv.lp
    exact ⟨k,n,s,l,L,rfl,e,h⟩
   obtain ⟨k3,n3,z3,l3,L3,rfl,rfl,aF⟩ :∃k n s l L,v' = .mk k n s l/\b8 = [.int .i64 k,.int .i64 n,.str s,L]/\LP H l L:=by
    obtain ⟨k,n,s,l⟩:=v'
    obtain ⟨L,e,h⟩:=av.lp
    exact ⟨k,n,s,l,L,rfl,e,h⟩
   obtain ⟨d1,s1,w1,q1⟩:=a1.facts
   obtain ⟨d3,s3,w3,q3⟩:=aF.facts
   have aK:=a1.low hg
   have b9:=aF.low hg
   have aJ:qaW 4 (.sl id 0 2 2 4) (.int .i64 0) = some (.ptr id 0):=xk
   have aI:qaW 4 (.sl id 0 2 2 4) (.int .i64 1) = some (.ptr id 4):=xk
   have J:G[id]? = some (.cells [.int .i64 k1,.int .i64 n1,.str z1,L1,.int .i64 k3,.int .i64 n3,.str z3,L3]):=J
   have aO:=qz2 hv av G S
   have a7:∀op,(op = 15\/op = 16\/op = 17\/op = 18\/op = 19)->∃rs,Wd (.fn 57 [] []) [.int .i64 op,.sl id 0 2 2 4] G = some (.ret (.agg rs),G,false)/\RAt H (qk4 op [.mk k1 n1 z1 l1,.mk k3 n3 z3 l3]) rs:=λop hop=>by
    rw [qk4]
    cases hi:(k1 == 0) with
    | false=>exact ⟨_,qhK d1 s1 d3 s3 M J (.inl hi),by simp only [isI,hi,Bool.false_and,cond_false];exact RAt.wrong H 1⟩
    | true=>
     cases ai:(k3 == 0) with
     | false=>exact ⟨_,qhK d1 s1 d3 s3 M J (.inr ⟨hi,ai⟩),by simp only [isI,hi,ai,jY,cond_false];exact RAt.wrong H 1⟩
     | true=>
      have aj:k1 = 0:=by simpa using hi
      have aN:k3 = 0:=by simpa using ai
      subst aj
      subst aN
      obtain ⟨j,hj,ah⟩:=hM (.mk 0 n1 z1 l1) (by simp)
      have hI:=al j hj
      rw [ah] at hI
      obtain ⟨j',b1,aZ⟩:=hM (.mk 0 n3 z3 l3) (by simp)
      have aH:=al j' b1
      rw [aZ] at aH
      exact ⟨_,qvt d1 s1 d3 s3 M J hI aH hop,At.leaf H 0 _ [] |> λh=>⟨_,rfl,h⟩⟩
   have sm:=λhop=>opn (a7 op hop)
   rcases ho with rfl | rfl | rfl | rfl | rfl | rfl | rfl | rfl
   iterate 5 (
    obtain ⟨_,_,_,_,_,_,rfl,C,B⟩:=sm zo
    simp only [sA.1,seval,F,C] at hw
    subst hw
    exact fin (B))
   iterate 3 (
    simp only [sA.1,seval,F,M,J,aJ,aI,d1,s1,w1,d3,s3,w3,aO] at hw
    subst hw
    exact fin (RAt.truth H _))
 ·obtain ⟨k',n',s',l',L',e,rfl,aG⟩:=B.cells
  obtain ⟨d2,s2,w2,n2⟩:=aG.facts
  have aa:=aG.low hg
  simp only [sA.1,seval,ht,e4,b5,af,d2,s2,w2] at hw
  subst hw
  exact ⟨_,[],congrArg some (by rw [jK];exact q6 hk (by simp only [sA.1,seval,aa])),B.mono (qcx hg)⟩
end
theorem Cho.chB {op:Int} {ins:List Int} (h:Cho op ins):qoc op = true:=by rcases h with ⟨rfl,_⟩ | ⟨rfl,_⟩ | ⟨rfl,_⟩ <;> decide
theorem qhp.chB {op:Int} {n:Nat} (h:qhp op n):qoc op = false:=by
 rcases h with ⟨rfl | rfl | rfl | rfl | rfl | rfl | rfl | rfl | rfl | rfl,_⟩ | ⟨rfl,_⟩ | ⟨rfl | rfl | rfl | rfl,_⟩ | ⟨rfl | rfl | rfl | rfl | rfl | rfl | rfl | rfl,_⟩ <;> decide
theorem Cho.head {op:Int} {ins:List Int} (h:Cho op ins):ins.getD 0 0 ∈ ins:=by rcases h with ⟨_,a,b,c,rfl⟩ | ⟨_,a,b,rfl⟩ | ⟨_,a,b,rfl⟩ <;> simp
theorem qrj {op:Int} {ins:List Int} {dn:Int->Bool} {ev:Int->Res} (hc:Cho op ins) (E:∀j ∈ ins,0 <= j) (h:qds op ins dn ev = -1):dn (ins.getD 0 0) = true/\(0 <= qas op ins (ev (ins.getD 0 0))->dn (qas op ins (ev (ins.getD 0 0))) = true):=by
 have h0:=E _ hc.head
 rw [qds,hc.chB,cond_true] at h
 cases B:dn (ins.getD 0 0) with
 | false=>rw [B,j3,cond_true] at h;omega
 | true=>
  rw [B,j0,cond_false] at h
  refine ⟨rfl,λhs=>?_⟩
  have h1:ile 0 (qas op ins (ev (ins.getD 0 0))) = true:=by rw [qaT];simpa using hs
  rw [h1,jY] at h
  cases I:dn (qas op ins (ev (ins.getD 0 0))) with
  | true=>rfl
  | false=>rw [I,j3,cond_true] at h;omega
section
variable {g:List qb} {H:Nat->Option qb}
theorem qoR (R D N:Nat) (dn:Int->Bool) (ev:Int->Res) (ns:List Nd) {TV VL BV OL:qa} {en ed:Int} (hR:R < g.length) (hb:g[R]? = some (.cells [TV,VL,BV,.int .i64 en,.int .i64 ed,OL,.sl D 0 N N 0])) (hg:Cov H g) (hT:qeF H ns TV) (hD:qcj H g D N dn ev) (i:Nat) (hi:i < ns.length) (hc:Cho ns[i].op ns[i].ins) (a6:∀j ∈ ns[i].ins,0 <= j/\j < N) (hn:qds ns[i].op ns[i].ins dn ev = -1) :
  ∃rs,Wd (.fn 26 [] []) [.ptr R 0,.int .i64 (i:Nat)] g = some (.ret (.agg rs),g,false)/\RAt H (qcv ns[i].op ns[i].ins ev) rs:=by
 obtain ⟨a8,I,ad,hlt,x1,x2,hI⟩:=hT.item hi hg
 subst ad
 obtain ⟨Id,Is,Iw,Il⟩:=hI.facts
 generalize ns[i] = nd at *
 obtain ⟨op,n,nm,sb,pl,ins⟩:=nd
 simp only at *
 obtain ⟨U,rfl,E⟩:=hI.cho hc
 obtain ⟨h0,h1⟩:=qrj hc (λj hj=>(a6 j hj).1) hn
 have aa:=hg.lt E
 have ab:=hg _ _ E
 have d:∀id o n c w:Nat,(qa.sl id o n c w).dim = .sl id o n c w:=λ_ _ _ _ _=>rfl
 have st:∀id o n c w:Nat,(qa.sl id o n c w).storable = true:=λ_ _ _ _ _=>rfl
 have dw:∀id o n c w i t,qo (qa.sl id o n c w) i t = t:=λ_ _ _ _ _ _ _=>rfl
 have S:Nat.ble g.length g.length = true:=qe zo
 have M:Nat.ble g.length (g.length + 1) = true:=qe zo
 have ae:(op == 23) = true\/((op == 23) = false/\(op == 24) = true)\/((op == 23) = false/\(op == 24) = false/\(op == 25) = true):=by rcases hc with ⟨rfl,_⟩ | ⟨rfl,_⟩ | ⟨rfl,_⟩ <;> decide
 have ac:∀m,(g ++ m)[R]? = some (.cells [.sl a8 0 ns.length ns.length 6,VL,BV,.int .i64 en,.int .i64 ed,OL,.sl D 0 N N 0]):=λm=>by rw [ja hR];exact hb
 obtain ⟨rs,J,a1⟩:=qoJ (g:=g ++ [zr5,qb.cells [.int .i64 op,.int .i64 n,.str nm,.str sb,.int .i64 pl,.sl U 0 ins.length ins.length 1]]) R D N dn ev (by simp;omega) (ac _) (hg.more _) (hD.more _) op n nm sb pl U ins hc (by simp;omega) (by rw [ja aa];exact ab) a6 h0 h1
 refine ⟨rs,?_,a1⟩
 obtain ⟨k',n',s',l',L',e,rfl,a7⟩:=a1.cells
 obtain ⟨d2,s2,w2,n2⟩:=a7.facts
 have B:=a7.low hg
 rw [qi 26 c26]
 rcases ae with k1 | ⟨k1,k2⟩ | ⟨k1,k2,k3⟩
 ·simp only [sA.1,c26,seval,hR,hb,hlt,x1,x2,d,st,dw,S,M,k1,J,d2,s2,w2,B]
 ·simp only [sA.1,c26,seval,hR,hb,hlt,x1,x2,d,st,dw,S,M,k1,k2,J,d2,s2,w2,B]
 ·simp only [sA.1,c26,seval,hR,hb,hlt,x1,x2,d,st,dw,S,M,k1,k2,k3,J,d2,s2,w2,B]
def qjN (nd:Nd) (i:Nat):Prop:=(Cho nd.op nd.ins\/qhp nd.op nd.ins.length)/\∀j ∈ nd.ins,0 <= j/\j < (i:Int)
def qoj (ns:List Nd):Prop:=ns ≠ []/\∀i (hi:i < ns.length),qjN ns[i] i
theorem Ext.nil {H:Nat->Option qb} {g:List qb} (hg:Cov H g):Sub H (ext H g []):=qcx hg
theorem qoQ (E:qfh) (hE:EnvOK E) (R D N:Nat) (dn:Int->Bool) (ev:Int->Res) (ns:List Nd) {TV OL:qa} (hR:R < g.length) (hb:g[R]? = some (.cells [TV,.lst (E.vals.map qbX) .no,qbh E.bag,.int .i64 E.en,.int .i64 E.ed,OL,.sl D 0 N N 0])) (hO:qek H E.oth OL) (hg:Cov H g) (hT:qeF H ns TV) (hD:qcj H g D N dn ev) (I:∀i,dn i = true->I64 (qb9 (ev i).1)) (i:Nat) (hi:i < ns.length) (hN:ns.length = N) (hs:qjN ns[i] i) (hn:qds ns[i].op ns[i].ins dn ev = -1) :
  ∃rs m,Wd (.fn 26 [] []) [.ptr R 0,.int .i64 (i:Nat)] g = some (.ret (.agg rs),g ++ m,false)/\RAt (ext H g m) (qdr E ns[i] ev) rs:=by
 have B:∀j ∈ ns[i].ins,0 <= j/\j < (N:Int):=λj hj=>by have:=hs.2 j hj;omega
 rcases hs.1 with hc | ha
 ·obtain ⟨rs,h1,h2⟩:=qoR R D N dn ev ns hR hb hg hT hD i hi hc B hn
  refine ⟨rs,[],by rw [jK];exact h1,?_⟩
  rw [qdr,hc.chB,cond_true]
  exact h2.mono (qcx hg)
 ·rw [qds,ha.chB,cond_false] at hn
  rw [qdr,ha.chB,cond_false]
  exact qtc E hE R D N dn ev ns hR hb hO hg hT hD I i hi ha.chB ha B hn
theorem qrh (R D N:Nat) (dn:Int->Bool) (ev:Int->Res) (ns:List Nd) {TV VL BV OL:qa} {en ed:Int} (hR:R < g.length) (hb:g[R]? = some (.cells [TV,VL,BV,.int .i64 en,.int .i64 ed,OL,.sl D 0 N N 0])) (hg:Cov H g) (hT:qeF H ns TV) (hD:qcj H g D N dn ev) (i:Nat) (hi:i < ns.length) (hN:ns.length = N) (hs:qjN ns[i] i) :
  Wd (.fn 25 [] []) [.ptr R 0,.int .i64 (i:Nat)] g = some (.ret (.int .i64 (qds ns[i].op ns[i].ins dn ev)),g,false):=by
 have B:∀j ∈ ns[i].ins,0 <= j/\j < (N:Int):=λj hj=>by have:=hs.2 j hj;omega
 rcases hs.1 with hc | ha
 ·exact qri R D N dn ev ns hR hb hg hT hD i hi hc B
 ·rw [qds,ha.chB,cond_false]
  exact qno R D N dn ev ns hR hb hg hT hD i hi ha.chB B (by rcases ha with ⟨_,h⟩ | ⟨_,_,h⟩ | ⟨_,h⟩ | ⟨_,h⟩ <;> omega)
def qsP (op:Int):Int×Int:=bif op == 6 then (1,4) else bif op == 10 || op == 12 || op == 13 || op == 14 then (1,1) else bif op == 25 then (3,3) else bif ile 15 op then (2,2) else (0,0)
theorem qsZ (op:Int) (h0:0 <= op) (h1:op <= 25):Wd (.fn 47 [] []) [.int .i64 op] g = some (.ret (.tup [.int .i64 (qsP op).1,.int .i64 (qsP op).2,.bool true]),g,false):=by
 have:op = 0\/op = 1\/op = 2\/op = 3\/op = 4\/op = 5\/op = 6\/op = 7\/op = 8\/op = 9\/op = 10\/op = 11\/op = 12\/op = 13\/op = 14\/op = 15\/op = 16\/op = 17\/op = 18\/op = 19\/op = 20\/op = 21\/op = 22\/op = 23\/op = 24\/op = 25:=zo
 rw [qi 47 c47]
 rcases this with rfl | rfl | rfl | rfl | rfl | rfl | rfl | rfl | rfl | rfl | rfl | rfl | rfl | rfl | rfl | rfl | rfl | rfl | rfl | rfl | rfl | rfl | rfl | rfl | rfl | rfl <;>
 (simp only [sB.1,c47,seval];rfl)
theorem qwB {op:Int} {ins:List Int} (h:Cho op ins\/qhp op ins.length):0 <= op/\op <= 25/\ilt (ins.length:Int) (qsP op).1 = false/\ilt (qsP op).2 (ins.length:Int) = false:=by
 have a:∀n:Nat,∀x y:Int,x <= n->(n:Int) <= y->ilt (n:Int) x = false/\ilt y (n:Int) = false:=λn x y h1 h2=>by
  rw [qf,qf]
  simp
  omega
 have fin:∀x y:Int,(qsP op).1 = x->(qsP op).2 = y->x <= ins.length->(ins.length:Int) <= y->ilt (ins.length:Int) (qsP op).1 = false/\ilt (qsP op).2 (ins.length:Int) = false:=λx y e1 e2 h1 h2=>by
  rw [e1,e2]
  exact a _ _ _ h1 h2
 rcases h with (⟨rfl,_,_,_,rfl⟩ | ⟨rfl,_,_,rfl⟩ | ⟨rfl,_,_,rfl⟩) | (⟨h0,h⟩ | ⟨rfl,h,h'⟩ | ⟨h0,h⟩ | ⟨h0,h⟩)
 ·exact ⟨zo,zo,fin 3 3 rfl rfl (by simp) (by simp)⟩
 ·exact ⟨zo,zo,fin 2 2 rfl rfl (by simp) (by simp)⟩
 ·exact ⟨zo,zo,fin 2 2 rfl rfl (by simp) (by simp)⟩
 ·rcases h0 with rfl | rfl | rfl | rfl | rfl | rfl | rfl | rfl | rfl | rfl <;> exact ⟨zo,zo,fin 0 0 rfl rfl zo zo⟩
 ·exact ⟨zo,zo,fin 1 4 rfl rfl zo zo⟩
 ·rcases h0 with rfl | rfl | rfl | rfl <;> exact ⟨zo,zo,fin 1 1 rfl rfl zo zo⟩
 ·rcases h0 with rfl | rfl | rfl | rfl | rfl | rfl | rfl | rfl <;> exact ⟨zo,zo,fin 2 2 rfl rfl zo zo⟩
theorem qvn (ns:List Nd) {TV:qa} (hg:Cov H g) (hT:qeF H ns TV) (hs:qoj ns) (hl:ns.length <= 100000):Wd (.fn 24 [] []) [TV] g = some (.ret (.bool true),g,false):=by
 have ae:=λh op h0 h1=>qsZ (g:=h) op h0 h1
 have d:∀id o n c w:Nat,(qa.sl id o n c w).dim = .sl id o n c w:=λ_ _ _ _ _=>rfl
 have Td:TV.dim = TV:=by obtain ⟨_,_,rfl,_⟩:=hT;rfl
 have Tw:∀i t,qo TV i t = t:=by obtain ⟨_,_,rfl,_⟩:=hT;exact λ_ _=>rfl
 have Tl:qbG false TV = some (.int .i64 (ns.length:Nat)):=by obtain ⟨_,_,rfl,_⟩:=hT;rfl
 have inner:∀(i:Nat) (hi:i < ns.length) (I:qa) (G:List qb) (x4:qa),Cov H G->Ins H ns[i].ins I->∀k st,(∃(tt:List qa) (a:Nat),st = ⟨tt,G,false⟩/\tt.length = 59/\lkp tt 3 = .int .i64 (i:Nat)/\lkp tt 10 = TV/\lkp tt 11 = .int .i64 (ns.length:Nat)/\lkp tt 12 = .int .i64 (i:Nat)/\lkp tt 41 = I/\lkp tt 42 = .int .i64 (ns[i].ins.length:Nat)/\lkp tt 43 = .int .i64 (a:Nat)/\lkp tt 0 = TV/\a + k = ns[i].ins.length)->
   ∃x E,qm g.length Wd (.loop qm3) st = some (x,E)/\(∃(tt:List qa),E = ⟨tt,G,false⟩/\tt.length = 59/\lkp tt 10 = TV/\lkp tt 11 = .int .i64 (ns.length:Nat)/\lkp tt 12 = .int .i64 (i:Nat)/\lkp tt 0 = TV/\x = .exit 2):=by
  intro i hi I G x4 ac hI
  obtain ⟨Id,Is,Iw,Il⟩:=hI.facts
  have aa:=(hs.2 i hi).2
  have ai:ns[i].ins.length <= 1000:=by
   rcases (hs.2 i hi).1 with h | h
   ·rcases h with ⟨_,a,b,c,e⟩ | ⟨_,a,b,e⟩ | ⟨_,a,b,e⟩ <;> rw [e] <;> simp
   ·rcases h with ⟨_,h⟩ | ⟨_,_,h⟩ | ⟨_,h⟩ | ⟨_,h⟩ <;> omega
  generalize ns[i].ins = ins at *
  refine qy _ _ ?_
  rintro k st ⟨tt,a,rfl,ht,e3,U,S,M,a8,a7,a6,e0,ar⟩
  generalize he:qm g.length Wd qm3 _ = r
  rcases Nat.lt_or_ge a ins.length with ha | ha
  ·have c1E:ilt (a:Int) (ins.length:Int) = true:=by rw [qf];simp;omega
   have w:=qaH (n:=a) zo
   obtain ⟨al,av,y0,y1,y2,y3⟩:=hI.item ha ac
   have hj:=aa _ (List.getElem_mem ha)
   have ah:ilt ins[a] 0 = false:=by rw [qf];simp;omega
   have af:ile (i:Int) ins[a] = false:=by rw [qaT];simp;omega
   simp only [sB.1,qm3,seval,ht,e3,a8,a7,a6,c1E,ah,af,Id,Iw,y0,y1,y2,y3,cI,Option.map_some,w] at he
   subst he
   refine .inl ⟨_,k - 1,rfl,zo,_,a + 1,rfl,Y0,?_,?_,?_,?_,?_,?_,?_,?_,zo⟩
   all_goals simp only [sB.1,seval,ht,e0,e3,U,S,M,a8,a7,a6,Id,Iw,w]
  ·have c1E:ilt (a:Int) (ins.length:Int) = false:=by rw [qf];simp;omega
   simp only [sB.1,qm3,seval,ht,a7,a6,c1E] at he
   subst he
   refine .inr ⟨_,_,rfl,by simp,_,rfl,Y0,?_,?_,?_,?_,rfl⟩
   all_goals simp only [sB.1,seval,ht,e0,U,S,M]
 have loop:∀k st,(∃(tt:List qa) (i:Nat) (B:List qb),st = ⟨tt,g ++ B,false⟩/\tt.length = 59/\lkp tt 10 = TV/\lkp tt 11 = .int .i64 (ns.length:Nat)/\lkp tt 12 = .int .i64 (i:Nat)/\lkp tt 0 = TV/\i + k = ns.length)->
   ∃x E,qm g.length Wd (.loop qm4) st = some (x,E)/\(∃(tt:List qa) (B:List qb),E = ⟨tt,g ++ B,false⟩/\tt.length = 59/\lkp tt 0 = TV/\x = .exit 0):=by
  refine qy _ _ ?_
  rintro k st ⟨tt,i,B,rfl,ht,U,S,M,e0,am⟩
  generalize he:qm g.length Wd qm4 _ = r
  rcases Nat.lt_or_ge i ns.length with hi | hi
  ·have c1E:ilt (i:Int) (ns.length:Int) = true:=by rw [qf];simp;omega
   have w:=qaH (n:=i) zo
   obtain ⟨ak,I,au,y0,y1,y2,hI⟩:=hT.item hi (hg.more B)
   obtain ⟨Id,Is,Iw,Il⟩:=hI.facts
   obtain ⟨o0,o1,o2,o3⟩:=qwB (hs.2 i hi).1
   have ab:=inner i hi I (g ++ B ++ [.cells [.int .i64 ns[i].op,.int .i64 ns[i].n,.str ns[i].nm,.str ns[i].sb,.int .i64 ns[i].pl,I]]) TV ((hg.more _).more _) hI ns[i].ins.length
   have ha:=ae (g ++ B ++ [.cells [.int .i64 ns[i].op,.int .i64 ns[i].n,.str ns[i].nm,.str ns[i].sb,.int .i64 ns[i].pl,I]]) _ o0 o1
   have ap:∀m,(g ++ m).take g.length = g:=λm=>by simp
   have ad:Nat.ble g.length (g ++ B).length = true:=qe (by simp)
   generalize ns[i] = nd at *
   obtain ⟨op,n,nm,sb,pl,ins⟩:=nd
   simp only at *
   generalize hJ:g ++ B = J at *
   simp only [sA.1,qm4,seval,ht,e0,U,S,M,c1E,Td,Tw,y0,y1,y2,ha,o2,o3,Id,Is,Iw,Il,ad] at he
   generalize hr:qm g.length Wd (.loop qm3) _ = r2 at he
   obtain ⟨x,E,rfl,aj,rfl,a1,f10,f11,f12,f0,rfl⟩:=known hr (ab _ ⟨_,0,rfl,x8,x8,by simp only [sB.1,seval,ht,U],by simp only [sB.1,seval,ht,S],by simp only [sB.1,seval,ht,M],by simp only [sB.1,seval,ht,Id],x8,by simp only [sB.1,seval,ht,Int.natCast_zero],z14,zo⟩)
   simp only [sB.1,seval,a1,f12,w] at he
   subst he
   refine .inl ⟨_,k - 1,rfl,zo,_,i + 1,B ++ [_],by rw [<-List.append_assoc,hJ],by simp only [qbf,a1],?_,?_,?_,?_,zo⟩
   all_goals simp only [sB.1,seval,a1,f0,f10,f11,f12,w]
  ·have c1E:ilt (i:Int) (ns.length:Int) = false:=by rw [qf];simp;omega
   simp only [sB.1,qm4,seval,ht,S,M,c1E] at he
   subst he
   exact .inr ⟨_,_,rfl,by simp,_,B,rfl,Y0,z14,rfl⟩
 have hp:ilt 0 (ns.length:Int) = true:=by
  have:=List.length_pos_iff.2 hs.1
  rw [qf]
  simp
  omega
 generalize hw:Wd _ _ g = w
 rw [qi 24 c24] at hw
 simp only [sB.1,c24,seval,Td,Tw,Tl] at hw
 generalize hr:qm g.length Wd (.loop qm4) _ = r at hw
 obtain ⟨x,E,rfl,tt,B,rfl,ht,f0,rfl⟩:=known hr (loop ns.length _ ⟨_,0,[],by rw [jK],X1,by simp only [sB.1,seval,Td],X1,X2,X1,zo⟩)
 simp only [sB.1,seval,ht,f0,Td,Tw,Tl,hp] at hw
 subst hw
 rfl
end
theorem qCp {nb mb sb:Bool} {lo hi n:Int} {nm sub:Str} {k:Nat} (h:fB nb mb sb lo hi n nm sub k = true):lo <= (k:Int)/\(k:Int) <= hi/\(nb = true\/n = 0):=by
 rw [fB] at h
 simp only [jm,Bool.or_eq_true,qaT,decide_eq_true_eq,beq_iff_eq] at h
 exact ⟨h.2.2.2.1,h.2.2.2.2,h.1⟩
def KA (op:Int) (k:Nat):Prop:=(op = 25/\k = 3)\/(op = 23/\k = 2)\/(op = 24/\k = 2)\/qhp op k
theorem qdK {op n:Int} {nm sub:Str} {k:Nat} (h:qfT op n nm sub k = true):KA op k/\(op = 12->0 <= n/\n < 4)/\(op = 0\/op = 12\/n = 0)/\(op = 0->0 <= n):=by
 by_cases ho:0 <= op/\op <= 25
 ·have:op = 0\/op = 12\/op = 1\/op = 2\/op = 3\/op = 4\/op = 5\/op = 6\/op = 7\/op = 8\/op = 9\/op = 10\/op = 11\/op = 13\/op = 14\/op = 15\/op = 16\/op = 17\/op = 18\/op = 19\/op = 20\/op = 21\/op = 22\/op = 23\/op = 24\/op = 25:=zo
  rcases this with rfl | rfl | rfl | rfl | rfl | rfl | rfl | rfl | rfl | rfl | rfl | rfl | rfl | rfl | rfl | rfl | rfl | rfl | rfl | rfl | rfl | rfl | rfl | rfl | rfl | rfl
  ·obtain ⟨h1,h2⟩:=(jm _ _).mp (show (fB _ _ _ _ _ n nm sub k && ile 0 n) = true from h)
   obtain ⟨k1,k2,k3⟩:=qCp h1
   simp only [qaT,decide_eq_true_eq] at h2
   exact ⟨by unfold KA qhp;omega,λh=>zo,.inl rfl,λ_=>h2⟩
  ·obtain ⟨h1,h2⟩:=(jm _ _).mp (show (fB _ _ _ _ _ n nm sub k && (ile 0 n && ilt n 4)) = true from h)
   obtain ⟨k1,k2,k3⟩:=qCp h1
   simp only [jm,qaT,qf,decide_eq_true_eq] at h2
   exact ⟨by unfold KA qhp;omega,λ_=>h2,.inr (.inl rfl),λh=>zo⟩
  all_goals
   first
   | (obtain ⟨k1,k2,k3⟩:=qCp (show fB false _ _ _ _ n nm sub k = true from h)
      exact ⟨by unfold KA qhp;omega,λh=>zo,.inr (.inr (by rcases k3 with h | h;cases h;exact h)),λh=>zo⟩)
   | (obtain ⟨k1,k2,k3⟩:=qCp ((jm _ _).mp (show (fB false _ _ _ _ n nm sub k && _) = true from h)).1
      exact ⟨by unfold KA qhp;omega,λh=>zo,.inr (.inr (by rcases k3 with h | h;cases h;exact h)),λh=>zo⟩)
 ·rw [qie ho] at h
  cases h
structure Nms where
 vars:List (Str×Str×Tp)
 ports:List (Str×Tp)
 bagq:Bool
 oth:List (Str×Str×Tp)
def nvV (x:Str×Str×Tp):qa:=.agg (.str x.1 :: .str x.2.1 :: x.2.2.enc)
def npV (x:Str×Tp):qa:=.agg (.str x.1 :: x.2.enc)
def qfr (N:Nms):List qa:=[.lst (N.vars.map nvV) .no,.lst (N.ports.map npV) .no,.bool N.bagq,.lst (N.oth.map nvV) .no]
def qw:Tp:=.mk 0 []
def qaw:Tp:=.mk 1 []
def qV:Tp->Int
 | .mk k _=>k
def qcz:Tp->List Tp
 | .mk _ l=>l
abbrev qcI:=Tp×Int
def qc6 (f:Exl->qcI) (k:List Tp->qcI):List Exl->List Tp->qcI
 | [],ts=>k ts
 | a :: aS,ts=>bif !((f a).2 == 0) then (qw,(f a).2) else qc6 f k aS (ts ++ [(f a).1])
def ifT (b:Bool) (t:Tp):qcI:=bif b then (t,0) else (qw,12)
def qBN (op:Int):Bool:=ile 7 op && ile op 10
def qaI (N:Nms) (op n:Int) (nm sb:Str) (ts:List Tp):qcI:=
 bif qBN op then (match N.ports.find? (λp=>p.1 == nm) with
  | none=>(qw,10)
  | some p=>bif !N.bagq then (qw,10) else bif op == 7 then (qw,0) else bif op == 8 then (qaw,0) else bif op == 9 then ifT (qV p.2 == 0) qw else ifT (qaX (ts.getD 0 qw) p.2) p.2)
 else bif op == 0 then (qw,0) else bif op == 1 || op == 2 then (qaw,0) else bif op == 3 then (.mk 2 [],0)
 else bif op == 4 then (match N.vars.find? (λx=>x.2.1 == nm) with | some x=>(x.2.2,0) | none=>(qw,10))
 else bif op == 5 then (match N.oth.find? (λx=>x.1 == nm && x.2.1 == sb) with | some x=>(x.2.2,0) | none=>(qw,10))
 else bif op == 6 then (bif ilt 3 (qbW (.mk 3 ts):Nat) then (qw,7) else (.mk 3 ts,0))
 else bif op == 11 then (bif N.bagq then (.mk 3 [qw,qw],0) else (qw,10))
 else bif op == 12 then ifT (qV (ts.getD 0 qw) == 3 && ilt n ((qcz (ts.getD 0 qw)).length:Nat)) ((qcz (ts.getD 0 qw)).getD n.toNat qw)
 else bif op == 14 || op == 23 || op == 24 then ifT (ts.all λt=>qV t == 1) qaw
 else bif op == 20 || op == 21 || op == 22 then ifT (ts.all λt=>qaX t (ts.getD 0 qw)) qaw
 else bif op == 25 then ifT (qV (ts.getD 0 qw) == 1 && qaX (ts.getD 1 qw) (ts.getD 2 qw)) (ts.getD 1 qw)
 else ifT (ts.all λt=>qV t == 0) qw
def qX (N:Nms):Nat->Exl->qcI
 | 0,_=>(qw,0)
 | d + 1,.mk op n nm sb aS=>qc6 (qX N d) (qaI N op n nm sb) aS []
structure qlh (N:Nms):Prop where
 v:∀x ∈ N.vars,tpS 3 x.2.2
 p:∀x ∈ N.ports,tpS 3 x.2
 o:∀x ∈ N.oth,tpS 3 x.2.2
 vl:N.vars.length <= 1000
 pl:N.ports.length <= 1000
 ol:N.oth.length <= 1000
theorem qbu (d:Nat):tpS d qw:=by
 cases d with
 | zero=>exact rfl
 | succ d=>exact ⟨by simp,λx hx=>by cases hx⟩
theorem qe9 (d:Nat) (k:Int):tpS d (.mk k []):=by
 cases d with
 | zero=>exact rfl
 | succ d=>exact ⟨by simp,λx hx=>by cases hx⟩
theorem qvD {d:Nat} {t:Tp} (h:tpS d t):∀x ∈ qcz t,tpS d x:=by
 obtain ⟨k,l⟩:=t
 cases d with
 | zero=>intro x hx;have:l = []:=h;subst this;cases hx
 | succ d=>exact λx hx=>qlZ (h.2 x hx)
theorem qiV {d:Nat} {ts:List Tp} (h:∀t ∈ ts,tpS d t) (i:Nat):tpS d (ts.getD i qw):=by
 rw [List.getD_eq_getElem?_getD]
 cases hx:ts[i]? with
 | none=>exact qbu d
 | some v=>exact h v (List.mem_of_getElem? hx)
theorem qye {N:Nms} (hN:qlh N) {op n:Int} {nm sb:Str} {d:Nat} {ts:List Tp} (h:∀t ∈ ts,tpS (3 + d) t) (hl:ts.length <= 20):tpS (3 + (d + 1)) (qaI N op n nm sb ts).1:=by
 have up:∀{t},tpS (3 + d) t->tpS (3 + (d + 1)) t:=λh=>qlZ h
 have b3:∀{t},tpS 3 t->tpS (3 + (d + 1)) t:=λh=>qBZ zo h
 have fT:∀b t,tpS (3 + (d + 1)) t->tpS (3 + (d + 1)) (ifT b t).1:=λb t ht=>by
  cases b
  ·exact qbu _
  ·exact ht
 unfold qaI
 cases qBN op with
 | true=>
  rw [cond_true]
  cases hx:N.ports.find? (λp=>p.1 == nm) with
  | none=>exact qbu _
  | some p=>
   have hp:=hN.p p (List.mem_of_find?_eq_some hx)
   simp only
   cases N.bagq
   ·exact qbu _
   ·cases op == 7
    ·cases op == 8
     ·cases op == 9
      ·exact fT _ _ (b3 hp)
      ·exact fT _ _ (qbu _)
     ·exact qe9 _ _
    ·exact qbu _
 | false=>
  rw [cond_false]
  cases op == 0
  ·cases op == 1 || op == 2
   ·cases op == 3
    ·cases op == 4
     ·cases op == 5
      ·cases op == 6
       ·cases op == 11
        ·cases op == 12
         ·cases op == 14 || op == 23 || op == 24
          ·cases op == 20 || op == 21 || op == 22
           ·cases op == 25
            ·exact fT _ _ (qbu _)
            ·exact fT _ _ (up (qiV h 1))
           ·exact fT _ _ (qe9 _ _)
          ·exact fT _ _ (qe9 _ _)
         ·exact fT _ _ (up (qiV (qvD (qiV h 0)) n.toNat))
        ·cases N.bagq
         ·exact qbu _
         ·exact ⟨by simp,λx hx=>by
           have:x = qw:=by simpa using hx
           rw [this]
           exact qbu _⟩
       ·rw [cond_true]
        cases ilt 3 (qbW (.mk 3 ts):Nat)
        ·exact ⟨hl,h⟩
        ·exact qbu _
      ·rw [cond_true,cond_false,cond_false,cond_false,cond_false]
       cases hx:N.oth.find? (λx=>x.1 == nm && x.2.1 == sb) with
       | none=>exact qbu _
       | some p=>exact b3 (hN.o p (List.mem_of_find?_eq_some hx))
     ·rw [cond_true,cond_false,cond_false,cond_false]
      cases hx:N.vars.find? (λx=>x.2.1 == nm) with
      | none=>exact qbu _
      | some p=>exact b3 (hN.v p (List.mem_of_find?_eq_some hx))
    ·exact qe9 _ _
   ·exact qe9 _ _
  ·exact qbu _
theorem qqA {f:Exl->qcI} {k:List Tp->qcI} {d e:Nat} (hk:∀ts:List Tp,(∀t ∈ ts,tpS d t)->ts.length <= 20->tpS e (k ts).1):∀(aS:List Exl) (ts:List Tp),(∀a ∈ aS,tpS d (f a).1)->(∀t ∈ ts,tpS d t)->ts.length + aS.length <= 20->tpS e (qc6 f k aS ts).1
 | [],ts,hf,h,hl=>by rw [qc6];exact hk ts h (by simpa using hl)
 | a :: aS,ts,hf,h,hl=>by
  rw [qc6]
  cases (f a).2 == 0 with
  | false=>exact qbu _
  | true=>
   refine qqA hk aS _ (λa ha=>hf a (List.mem_cons_of_mem _ ha)) (λt ht=>?_) (by simp at hl ⊢;omega)
   rcases List.mem_append.1 ht with ht | ht
   ·exact h t ht
   ·rw [List.mem_singleton.1 ht];exact hf a (List.mem_cons_self ..)
theorem qmY {f:Exl->qcI} {k:List Tp->qcI} {aS:List Exl} {i:Nat} {ts:List Tp} (hi:i < aS.length):qc6 f k (aS.drop i) ts = bif !((f aS[i]).2 == 0) then (qw,(f aS[i]).2) else qc6 f k (aS.drop (i + 1)) (ts ++ [(f aS[i]).1]):=by
 rw [List.drop_eq_getElem_cons hi,qc6]
end Go.Proofs.YtnibchoenjmmjaaGreatDoor.AE
