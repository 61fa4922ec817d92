/- A part of the proof: the abstract executor and what goes through it (part 14). No condition. -/
import Derived.Test.YtnibchoenjmmjaaGreatDoorMr13
import Derived.Test.YtnibchoenjmmjaaGreatDoorMr7
import Derived.Test.YtnibchoenjmmjaaGreatDoorMr10
set_option maxRecDepth 100000
set_option maxHeartbeats 0
open List renaming getElem?_append_left→ja,getElem?_eq_some_iff→jd,append_nil→jH,nil_append→j6,cons_append→jy
open Bool renaming and_eq_true→jk,true_and→jX,and_true→jx,not_true→j3,not_false→j4
namespace Go.Proofs.YtnibchoenjmmjaaGreatDoor.AE
open Go.AE
def qiF (n:Int):Val->Res
 | .mk k _ _ l=>bif !(k == 3) then qa3 1 else match qiz l n with | some v=>(v,0) | none=>qa3 1
def qkK (op:Int):List Val->Res
 | [v]=>bif isI v then (.mk 0 (qbH 16 0 (qbg v)).1 [] [],(qbH 16 0 (qbg v)).2) else qa3 1
 | [v,w]=>bif isI v && isI w then (.mk 0 (qbH op (qbg v) (qbg w)).1 [] [],(qbH op (qbg v) (qbg w)).2) else qa3 1
 | _=>qa3 1
def qz1:Val->Res
 | .mk k n _ _=>bif !(k == 1) then qa3 1 else qbq (n == 0)
def qaN (E:qeZ) (nd:Nd) (vs:List Val):Res:=
 bif nd.op == 0 then qcl nd.n else bif nd.op == 1 || nd.op == 2 then qbq (nd.op == 1) else bif nd.op == 3 then qaG (.mk 2 0 nd.nm []) else
 bif nd.op == 4 || nd.op == 5 then qz2 E nd.op nd.nm nd.sb nd.pl else bif nd.op == 11 then (.mk 3 0 [] [.mk 0 E.en [] [],.mk 0 E.ed [] []],0) else
 bif nd.op == 7 || nd.op == 8 || nd.op == 9 || nd.op == 10 then qi6 E nd.op nd.pl vs else bif nd.op == 6 then qaG (.mk 3 0 [] vs) else
 bif nd.op == 12 then qiF nd.n (vs.getD 0 qM) else bif nd.op == 20 then qbq (qk3 (vs.getD 0 qM) (vs.getD 1 qM) == 0) else
 bif nd.op == 21 then qbq (ilt (qk3 (vs.getD 0 qM) (vs.getD 1 qM)) 0) else bif nd.op == 22 then qbq (ile (qk3 (vs.getD 0 qM) (vs.getD 1 qM)) 0) else
 bif nd.op == 14 then qz1 (vs.getD 0 qM) else qkK nd.op vs
def qdf (E:qeZ) (nd:Nd) (ev:Int->Res):Res:=bif qlU nd.op then qce nd.op nd.ins ev else qcC ev (qaN E nd) nd.ins []
def qgS (op:Int) (n:Nat):Prop:=((op = 0\/op = 1\/op = 2\/op = 3\/op = 4\/op = 5\/op = 7\/op = 8\/op = 9\/op = 11)/\n = 0)\/(op = 6/\1 <= n/\n <= 4)\/((op = 10\/op = 12\/op = 13\/op = 14)/\n = 1)\/((op = 15\/op = 16\/op = 17\/op = 18\/op = 19\/op = 20\/op = 21\/op = 22)/\n = 2)
structure EnvOK (E:qeZ):Prop where
 vl:E.vals.length <= 1000
 bl:E.bag.length <= 1000
 ol:E.oth.length <= 1000
 bs:∀l ∈ E.bag,l.length <= 200/\qhZ (l.map qbg)/\∀v ∈ l,qr 3 v = true
section
variable {g:List qb} {H:Nat->Option qb}
theorem qjh {G:List qb} (h:G.take g.length = g):G = g ++ G.drop g.length:=by
 have:=List.take_append_drop g.length G
 rw [h] at this
 exact this.symm
theorem qI {v:qa} {G:List qb} (h:G.take g.length = g):∃m,qaE g.length (.ret v) G false = (.ret v,g ++ m,false)/\(v.lower g.length = false->g ++ m = G):=by
 rw [qgu]
 cases hv:v.lower g.length with
 | true=>exact ⟨[],by rw [cond_true,h,jH],λh=>by cases h⟩
 | false=>exact ⟨G.drop g.length,by rw [cond_false,<-qjh h],λ_=>(qjh h).symm⟩
theorem qlT {H:Nat->Option qb} {v:Val} {cs:List qa} (hv:At H v cs) (hg:Cov H g):Wd (.fn 52 [] []) [.agg cs] g = some (.ret (.agg (bif qr 3 v then cs ++ [.int .i64 0] else [.int .i64 0,.int .i64 0,.str [],.lst [] .full,.int .i64 1])),g,false):=by
 have h1:=qel hv (g ++ [.cells cs,.cells [.int .i64 0,.int .i64 0,.str [],.lst [] .full,.int .i64 0]]) (hg.more _)
 have h2:∀h,Wd (.fn 55 [] []) [.int .i64 1] h = some (.ret (rI 0 1),h,false):=λh=>qay 1
 obtain ⟨k,n,s,l⟩:=v
 obtain ⟨L,rfl,hL⟩:=hv.lp
 obtain ⟨J,I,E,O⟩:=hL.facts
 have B:=hL.low hg
 have M:Nat.ble g.length (g.length + 1) = true:=qf zo
 cases hr:qr 3 (.mk k n s l) with
 | true=>
  rw [hr] at h1
  rw [qm 52 c52]
  simp only [sB.1,c52,seval,qbd,J,I,E,B,M,h1,splice,Bool.true_or,cond_true,jy,j6]
 | false=>
  rw [hr] at h1
  rw [qm 52 c52]
  simp only [sB.1,c52,seval,qbd,J,I,E,B,h1,h2,rI,splice,cond_false]
theorem At.cut1 {v:Val} {cs:List qa} (h:At H v cs):cut cs 0 (some 4) = some (.agg cs):=by
 have e:=(At.elem (H:=H) (l:=[v]) (ess:=[cs]) rfl λi a b=>by
  have:i = 0:=by simp at a;omega
  subst this
  exact h).2 0 (by simp)
 simpa using e
theorem qFI (base:Nat) (a b:Int) (h:List qb):hop base (.lit 4 [.int .i64 0,.int .i64 0,.str [],.lst [] .full] 2 [0,1]) [.agg [.int .i64 0,.int .i64 a,.str [],.lst [] .full],.agg [.int .i64 0,.int .i64 b,.str [],.lst [] .full]] h = some (.sl h.length 0 2 2 0,h ++ [.cells [.int .i64 0,.int .i64 a,.str [],.lst [] .full,.int .i64 0,.int .i64 b,.str [],.lst [] .full]],false):=xk
theorem VSl.one {b:Nat} {G:List qb} {v:Val} {V:qa} (h:VSl H G b [v] V):∃id cs,V = .sl id 0 1 1 4/\b <= id/\id < G.length/\G[id]? = some (.cells cs)/\At H v cs:=by
 rcases h with ⟨e,_⟩ | ⟨id,rs,rfl,h1,h2,h3,h4,h5,h6⟩
 ·cases e
 ·obtain ⟨r,rfl⟩:=List.length_eq_one_iff.1 h5
  exact ⟨id,r,rfl,h1,(jd.1 h3).1,by simpa using h3,h6 0 (by simp) (by simp)⟩
theorem VSl.two {b:Nat} {G:List qb} {v w:Val} {V:qa} (h:VSl H G b [v,w] V):∃id cs ds,V = .sl id 0 2 2 4/\b <= id/\id < G.length/\G[id]? = some (.cells (cs ++ ds))/\At H v cs/\At H w ds:=by
 rcases h with ⟨e,_⟩ | ⟨id,rs,rfl,h1,h2,h3,h4,h5,h6⟩
 ·cases e
 ·obtain ⟨r,q,rfl⟩ :∃r q,rs = [r,q]:=by
   match rs,h5 with
   | [r,q],_=>exact ⟨r,q,rfl⟩
  exact ⟨id,r,q,rfl,h1,(jd.1 h3).1,by simpa using h3,h6 0 (by simp) (by simp),h6 1 (by simp) (by simp)⟩
theorem qs8 (E:qeZ) (hE:EnvOK E) (R D N:Nat) (dn:Int->Bool) (ev:Int->Res) (ns:List Nd) {TV OL:qa} (hR:R < g.length) (hb:g[R]? = some (.cells [TV,.lst (E.vals.map qa6) .no,qaV E.bag,.int .i64 E.en,.int .i64 E.ed,OL,.sl D 0 N N 0])) (hO:qd5 H E.oth OL) (hg:Cov H g) (hT:qen H ns TV) (hD:qb1 H g D N dn ev) (aB:∀i,dn i = true->I64 (qbg (ev i).1)) (i:Nat) (hi:i < ns.length) (hc:qlU ns[i].op = false) (aI:qgS ns[i].op ns[i].ins.length) (b1:∀j ∈ ns[i].ins,0 <= j/\j < N) (hn:qcj dn ev ns[i].ins = -1) :
  ∃rs m,Wd (.fn 26 [] []) [.ptr R 0,.int .i64 (i:Nat)] g = some (.ret (.agg rs),g ++ m,false)/\RAt (ext H g m) (qcC ev (qaN E ns[i]) ns[i].ins []) rs:=by
 obtain ⟨ba,I,b6,hlt,x1,x2,hI⟩:=hT.item hi hg
 subst b6
 obtain ⟨Id,Is,Iw,Il⟩:=hI.facts
 generalize ns[i] = nd at *
 obtain ⟨op,n,nm,sb,pl,ins⟩:=nd
 simp only at *
 have ww:∀e h,Wd (.fn 55 [] []) [.int .i64 e] h = some (.ret (rI 0 e),h,false):=λe h=>qay e
 have w7:=λ(x:Int) h=>qaR (h:=h) x
 have w8:=λb h=>qlF (g:=h) b
 simp only [rI] at w7 ww
 have d:∀id o n c w:Nat,(qa.sl id o n c w).dim = .sl id o n c w:=λ_ _ _ _ _=>rfl
 have st:∀id o n c w:Nat,(qa.sl id o n c w).storable = true:=λ_ _ _ _ _=>rfl
 have dw:∀id o n c w i t,qz (qa.sl id o n c w) i t = t:=λ_ _ _ _ _ _ _=>rfl
 have a8:Nat.ble g.length g.length = true:=qf zo
 have a7:Nat.ble g.length (g.length + 1) = true:=qf zo
 obtain ⟨aR,aQ,aP⟩ :(op == 23) = false/\(op == 24) = false/\(op == 25) = false:=by
  simpa [qlU] using hc
 obtain ⟨G0,ai⟩ :∃G0,G0 = g ++ [zr5,qb.cells [.int .i64 op,.int .i64 n,.str nm,.str sb,.int .i64 pl,I]]:=⟨_,rfl⟩
 have b9:G0.length = g.length + 2:=by rw [ai];simp
 have loop:=qlX R D N dn ev (qaN E ⟨op,n,nm,sb,pl,ins⟩) hR hb hg hD [.int .i64 op,.int .i64 n,.str nm,.str sb,.int .i64 pl,I] hI b1 (by rcases aI with ⟨_,h⟩ | ⟨_,_,h⟩ | ⟨_,h⟩ | ⟨_,h⟩ <;> omega) G0 ai
 generalize hw:Wd _ _ g = w
 rw [qm 26 c26] at hw
 simp only [sA.1,c26,seval,hR,hb,hlt,x1,x2,Id,Is,Iw,Il,d,st,dw,a8,a7,aR,aQ,aP] at hw
 generalize hr:qj g.length Wd (.loop qj5) _ = r at hw
 obtain ⟨x,bb,rfl,tt,G,V,vs,rs,rfl,ht,e0,e4,e5,⟨rfl,e6,aD,bc,ae,hV,hA,aE,hM⟩ | ⟨rfl,hk,a6,b4,B⟩⟩:=qaH hr (loop ins.length _ ⟨_,G0,0,.lst [] .full,[],by rw [ai],Y1,Y1,Y1,Y1,Y1,by simp only [sB.1,seval,Id],Y1,u4,zo,rfl,λ_ _=>rfl,zo,by rw [ai];exact hg.more _,.inl ⟨rfl,rfl⟩,rfl,hn,λv hv=>by cases hv⟩)
 ·rw [hA]
  have old:∀i,i < g.length->G[i]? = g[i]?:=λi hi=>by rw [aD i zo,ai,ja hi]
  have GR:R < G.length:=zo
  have U:=(old R hR).trans hb
  have a6:g.length < G.length:=zo
  have S:g.length + 1 < G.length:=zo
  have hz:G[g.length]? = some zr5:=by rw [aD _ zo,ai,qY];rfl
  have aa:G[g.length + 1]? = some (.cells [.int .i64 op,.int .i64 n,.str nm,.str sb,.int .i64 pl,I]):=by rw [aD _ zo,ai,qbb];rfl
  have aT:G.take g.length = g:=by
   apply List.ext_getElem?
   intro i
   rw [List.getElem?_take]
   split
   ·exact old i ‹_›
   ·rw [List.getElem?_eq_none zo]
  have O:∀b,(G.set g.length b).take g.length = g:=λb=>by rw [List.take_set_of_le zo,aT]
  have up:∀{m r rs},RAt H r rs->RAt (ext H g m) r rs:=λh=>h.mono (qe6 hg)
  obtain ⟨Vd,Vs,Vw,Vl⟩:=hV.facts
  rcases aI with ⟨ho,h0⟩ | ⟨rfl,h1,h4⟩ | ⟨ho,h1⟩ | ⟨ho,h2⟩
  ·have:vs = []:=List.length_eq_zero_iff.1 zo
   subst this
   rcases ho with rfl | rfl | rfl | rfl | rfl | rfl | rfl | rfl | rfl | rfl
   ·simp only [sA.1,seval,ht,e0,e4,e5,e6,hz,aa,a6,S,GR,U,a8,a7,w7] at hw
    subst hw
    obtain ⟨m,hm,_⟩:=qI (v:=_) (O _)
    exact ⟨_,m,congrArg some hm,up (RAt.whole H n)⟩
   ·simp only [sA.1,seval,ht,e0,e4,e5,e6,hz,aa,a6,S,GR,U,a8,a7,w8] at hw
    subst hw
    obtain ⟨m,hm,_⟩:=qI (v:=_) (O _)
    exact ⟨_,m,congrArg some hm,up (RAt.truth H true)⟩
   ·simp only [sA.1,seval,ht,e0,e4,e5,e6,hz,aa,a6,S,GR,U,a8,a7,w8] at hw
    subst hw
    obtain ⟨m,hm,_⟩:=qI (v:=_) (O _)
    exact ⟨_,m,congrArg some hm,up (RAt.truth H false)⟩
   ·obtain ⟨rs,a1,B⟩:=qdC (At.leaf H 2 0 nm) ae
    obtain ⟨k',n',s',l',L',e,rfl,J⟩:=B.cells
    obtain ⟨d2,s2,w2,n2⟩:=J.facts
    have M:=J.low hg
    simp only [sA.1,seval,ht,e0,e4,e5,e6,hz,aa,a6,S,GR,U,a8,a7,a1,d2,s2,w2,M] at hw
    subst hw
    obtain ⟨m,hm,_⟩:=qI (v:=_) (O _)
    exact ⟨_,m,congrArg some hm,up B⟩
   ·obtain ⟨rs,a1,B⟩:=qgR E ae R GR U hO hE.ol hE.vl 4 n nm sb pl I Id Is Iw
    obtain ⟨k',n',s',l',L',e,rfl,J⟩:=B.cells
    obtain ⟨d2,s2,w2,n2⟩:=J.facts
    have M:=J.low hg
    simp only [sA.1,seval,ht,e0,e4,e5,e6,hz,aa,a6,S,GR,U,a8,a7,a1,d2,s2,w2,M,Id,Is,Iw] at hw
    subst hw
    obtain ⟨m,hm,_⟩:=qI (v:=_) (O _)
    exact ⟨_,m,congrArg some hm,up B⟩
   ·obtain ⟨rs,a1,B⟩:=qgR E ae R GR U hO hE.ol hE.vl 5 n nm sb pl I Id Is Iw
    obtain ⟨k',n',s',l',L',e,rfl,J⟩:=B.cells
    obtain ⟨d2,s2,w2,n2⟩:=J.facts
    have M:=J.low hg
    simp only [sA.1,seval,ht,e0,e4,e5,e6,hz,aa,a6,S,GR,U,a8,a7,a1,d2,s2,w2,M,Id,Is,Iw] at hw
    subst hw
    obtain ⟨m,hm,_⟩:=qI (v:=_) (O _)
    exact ⟨_,m,congrArg some hm,up B⟩
   ·obtain ⟨rs,a1,B⟩:=qeK E ae R GR U hE.bl hE.bs 7 n nm sb pl I Id Is Iw zo [] Vd Vs Vw (λh=>by cases h)
    obtain ⟨k',n',s',l',L',e,rfl,J⟩:=B.cells
    obtain ⟨d2,s2,w2,n2⟩:=J.facts
    have M:=J.low hg
    simp only [sA.1,seval,ht,e0,e4,e5,e6,hz,aa,a6,S,GR,U,a8,a7,a1,d2,s2,w2,M,Id,Is,Iw,Vd,Vw] at hw
    subst hw
    obtain ⟨m,hm,_⟩:=qI (v:=_) (O _)
    exact ⟨_,m,congrArg some hm,up B⟩
   ·obtain ⟨rs,a1,B⟩:=qeK E ae R GR U hE.bl hE.bs 8 n nm sb pl I Id Is Iw zo [] Vd Vs Vw (λh=>by cases h)
    obtain ⟨k',n',s',l',L',e,rfl,J⟩:=B.cells
    obtain ⟨d2,s2,w2,n2⟩:=J.facts
    have M:=J.low hg
    simp only [sA.1,seval,ht,e0,e4,e5,e6,hz,aa,a6,S,GR,U,a8,a7,a1,d2,s2,w2,M,Id,Is,Iw,Vd,Vw] at hw
    subst hw
    obtain ⟨m,hm,_⟩:=qI (v:=_) (O _)
    exact ⟨_,m,congrArg some hm,up B⟩
   ·obtain ⟨rs,a1,B⟩:=qeK E ae R GR U hE.bl hE.bs 9 n nm sb pl I Id Is Iw zo [] Vd Vs Vw (λh=>by cases h)
    obtain ⟨k',n',s',l',L',e,rfl,J⟩:=B.cells
    obtain ⟨d2,s2,w2,n2⟩:=J.facts
    have M:=J.low hg
    simp only [sA.1,seval,ht,e0,e4,e5,e6,hz,aa,a6,S,GR,U,a8,a7,a1,d2,s2,w2,M,Id,Is,Iw,Vd,Vw] at hw
    subst hw
    obtain ⟨m,hm,_⟩:=qI (v:=_) (O _)
    exact ⟨_,m,congrArg some hm,up B⟩
   ·have hl:=qFI g.length E.en E.ed G
    simp only [sA.1,seval,ht,e0,e4,e5,e6,hz,aa,a6,S,GR,U,a8,a7,hl,Id,Is,Iw] at hw
    subst hw
    have hK:(G.set g.length (.cells [.int .i64 3,.int .i64 0,.str [],.sl G.length 0 2 2 0,.int .i64 0]) ++ [qb.cells [.int .i64 0,.int .i64 E.en,.str [],.lst [] .full,.int .i64 0,.int .i64 E.ed,.str [],.lst [] .full]]).take g.length = g:=by rw [List.take_append_of_le_length (by simp;omega),O]
    obtain ⟨m,hm,au⟩:=qI (v:=.agg [.int .i64 3,.int .i64 0,.str [],.sl G.length 0 2 2 0,.int .i64 0]) hK
    have aA:=au (by simp only [qa.lower,qt,jX,jx];exact qde zo)
    refine ⟨_,m,congrArg some hm,[.int .i64 3,.int .i64 0,.str [],.sl G.length 0 2 2 0],rfl,?_⟩
    have e1:ext H g m G.length = some (.cells [[qa.int .i64 0,.int .i64 E.en,.str [],.lst [] .full],[.int .i64 0,.int .i64 E.ed,.str [],.lst [] .full]].flatten):=by
     rw [qge zo,aA,List.getElem?_append_right (by simp)]
     simp
    refine (LP.at (l:=[.mk 0 E.en [] [],.mk 0 E.ed [] []]) ⟨_,rfl,λi a b=>?_,.inr ⟨_,0,rfl,e1⟩⟩ 3 0 [])
    have:i = 0\/i = 1:=by simp at a;omega
    rcases this with rfl | rfl
    ·exact At.leaf _ 0 _ []
    ·exact At.leaf _ 0 _ []
  ·obtain ⟨H1,aC⟩ :∃H1:Nat->Option qb,H1 = λi=>if i < g.length then H i else if i = g.length then none else G[i]?:=⟨_,rfl⟩
   have o1:∀i,i < g.length->H1 i = H i:=λi hi=>by rw [aC];exact if_pos hi
   have o2:∀i,g.length < i->H1 i = G[i]?:=λi hi=>by rw [aC];simp only;rw [if_neg zo,if_neg zo]
   have o3:H1 g.length = none:=by rw [aC];simp
   have aV:Sub H H1:=λi x hx=>by rw [o1 i (hg.lt hx)];exact hx
   have b3:Cov H1 G:=λi x hx=>by
    rcases Nat.lt_trichotomy i g.length with h | h | h
    ·rw [o1 i h] at hx;exact ae i x hx
    ·subst h;rw [o3] at hx;cases hx
    ·rw [o2 i h] at hx;exact hx
   have aX:LP H1 vs V:=hV.lp aV λi a _ _=>o2 i zo
   have aH:=aX.at 3 0 []
   have a1:=qlT aH b3
   have Vc:V.cells = [V]:=by rcases hV with ⟨_,rfl⟩ | ⟨id,rs,rfl,_⟩ <;> rfl
   have e:qaN E ⟨6,n,nm,sb,pl,ins⟩ vs = qaG (.mk 3 0 [] vs):=rfl
   rw [e,qaG]
   have aW:vs ≠ []:=λh=>by rw [h] at aE;simp at aE;omega
   cases aG:qr 3 (.mk 3 0 [] vs) with
   | false=>
    rw [aG,cond_false] at a1
    simp only [sA.1,seval,ht,e0,e4,e5,e6,hz,aa,a6,S,GR,U,a8,a7,a1,Vd,Vs,Vw,Vc,Id,Is,Iw] at hw
    subst hw
    obtain ⟨m,hm,_⟩:=qI (v:=_) (O _)
    exact ⟨_,m,congrArg some hm,up (RAt.wrong H 1)⟩
   | true=>
    rw [aG,cond_true] at a1
    simp only [jy,j6] at a1
    simp only [sA.1,seval,ht,e0,e4,e5,e6,hz,aa,a6,S,GR,U,a8,a7,a1,Vd,Vs,Vw,Vc,Id,Is,Iw] at hw
    subst hw
    obtain ⟨m,hm,au⟩:=qI (v:=.agg [.int .i64 3,.int .i64 0,.str [],V,.int .i64 0]) (O (.cells [.int .i64 3,.int .i64 0,.str [],V,.int .i64 0]))
    have b5:V.lower g.length = false:=by
     rcases hV with ⟨h,_⟩ | ⟨id,rs,rfl,h1,_⟩
     ·exact absurd h aW
     ·exact qde zo
    have aA:=au (by simp only [qa.lower,qt,b5,jX,jx])
    have aU:Sub H1 (ext H g m):=λi x hx=>by
     rcases Nat.lt_trichotomy i g.length with h | h | h
     ·rw [qe5 h,<-o1 i h];exact hx
     ·subst h;rw [o3] at hx;cases hx
     ·rw [o2 i h] at hx
      rw [qge zo,aA,List.getElem?_set_ne zo]
      exact hx
    exact ⟨_,m,congrArg some hm,_,rfl,aH.mono aU⟩
  ·obtain ⟨v,rfl⟩ :∃v,vs = [v]:=by
    match vs,(show vs.length = 1 by omega) with
    | [v],_=>exact ⟨v,rfl⟩
   obtain ⟨id,cs,rfl,aN,ac,ab,hv⟩:=hV.one
   have b2:=hv.length
   obtain ⟨k1,n1,z1,l1,L1,rfl,rfl,aj⟩ :∃k n s l L,v = .mk k n s l/\cs = [.int .i64 k,.int .i64 n,.str s,L]/\LP H l L:=by
    obtain ⟨k,n,s,l⟩:=v
    obtain ⟨L,e,h⟩:=hv.lp
    exact ⟨k,n,s,l,L,rfl,e,h⟩
   obtain ⟨d1,s1,w1,q1⟩:=aj.facts
   have aM:=aj.low hg
   have af:qar 4 (.sl id 0 1 1 4) (.int .i64 0) = some (.ptr id 0):=xk
   have ad:∀id o n c w:Nat,(qa.sl id o n c w).dim = .sl id o n c w:=λ_ _ _ _ _=>rfl
   rcases ho with rfl | rfl | rfl | rfl
   ·obtain ⟨rs,a1,B⟩:=qeK E ae R GR U hE.bl hE.bs 10 n nm sb pl I Id Is Iw zo [.mk k1 n1 z1 l1] (L:=.sl id 0 1 1 4) rfl rfl (λ_ _=>rfl) (λ_=>⟨_,_,.ptr id 0,_,rfl,af,rfl,λm=>by rw [qli,ja ac,ab,ldB];exact hv.cut1,hv⟩)
    obtain ⟨k',n',s',l',L',e,rfl,J⟩:=B.cells
    obtain ⟨d2,s2,w2,n2⟩:=J.facts
    have M:=J.low hg
    simp only [sA.1,seval,ht,e0,e4,e5,e6,hz,aa,a6,S,GR,U,a8,a7,a1,d2,s2,w2,M,Id,Is,Iw,ad] at hw
    subst hw
    obtain ⟨m,hm,_⟩:=qI (v:=_) (O _)
    exact ⟨_,m,congrArg some hm,up B⟩
   ·have e:qaN E ⟨12,n,nm,sb,pl,ins⟩ [.mk k1 n1 z1 l1] = qiF n (.mk k1 n1 z1 l1):=rfl
    rw [e,qiF]
    cases ap:(k1 == 3) with
    | false=>
     simp only [sA.1,seval,ht,e0,e4,e5,e6,hz,aa,a6,S,GR,U,a8,a7,ac,ab,af,d1,s1,w1,q1,ap,ww,Id,Is,Iw,ad] at hw
     subst hw
     obtain ⟨m,hm,_⟩:=qI (v:=_) (O _)
     exact ⟨_,m,congrArg some hm,up (RAt.wrong H 1)⟩
    | true=>
     rw [j3,cond_false]
     generalize hx:qiz l1 n = x
     rcases qdH hx with ⟨rfl,c | ⟨c,c'⟩⟩ | ⟨i,hi,rfl,rfl,c,c'⟩
     ·simp only [sA.1,seval,ht,e0,e4,e5,e6,hz,aa,a6,S,GR,U,a8,a7,ac,ab,af,d1,s1,w1,q1,ap,c,ww,Id,Is,Iw,ad] at hw
      subst hw
      obtain ⟨m,hm,_⟩:=qI (v:=_) (O _)
      exact ⟨_,m,congrArg some hm,up (RAt.wrong H 1)⟩
     ·simp only [sA.1,seval,ht,e0,e4,e5,e6,hz,aa,a6,S,GR,U,a8,a7,ac,ab,af,d1,s1,w1,q1,ap,c,c',ww,Id,Is,Iw,ad] at hw
      subst hw
      obtain ⟨m,hm,_⟩:=qI (v:=_) (O _)
      exact ⟨_,m,congrArg some hm,up (RAt.wrong H 1)⟩
     ·obtain ⟨pp,cs,x2,x3,x4,x5,x6⟩:=aj.item hi ae
      have x7:∀i t,qz pp i t = t:=λi t=>by rw [<-x3];exact qad _ _ _
      have B:RAt H (l1[i],0) (cs ++ [.int .i64 0]):=⟨cs,rfl,x6⟩
      obtain ⟨k',n',s',l',L',e,_⟩:=x6.cells
      obtain ⟨LL,rfl,aJ⟩ :∃LL,cs = [.int .i64 k',.int .i64 n',.str s',LL]/\LP H l' LL:=by
       rw [e] at x6
       exact x6.lp
      obtain ⟨d2,s2,w2,n2⟩:=aJ.facts
      have M:=aJ.low hg
      simp only [sA.1,seval,ht,e0,e4,e5,e6,hz,aa,a6,S,GR,U,a8,a7,ac,ab,af,d1,s1,w1,q1,ap,c,c',x2,x3,x4,x5,x7,d2,s2,w2,M,Id,Is,Iw,ad] at hw
      subst hw
      obtain ⟨m,hm,_⟩:=qI (v:=_) (O _)
      exact ⟨_,m,congrArg some hm,up B⟩
   ·have ah:∃rs,Wd (.fn 57 [] []) [.int .i64 13,.sl id 0 1 1 4] G = some (.ret (.agg rs),G,false)/\RAt H (qkK 13 [.mk k1 n1 z1 l1]) rs:=by
     rw [qkK]
     cases hi:(k1 == 0) with
     | true=>
      have az:k1 = 0:=by simpa using hi
      subst az
      obtain ⟨j,hj,av⟩:=hM (.mk 0 n1 z1 l1) (by simp)
      have hI:=aB j hj
      rw [av] at hI
      exact ⟨_,qyM d1 s1 ac ab hI,At.leaf H 0 _ [] |> λh=>⟨_,rfl,h⟩⟩
     | false=>exact ⟨_,qnK d1 s1 ac ab hi,by simp only [isI,hi,cond_false];exact RAt.wrong H 1⟩
    obtain ⟨rs,a1,B⟩:=ah
    obtain ⟨k',n',s',l',L',e,rfl,J⟩:=B.cells
    obtain ⟨d2,s2,w2,n2⟩:=J.facts
    have M:=J.low hg
    simp only [sA.1,seval,ht,e0,e4,e5,e6,hz,aa,a6,S,GR,U,a8,a7,a1,d2,s2,w2,M,Id,Is,Iw,ad] at hw
    subst hw
    obtain ⟨m,hm,_⟩:=qI (v:=_) (O _)
    exact ⟨_,m,congrArg some hm,up B⟩
   ·cases ar:(k1 == 1) with
    | true=>
     simp only [sA.1,seval,ht,e0,e4,e5,e6,hz,aa,a6,S,GR,U,a8,a7,ac,ab,af,d1,s1,w1,ar,w8,Id,Is,Iw,ad] at hw
     subst hw
     obtain ⟨m,hm,_⟩:=qI (v:=_) (O _)
     refine ⟨_,m,congrArg some hm,up ?_⟩
     have e:qaN E ⟨14,n,nm,sb,pl,ins⟩ [.mk k1 n1 z1 l1] = qz1 (.mk k1 n1 z1 l1):=rfl
     rw [e,qz1,ar,j3,cond_false]
     exact RAt.truth H _
    | false=>
     simp only [sA.1,seval,ht,e0,e4,e5,e6,hz,aa,a6,S,GR,U,a8,a7,ac,ab,af,d1,s1,w1,ar,ww,Id,Is,Iw,ad] at hw
     subst hw
     obtain ⟨m,hm,_⟩:=qI (v:=_) (O _)
     refine ⟨_,m,congrArg some hm,up ?_⟩
     have e:qaN E ⟨14,n,nm,sb,pl,ins⟩ [.mk k1 n1 z1 l1] = qz1 (.mk k1 n1 z1 l1):=rfl
     rw [e,qz1,ar,j4,cond_true]
     exact RAt.wrong H 1
  ·obtain ⟨v,v',rfl⟩ :∃v v',vs = [v,v']:=by
    match vs,(show vs.length = 2 by omega) with
    | [v,v'],_=>exact ⟨v,v',rfl⟩
   obtain ⟨id,cs,b7,rfl,aN,ac,ab,hv,aF⟩:=hV.two
   have b2:=hv.length
   obtain ⟨k1,n1,z1,l1,L1,rfl,rfl,aj⟩ :∃k n s l L,v = .mk k n s l/\cs = [.int .i64 k,.int .i64 n,.str s,L]/\LP H l L:=by
    obtain ⟨k,n,s,l⟩:=v
    obtain ⟨L,e,h⟩:=hv.lp
    exact ⟨k,n,s,l,L,rfl,e,h⟩
   obtain ⟨k3,n3,z3,l3,L3,rfl,rfl,aK⟩ :∃k n s l L,v' = .mk k n s l/\b7 = [.int .i64 k,.int .i64 n,.str s,L]/\LP H l L:=by
    obtain ⟨k,n,s,l⟩:=v'
    obtain ⟨L,e,h⟩:=aF.lp
    exact ⟨k,n,s,l,L,rfl,e,h⟩
   obtain ⟨d1,s1,w1,q1⟩:=aj.facts
   obtain ⟨d3,s3,w3,q3⟩:=aK.facts
   have aM:=aj.low hg
   have b8:=aK.low hg
   have al:qar 4 (.sl id 0 2 2 4) (.int .i64 0) = some (.ptr id 0):=xk
   have ak:qar 4 (.sl id 0 2 2 4) (.int .i64 1) = some (.ptr id 4):=xk
   have ad:∀id o n c w:Nat,(qa.sl id o n c w).dim = .sl id o n c w:=λ_ _ _ _ _=>rfl
   have ab:G[id]? = some (.cells [.int .i64 k1,.int .i64 n1,.str z1,L1,.int .i64 k3,.int .i64 n3,.str z3,L3]):=ab
   have am:=qz4 hv aF G ae
   have ah:∀op,(op = 15\/op = 16\/op = 17\/op = 18\/op = 19)->∃rs,Wd (.fn 57 [] []) [.int .i64 op,.sl id 0 2 2 4] G = some (.ret (.agg rs),G,false)/\RAt H (qkK op [.mk k1 n1 z1 l1,.mk k3 n3 z3 l3]) rs:=λop hop=>by
    rw [qkK]
    cases hi:(k1 == 0) with
    | false=>exact ⟨_,qhp d1 s1 d3 s3 ac ab (.inl hi),by simp only [isI,hi,Bool.false_and,cond_false];exact RAt.wrong H 1⟩
    | true=>
     cases ay:(k3 == 0) with
     | false=>exact ⟨_,qhp d1 s1 d3 s3 ac ab (.inr ⟨hi,ay⟩),by simp only [isI,hi,ay,jX,cond_false];exact RAt.wrong H 1⟩
     | true=>
      have az:k1 = 0:=by simpa using hi
      have aO:k3 = 0:=by simpa using ay
      subst az
      subst aO
      obtain ⟨j,hj,av⟩:=hM (.mk 0 n1 z1 l1) (by simp)
      have hI:=aB j hj
      rw [av] at hI
      obtain ⟨j',aZ,aY⟩:=hM (.mk 0 n3 z3 l3) (by simp)
      have aL:=aB j' aZ
      rw [aY] at aL
      exact ⟨_,qvv d1 s1 d3 s3 ac ab hI aL hop,At.leaf H 0 _ [] |> λh=>⟨_,rfl,h⟩⟩
   rcases ho with rfl | rfl | rfl | rfl | rfl | rfl | rfl | rfl
   ·obtain ⟨rs,a1,B⟩:=ah 15 zo
    obtain ⟨k',n',s',l',L',e,rfl,J⟩:=B.cells
    obtain ⟨d2,s2,w2,n2⟩:=J.facts
    have M:=J.low hg
    simp only [sA.1,seval,ht,e0,e4,e5,e6,hz,aa,a6,S,GR,U,a8,a7,a1,d2,s2,w2,M,Id,Is,Iw,ad] at hw
    subst hw
    obtain ⟨m,hm,_⟩:=qI (v:=_) (O _)
    exact ⟨_,m,congrArg some hm,up B⟩
   ·obtain ⟨rs,a1,B⟩:=ah 16 zo
    obtain ⟨k',n',s',l',L',e,rfl,J⟩:=B.cells
    obtain ⟨d2,s2,w2,n2⟩:=J.facts
    have M:=J.low hg
    simp only [sA.1,seval,ht,e0,e4,e5,e6,hz,aa,a6,S,GR,U,a8,a7,a1,d2,s2,w2,M,Id,Is,Iw,ad] at hw
    subst hw
    obtain ⟨m,hm,_⟩:=qI (v:=_) (O _)
    exact ⟨_,m,congrArg some hm,up B⟩
   ·obtain ⟨rs,a1,B⟩:=ah 17 zo
    obtain ⟨k',n',s',l',L',e,rfl,J⟩:=B.cells
    obtain ⟨d2,s2,w2,n2⟩:=J.facts
    have M:=J.low hg
    simp only [sA.1,seval,ht,e0,e4,e5,e6,hz,aa,a6,S,GR,U,a8,a7,a1,d2,s2,w2,M,Id,Is,Iw,ad] at hw
    subst hw
    obtain ⟨m,hm,_⟩:=qI (v:=_) (O _)
    exact ⟨_,m,congrArg some hm,up B⟩
   ·obtain ⟨rs,a1,B⟩:=ah 18 zo
    obtain ⟨k',n',s',l',L',e,rfl,J⟩:=B.cells
    obtain ⟨d2,s2,w2,n2⟩:=J.facts
    have M:=J.low hg
    simp only [sA.1,seval,ht,e0,e4,e5,e6,hz,aa,a6,S,GR,U,a8,a7,a1,d2,s2,w2,M,Id,Is,Iw,ad] at hw
    subst hw
    obtain ⟨m,hm,_⟩:=qI (v:=_) (O _)
    exact ⟨_,m,congrArg some hm,up B⟩
   ·obtain ⟨rs,a1,B⟩:=ah 19 zo
    obtain ⟨k',n',s',l',L',e,rfl,J⟩:=B.cells
    obtain ⟨d2,s2,w2,n2⟩:=J.facts
    have M:=J.low hg
    simp only [sA.1,seval,ht,e0,e4,e5,e6,hz,aa,a6,S,GR,U,a8,a7,a1,d2,s2,w2,M,Id,Is,Iw,ad] at hw
    subst hw
    obtain ⟨m,hm,_⟩:=qI (v:=_) (O _)
    exact ⟨_,m,congrArg some hm,up B⟩
   ·simp only [sA.1,seval,ht,e0,e4,e5,e6,hz,aa,a6,S,GR,U,a8,a7,ac,ab,al,ak,d1,s1,w1,d3,s3,w3,am,w8,Id,Is,Iw,ad] at hw
    subst hw
    obtain ⟨m,hm,_⟩:=qI (v:=_) (O _)
    exact ⟨_,m,congrArg some hm,up (RAt.truth H _)⟩
   ·simp only [sA.1,seval,ht,e0,e4,e5,e6,hz,aa,a6,S,GR,U,a8,a7,ac,ab,al,ak,d1,s1,w1,d3,s3,w3,am,w8,Id,Is,Iw,ad] at hw
    subst hw
    obtain ⟨m,hm,_⟩:=qI (v:=_) (O _)
    exact ⟨_,m,congrArg some hm,up (RAt.truth H _)⟩
   ·simp only [sA.1,seval,ht,e0,e4,e5,e6,hz,aa,a6,S,GR,U,a8,a7,ac,ab,al,ak,d1,s1,w1,d3,s3,w3,am,w8,Id,Is,Iw,ad] at hw
    subst hw
    obtain ⟨m,hm,_⟩:=qI (v:=_) (O _)
    exact ⟨_,m,congrArg some hm,up (RAt.truth H _)⟩
 ·obtain ⟨k',n',s',l',L',e,rfl,J⟩:=B.cells
  obtain ⟨d2,s2,w2,n2⟩:=J.facts
  have M:=J.low hg
  simp only [sA.1,seval,ht,e4,b4,a6,d2,s2,w2] at hw
  subst hw
  exact ⟨_,[],congrArg some (by rw [jH];exact qS hk (by simp only [sA.1,seval,M])),B.mono (qe6 hg)⟩
end
theorem Cho.chB {op:Int} {ins:List Int} (h:Cho op ins):qlU op = true:=by rcases h with ⟨rfl,_⟩ | ⟨rfl,_⟩ | ⟨rfl,_⟩ <;> decide
theorem qgS.chB {op:Int} {n:Nat} (h:qgS op n):qlU op = false:=by
 rcases h with ⟨rfl | rfl | rfl | rfl | rfl | rfl | rfl | rfl | rfl | rfl,_⟩ | ⟨rfl,_⟩ | ⟨rfl | rfl | rfl | rfl,_⟩ | ⟨rfl | rfl | rfl | rfl | rfl | rfl | rfl | rfl,_⟩ <;> decide
theorem Cho.head {op:Int} {ins:List Int} (h:Cho op ins):ins.getD 0 0 ∈ ins:=by rcases h with ⟨_,a,b,c,rfl⟩ | ⟨_,a,b,rfl⟩ | ⟨_,a,b,rfl⟩ <;> simp
theorem qrb {op:Int} {ins:List Int} {dn:Int->Bool} {ev:Int->Res} (hc:Cho op ins) (E:∀j ∈ ins,0 <= j) (h:qdg op ins dn ev = -1):dn (ins.getD 0 0) = true/\(0 <= q6 op ins (ev (ins.getD 0 0))->dn (q6 op ins (ev (ins.getD 0 0))) = true):=by
 have h0:=E _ hc.head
 rw [qdg,hc.chB,cond_true] at h
 cases B:dn (ins.getD 0 0) with
 | false=>rw [B,j4,cond_true] at h;omega
 | true=>
  rw [B,j3,cond_false] at h
  refine ⟨rfl,λhs=>?_⟩
  have h1:ile 0 (q6 op ins (ev (ins.getD 0 0))) = true:=by rw [qaI];simpa using hs
  rw [h1,jX] at h
  cases I:dn (q6 op ins (ev (ins.getD 0 0))) with
  | true=>rfl
  | false=>rw [I,j4,cond_true] at h;omega
section
variable {g:List qb} {H:Nat->Option qb}
theorem qoI (R D N:Nat) (dn:Int->Bool) (ev:Int->Res) (ns:List Nd) {TV VL BV OL:qa} {en ed:Int} (hR:R < g.length) (hb:g[R]? = some (.cells [TV,VL,BV,.int .i64 en,.int .i64 ed,OL,.sl D 0 N N 0])) (hg:Cov H g) (hT:qen H ns TV) (hD:qb1 H g D N dn ev) (i:Nat) (hi:i < ns.length) (hc:Cho ns[i].op ns[i].ins) (a1:∀j ∈ ns[i].ins,0 <= j/\j < N) (hn:qdg ns[i].op ns[i].ins dn ev = -1) :
  ∃rs,Wd (.fn 26 [] []) [.ptr R 0,.int .i64 (i:Nat)] g = some (.ret (.agg rs),g,false)/\RAt H (qce ns[i].op ns[i].ins ev) rs:=by
 obtain ⟨a7,I,ac,hlt,x1,x2,hI⟩:=hT.item hi hg
 subst ac
 obtain ⟨Id,Is,Iw,Il⟩:=hI.facts
 generalize ns[i] = nd at *
 obtain ⟨op,n,nm,sb,pl,ins⟩:=nd
 simp only at *
 obtain ⟨S,rfl,E⟩:=hI.cho hc
 obtain ⟨h0,h1⟩:=qrb hc (λj hj=>(a1 j hj).1) hn
 have a8:=hg.lt E
 have aa:=hg _ _ E
 have d:∀id o n c w:Nat,(qa.sl id o n c w).dim = .sl id o n c w:=λ_ _ _ _ _=>rfl
 have st:∀id o n c w:Nat,(qa.sl id o n c w).storable = true:=λ_ _ _ _ _=>rfl
 have dw:∀id o n c w i t,qz (qa.sl id o n c w) i t = t:=λ_ _ _ _ _ _ _=>rfl
 have O:Nat.ble g.length g.length = true:=qf zo
 have M:Nat.ble g.length (g.length + 1) = true:=qf zo
 have ad:(op == 23) = true\/((op == 23) = false/\(op == 24) = true)\/((op == 23) = false/\(op == 24) = false/\(op == 25) = true):=by rcases hc with ⟨rfl,_⟩ | ⟨rfl,_⟩ | ⟨rfl,_⟩ <;> decide
 have ab:∀m,(g ++ m)[R]? = some (.cells [.sl a7 0 ns.length ns.length 6,VL,BV,.int .i64 en,.int .i64 ed,OL,.sl D 0 N N 0]):=λm=>by rw [ja hR];exact hb
 obtain ⟨rs,J,U⟩:=qoA (g:=g ++ [zr5,qb.cells [.int .i64 op,.int .i64 n,.str nm,.str sb,.int .i64 pl,.sl S 0 ins.length ins.length 1]]) R D N dn ev (by simp;omega) (ab _) (hg.more _) (hD.more _) op n nm sb pl S ins hc (by simp;omega) (by rw [ja a8];exact aa) a1 h0 h1
 refine ⟨rs,?_,U⟩
 obtain ⟨k',n',s',l',L',e,rfl,a6⟩:=U.cells
 obtain ⟨d2,s2,w2,n2⟩:=a6.facts
 have B:=a6.low hg
 rw [qm 26 c26]
 rcases ad with k1 | ⟨k1,k2⟩ | ⟨k1,k2,k3⟩
 ·simp only [sA.1,c26,seval,hR,hb,hlt,x1,x2,d,st,dw,O,M,k1,J,d2,s2,w2,B]
 ·simp only [sA.1,c26,seval,hR,hb,hlt,x1,x2,d,st,dw,O,M,k1,k2,J,d2,s2,w2,B]
 ·simp only [sA.1,c26,seval,hR,hb,hlt,x1,x2,d,st,dw,O,M,k1,k2,k3,J,d2,s2,w2,B]
def qjs (nd:Nd) (i:Nat):Prop:=(Cho nd.op nd.ins\/qgS nd.op nd.ins.length)/\∀j ∈ nd.ins,0 <= j/\j < (i:Int)
def qoa (ns:List Nd):Prop:=ns ≠ []/\∀i (hi:i < ns.length),qjs ns[i] i
theorem Ext.nil {H:Nat->Option qb} {g:List qb} (hg:Cov H g):Sub H (ext H g []):=qe6 hg
theorem qoH (E:qeZ) (hE:EnvOK E) (R D N:Nat) (dn:Int->Bool) (ev:Int->Res) (ns:List Nd) {TV OL:qa} (hR:R < g.length) (hb:g[R]? = some (.cells [TV,.lst (E.vals.map qa6) .no,qaV E.bag,.int .i64 E.en,.int .i64 E.ed,OL,.sl D 0 N N 0])) (hO:qd5 H E.oth OL) (hg:Cov H g) (hT:qen H ns TV) (hD:qb1 H g D N dn ev) (I:∀i,dn i = true->I64 (qbg (ev i).1)) (i:Nat) (hi:i < ns.length) (hN:ns.length = N) (hs:qjs ns[i] i) (hn:qdg ns[i].op ns[i].ins dn ev = -1) :
  ∃rs m,Wd (.fn 26 [] []) [.ptr R 0,.int .i64 (i:Nat)] g = some (.ret (.agg rs),g ++ m,false)/\RAt (ext H g m) (qdf E ns[i] ev) rs:=by
 have B:∀j ∈ ns[i].ins,0 <= j/\j < (N:Int):=λj hj=>by have:=hs.2 j hj;omega
 rcases hs.1 with hc | ha
 ·obtain ⟨rs,h1,h2⟩:=qoI R D N dn ev ns hR hb hg hT hD i hi hc B hn
  refine ⟨rs,[],by rw [jH];exact h1,?_⟩
  rw [qdf,hc.chB,cond_true]
  exact h2.mono (qe6 hg)
 ·rw [qdg,ha.chB,cond_false] at hn
  rw [qdf,ha.chB,cond_false]
  exact qs8 E hE R D N dn ev ns hR hb hO hg hT hD I i hi ha.chB ha B hn
theorem qq9 (R D N:Nat) (dn:Int->Bool) (ev:Int->Res) (ns:List Nd) {TV VL BV OL:qa} {en ed:Int} (hR:R < g.length) (hb:g[R]? = some (.cells [TV,VL,BV,.int .i64 en,.int .i64 ed,OL,.sl D 0 N N 0])) (hg:Cov H g) (hT:qen H ns TV) (hD:qb1 H g D N dn ev) (i:Nat) (hi:i < ns.length) (hN:ns.length = N) (hs:qjs ns[i] i) :
  Wd (.fn 25 [] []) [.ptr R 0,.int .i64 (i:Nat)] g = some (.ret (.int .i64 (qdg ns[i].op ns[i].ins dn ev)),g,false):=by
 have B:∀j ∈ ns[i].ins,0 <= j/\j < (N:Int):=λj hj=>by have:=hs.2 j hj;omega
 rcases hs.1 with hc | ha
 ·exact qra R D N dn ev ns hR hb hg hT hD i hi hc B
 ·rw [qdg,ha.chB,cond_false]
  exact qm9 R D N dn ev ns hR hb hg hT hD i hi ha.chB B (by rcases ha with ⟨_,h⟩ | ⟨_,_,h⟩ | ⟨_,h⟩ | ⟨_,h⟩ <;> omega)
def qsL (op:Int):Int×Int:=bif op == 6 then (1,4) else bif op == 10 || op == 12 || op == 13 || op == 14 then (1,1) else bif op == 25 then (3,3) else bif ile 15 op then (2,2) else (0,0)
theorem qsV (op:Int) (h0:0 <= op) (h1:op <= 25):Wd (.fn 47 [] []) [.int .i64 op] g = some (.ret (.tup [.int .i64 (qsL op).1,.int .i64 (qsL op).2,.bool true]),g,false):=by
 have:op = 0\/op = 1\/op = 2\/op = 3\/op = 4\/op = 5\/op = 6\/op = 7\/op = 8\/op = 9\/op = 10\/op = 11\/op = 12\/op = 13\/op = 14\/op = 15\/op = 16\/op = 17\/op = 18\/op = 19\/op = 20\/op = 21\/op = 22\/op = 23\/op = 24\/op = 25:=zo
 rw [qm 47 c47]
 rcases this with rfl | rfl | rfl | rfl | rfl | rfl | rfl | rfl | rfl | rfl | rfl | rfl | rfl | rfl | rfl | rfl | rfl | rfl | rfl | rfl | rfl | rfl | rfl | rfl | rfl | rfl <;>
 (simp only [sB.1,c47,seval];rfl)
theorem qwD {op:Int} {ins:List Int} (h:Cho op ins\/qgS op ins.length):0 <= op/\op <= 25/\ilt (ins.length:Int) (qsL op).1 = false/\ilt (qsL op).2 (ins.length:Int) = false:=by
 have a:∀n:Nat,∀x y:Int,x <= n->(n:Int) <= y->ilt (n:Int) x = false/\ilt y (n:Int) = false:=λn x y h1 h2=>by
  rw [qe,qe]
  simp
  omega
 have fin:∀x y:Int,(qsL op).1 = x->(qsL op).2 = y->x <= ins.length->(ins.length:Int) <= y->ilt (ins.length:Int) (qsL op).1 = false/\ilt (qsL op).2 (ins.length:Int) = false:=λx y e1 e2 h1 h2=>by
  rw [e1,e2]
  exact a _ _ _ h1 h2
 rcases h with (⟨rfl,_,_,_,rfl⟩ | ⟨rfl,_,_,rfl⟩ | ⟨rfl,_,_,rfl⟩) | (⟨h0,h⟩ | ⟨rfl,h,h'⟩ | ⟨h0,h⟩ | ⟨h0,h⟩)
 ·exact ⟨zo,zo,fin 3 3 rfl rfl (by simp) (by simp)⟩
 ·exact ⟨zo,zo,fin 2 2 rfl rfl (by simp) (by simp)⟩
 ·exact ⟨zo,zo,fin 2 2 rfl rfl (by simp) (by simp)⟩
 ·rcases h0 with rfl | rfl | rfl | rfl | rfl | rfl | rfl | rfl | rfl | rfl <;> exact ⟨zo,zo,fin 0 0 rfl rfl zo zo⟩
 ·exact ⟨zo,zo,fin 1 4 rfl rfl zo zo⟩
 ·rcases h0 with rfl | rfl | rfl | rfl <;> exact ⟨zo,zo,fin 1 1 rfl rfl zo zo⟩
 ·rcases h0 with rfl | rfl | rfl | rfl | rfl | rfl | rfl | rfl <;> exact ⟨zo,zo,fin 2 2 rfl rfl zo zo⟩
theorem qvo (ns:List Nd) {TV:qa} (hg:Cov H g) (hT:qen H ns TV) (hs:qoa ns) (hl:ns.length <= 100000):Wd (.fn 24 [] []) [TV] g = some (.ret (.bool true),g,false):=by
 have aa:=λh op h0 h1=>qsV (g:=h) op h0 h1
 have d:∀id o n c w:Nat,(qa.sl id o n c w).dim = .sl id o n c w:=λ_ _ _ _ _=>rfl
 have Td:TV.dim = TV:=by obtain ⟨_,_,rfl,_⟩:=hT;rfl
 have Tw:∀i t,qz TV i t = t:=by obtain ⟨_,_,rfl,_⟩:=hT;exact λ_ _=>rfl
 have Tl:qbB false TV = some (.int .i64 (ns.length:Nat)):=by obtain ⟨_,_,rfl,_⟩:=hT;rfl
 have inner:∀(i:Nat) (hi:i < ns.length) (I:qa) (G:List qb) (x4:qa),Cov H G->Ins H ns[i].ins I->∀k st,(∃(tt:List qa) (a:Nat),st = ⟨tt,G,false⟩/\tt.length = 59/\lkp tt 3 = .int .i64 (i:Nat)/\lkp tt 10 = TV/\lkp tt 11 = .int .i64 (ns.length:Nat)/\lkp tt 12 = .int .i64 (i:Nat)/\lkp tt 41 = I/\lkp tt 42 = .int .i64 (ns[i].ins.length:Nat)/\lkp tt 43 = .int .i64 (a:Nat)/\lkp tt 0 = TV/\a + k = ns[i].ins.length)->
   ∃x E,qj g.length Wd (.loop qmP) st = some (x,E)/\(∃(tt:List qa),E = ⟨tt,G,false⟩/\tt.length = 59/\lkp tt 10 = TV/\lkp tt 11 = .int .i64 (ns.length:Nat)/\lkp tt 12 = .int .i64 (i:Nat)/\lkp tt 0 = TV/\x = .exit 2):=by
  intro i hi I G x4 a7 hI
  obtain ⟨Id,Is,Iw,Il⟩:=hI.facts
  have a1:=(hs.2 i hi).2
  have ad:ns[i].ins.length <= 1000:=by
   rcases (hs.2 i hi).1 with h | h
   ·rcases h with ⟨_,a,b,c,e⟩ | ⟨_,a,b,e⟩ | ⟨_,a,b,e⟩ <;> rw [e] <;> simp
   ·rcases h with ⟨_,h⟩ | ⟨_,_,h⟩ | ⟨_,h⟩ | ⟨_,h⟩ <;> omega
  generalize ns[i].ins = ins at *
  refine qx _ _ ?_
  rintro k st ⟨tt,a,rfl,ht,e3,e10,e11,e12,U,S,O,e0,ak⟩
  generalize he:qj g.length Wd qmP _ = r
  rcases Nat.lt_or_ge a ins.length with ha | ha
  ·have c1E:ilt (a:Int) (ins.length:Int) = true:=by rw [qe];simp;omega
   have w:=qU (n:=a) zo
   obtain ⟨ah,am,y0,y1,y2,y3⟩:=hI.item ha a7
   have hj:=a1 _ (List.getElem_mem ha)
   have ac:ilt ins[a] 0 = false:=by rw [qe];simp;omega
   have ab:ile (i:Int) ins[a] = false:=by rw [qaI];simp;omega
   simp only [sB.1,qmP,seval,ht,e3,U,S,O,c1E,ac,ab,Id,Iw,y0,y1,y2,y3,cI,Option.map_some,w] at he
   subst he
   refine .inl ⟨_,k - 1,rfl,zo,_,a + 1,rfl,Y0,?_,?_,?_,?_,?_,?_,?_,?_,zo⟩
   all_goals simp only [sB.1,seval,ht,e0,e3,e10,e11,e12,U,S,O,Id,Iw,w]
  ·have c1E:ilt (a:Int) (ins.length:Int) = false:=by rw [qe];simp;omega
   simp only [sB.1,qmP,seval,ht,S,O,c1E] at he
   subst he
   refine .inr ⟨_,_,rfl,by simp,_,rfl,Y0,?_,?_,?_,?_,rfl⟩
   all_goals simp only [sB.1,seval,ht,e0,e10,e11,e12]
 have loop:∀k st,(∃(tt:List qa) (i:Nat) (B:List qb),st = ⟨tt,g ++ B,false⟩/\tt.length = 59/\lkp tt 10 = TV/\lkp tt 11 = .int .i64 (ns.length:Nat)/\lkp tt 12 = .int .i64 (i:Nat)/\lkp tt 0 = TV/\i + k = ns.length)->
   ∃x E,qj g.length Wd (.loop qmQ) st = some (x,E)/\(∃(tt:List qa) (B:List qb),E = ⟨tt,g ++ B,false⟩/\tt.length = 59/\lkp tt 0 = TV/\x = .exit 0):=by
  refine qx _ _ ?_
  rintro k st ⟨tt,i,B,rfl,ht,e10,e11,e12,e0,ai⟩
  generalize he:qj g.length Wd qmQ _ = r
  rcases Nat.lt_or_ge i ns.length with hi | hi
  ·have c1E:ilt (i:Int) (ns.length:Int) = true:=by rw [qe];simp;omega
   have w:=qU (n:=i) zo
   obtain ⟨af,I,al,y0,y1,y2,hI⟩:=hT.item hi (hg.more B)
   obtain ⟨Id,Is,Iw,Il⟩:=hI.facts
   obtain ⟨o0,o1,o2,o3⟩:=qwD (hs.2 i hi).1
   have a6:=inner i hi I (g ++ B ++ [.cells [.int .i64 ns[i].op,.int .i64 ns[i].n,.str ns[i].nm,.str ns[i].sb,.int .i64 ns[i].pl,I]]) TV ((hg.more _).more _) hI ns[i].ins.length
   have ha:=aa (g ++ B ++ [.cells [.int .i64 ns[i].op,.int .i64 ns[i].n,.str ns[i].nm,.str ns[i].sb,.int .i64 ns[i].pl,I]]) _ o0 o1
   have aj:∀m,(g ++ m).take g.length = g:=λm=>by simp
   have a8:Nat.ble g.length (g ++ B).length = true:=qf (by simp)
   generalize ns[i] = nd at *
   obtain ⟨op,n,nm,sb,pl,ins⟩:=nd
   simp only at *
   generalize hJ:g ++ B = J at *
   simp only [sA.1,qmQ,seval,ht,e0,e10,e11,e12,c1E,Td,Tw,y0,y1,y2,ha,o2,o3,Id,Is,Iw,Il,a8] at he
   generalize hr:qj g.length Wd (.loop qmP) _ = r2 at he
   obtain ⟨x,E,rfl,ae,rfl,M,f10,f11,f12,f0,rfl⟩:=qaH hr (a6 _ ⟨_,0,rfl,z12,z12,by simp only [sB.1,seval,ht,e10],by simp only [sB.1,seval,ht,e11],by simp only [sB.1,seval,ht,e12],by simp only [sB.1,seval,ht,Id],z12,by simp only [sB.1,seval,ht,Int.natCast_zero],z15,zo⟩)
   simp only [sB.1,seval,M,f12,w] at he
   subst he
   refine .inl ⟨_,k - 1,rfl,zo,_,i + 1,B ++ [_],by rw [<-List.append_assoc,hJ],by simp only [qaX,M],?_,?_,?_,?_,zo⟩
   all_goals simp only [sB.1,seval,M,f0,f10,f11,f12,w]
  ·have c1E:ilt (i:Int) (ns.length:Int) = false:=by rw [qe];simp;omega
   simp only [sB.1,qmQ,seval,ht,e11,e12,c1E] at he
   subst he
   exact .inr ⟨_,_,rfl,by simp,_,B,rfl,Y0,z15,rfl⟩
 have hp:ilt 0 (ns.length:Int) = true:=by
  have:=List.length_pos_iff.2 hs.1
  rw [qe]
  simp
  omega
 generalize hw:Wd _ _ g = w
 rw [qm 24 c24] at hw
 simp only [sB.1,c24,seval,Td,Tw,Tl] at hw
 generalize hr:qj g.length Wd (.loop qmQ) _ = r at hw
 obtain ⟨x,E,rfl,tt,B,rfl,ht,f0,rfl⟩:=qaH hr (loop ns.length _ ⟨_,0,[],by rw [jH],Y1,by simp only [sB.1,seval,Td],Y1,u4,Y1,zo⟩)
 simp only [sB.1,seval,ht,f0,Td,Tw,Tl,hp] at hw
 subst hw
 rfl
end
theorem qCo {nb mb sb:Bool} {lo hi n:Int} {nm sub:Str} {k:Nat} (h:fB nb mb sb lo hi n nm sub k = true):lo <= (k:Int)/\(k:Int) <= hi/\(nb = true\/n = 0):=by
 rw [fB] at h
 simp only [jk,Bool.or_eq_true,qaI,decide_eq_true_eq,beq_iff_eq] at h
 exact ⟨h.2.2.2.1,h.2.2.2.2,h.1⟩
def KA (op:Int) (k:Nat):Prop:=(op = 25/\k = 3)\/(op = 23/\k = 2)\/(op = 24/\k = 2)\/qgS op k
theorem qc9 {op n:Int} {nm sub:Str} {k:Nat} (h:qfC op n nm sub k = true):KA op k/\(op = 12->0 <= n/\n < 4)/\(op = 0\/op = 12\/n = 0)/\(op = 0->0 <= n):=by
 by_cases ho:0 <= op/\op <= 25
 ·have:op = 0\/op = 12\/op = 1\/op = 2\/op = 3\/op = 4\/op = 5\/op = 6\/op = 7\/op = 8\/op = 9\/op = 10\/op = 11\/op = 13\/op = 14\/op = 15\/op = 16\/op = 17\/op = 18\/op = 19\/op = 20\/op = 21\/op = 22\/op = 23\/op = 24\/op = 25:=zo
  rcases this with rfl | rfl | rfl | rfl | rfl | rfl | rfl | rfl | rfl | rfl | rfl | rfl | rfl | rfl | rfl | rfl | rfl | rfl | rfl | rfl | rfl | rfl | rfl | rfl | rfl | rfl
  ·obtain ⟨h1,h2⟩:=(jk _ _).mp (show (fB _ _ _ _ _ n nm sub k && ile 0 n) = true from h)
   obtain ⟨k1,k2,k3⟩:=qCo h1
   simp only [qaI,decide_eq_true_eq] at h2
   exact ⟨by unfold KA qgS;omega,λh=>zo,.inl rfl,λ_=>h2⟩
  ·obtain ⟨h1,h2⟩:=(jk _ _).mp (show (fB _ _ _ _ _ n nm sub k && (ile 0 n && ilt n 4)) = true from h)
   obtain ⟨k1,k2,k3⟩:=qCo h1
   simp only [jk,qaI,qe,decide_eq_true_eq] at h2
   exact ⟨by unfold KA qgS;omega,λ_=>h2,.inr (.inl rfl),λh=>zo⟩
  all_goals
   first
   | (obtain ⟨k1,k2,k3⟩:=qCo (show fB false _ _ _ _ n nm sub k = true from h)
      exact ⟨by unfold KA qgS;omega,λh=>zo,.inr (.inr (by rcases k3 with h | h;cases h;exact h)),λh=>zo⟩)
   | (obtain ⟨k1,k2,k3⟩:=qCo ((jk _ _).mp (show (fB false _ _ _ _ n nm sub k && _) = true from h)).1
      exact ⟨by unfold KA qgS;omega,λh=>zo,.inr (.inr (by rcases k3 with h | h;cases h;exact h)),λh=>zo⟩)
 ·rw [qhR ho] at h
  cases h
structure Nms where
 vars:List (Str×Str×Tp)
 ports:List (Str×Tp)
 bagq:Bool
 oth:List (Str×Str×Tp)
def nvV (x:Str×Str×Tp):qa:=.agg (.str x.1 :: .str x.2.1 :: x.2.2.enc)
def npV (x:Str×Tp):qa:=.agg (.str x.1 :: x.2.enc)
def qfR (N:Nms):List qa:=[.lst (N.vars.map nvV) .no,.lst (N.ports.map npV) .no,.bool N.bagq,.lst (N.oth.map nvV) .no]
def qy:Tp:=.mk 0 []
def qac:Tp:=.mk 1 []
def qP:Tp->Int
 | .mk k _=>k
def qcu:Tp->List Tp
 | .mk _ l=>l
abbrev qem:=Tp×Int
def qcO (f:Exl->qem) (k:List Tp->qem):List Exl->List Tp->qem
 | [],ts=>k ts
 | a :: aS,ts=>bif !((f a).2 == 0) then (qy,(f a).2) else qcO f k aS (ts ++ [(f a).1])
def ifT (b:Bool) (t:Tp):qem:=bif b then (t,0) else (qy,12)
def qBS (op:Int):Bool:=ile 7 op && ile op 10
def qam (N:Nms) (op n:Int) (nm sb:Str) (ts:List Tp):qem:=
 bif qBS op then (match N.ports.find? (λp=>p.1 == nm) with
  | none=>(qy,10)
  | some p=>bif !N.bagq then (qy,10) else bif op == 7 then (qy,0) else bif op == 8 then (qac,0) else bif op == 9 then ifT (qP p.2 == 0) qy else ifT (qaO (ts.getD 0 qy) p.2) p.2)
 else bif op == 0 then (qy,0) else bif op == 1 || op == 2 then (qac,0) else bif op == 3 then (.mk 2 [],0)
 else bif op == 4 then (match N.vars.find? (λx=>x.2.1 == nm) with | some x=>(x.2.2,0) | none=>(qy,10))
 else bif op == 5 then (match N.oth.find? (λx=>x.1 == nm && x.2.1 == sb) with | some x=>(x.2.2,0) | none=>(qy,10))
 else bif op == 6 then (bif ilt 3 (qcE (.mk 3 ts):Nat) then (qy,7) else (.mk 3 ts,0))
 else bif op == 11 then (bif N.bagq then (.mk 3 [qy,qy],0) else (qy,10))
 else bif op == 12 then ifT (qP (ts.getD 0 qy) == 3 && ilt n ((qcu (ts.getD 0 qy)).length:Nat)) ((qcu (ts.getD 0 qy)).getD n.toNat qy)
 else bif op == 14 || op == 23 || op == 24 then ifT (ts.all λt=>qP t == 1) qac
 else bif op == 20 || op == 21 || op == 22 then ifT (ts.all λt=>qaO t (ts.getD 0 qy)) qac
 else bif op == 25 then ifT (qP (ts.getD 0 qy) == 1 && qaO (ts.getD 1 qy) (ts.getD 2 qy)) (ts.getD 1 qy)
 else ifT (ts.all λt=>qP t == 0) qy
def qQ (N:Nms):Nat->Exl->qem
 | 0,_=>(qy,0)
 | d + 1,.mk op n nm sb aS=>qcO (qQ N d) (qam N op n nm sb) aS []
structure qzQ (N:Nms):Prop where
 v:∀x ∈ N.vars,tpS 3 x.2.2
 p:∀x ∈ N.ports,tpS 3 x.2
 o:∀x ∈ N.oth,tpS 3 x.2.2
 vl:N.vars.length <= 1000
 pl:N.ports.length <= 1000
 ol:N.oth.length <= 1000
theorem qbc (d:Nat):tpS d qy:=by
 cases d with
 | zero=>exact rfl
 | succ d=>exact ⟨by simp,λx hx=>by cases hx⟩
theorem qeS (d:Nat) (k:Int):tpS d (.mk k []):=by
 cases d with
 | zero=>exact rfl
 | succ d=>exact ⟨by simp,λx hx=>by cases hx⟩
theorem qvE {d:Nat} {t:Tp} (h:tpS d t):∀x ∈ qcu t,tpS d x:=by
 obtain ⟨k,l⟩:=t
 cases d with
 | zero=>intro x hx;have:l = []:=h;subst this;cases hx
 | succ d=>exact λx hx=>qlE (h.2 x hx)
theorem qiy {d:Nat} {ts:List Tp} (h:∀t ∈ ts,tpS d t) (i:Nat):tpS d (ts.getD i qy):=by
 rw [List.getD_eq_getElem?_getD]
 cases hx:ts[i]? with
 | none=>exact qbc d
 | some v=>exact h v (List.mem_of_getElem? hx)
theorem qye {N:Nms} (hN:qzQ N) {op n:Int} {nm sb:Str} {d:Nat} {ts:List Tp} (h:∀t ∈ ts,tpS (3 + d) t) (hl:ts.length <= 20):tpS (3 + (d + 1)) (qam N op n nm sb ts).1:=by
 have up:∀{t},tpS (3 + d) t->tpS (3 + (d + 1)) t:=λh=>qlE h
 have b3:∀{t},tpS 3 t->tpS (3 + (d + 1)) t:=λh=>qB0 zo h
 have fT:∀b t,tpS (3 + (d + 1)) t->tpS (3 + (d + 1)) (ifT b t).1:=λb t ht=>by
  cases b
  ·exact qbc _
  ·exact ht
 unfold qam
 cases qBS op with
 | true=>
  rw [cond_true]
  cases hx:N.ports.find? (λp=>p.1 == nm) with
  | none=>exact qbc _
  | some p=>
   have hp:=hN.p p (List.mem_of_find?_eq_some hx)
   simp only
   cases N.bagq
   ·exact qbc _
   ·cases op == 7
    ·cases op == 8
     ·cases op == 9
      ·exact fT _ _ (b3 hp)
      ·exact fT _ _ (qbc _)
     ·exact qeS _ _
    ·exact qbc _
 | false=>
  rw [cond_false]
  cases op == 0
  ·cases op == 1 || op == 2
   ·cases op == 3
    ·cases op == 4
     ·cases op == 5
      ·cases op == 6
       ·cases op == 11
        ·cases op == 12
         ·cases op == 14 || op == 23 || op == 24
          ·cases op == 20 || op == 21 || op == 22
           ·cases op == 25
            ·exact fT _ _ (qbc _)
            ·exact fT _ _ (up (qiy h 1))
           ·exact fT _ _ (qeS _ _)
          ·exact fT _ _ (qeS _ _)
         ·exact fT _ _ (up (qiy (qvE (qiy h 0)) n.toNat))
        ·cases N.bagq
         ·exact qbc _
         ·exact ⟨by simp,λx hx=>by
           have:x = qy:=by simpa using hx
           rw [this]
           exact qbc _⟩
       ·rw [cond_true]
        cases ilt 3 (qcE (.mk 3 ts):Nat)
        ·exact ⟨hl,h⟩
        ·exact qbc _
      ·rw [cond_true,cond_false,cond_false,cond_false,cond_false]
       cases hx:N.oth.find? (λx=>x.1 == nm && x.2.1 == sb) with
       | none=>exact qbc _
       | some p=>exact b3 (hN.o p (List.mem_of_find?_eq_some hx))
     ·rw [cond_true,cond_false,cond_false,cond_false]
      cases hx:N.vars.find? (λx=>x.2.1 == nm) with
      | none=>exact qbc _
      | some p=>exact b3 (hN.v p (List.mem_of_find?_eq_some hx))
    ·exact qeS _ _
   ·exact qeS _ _
  ·exact qbc _
theorem qqr {f:Exl->qem} {k:List Tp->qem} {d e:Nat} (hk:∀ts:List Tp,(∀t ∈ ts,tpS d t)->ts.length <= 20->tpS e (k ts).1):∀(aS:List Exl) (ts:List Tp),(∀a ∈ aS,tpS d (f a).1)->(∀t ∈ ts,tpS d t)->ts.length + aS.length <= 20->tpS e (qcO f k aS ts).1
 | [],ts,hf,h,hl=>by rw [qcO];exact hk ts h (by simpa using hl)
 | a :: aS,ts,hf,h,hl=>by
  rw [qcO]
  cases (f a).2 == 0 with
  | false=>exact qbc _
  | true=>
   refine qqr hk aS _ (λa ha=>hf a (List.mem_cons_of_mem _ ha)) (λt ht=>?_) (by simp at hl ⊢;omega)
   rcases List.mem_append.1 ht with ht | ht
   ·exact h t ht
   ·rw [List.mem_singleton.1 ht];exact hf a (List.mem_cons_self ..)
theorem qmJ {f:Exl->qem} {k:List Tp->qem} {aS:List Exl} {i:Nat} {ts:List Tp} (hi:i < aS.length):qcO f k (aS.drop i) ts = bif !((f aS[i]).2 == 0) then (qy,(f aS[i]).2) else qcO f k (aS.drop (i + 1)) (ts ++ [(f aS[i]).1]):=by
 rw [List.drop_eq_getElem_cons hi,qcO]
end Go.Proofs.YtnibchoenjmmjaaGreatDoor.AE
