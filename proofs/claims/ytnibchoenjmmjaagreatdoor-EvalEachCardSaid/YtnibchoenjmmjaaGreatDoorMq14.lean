/- A part of the proof: the abstract executor and what goes through it (part 14). No condition. -/
import Derived.Test.YtnibchoenjmmjaaGreatDoorMq13
set_option maxRecDepth 100000
set_option maxHeartbeats 0
namespace Go.Proofs.YtnibchoenjmmjaaGreatDoor.AE
open Go.AE
def qpn (n:Int):Val→Res
 | .mk k _ _ l=>bif !(k == 3) then qbk 1 else match qkq l n with | some v=>(v,0) | none=>qbk 1
def qjX (op:Int):List Val→Res
 | [v]=>bif isI v then (.mk 0 (qdS 16 0 (qeX v)).1 [] [],(qdS 16 0 (qeX v)).2) else qbk 1
 | [v,w]=>bif isI v && isI w then (.mk 0 (qdS op (qeX v) (qeX w)).1 [] [],(qdS op (qeX v) (qeX w)).2) else qbk 1
 | _=>qbk 1
def qyD:Val→Res
 | .mk k n _ _=>bif !(k == 1) then qbk 1 else qdv (n == 0)
def qgj (E:qcp) (nd:Nd) (vs:List Val):Res:=
 bif nd.op == 0 then qgG nd.n else bif nd.op == 1 || nd.op == 2 then qdv (nd.op == 1) else bif nd.op == 3 then qa6 (.mk 2 0 nd.nm []) else
 bif nd.op == 4 || nd.op == 5 then qyE E nd.op nd.nm nd.sb nd.pl else bif nd.op == 11 then (.mk 3 0 [] [.mk 0 E.en [] [],.mk 0 E.ed [] []],0) else
 bif nd.op == 7 || nd.op == 8 || nd.op == 9 || nd.op == 10 then qqB E nd.op nd.pl vs else bif nd.op == 6 then qa6 (.mk 3 0 [] vs) else
 bif nd.op == 12 then qpn nd.n (vs.getD 0 qc0) else bif nd.op == 20 then qdv (qy5 (vs.getD 0 qc0) (vs.getD 1 qc0) == 0) else
 bif nd.op == 21 then qdv (ilt (qy5 (vs.getD 0 qc0) (vs.getD 1 qc0)) 0) else bif nd.op == 22 then qdv (ile (qy5 (vs.getD 0 qc0) (vs.getD 1 qc0)) 0) else
 bif nd.op == 14 then qyD (vs.getD 0 qc0) else qjX nd.op vs
def qcO (E:qcp) (nd:Nd) (ev:Int→Res):Res:=bif qrC nd.op then qdy nd.op nd.ins ev else qcD ev (qgj E nd) nd.ins []
def qiI (op:Int) (n:Nat):Prop:=((op = 0∨op = 1∨op = 2∨op = 3∨op = 4∨op = 5∨op = 7∨op = 8∨op = 9∨op = 11)∧n = 0)∨(op = 6∧1 ≤ n∧n ≤ 4)∨((op = 10∨op = 12∨op = 13∨op = 14)∧n = 1)∨((op = 15∨op = 16∨op = 17∨op = 18∨op = 19∨op = 20∨op = 21∨op = 22)∧n = 2)
structure qvf (E:qcp):Prop where
 vl:E.vals.length ≤ 1000
 bl:E.bag.length ≤ 1000
 ol:E.oth.length ≤ 1000
 bs:∀l ∈ E.bag,l.length ≤ 200∧qq2 (l.map qeX)∧∀v ∈ l,qE 3 v = true
section
variable {g:List qb} {H:Nat→Option qb}
theorem qix {G:List qb} (h:G.take g.length = g):G = g ++ G.drop g.length:=by
 have:=List.take_append_drop g.length G
 rw [h] at this
 exact this.symm
theorem qK {v:qa} {G:List qb} (h:G.take g.length = g):∃m,qat g.length (.ret v) G false = (.ret v,g ++ m,false)∧(v.lower g.length = false→g ++ m = G):=by
 rw [qez]
 cases hv:v.lower g.length with
 | true=>exact ⟨[],by rw [cond_true,h,List.append_nil],fun h=>by cases h⟩
 | false=>exact ⟨G.drop g.length,by rw [cond_false,←qix h],fun _=>(qix h).symm⟩
theorem qk6 {H:Nat→Option qb} {v:Val} {cs:List qa} (hv:At H v cs) (hg:Cov H g):Wd (.fn 52 [] []) [.agg cs] g = some (.ret (.agg (bif qE 3 v then cs ++ [.int .i64 0] else [.int .i64 0,.int .i64 0,.str [],.lst [] .full,.int .i64 1])),g,false):=by
 have h1:=qdQ hv (g ++ [.cells cs,.cells [.int .i64 0,.int .i64 0,.str [],.lst [] .full,.int .i64 0]]) (hg.more _)
 have h2:∀h,Wd (.fn 55 [] []) [.int .i64 1] h = some (.ret (rI 0 1),h,false):=fun h=>qan 1
 obtain ⟨k,n,s,l⟩:=v
 obtain ⟨L,rfl,hL⟩:=hv.lp
 obtain ⟨hLd,hLs,hLw,hLl⟩:=hL.facts
 have hlow:=hL.low hg
 have hb1:=qrB g 1
 cases hr:qE 3 (.mk k n s l) with
 | true=>
  rw [hr] at h1
  rw [qr rfl (show T.get 52 = some c52 by kernel_rfl)]
  simp only [sB.1,c52,simprocAttr,-Int.reduceNatCast',qaK,hLd,hLs,hLw,hlow,hb1,h1,splice,Bool.true_or,cond_true,List.cons_append,List.nil_append]
 | false=>
  rw [hr] at h1
  rw [qr rfl (show T.get 52 = some c52 by kernel_rfl)]
  simp only [sB.1,c52,simprocAttr,-Int.reduceNatCast',qaK,hLd,hLs,hLw,hlow,h1,h2,rI,splice,cond_false]
theorem At.cut1 {v:Val} {cs:List qa} (h:At H v cs):cut cs 0 (some 4) = some (.agg cs):=by
 have e:=(At.elem (H:=H) (l:=[v]) (ess:=[cs]) rfl fun i a b=>by
  have:i = 0:=by simp at a;omega
  subst this
  exact h).2 0 (by simp)
 simpa using e
theorem qFE (base:Nat) (a b:Int) (h:List qb):hop base (.lit 4 [.int .i64 0,.int .i64 0,.str [],.lst [] .full] 2 [0,1]) [.agg [.int .i64 0,.int .i64 a,.str [],.lst [] .full],.agg [.int .i64 0,.int .i64 b,.str [],.lst [] .full]] h = some (.sl h.length 0 2 2 0,h ++ [.cells [.int .i64 0,.int .i64 a,.str [],.lst [] .full,.int .i64 0,.int .i64 b,.str [],.lst [] .full]],false):=by kernel_rfl
theorem VSl.one {b:Nat} {G:List qb} {v:Val} {V:qa} (h:VSl H G b [v] V):∃id cs,V = .sl id 0 1 1 4∧b ≤ id∧id < G.length∧G[id]? = some (.cells cs)∧At H v cs:=by
 rcases h with ⟨e,_⟩ | ⟨id,rs,rfl,h1,h2,h3,h4,h5,h6⟩
 ·cases e
 ·obtain ⟨r,rfl⟩:=List.length_eq_one_iff.1 h5
  exact ⟨id,r,rfl,h1,(List.getElem?_eq_some_iff.1 h3).1,by simpa using h3,h6 0 (by simp) (by simp)⟩
theorem VSl.two {b:Nat} {G:List qb} {v w:Val} {V:qa} (h:VSl H G b [v,w] V):∃id cs ds,V = .sl id 0 2 2 4∧b ≤ id∧id < G.length∧G[id]? = some (.cells (cs ++ ds))∧At H v cs∧At H w ds:=by
 rcases h with ⟨e,_⟩ | ⟨id,rs,rfl,h1,h2,h3,h4,h5,h6⟩
 ·cases e
 ·obtain ⟨r,q,rfl⟩ :∃r q,rs = [r,q]:=by
   match rs,h5 with
   | [r,q],_=>exact ⟨r,q,rfl⟩
  exact ⟨id,r,q,rfl,h1,(List.getElem?_eq_some_iff.1 h3).1,by simpa using h3,h6 0 (by simp) (by simp),h6 1 (by simp) (by simp)⟩
theorem qr0 (E:qcp) (hE:qvf E) (R D N:Nat) (dn:Int→Bool) (ev:Int→Res) (ns:List Nd) {TV OL:qa} (hR:R < g.length) (hb:g[R]? = some (.cells [TV,.lst (E.vals.map qa7) .no,qal E.bag,.int .i64 E.en,.int .i64 E.ed,OL,.sl D 0 N N 0])) (hO:qcr H E.oth OL) (hg:Cov H g) (hT:qcJ H ns TV) (hD:qbE H g D N dn ev) (hev:∀i,dn i = true→I64 (qeX (ev i).1)) (i:Nat) (hi:i < ns.length) (hc:qrC ns[i].op = false) (har:qiI ns[i].op ns[i].ins.length) (hin:∀j ∈ ns[i].ins,0 ≤ j∧j < N) (hn:qbT dn ev ns[i].ins = -1) :
  ∃rs m,Wd (.fn 26 [] []) [.ptr R 0,.int .i64 (i:Nat)] g = some (.ret (.agg rs),g ++ m,false)∧RAt (ext H g m) (qcD ev (qgj E ns[i]) ns[i].ins []) rs:=by
 obtain ⟨tid,I,hTV,hlt,x1,x2,hI⟩:=hT.item hi hg
 subst hTV
 obtain ⟨Id,Is,Iw,Il⟩:=hI.facts
 generalize ns[i] = nd at *
 obtain ⟨op,n,nm,sb,pl,ins⟩:=nd
 simp only at *
 have ww:∀e h,Wd (.fn 55 [] []) [.int .i64 e] h = some (.ret (rI 0 e),h,false):=fun e h=>qan e
 have w7:=fun (x:Int) h=>qaC (h:=h) x
 have w8:=fun b h=>qkU (g:=h) b
 simp only [rI] at w7 ww
 have d:∀id o n c w:Nat,(qa.sl id o n c w).dim = .sl id o n c w:=fun _ _ _ _ _=>rfl
 have st:∀id o n c w:Nat,(qa.sl id o n c w).storable = true:=fun _ _ _ _ _=>rfl
 have dw:∀id o n c w i t,qx (qa.sl id o n c w) i t = t:=fun _ _ _ _ _ _ _=>rfl
 have hb0:Nat.ble g.length g.length = true:=qi (by omega)
 have hb1:=qrB g 1
 obtain ⟨cq23,cq24,cq25⟩ :(op == 23) = false∧(op == 24) = false∧(op == 25) = false:=by
  simpa [qrC] using hc
 obtain ⟨G0,hG0⟩ :∃G0,G0 = g ++ [zr5,qb.cells [.int .i64 op,.int .i64 n,.str nm,.str sb,.int .i64 pl,I]]:=⟨_,rfl⟩
 have hG0l:G0.length = g.length + 2:=by rw [hG0];simp
 have loop:=qk9 R D N dn ev (qgj E ⟨op,n,nm,sb,pl,ins⟩) hR hb hg hD [.int .i64 op,.int .i64 n,.str nm,.str sb,.int .i64 pl,I] hI hin (by rcases har with ⟨_,h⟩ | ⟨_,_,h⟩ | ⟨_,h⟩ | ⟨_,h⟩ <;> omega) G0 hG0
 generalize hw:Wd _ _ g = w
 rw [qr rfl (show T.get 26 = some c26 by kernel_rfl)] at hw
 simp only [sA.1,c26,simprocAttr,-Int.reduceNatCast',hR,hb,hlt,x1,x2,Id,Is,Iw,Il,d,st,dw,hb0,hb1,cq23,cq24,cq25] at hw
 generalize hr:qm g.length Wd (.loop qjl) _ = r at hw
 obtain ⟨x,st',rfl,tt,G,V,vs,rs,rfl,ht,e0,e4,e5,⟨rfl,e6,hG1,hG2,hGc,hV,hA,hvl,hM⟩ | ⟨rfl,hk,hlk,hb5,hrs⟩⟩:=qaB hr (loop ins.length _ ⟨_,G0,0,.lst [] .full,[],by rw [hG0],by simp only [sB.1,simprocAttr,-Int.reduceNatCast'],by simp only [sB.1,simprocAttr,-Int.reduceNatCast'],by simp only [sB.1,simprocAttr,-Int.reduceNatCast'],by simp only [sB.1,simprocAttr,-Int.reduceNatCast'],by simp only [sB.1,simprocAttr,-Int.reduceNatCast'],by simp only [sB.1,simprocAttr,-Int.reduceNatCast',Id],by simp only [sB.1,simprocAttr,-Int.reduceNatCast'],by simp only [sB.1,simprocAttr,-Int.reduceNatCast',Int.natCast_zero],by omega,rfl,fun _ _=>rfl,by omega,by rw [hG0];exact hg.more _,.inl ⟨rfl,rfl⟩,rfl,hn,fun v hv=>by cases hv⟩)
 ·rw [hA]
  have old:∀i,i < g.length→G[i]? = g[i]?:=fun i hi=>by rw [hG1 i (by omega),hG0,List.getElem?_append_left hi]
  have GR:R < G.length:=by omega
  have GRb:=(old R hR).trans hb
  have hlk:g.length < G.length:=by omega
  have hlk1:g.length + 1 < G.length:=by omega
  have hz:G[g.length]? = some zr5:=by rw [hG1 _ (by omega),hG0,qQ];rfl
  have hnd:G[g.length + 1]? = some (.cells [.int .i64 op,.int .i64 n,.str nm,.str sb,.int .i64 pl,I]):=by rw [hG1 _ (by omega),hG0,qaL];rfl
  have htk:G.take g.length = g:=by
   apply List.ext_getElem?
   intro i
   rw [List.getElem?_take]
   split
   ·exact old i ‹_›
   ·rw [List.getElem?_eq_none (by omega)]
  have hset:∀b,(G.set g.length b).take g.length = g:=fun b=>by rw [List.take_set_of_le (by omega),htk]
  have up:∀{m r rs},RAt H r rs→RAt (ext H g m) r rs:=fun h=>h.mono (qev hg)
  obtain ⟨Vd,Vs,Vw,Vl⟩:=hV.facts
  rcases har with ⟨ho,h0⟩ | ⟨rfl,h1,h4⟩ | ⟨ho,h1⟩ | ⟨ho,h2⟩
  ·have:vs = []:=List.length_eq_zero_iff.1 (by omega)
   subst this
   rcases ho with rfl | rfl | rfl | rfl | rfl | rfl | rfl | rfl | rfl | rfl
   ·simp only [sA.1,simprocAttr,-Int.reduceNatCast',ht,e0,e4,e5,e6,hz,hnd,hlk,hlk1,GR,GRb,hb0,hb1,w7] at hw
    subst hw
    obtain ⟨m,hm,_⟩:=qK (v:=_) (hset _)
    exact ⟨_,m,congrArg some hm,up (RAt.whole H n)⟩
   ·simp only [sA.1,simprocAttr,-Int.reduceNatCast',ht,e0,e4,e5,e6,hz,hnd,hlk,hlk1,GR,GRb,hb0,hb1,w8] at hw
    subst hw
    obtain ⟨m,hm,_⟩:=qK (v:=_) (hset _)
    exact ⟨_,m,congrArg some hm,up (RAt.truth H true)⟩
   ·simp only [sA.1,simprocAttr,-Int.reduceNatCast',ht,e0,e4,e5,e6,hz,hnd,hlk,hlk1,GR,GRb,hb0,hb1,w8] at hw
    subst hw
    obtain ⟨m,hm,_⟩:=qK (v:=_) (hset _)
    exact ⟨_,m,congrArg some hm,up (RAt.truth H false)⟩
   ·obtain ⟨rs,hck,hrs⟩:=qc2 (At.leaf H 2 0 nm) hGc
    obtain ⟨k',n',s',l',L',e,rfl,hL'⟩:=hrs.cells
    obtain ⟨d2,s2,w2,n2⟩:=hL'.facts
    have hlo2:=hL'.low hg
    simp only [sA.1,simprocAttr,-Int.reduceNatCast',ht,e0,e4,e5,e6,hz,hnd,hlk,hlk1,GR,GRb,hb0,hb1,hck,d2,s2,w2,hlo2] at hw
    subst hw
    obtain ⟨m,hm,_⟩:=qK (v:=_) (hset _)
    exact ⟨_,m,congrArg some hm,up hrs⟩
   ·obtain ⟨rs,hck,hrs⟩:=qf5 E hGc R GR GRb hO hE.ol hE.vl 4 n nm sb pl I Id Is Iw
    obtain ⟨k',n',s',l',L',e,rfl,hL'⟩:=hrs.cells
    obtain ⟨d2,s2,w2,n2⟩:=hL'.facts
    have hlo2:=hL'.low hg
    simp only [sA.1,simprocAttr,-Int.reduceNatCast',ht,e0,e4,e5,e6,hz,hnd,hlk,hlk1,GR,GRb,hb0,hb1,hck,d2,s2,w2,hlo2,Id,Is,Iw] at hw
    subst hw
    obtain ⟨m,hm,_⟩:=qK (v:=_) (hset _)
    exact ⟨_,m,congrArg some hm,up hrs⟩
   ·obtain ⟨rs,hck,hrs⟩:=qf5 E hGc R GR GRb hO hE.ol hE.vl 5 n nm sb pl I Id Is Iw
    obtain ⟨k',n',s',l',L',e,rfl,hL'⟩:=hrs.cells
    obtain ⟨d2,s2,w2,n2⟩:=hL'.facts
    have hlo2:=hL'.low hg
    simp only [sA.1,simprocAttr,-Int.reduceNatCast',ht,e0,e4,e5,e6,hz,hnd,hlk,hlk1,GR,GRb,hb0,hb1,hck,d2,s2,w2,hlo2,Id,Is,Iw] at hw
    subst hw
    obtain ⟨m,hm,_⟩:=qK (v:=_) (hset _)
    exact ⟨_,m,congrArg some hm,up hrs⟩
   ·obtain ⟨rs,hck,hrs⟩:=qeb E hGc R GR GRb hE.bl hE.bs 7 n nm sb pl I Id Is Iw (by omega) [] Vd Vs Vw (fun h=>by cases h)
    obtain ⟨k',n',s',l',L',e,rfl,hL'⟩:=hrs.cells
    obtain ⟨d2,s2,w2,n2⟩:=hL'.facts
    have hlo2:=hL'.low hg
    simp only [sA.1,simprocAttr,-Int.reduceNatCast',ht,e0,e4,e5,e6,hz,hnd,hlk,hlk1,GR,GRb,hb0,hb1,hck,d2,s2,w2,hlo2,Id,Is,Iw,Vd,Vw] at hw
    subst hw
    obtain ⟨m,hm,_⟩:=qK (v:=_) (hset _)
    exact ⟨_,m,congrArg some hm,up hrs⟩
   ·obtain ⟨rs,hck,hrs⟩:=qeb E hGc R GR GRb hE.bl hE.bs 8 n nm sb pl I Id Is Iw (by omega) [] Vd Vs Vw (fun h=>by cases h)
    obtain ⟨k',n',s',l',L',e,rfl,hL'⟩:=hrs.cells
    obtain ⟨d2,s2,w2,n2⟩:=hL'.facts
    have hlo2:=hL'.low hg
    simp only [sA.1,simprocAttr,-Int.reduceNatCast',ht,e0,e4,e5,e6,hz,hnd,hlk,hlk1,GR,GRb,hb0,hb1,hck,d2,s2,w2,hlo2,Id,Is,Iw,Vd,Vw] at hw
    subst hw
    obtain ⟨m,hm,_⟩:=qK (v:=_) (hset _)
    exact ⟨_,m,congrArg some hm,up hrs⟩
   ·obtain ⟨rs,hck,hrs⟩:=qeb E hGc R GR GRb hE.bl hE.bs 9 n nm sb pl I Id Is Iw (by omega) [] Vd Vs Vw (fun h=>by cases h)
    obtain ⟨k',n',s',l',L',e,rfl,hL'⟩:=hrs.cells
    obtain ⟨d2,s2,w2,n2⟩:=hL'.facts
    have hlo2:=hL'.low hg
    simp only [sA.1,simprocAttr,-Int.reduceNatCast',ht,e0,e4,e5,e6,hz,hnd,hlk,hlk1,GR,GRb,hb0,hb1,hck,d2,s2,w2,hlo2,Id,Is,Iw,Vd,Vw] at hw
    subst hw
    obtain ⟨m,hm,_⟩:=qK (v:=_) (hset _)
    exact ⟨_,m,congrArg some hm,up hrs⟩
   ·have hl:=qFE g.length E.en E.ed G
    simp only [sA.1,simprocAttr,-Int.reduceNatCast',ht,e0,e4,e5,e6,hz,hnd,hlk,hlk1,GR,GRb,hb0,hb1,hl,Id,Is,Iw] at hw
    subst hw
    have hK:(G.set g.length (.cells [.int .i64 3,.int .i64 0,.str [],.sl G.length 0 2 2 0,.int .i64 0]) ++ [qb.cells [.int .i64 0,.int .i64 E.en,.str [],.lst [] .full,.int .i64 0,.int .i64 E.ed,.str [],.lst [] .full]]).take g.length = g:=by rw [List.take_append_of_le_length (by simp;omega),hset]
    obtain ⟨m,hm,hm2⟩:=qK (v:=.agg [.int .i64 3,.int .i64 0,.str [],.sl G.length 0 2 2 0,.int .i64 0]) hK
    have hgm:=hm2 (by simp only [qa.lower,qv,Bool.true_and,Bool.and_true];exact qcN (by omega))
    refine ⟨_,m,congrArg some hm,[.int .i64 3,.int .i64 0,.str [],.sl G.length 0 2 2 0],rfl,?_⟩
    have e1:ext H g m G.length = some (.cells [[qa.int .i64 0,.int .i64 E.en,.str [],.lst [] .full],[.int .i64 0,.int .i64 E.ed,.str [],.lst [] .full]].flatten):=by
     rw [qft (by omega),hgm,List.getElem?_append_right (by simp)]
     simp
    refine (LP.at (l:=[.mk 0 E.en [] [],.mk 0 E.ed [] []]) ⟨_,rfl,fun i a b=>?_,.inr ⟨_,0,rfl,e1⟩⟩ 3 0 [])
    have:i = 0∨i = 1:=by simp at a;omega
    rcases this with rfl | rfl
    ·exact At.leaf _ 0 _ []
    ·exact At.leaf _ 0 _ []
  ·obtain ⟨H1,hH1⟩ :∃H1:Nat→Option qb,H1 = fun i=>if i < g.length then H i else if i = g.length then none else G[i]?:=⟨_,rfl⟩
   have o1:∀i,i < g.length→H1 i = H i:=fun i hi=>by rw [hH1];exact if_pos hi
   have o2:∀i,g.length < i→H1 i = G[i]?:=fun i hi=>by rw [hH1];simp only;rw [if_neg (by omega),if_neg (by omega)]
   have o3:H1 g.length = none:=by rw [hH1];simp
   have hs1:Sub H H1:=fun i x hx=>by rw [o1 i (hg.lt hx)];exact hx
   have hc1:Cov H1 G:=fun i x hx=>by
    rcases Nat.lt_trichotomy i g.length with h | h | h
    ·rw [o1 i h] at hx;exact hGc i x hx
    ·subst h;rw [o3] at hx;cases hx
    ·rw [o2 i h] at hx;exact hx
   have hlp:LP H1 vs V:=hV.lp hs1 fun i a _ _=>o2 i (by omega)
   have hat:=hlp.at 3 0 []
   have hck:=qk6 hat hc1
   have Vc:V.cells = [V]:=by rcases hV with ⟨_,rfl⟩ | ⟨id,rs,rfl,_⟩ <;> rfl
   have e:qgj E ⟨6,n,nm,sb,pl,ins⟩ vs = qa6 (.mk 3 0 [] vs):=rfl
   rw [e,qa6]
   have hne:vs ≠ []:=fun h=>by rw [h] at hvl;simp at hvl;omega
   cases hr3:qE 3 (.mk 3 0 [] vs) with
   | false=>
    rw [hr3,cond_false] at hck
    simp only [sA.1,simprocAttr,-Int.reduceNatCast',ht,e0,e4,e5,e6,hz,hnd,hlk,hlk1,GR,GRb,hb0,hb1,hck,Vd,Vs,Vw,Vc,Id,Is,Iw] at hw
    subst hw
    obtain ⟨m,hm,_⟩:=qK (v:=_) (hset _)
    exact ⟨_,m,congrArg some hm,up (RAt.wrong H 1)⟩
   | true=>
    rw [hr3,cond_true] at hck
    simp only [List.cons_append,List.nil_append] at hck
    simp only [sA.1,simprocAttr,-Int.reduceNatCast',ht,e0,e4,e5,e6,hz,hnd,hlk,hlk1,GR,GRb,hb0,hb1,hck,Vd,Vs,Vw,Vc,Id,Is,Iw] at hw
    subst hw
    obtain ⟨m,hm,hm2⟩:=qK (v:=.agg [.int .i64 3,.int .i64 0,.str [],V,.int .i64 0]) (hset (.cells [.int .i64 3,.int .i64 0,.str [],V,.int .i64 0]))
    have hVl:V.lower g.length = false:=by
     rcases hV with ⟨h,_⟩ | ⟨id,rs,rfl,h1,_⟩
     ·exact absurd h hne
     ·exact qcN (by omega)
    have hgm:=hm2 (by simp only [qa.lower,qv,hVl,Bool.true_and,Bool.and_true])
    have hs2:Sub H1 (ext H g m):=fun i x hx=>by
     rcases Nat.lt_trichotomy i g.length with h | h | h
     ·rw [qeu h,←o1 i h];exact hx
     ·subst h;rw [o3] at hx;cases hx
     ·rw [o2 i h] at hx
      rw [qft (by omega),hgm,List.getElem?_set_ne (by omega)]
      exact hx
    exact ⟨_,m,congrArg some hm,_,rfl,hat.mono hs2⟩
  ·obtain ⟨v,rfl⟩ :∃v,vs = [v]:=by
    match vs,(show vs.length = 1 by omega) with
    | [v],_=>exact ⟨v,rfl⟩
   obtain ⟨id,cs,rfl,hid2,hidl,hidb,hv⟩:=hV.one
   have hcs:=hv.length
   obtain ⟨k1,n1,z1,l1,L1,rfl,rfl,hL1⟩ :∃k n s l L,v = .mk k n s l∧cs = [.int .i64 k,.int .i64 n,.str s,L]∧LP H l L:=by
    obtain ⟨k,n,s,l⟩:=v
    obtain ⟨L,e,h⟩:=hv.lp
    exact ⟨k,n,s,l,L,rfl,e,h⟩
   obtain ⟨d1,s1,w1,q1⟩:=hL1.facts
   have hlo1:=hL1.low hg
   have sl10:qav 4 (.sl id 0 1 1 4) (.int .i64 0) = some (.ptr id 0):=by kernel_rfl
   have slD:∀id o n c w:Nat,(qa.sl id o n c w).dim = .sl id o n c w:=fun _ _ _ _ _=>rfl
   rcases ho with rfl | rfl | rfl | rfl
   ·obtain ⟨rs,hck,hrs⟩:=qeb E hGc R GR GRb hE.bl hE.bs 10 n nm sb pl I Id Is Iw (by omega) [.mk k1 n1 z1 l1] (L:=.sl id 0 1 1 4) rfl rfl (fun _ _=>rfl) (fun _=>⟨_,_,.ptr id 0,_,rfl,sl10,rfl,fun m=>by rw [qkw,List.getElem?_append_left hidl,hidb,ldB];exact hv.cut1,hv⟩)
    obtain ⟨k',n',s',l',L',e,rfl,hL'⟩:=hrs.cells
    obtain ⟨d2,s2,w2,n2⟩:=hL'.facts
    have hlo2:=hL'.low hg
    simp only [sA.1,simprocAttr,-Int.reduceNatCast',ht,e0,e4,e5,e6,hz,hnd,hlk,hlk1,GR,GRb,hb0,hb1,hck,d2,s2,w2,hlo2,Id,Is,Iw,slD] at hw
    subst hw
    obtain ⟨m,hm,_⟩:=qK (v:=_) (hset _)
    exact ⟨_,m,congrArg some hm,up hrs⟩
   ·have e:qgj E ⟨12,n,nm,sb,pl,ins⟩ [.mk k1 n1 z1 l1] = qpn n (.mk k1 n1 z1 l1):=rfl
    rw [e,qpn]
    cases hk3:(k1 == 3) with
    | false=>
     simp only [sA.1,simprocAttr,-Int.reduceNatCast',ht,e0,e4,e5,e6,hz,hnd,hlk,hlk1,GR,GRb,hb0,hb1,hidl,hidb,sl10,d1,s1,w1,q1,hk3,ww,Id,Is,Iw,slD] at hw
     subst hw
     obtain ⟨m,hm,_⟩:=qK (v:=_) (hset _)
     exact ⟨_,m,congrArg some hm,up (RAt.wrong H 1)⟩
    | true=>
     rw [Bool.not_true,cond_false]
     generalize hx:qkq l1 n = x
     rcases qc7 hx with ⟨rfl,c | ⟨c,c'⟩⟩ | ⟨i,hi,rfl,rfl,c,c'⟩
     ·simp only [sA.1,simprocAttr,-Int.reduceNatCast',ht,e0,e4,e5,e6,hz,hnd,hlk,hlk1,GR,GRb,hb0,hb1,hidl,hidb,sl10,d1,s1,w1,q1,hk3,c,ww,Id,Is,Iw,slD] at hw
      subst hw
      obtain ⟨m,hm,_⟩:=qK (v:=_) (hset _)
      exact ⟨_,m,congrArg some hm,up (RAt.wrong H 1)⟩
     ·simp only [sA.1,simprocAttr,-Int.reduceNatCast',ht,e0,e4,e5,e6,hz,hnd,hlk,hlk1,GR,GRb,hb0,hb1,hidl,hidb,sl10,d1,s1,w1,q1,hk3,c,c',ww,Id,Is,Iw,slD] at hw
      subst hw
      obtain ⟨m,hm,_⟩:=qK (v:=_) (hset _)
      exact ⟨_,m,congrArg some hm,up (RAt.wrong H 1)⟩
     ·obtain ⟨pp,cs,x2,x3,x4,x5,x6⟩:=hL1.item hi hGc
      have x7:∀i t,qx pp i t = t:=fun i t=>by rw [←x3];exact qaf _ _ _
      have hrs:RAt H (l1[i],0) (cs ++ [.int .i64 0]):=⟨cs,rfl,x6⟩
      obtain ⟨k',n',s',l',L',e,_⟩:=x6.cells
      obtain ⟨LL,rfl,hLL⟩ :∃LL,cs = [.int .i64 k',.int .i64 n',.str s',LL]∧LP H l' LL:=by
       rw [e] at x6
       exact x6.lp
      obtain ⟨d2,s2,w2,n2⟩:=hLL.facts
      have hlo2:=hLL.low hg
      simp only [sA.1,simprocAttr,-Int.reduceNatCast',ht,e0,e4,e5,e6,hz,hnd,hlk,hlk1,GR,GRb,hb0,hb1,hidl,hidb,sl10,d1,s1,w1,q1,hk3,c,c',x2,x3,x4,x5,x7,d2,s2,w2,hlo2,Id,Is,Iw,slD] at hw
      subst hw
      obtain ⟨m,hm,_⟩:=qK (v:=_) (hset _)
      exact ⟨_,m,congrArg some hm,up hrs⟩
   ·have hsum:∃rs,Wd (.fn 57 [] []) [.int .i64 13,.sl id 0 1 1 4] G = some (.ret (.agg rs),G,false)∧RAt H (qjX 13 [.mk k1 n1 z1 l1]) rs:=by
     rw [qjX]
     cases hi:(k1 == 0) with
     | true=>
      have hi':k1 = 0:=by simpa using hi
      subst hi'
      obtain ⟨j,hj,hj2⟩:=hM (.mk 0 n1 z1 l1) (by simp)
      have hI:=hev j hj
      rw [hj2] at hI
      exact ⟨_,qxt d1 s1 hidl hidb hI,At.leaf H 0 _ [] |> fun h=>⟨_,rfl,h⟩⟩
     | false=>exact ⟨_,qmN d1 s1 hidl hidb hi,by simp only [isI,hi,cond_false];exact RAt.wrong H 1⟩
    obtain ⟨rs,hck,hrs⟩:=hsum
    obtain ⟨k',n',s',l',L',e,rfl,hL'⟩:=hrs.cells
    obtain ⟨d2,s2,w2,n2⟩:=hL'.facts
    have hlo2:=hL'.low hg
    simp only [sA.1,simprocAttr,-Int.reduceNatCast',ht,e0,e4,e5,e6,hz,hnd,hlk,hlk1,GR,GRb,hb0,hb1,hck,d2,s2,w2,hlo2,Id,Is,Iw,slD] at hw
    subst hw
    obtain ⟨m,hm,_⟩:=qK (v:=_) (hset _)
    exact ⟨_,m,congrArg some hm,up hrs⟩
   ·cases hk1:(k1 == 1) with
    | true=>
     simp only [sA.1,simprocAttr,-Int.reduceNatCast',ht,e0,e4,e5,e6,hz,hnd,hlk,hlk1,GR,GRb,hb0,hb1,hidl,hidb,sl10,d1,s1,w1,hk1,w8,Id,Is,Iw,slD] at hw
     subst hw
     obtain ⟨m,hm,_⟩:=qK (v:=_) (hset _)
     refine ⟨_,m,congrArg some hm,up ?_⟩
     have e:qgj E ⟨14,n,nm,sb,pl,ins⟩ [.mk k1 n1 z1 l1] = qyD (.mk k1 n1 z1 l1):=rfl
     rw [e,qyD,hk1,Bool.not_true,cond_false]
     exact RAt.truth H _
    | false=>
     simp only [sA.1,simprocAttr,-Int.reduceNatCast',ht,e0,e4,e5,e6,hz,hnd,hlk,hlk1,GR,GRb,hb0,hb1,hidl,hidb,sl10,d1,s1,w1,hk1,ww,Id,Is,Iw,slD] at hw
     subst hw
     obtain ⟨m,hm,_⟩:=qK (v:=_) (hset _)
     refine ⟨_,m,congrArg some hm,up ?_⟩
     have e:qgj E ⟨14,n,nm,sb,pl,ins⟩ [.mk k1 n1 z1 l1] = qyD (.mk k1 n1 z1 l1):=rfl
     rw [e,qyD,hk1,Bool.not_false,cond_true]
     exact RAt.wrong H 1
  ·obtain ⟨v,v',rfl⟩ :∃v v',vs = [v,v']:=by
    match vs,(show vs.length = 2 by omega) with
    | [v,v'],_=>exact ⟨v,v',rfl⟩
   obtain ⟨id,cs,cs',rfl,hid2,hidl,hidb,hv,hv'⟩:=hV.two
   have hcs:=hv.length
   obtain ⟨k1,n1,z1,l1,L1,rfl,rfl,hL1⟩ :∃k n s l L,v = .mk k n s l∧cs = [.int .i64 k,.int .i64 n,.str s,L]∧LP H l L:=by
    obtain ⟨k,n,s,l⟩:=v
    obtain ⟨L,e,h⟩:=hv.lp
    exact ⟨k,n,s,l,L,rfl,e,h⟩
   obtain ⟨k3,n3,z3,l3,L3,rfl,rfl,hL3⟩ :∃k n s l L,v' = .mk k n s l∧cs' = [.int .i64 k,.int .i64 n,.str s,L]∧LP H l L:=by
    obtain ⟨k,n,s,l⟩:=v'
    obtain ⟨L,e,h⟩:=hv'.lp
    exact ⟨k,n,s,l,L,rfl,e,h⟩
   obtain ⟨d1,s1,w1,q1⟩:=hL1.facts
   obtain ⟨d3,s3,w3,q3⟩:=hL3.facts
   have hlo1:=hL1.low hg
   have hlo3:=hL3.low hg
   have sl20:qav 4 (.sl id 0 2 2 4) (.int .i64 0) = some (.ptr id 0):=by kernel_rfl
   have sl21:qav 4 (.sl id 0 2 2 4) (.int .i64 1) = some (.ptr id 4):=by kernel_rfl
   have slD:∀id o n c w:Nat,(qa.sl id o n c w).dim = .sl id o n c w:=fun _ _ _ _ _=>rfl
   have hidb:G[id]? = some (.cells [.int .i64 k1,.int .i64 n1,.str z1,L1,.int .i64 k3,.int .i64 n3,.str z3,L3]):=hidb
   have hcmp:=qyG hv hv' G hGc
   have hsum:∀op,(op = 15∨op = 16∨op = 17∨op = 18∨op = 19)→∃rs,Wd (.fn 57 [] []) [.int .i64 op,.sl id 0 2 2 4] G = some (.ret (.agg rs),G,false)∧RAt H (qjX op [.mk k1 n1 z1 l1,.mk k3 n3 z3 l3]) rs:=fun op hop=>by
    rw [qjX]
    cases hi:(k1 == 0) with
    | false=>exact ⟨_,qgE d1 s1 d3 s3 hidl hidb (.inl hi),by simp only [isI,hi,Bool.false_and,cond_false];exact RAt.wrong H 1⟩
    | true=>
     cases hi3:(k3 == 0) with
     | false=>exact ⟨_,qgE d1 s1 d3 s3 hidl hidb (.inr ⟨hi,hi3⟩),by simp only [isI,hi,hi3,Bool.true_and,cond_false];exact RAt.wrong H 1⟩
     | true=>
      have hi':k1 = 0:=by simpa using hi
      have hi3':k3 = 0:=by simpa using hi3
      subst hi'
      subst hi3'
      obtain ⟨j,hj,hj2⟩:=hM (.mk 0 n1 z1 l1) (by simp)
      have hI:=hev j hj
      rw [hj2] at hI
      obtain ⟨j',hj',hj3⟩:=hM (.mk 0 n3 z3 l3) (by simp)
      have hI':=hev j' hj'
      rw [hj3] at hI'
      exact ⟨_,quh d1 s1 d3 s3 hidl hidb hI hI' hop,At.leaf H 0 _ [] |> fun h=>⟨_,rfl,h⟩⟩
   rcases ho with rfl | rfl | rfl | rfl | rfl | rfl | rfl | rfl
   ·obtain ⟨rs,hck,hrs⟩:=hsum 15 (by omega)
    obtain ⟨k',n',s',l',L',e,rfl,hL'⟩:=hrs.cells
    obtain ⟨d2,s2,w2,n2⟩:=hL'.facts
    have hlo2:=hL'.low hg
    simp only [sA.1,simprocAttr,-Int.reduceNatCast',ht,e0,e4,e5,e6,hz,hnd,hlk,hlk1,GR,GRb,hb0,hb1,hck,d2,s2,w2,hlo2,Id,Is,Iw,slD] at hw
    subst hw
    obtain ⟨m,hm,_⟩:=qK (v:=_) (hset _)
    exact ⟨_,m,congrArg some hm,up hrs⟩
   ·obtain ⟨rs,hck,hrs⟩:=hsum 16 (by omega)
    obtain ⟨k',n',s',l',L',e,rfl,hL'⟩:=hrs.cells
    obtain ⟨d2,s2,w2,n2⟩:=hL'.facts
    have hlo2:=hL'.low hg
    simp only [sA.1,simprocAttr,-Int.reduceNatCast',ht,e0,e4,e5,e6,hz,hnd,hlk,hlk1,GR,GRb,hb0,hb1,hck,d2,s2,w2,hlo2,Id,Is,Iw,slD] at hw
    subst hw
    obtain ⟨m,hm,_⟩:=qK (v:=_) (hset _)
    exact ⟨_,m,congrArg some hm,up hrs⟩
   ·obtain ⟨rs,hck,hrs⟩:=hsum 17 (by omega)
    obtain ⟨k',n',s',l',L',e,rfl,hL'⟩:=hrs.cells
    obtain ⟨d2,s2,w2,n2⟩:=hL'.facts
    have hlo2:=hL'.low hg
    simp only [sA.1,simprocAttr,-Int.reduceNatCast',ht,e0,e4,e5,e6,hz,hnd,hlk,hlk1,GR,GRb,hb0,hb1,hck,d2,s2,w2,hlo2,Id,Is,Iw,slD] at hw
    subst hw
    obtain ⟨m,hm,_⟩:=qK (v:=_) (hset _)
    exact ⟨_,m,congrArg some hm,up hrs⟩
   ·obtain ⟨rs,hck,hrs⟩:=hsum 18 (by omega)
    obtain ⟨k',n',s',l',L',e,rfl,hL'⟩:=hrs.cells
    obtain ⟨d2,s2,w2,n2⟩:=hL'.facts
    have hlo2:=hL'.low hg
    simp only [sA.1,simprocAttr,-Int.reduceNatCast',ht,e0,e4,e5,e6,hz,hnd,hlk,hlk1,GR,GRb,hb0,hb1,hck,d2,s2,w2,hlo2,Id,Is,Iw,slD] at hw
    subst hw
    obtain ⟨m,hm,_⟩:=qK (v:=_) (hset _)
    exact ⟨_,m,congrArg some hm,up hrs⟩
   ·obtain ⟨rs,hck,hrs⟩:=hsum 19 (by omega)
    obtain ⟨k',n',s',l',L',e,rfl,hL'⟩:=hrs.cells
    obtain ⟨d2,s2,w2,n2⟩:=hL'.facts
    have hlo2:=hL'.low hg
    simp only [sA.1,simprocAttr,-Int.reduceNatCast',ht,e0,e4,e5,e6,hz,hnd,hlk,hlk1,GR,GRb,hb0,hb1,hck,d2,s2,w2,hlo2,Id,Is,Iw,slD] at hw
    subst hw
    obtain ⟨m,hm,_⟩:=qK (v:=_) (hset _)
    exact ⟨_,m,congrArg some hm,up hrs⟩
   ·simp only [sA.1,simprocAttr,-Int.reduceNatCast',ht,e0,e4,e5,e6,hz,hnd,hlk,hlk1,GR,GRb,hb0,hb1,hidl,hidb,sl20,sl21,d1,s1,w1,d3,s3,w3,hcmp,w8,Id,Is,Iw,slD] at hw
    subst hw
    obtain ⟨m,hm,_⟩:=qK (v:=_) (hset _)
    exact ⟨_,m,congrArg some hm,up (RAt.truth H _)⟩
   ·simp only [sA.1,simprocAttr,-Int.reduceNatCast',ht,e0,e4,e5,e6,hz,hnd,hlk,hlk1,GR,GRb,hb0,hb1,hidl,hidb,sl20,sl21,d1,s1,w1,d3,s3,w3,hcmp,w8,Id,Is,Iw,slD] at hw
    subst hw
    obtain ⟨m,hm,_⟩:=qK (v:=_) (hset _)
    exact ⟨_,m,congrArg some hm,up (RAt.truth H _)⟩
   ·simp only [sA.1,simprocAttr,-Int.reduceNatCast',ht,e0,e4,e5,e6,hz,hnd,hlk,hlk1,GR,GRb,hb0,hb1,hidl,hidb,sl20,sl21,d1,s1,w1,d3,s3,w3,hcmp,w8,Id,Is,Iw,slD] at hw
    subst hw
    obtain ⟨m,hm,_⟩:=qK (v:=_) (hset _)
    exact ⟨_,m,congrArg some hm,up (RAt.truth H _)⟩
 ·obtain ⟨k',n',s',l',L',e,rfl,hL'⟩:=hrs.cells
  obtain ⟨d2,s2,w2,n2⟩:=hL'.facts
  have hlo2:=hL'.low hg
  simp only [sA.1,simprocAttr,-Int.reduceNatCast',ht,e4,hb5,hlk,d2,s2,w2] at hw
  subst hw
  exact ⟨_,[],congrArg some (by rw [List.append_nil];exact qH hk (by simp only [sA.1,simprocAttr,-Int.reduceNatCast',hlo2])),hrs.mono (qev hg)⟩
end
theorem Cho.chB {op:Int} {ins:List Int} (h:Cho op ins):qrC op = true:=by rcases h with ⟨rfl,_⟩ | ⟨rfl,_⟩ | ⟨rfl,_⟩ <;> decide
theorem qiI.chB {op:Int} {n:Nat} (h:qiI op n):qrC op = false:=by
 rcases h with ⟨rfl | rfl | rfl | rfl | rfl | rfl | rfl | rfl | rfl | rfl,_⟩ | ⟨rfl,_⟩ | ⟨rfl | rfl | rfl | rfl,_⟩ | ⟨rfl | rfl | rfl | rfl | rfl | rfl | rfl | rfl,_⟩ <;> decide
theorem Cho.head {op:Int} {ins:List Int} (h:Cho op ins):ins.getD 0 0 ∈ ins:=by rcases h with ⟨_,a,b,c,rfl⟩ | ⟨_,a,b,rfl⟩ | ⟨_,a,b,rfl⟩ <;> simp
theorem qp4 {op:Int} {ins:List Int} {dn:Int→Bool} {ev:Int→Res} (hc:Cho op ins) (hin:∀j ∈ ins,0 ≤ j) (h:qcA op ins dn ev = -1):dn (ins.getD 0 0) = true∧(0 ≤ qaz op ins (ev (ins.getD 0 0))→dn (qaz op ins (ev (ins.getD 0 0))) = true):=by
 have h0:=hin _ hc.head
 rw [qcA,hc.chB,cond_true] at h
 cases cq0:dn (ins.getD 0 0) with
 | false=>rw [cq0,Bool.not_false,cond_true] at h;omega
 | true=>
  rw [cq0,Bool.not_true,cond_false] at h
  refine ⟨rfl,fun hs=>?_⟩
  have h1:ile 0 (qaz op ins (ev (ins.getD 0 0))) = true:=by rw [qaw];simpa using hs
  rw [h1,Bool.true_and] at h
  cases cq1:dn (qaz op ins (ev (ins.getD 0 0))) with
  | true=>rfl
  | false=>rw [cq1,Bool.not_false,cond_true] at h;omega
section
variable {g:List qb} {H:Nat→Option qb}
theorem qnC (R D N:Nat) (dn:Int→Bool) (ev:Int→Res) (ns:List Nd) {TV VL BV OL:qa} {en ed:Int} (hR:R < g.length) (hb:g[R]? = some (.cells [TV,VL,BV,.int .i64 en,.int .i64 ed,OL,.sl D 0 N N 0])) (hg:Cov H g) (hT:qcJ H ns TV) (hD:qbE H g D N dn ev) (i:Nat) (hi:i < ns.length) (hc:Cho ns[i].op ns[i].ins) (hin:∀j ∈ ns[i].ins,0 ≤ j∧j < N) (hn:qcA ns[i].op ns[i].ins dn ev = -1) :
  ∃rs,Wd (.fn 26 [] []) [.ptr R 0,.int .i64 (i:Nat)] g = some (.ret (.agg rs),g,false)∧RAt H (qdy ns[i].op ns[i].ins ev) rs:=by
 obtain ⟨tid,I,hTV,hlt,x1,x2,hI⟩:=hT.item hi hg
 subst hTV
 obtain ⟨Id,Is,Iw,Il⟩:=hI.facts
 generalize ns[i] = nd at *
 obtain ⟨op,n,nm,sb,pl,ins⟩:=nd
 simp only at *
 obtain ⟨iid,rfl,hiid⟩:=hI.cho hc
 obtain ⟨h0,h1⟩:=qp4 hc (fun j hj=>(hin j hj).1) hn
 have hil:=hg.lt hiid
 have hib:=hg _ _ hiid
 have d:∀id o n c w:Nat,(qa.sl id o n c w).dim = .sl id o n c w:=fun _ _ _ _ _=>rfl
 have st:∀id o n c w:Nat,(qa.sl id o n c w).storable = true:=fun _ _ _ _ _=>rfl
 have dw:∀id o n c w i t,qx (qa.sl id o n c w) i t = t:=fun _ _ _ _ _ _ _=>rfl
 have hb0:Nat.ble g.length g.length = true:=qi (by omega)
 have hb1:=qrB g 1
 have cop:(op == 23) = true∨((op == 23) = false∧(op == 24) = true)∨((op == 23) = false∧(op == 24) = false∧(op == 25) = true):=by rcases hc with ⟨rfl,_⟩ | ⟨rfl,_⟩ | ⟨rfl,_⟩ <;> decide
 have hbG:∀m,(g ++ m)[R]? = some (.cells [.sl tid 0 ns.length ns.length 6,VL,BV,.int .i64 en,.int .i64 ed,OL,.sl D 0 N N 0]):=fun m=>by rw [List.getElem?_append_left hR];exact hb
 obtain ⟨rs,hck,hrs⟩:=qnu (g:=g ++ [zr5,qb.cells [.int .i64 op,.int .i64 n,.str nm,.str sb,.int .i64 pl,.sl iid 0 ins.length ins.length 1]]) R D N dn ev (by simp;omega) (hbG _) (hg.more _) (hD.more _) op n nm sb pl iid ins hc (by simp;omega) (by rw [List.getElem?_append_left hil];exact hib) hin h0 h1
 refine ⟨rs,?_,hrs⟩
 obtain ⟨k',n',s',l',L',e,rfl,hL'⟩:=hrs.cells
 obtain ⟨d2,s2,w2,n2⟩:=hL'.facts
 have hlo2:=hL'.low hg
 rw [qr rfl (show T.get 26 = some c26 by kernel_rfl)]
 rcases cop with k1 | ⟨k1,k2⟩ | ⟨k1,k2,k3⟩
 ·simp only [sA.1,c26,simprocAttr,-Int.reduceNatCast',hR,hb,hlt,x1,x2,d,st,dw,hb0,hb1,k1,hck,d2,s2,w2,hlo2]
 ·simp only [sA.1,c26,simprocAttr,-Int.reduceNatCast',hR,hb,hlt,x1,x2,d,st,dw,hb0,hb1,k1,k2,hck,d2,s2,w2,hlo2]
 ·simp only [sA.1,c26,simprocAttr,-Int.reduceNatCast',hR,hb,hlt,x1,x2,d,st,dw,hb0,hb1,k1,k2,k3,hck,d2,s2,w2,hlo2]
def qkX (nd:Nd) (i:Nat):Prop:=(Cho nd.op nd.ins∨qiI nd.op nd.ins.length)∧∀j ∈ nd.ins,0 ≤ j∧j < (i:Int)
def qcz (ns:List Nd):Prop:=ns ≠ []∧∀i (hi:i < ns.length),qkX ns[i] i
theorem Ext.nil {H:Nat→Option qb} {g:List qb} (hg:Cov H g):Sub H (ext H g []):=qev hg
theorem qnB (E:qcp) (hE:qvf E) (R D N:Nat) (dn:Int→Bool) (ev:Int→Res) (ns:List Nd) {TV OL:qa} (hR:R < g.length) (hb:g[R]? = some (.cells [TV,.lst (E.vals.map qa7) .no,qal E.bag,.int .i64 E.en,.int .i64 E.ed,OL,.sl D 0 N N 0])) (hO:qcr H E.oth OL) (hg:Cov H g) (hT:qcJ H ns TV) (hD:qbE H g D N dn ev) (hev:∀i,dn i = true→I64 (qeX (ev i).1)) (i:Nat) (hi:i < ns.length) (hN:ns.length = N) (hs:qkX ns[i] i) (hn:qcA ns[i].op ns[i].ins dn ev = -1) :
  ∃rs m,Wd (.fn 26 [] []) [.ptr R 0,.int .i64 (i:Nat)] g = some (.ret (.agg rs),g ++ m,false)∧RAt (ext H g m) (qcO E ns[i] ev) rs:=by
 have hin:∀j ∈ ns[i].ins,0 ≤ j∧j < (N:Int):=fun j hj=>by have:=hs.2 j hj;omega
 rcases hs.1 with hc | ha
 ·obtain ⟨rs,h1,h2⟩:=qnC R D N dn ev ns hR hb hg hT hD i hi hc hin hn
  refine ⟨rs,[],by rw [List.append_nil];exact h1,?_⟩
  rw [qcO,hc.chB,cond_true]
  exact h2.mono (qev hg)
 ·rw [qcA,ha.chB,cond_false] at hn
  rw [qcO,ha.chB,cond_false]
  exact qr0 E hE R D N dn ev ns hR hb hO hg hT hD hev i hi ha.chB ha hin hn
theorem qp2 (R D N:Nat) (dn:Int→Bool) (ev:Int→Res) (ns:List Nd) {TV VL BV OL:qa} {en ed:Int} (hR:R < g.length) (hb:g[R]? = some (.cells [TV,VL,BV,.int .i64 en,.int .i64 ed,OL,.sl D 0 N N 0])) (hg:Cov H g) (hT:qcJ H ns TV) (hD:qbE H g D N dn ev) (i:Nat) (hi:i < ns.length) (hN:ns.length = N) (hs:qkX ns[i] i) :
  Wd (.fn 25 [] []) [.ptr R 0,.int .i64 (i:Nat)] g = some (.ret (.int .i64 (qcA ns[i].op ns[i].ins dn ev)),g,false):=by
 have hin:∀j ∈ ns[i].ins,0 ≤ j∧j < (N:Int):=fun j hj=>by have:=hs.2 j hj;omega
 rcases hs.1 with hc | ha
 ·exact qp3 R D N dn ev ns hR hb hg hT hD i hi hc hin
 ·rw [qcA,ha.chB,cond_false]
  exact qmh R D N dn ev ns hR hb hg hT hD i hi ha.chB hin (by rcases ha with ⟨_,h⟩ | ⟨_,_,h⟩ | ⟨_,h⟩ | ⟨_,h⟩ <;> omega)
def quD (op:Int):Int×Int:=bif op == 6 then (1,4) else bif op == 10 || op == 12 || op == 13 || op == 14 then (1,1) else bif op == 25 then (3,3) else bif ile 15 op then (2,2) else (0,0)
theorem qrN (op:Int) (h0:0 ≤ op) (h1:op ≤ 25):Wd (.fn 47 [] []) [.int .i64 op] g = some (.ret (.tup [.int .i64 (quD op).1,.int .i64 (quD op).2,.bool true]),g,false):=by
 have:op = 0∨op = 1∨op = 2∨op = 3∨op = 4∨op = 5∨op = 6∨op = 7∨op = 8∨op = 9∨op = 10∨op = 11∨op = 12∨op = 13∨op = 14∨op = 15∨op = 16∨op = 17∨op = 18∨op = 19∨op = 20∨op = 21∨op = 22∨op = 23∨op = 24∨op = 25:=by omega
 rw [qr rfl (show T.get 47 = some c47 by kernel_rfl)]
 rcases this with rfl | rfl | rfl | rfl | rfl | rfl | rfl | rfl | rfl | rfl | rfl | rfl | rfl | rfl | rfl | rfl | rfl | rfl | rfl | rfl | rfl | rfl | rfl | rfl | rfl | rfl <;>
 (simp only [sB.1,c47,simprocAttr,-Int.reduceNatCast'];rfl)
theorem qvm {op:Int} {ins:List Int} (h:Cho op ins∨qiI op ins.length):0 ≤ op∧op ≤ 25∧ilt (ins.length:Int) (quD op).1 = false∧ilt (quD op).2 (ins.length:Int) = false:=by
 have a:∀n:Nat,∀x y:Int,x ≤ n→(n:Int) ≤ y→ilt (n:Int) x = false∧ilt y (n:Int) = false:=fun n x y h1 h2=>by
  rw [qf,qf]
  simp
  omega
 have fin:∀x y:Int,(quD op).1 = x→(quD op).2 = y→x ≤ ins.length→(ins.length:Int) ≤ y→ilt (ins.length:Int) (quD op).1 = false∧ilt (quD op).2 (ins.length:Int) = false:=fun x y e1 e2 h1 h2=>by
  rw [e1,e2]
  exact a _ _ _ h1 h2
 rcases h with (⟨rfl,_,_,_,rfl⟩ | ⟨rfl,_,_,rfl⟩ | ⟨rfl,_,_,rfl⟩) | (⟨h0,h⟩ | ⟨rfl,h,h'⟩ | ⟨h0,h⟩ | ⟨h0,h⟩)
 ·exact ⟨by omega,by omega,fin 3 3 rfl rfl (by simp) (by simp)⟩
 ·exact ⟨by omega,by omega,fin 2 2 rfl rfl (by simp) (by simp)⟩
 ·exact ⟨by omega,by omega,fin 2 2 rfl rfl (by simp) (by simp)⟩
 ·rcases h0 with rfl | rfl | rfl | rfl | rfl | rfl | rfl | rfl | rfl | rfl <;> exact ⟨by omega,by omega,fin 0 0 rfl rfl (by omega) (by omega)⟩
 ·exact ⟨by omega,by omega,fin 1 4 rfl rfl (by omega) (by omega)⟩
 ·rcases h0 with rfl | rfl | rfl | rfl <;> exact ⟨by omega,by omega,fin 1 1 rfl rfl (by omega) (by omega)⟩
 ·rcases h0 with rfl | rfl | rfl | rfl | rfl | rfl | rfl | rfl <;> exact ⟨by omega,by omega,fin 2 2 rfl rfl (by omega) (by omega)⟩
theorem qua (ns:List Nd) {TV:qa} (hg:Cov H g) (hT:qcJ H ns TV) (hs:qcz ns) (hl:ns.length ≤ 100000):Wd (.fn 24 [] []) [TV] g = some (.ret (.bool true),g,false):=by
 have har:=fun h op h0 h1=>qrN (g:=h) op h0 h1
 have d:∀id o n c w:Nat,(qa.sl id o n c w).dim = .sl id o n c w:=fun _ _ _ _ _=>rfl
 have Td:TV.dim = TV:=by obtain ⟨_,_,rfl,_⟩:=hT;rfl
 have Tw:∀i t,qx TV i t = t:=by obtain ⟨_,_,rfl,_⟩:=hT;exact fun _ _=>rfl
 have Tl:qbb false TV = some (.int .i64 (ns.length:Nat)):=by obtain ⟨_,_,rfl,_⟩:=hT;rfl
 have inner:∀(i:Nat) (hi:i < ns.length) (I:qa) (G:List qb) (x4:qa),Cov H G→Ins H ns[i].ins I→∀k st,(∃(tt:List qa) (a:Nat),st = ⟨tt,G,false⟩∧tt.length = 59∧lkp tt 3 = .int .i64 (i:Nat)∧lkp tt 10 = TV∧lkp tt 11 = .int .i64 (ns.length:Nat)∧lkp tt 12 = .int .i64 (i:Nat)∧lkp tt 41 = I∧lkp tt 42 = .int .i64 (ns[i].ins.length:Nat)∧lkp tt 43 = .int .i64 (a:Nat)∧lkp tt 0 = TV∧a + k = ns[i].ins.length)→
   ∃x st',qm g.length Wd (.loop qlY) st = some (x,st')∧(∃(tt:List qa),st' = ⟨tt,G,false⟩∧tt.length = 59∧lkp tt 10 = TV∧lkp tt 11 = .int .i64 (ns.length:Nat)∧lkp tt 12 = .int .i64 (i:Nat)∧lkp tt 0 = TV∧x = .exit 2):=by
  intro i hi I G x4 hgG hI
  obtain ⟨Id,Is,Iw,Il⟩:=hI.facts
  have hsi:=(hs.2 i hi).2
  have hlen:ns[i].ins.length ≤ 1000:=by
   rcases (hs.2 i hi).1 with h | h
   ·rcases h with ⟨_,a,b,c,e⟩ | ⟨_,a,b,e⟩ | ⟨_,a,b,e⟩ <;> rw [e] <;> simp
   ·rcases h with ⟨_,h⟩ | ⟨_,_,h⟩ | ⟨_,h⟩ | ⟨_,h⟩ <;> omega
  generalize ns[i].ins = ins at *
  refine qD _ _ ?_
  rintro k st ⟨tt,a,rfl,ht,e3,e10,e11,e12,e41,e42,e43,e0,hak⟩
  generalize he:qm g.length Wd qlY _ = r
  rcases Nat.lt_or_ge a ins.length with ha | ha
  ·have c1E:ilt (a:Int) (ins.length:Int) = true:=by rw [qf];simp;omega
   have w:=q9 (n:=a) (by omega)
   obtain ⟨iid,hIe,y0,y1,y2,y3⟩:=hI.item ha hgG
   have hj:=hsi _ (List.getElem_mem ha)
   have cq2:ilt ins[a] 0 = false:=by rw [qf];simp;omega
   have cq3:ile (i:Int) ins[a] = false:=by rw [qaw];simp;omega
   simp only [sB.1,qlY,simprocAttr,-Int.reduceNatCast',ht,e3,e41,e42,e43,c1E,cq2,cq3,Id,Iw,y0,y1,y2,y3,cI,Option.map_some,w] at he
   subst he
   refine .inl ⟨_,k - 1,rfl,by omega,_,a + 1,rfl,by simp only [qc,ht],?_,?_,?_,?_,?_,?_,?_,?_,by omega⟩
   all_goals simp only [sB.1,simprocAttr,-Int.reduceNatCast',ht,e0,e3,e10,e11,e12,e41,e42,e43,Id,Iw,w]
  ·have c1E:ilt (a:Int) (ins.length:Int) = false:=by rw [qf];simp;omega
   simp only [sB.1,qlY,simprocAttr,-Int.reduceNatCast',ht,e42,e43,c1E] at he
   subst he
   refine .inr ⟨_,_,rfl,by simp,_,rfl,by simp only [qc,ht],?_,?_,?_,?_,rfl⟩
   all_goals simp only [sB.1,simprocAttr,-Int.reduceNatCast',ht,e0,e10,e11,e12]
 have loop:∀k st,(∃(tt:List qa) (i:Nat) (junk:List qb),st = ⟨tt,g ++ junk,false⟩∧tt.length = 59∧lkp tt 10 = TV∧lkp tt 11 = .int .i64 (ns.length:Nat)∧lkp tt 12 = .int .i64 (i:Nat)∧lkp tt 0 = TV∧i + k = ns.length)→
   ∃x st',qm g.length Wd (.loop qlZ) st = some (x,st')∧(∃(tt:List qa) (junk:List qb),st' = ⟨tt,g ++ junk,false⟩∧tt.length = 59∧lkp tt 0 = TV∧x = .exit 0):=by
  refine qD _ _ ?_
  rintro k st ⟨tt,i,junk,rfl,ht,e10,e11,e12,e0,hik⟩
  generalize he:qm g.length Wd qlZ _ = r
  rcases Nat.lt_or_ge i ns.length with hi | hi
  ·have c1E:ilt (i:Int) (ns.length:Int) = true:=by rw [qf];simp;omega
   have w:=q9 (n:=i) (by omega)
   obtain ⟨tid,I,hTe,y0,y1,y2,hI⟩:=hT.item hi (hg.more junk)
   obtain ⟨Id,Is,Iw,Il⟩:=hI.facts
   obtain ⟨o0,o1,o2,o3⟩:=qvm (hs.2 i hi).1
   have hin:=inner i hi I (g ++ junk ++ [.cells [.int .i64 ns[i].op,.int .i64 ns[i].n,.str ns[i].nm,.str ns[i].sb,.int .i64 ns[i].pl,I]]) TV ((hg.more _).more _) hI ns[i].ins.length
   have ha:=har (g ++ junk ++ [.cells [.int .i64 ns[i].op,.int .i64 ns[i].n,.str ns[i].nm,.str ns[i].sb,.int .i64 ns[i].pl,I]]) _ o0 o1
   have hgt:∀m,(g ++ m).take g.length = g:=fun m=>by simp
   have hbJ:Nat.ble g.length (g ++ junk).length = true:=qi (by simp)
   generalize ns[i] = nd at *
   obtain ⟨op,n,nm,sb,pl,ins⟩:=nd
   simp only at *
   generalize hJ:g ++ junk = J at *
   simp only [sA.1,qlZ,simprocAttr,-Int.reduceNatCast',ht,e0,e10,e11,e12,c1E,Td,Tw,y0,y1,y2,ha,o2,o3,Id,Is,Iw,Il,hbJ] at he
   generalize hr:qm g.length Wd (.loop qlY) _ = r2 at he
   obtain ⟨x,st',rfl,tt2,rfl,ht2,f10,f11,f12,f0,rfl⟩:=qaB hr (hin _ ⟨_,0,rfl,by simp only [sB.1,simprocAttr,-Int.reduceNatCast',ht],by simp only [sB.1,simprocAttr,-Int.reduceNatCast',ht],by simp only [sB.1,simprocAttr,-Int.reduceNatCast',ht,e10],by simp only [sB.1,simprocAttr,-Int.reduceNatCast',ht,e11],by simp only [sB.1,simprocAttr,-Int.reduceNatCast',ht,e12],by simp only [sB.1,simprocAttr,-Int.reduceNatCast',ht,Id],by simp only [sB.1,simprocAttr,-Int.reduceNatCast',ht],by simp only [sB.1,simprocAttr,-Int.reduceNatCast',ht,Int.natCast_zero],by simp only [sB.1,simprocAttr,-Int.reduceNatCast',ht,e0],by omega⟩)
   simp only [sB.1,simprocAttr,-Int.reduceNatCast',ht2,f12,w] at he
   subst he
   refine .inl ⟨_,k - 1,rfl,by omega,_,i + 1,junk ++ [_],by rw [←List.append_assoc,hJ],by simp only [qc,ht2],?_,?_,?_,?_,by omega⟩
   all_goals simp only [sB.1,simprocAttr,-Int.reduceNatCast',ht2,f0,f10,f11,f12,w]
  ·have c1E:ilt (i:Int) (ns.length:Int) = false:=by rw [qf];simp;omega
   simp only [sB.1,qlZ,simprocAttr,-Int.reduceNatCast',ht,e11,e12,c1E] at he
   subst he
   exact .inr ⟨_,_,rfl,by simp,_,junk,rfl,by simp only [qc,ht],by simp only [sB.1,simprocAttr,-Int.reduceNatCast',ht,e0],rfl⟩
 have hp:ilt 0 (ns.length:Int) = true:=by
  have:=List.length_pos_iff.2 hs.1
  rw [qf]
  simp
  omega
 generalize hw:Wd _ _ g = w
 rw [qr rfl (show T.get 24 = some c24 by kernel_rfl)] at hw
 simp only [sB.1,c24,simprocAttr,-Int.reduceNatCast',Td,Tw,Tl] at hw
 generalize hr:qm g.length Wd (.loop qlZ) _ = r at hw
 obtain ⟨x,st',rfl,tt,junk,rfl,ht,f0,rfl⟩:=qaB hr (loop ns.length _ ⟨_,0,[],by rw [List.append_nil],by simp only [sB.1,simprocAttr,-Int.reduceNatCast'],by simp only [sB.1,simprocAttr,-Int.reduceNatCast',Td],by simp only [sB.1,simprocAttr,-Int.reduceNatCast'],by simp only [sB.1,simprocAttr,-Int.reduceNatCast',Int.natCast_zero],by simp only [sB.1,simprocAttr,-Int.reduceNatCast'],by omega⟩)
 simp only [sB.1,simprocAttr,-Int.reduceNatCast',ht,f0,Td,Tw,Tl,hp] at hw
 subst hw
 rfl
end
end Go.Proofs.YtnibchoenjmmjaaGreatDoor.AE
