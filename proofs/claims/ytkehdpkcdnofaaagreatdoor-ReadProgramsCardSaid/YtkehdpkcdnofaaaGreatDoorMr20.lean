/- A part of the proof. No condition. -/
import Derived.Test.YtkehdpkcdnofaaaGreatDoorMr19
set_option maxRecDepth 100000
set_option maxHeartbeats 0
open List renaming getElem?_set_ne→jf,getElem?_set_self→jg,nil_append→jW,cons_append→jw
namespace Go.Proofs.YtkehdpkcdnofaaaGreatDoor.AE
open Go.AE
section
variable {ws:List Tok}
theorem qqG (hw:WF ws) {n:Nat} {h:List qk} {i:Nat} (hn:n < ws.length) (hi:h[i]? = some (PB ws n)):Wd (.fn 109 [] []) [.ptr i 0] h = some (.ret (.bool (qkL ws n)),h,false):=by
 rw [qu 109 qC4,qkL]
 cases a1:isW ws n [97,100,100] <;> cases a2:isW ws n [100,114,111,112] <;> cases a3:isW ws n [116,105,101] <;> cases a4:isW ws n [99,117,116] <;> simp only [sB.1,qC4,seval,qcJ hw hn hi,a1,a2,a3,a4]
theorem qh2 (d:qdk):Shp 7 d.enc:=⟨_,rfl,rfl,by simp [qd.storable],λn=>by simp [qj,qd.lower],rfl⟩
theorem qqH (hw:WF ws) (hk:KOK ws) {n:Nat} (hn:n < ws.length):LB ws 108 5 5 (λi=>[.fn 109 [.ptr i 0] [],.fn 110 [.ptr i 0] []]) (qkL ws) qdk.enc (qqe ws (qkL ws) 58 0 qdk.enc qdk.good) (ErT ws 58 0 qdk.enc) n:=
 qls rfl (λ_ _ _ h=>h.1) (qkd (z:=[.int .i64 0,.str [],.str [],.str [],.str [],.str [],.str []]) (fa:=λi=>[.ptr i 0]) (fc:=λ_=>[]) (ob:=λi=>[.ptr i 0]) (oc:=λ_=>[]) (J:=λ_ _=>True) hw rfl zk (by decide) rfl (by decide) (by decide) (λ_ _ _ _=>trivial) (λm i h hm _ hi=>by rw [qep];exact qqG hw hm hi) (λm hm hb=>qtk qh2 hb (qDp hw hk hm hb)) hn)
structure qc5 where
 cond:Exp
 acts:List qdk
def qc5.enc (φ:Int->Nat->Bool) (x:qc5):qd:=.agg (x.cond.cs φ ++ [lV (x.acts.map qdk.enc)])
theorem qi7 (k:Nat) (ds:List qdk):qj k (ds.map qdk.enc) = true:=qI (qad qh2 ds) k
theorem qc4 (φ:Int->Nat->Bool) (d:qc5):Shp 6 (d.enc φ):=by
 obtain ⟨⟨op,c,u,v,y⟩,aS⟩:=d
 refine ⟨_,rfl,rfl,by simp [Exp.cs,qd.storable,lV],λn=>?_,?_⟩
 ·have:=qi7 n aS
  simp [Exp.cs,qj,qd.lower,qx,lV,this]
 ·simp only [Exp.cs,jw,jW,List.map_cons,List.map_nil,qp,lV];rfl
def Ru (ws:List Tok) (n:Nat) (x:Exp) (aS:List qdk) (k:Nat) (j p e:Int):Prop:=
 (k = 0/\RY ws 57 (n + 1) [] (x.enc φR) j p e)\/∃n1:Nat,RY ws 57 (n + 1) [] (x.enc φR) (n1:Nat) 0 0/\
 ((k = 1/\qjQ ws n1 [123] j p e)\/∃n2 m:Nat,qjQ ws n1 [123] (n2:Nat) 0 0/\Ch (qqe ws (qkL ws) 58 0 qdk.enc qdk.good) n2 aS m/\m < ws.length/\aS.length <= 5/\
 ((k = 2/\qkL ws m = true/\aS.length = 5/\j = (m:Nat)/\p = (word ws m).pos/\e = 8)\/
 (k = 3/\qkL ws m = true/\aS.length < 5/\∃d:qdk,RY ws 58 m [] d.enc j p e)\/
 (k = 4/\qkL ws m = false/\qjQ ws m [125] j p e)))
abbrev qnf:Str:=[114,117,108,101]
def qx1 (ws:List Tok) (n:Nat) (d:qc5) (m:Nat):Prop:=isW ws n qnf = true/\n < m/\m < ws.length/\(qlg d.cond/\d.acts.length <= 5/\∀a ∈ d.acts,a.good)/\Ru ws n d.cond d.acts 4 (m:Nat) 0 0
def qFt (ws:List Tok) (n:Nat) (p e:Int):Prop:=(Flt ws p e/\(e == 0) = false)/\∃(x:Exp) (aS:List qdk) (k:Nat) (j:Int),Ru ws n x aS k j p e
theorem qCI (hw:WF ws) (hk:KOK ws) {n:Nat} (hb:isW ws n qnf = true) (hn:n + 1 < ws.length):qqt ws 78 6 (λn v m=>∃d:qc5,v = d.enc φP/\qx1 ws n d m) (qFt ws) n:=by
 have P:=λ(h:List qk) (i:Nat)=>qu 78 c78 (first:=[]) (cap:=[]) (args:=[.ptr i 0]) (h:=h)
 obtain ⟨⟨o0,c0,u0,v0,y0⟩,n0,l0,h0,q0,k0,r0⟩ | ⟨p,e,m,j,x,hm,hp,he,k0,r0⟩:=qlb hw hk hn
 obtain ⟨h1,k1,r1⟩ | ⟨p,e,hm,hp,he,k1,r1⟩:=qbW hw hk [123] zk h0
 obtain ⟨ds,n2,l2,h2,c2,q2,b2,_,w2,k2⟩ | ⟨p,e,m,ds,n2,hm,hp,he,h2,c2,q2,b2,x2,k2⟩:=qqH hw hk h1
 obtain ⟨h3,k3,r3⟩ | ⟨p,e,hm,hp,he,k3,r3⟩:=qbW hw hk [125] zk h2
 ·exact .inr ⟨_,_,zo,h3,⟨⟨.mk o0 c0 u0 v0 y0,ds⟩,rfl,hb,zo,h3,⟨q0,c2,q2.all λ_ _ _ h=>h.2.2.2.1⟩,.inr ⟨_,r0,.inr ⟨_,_,r1,q2,h2,c2,.inr (.inr ⟨rfl,b2,r3⟩)⟩⟩⟩,qc4 _ _,λh i hi=>(P h i).trans (by
   have E:=qc hi
   simp only [Nd.enc,Nd.cs,Exp.cs,jw,jW] at k0
   simp only [sB.1,c78,seval,qc5.enc,Exp.cs,qx,qp,qB,lV, *])⟩
 ·exact .inl ⟨p,e,_,⟨⟨hp,he⟩,.mk o0 c0 u0 v0 y0,ds,4,_,.inr ⟨_,r0,.inr ⟨_,_,r1,q2,h2,c2,.inr (.inr ⟨rfl,b2,r3⟩)⟩⟩⟩,hm,λh i hi=>(P h i).trans (by
   have E:=qc hi
   simp only [Nd.enc,Nd.cs,Exp.cs,jw,jW] at k0
   simp only [sB.1,c78,seval,qe,qx,qp,qB, *])⟩
 ·refine .inl ⟨p,e,m,⟨⟨hp,he⟩,.mk o0 c0 u0 v0 y0,ds,?_⟩,hm,λh i hi=>(P h i).trans (by
   have E:=qc hi
   simp only [Nd.enc,Nd.cs,Exp.cs,jw,jW] at k0
   simp only [sB.1,c78,seval,qe,qx,qp, *])⟩
  rcases x2 with ⟨a,rfl,rfl⟩ | ⟨a,_,d,j,hr⟩
  ·exact ⟨2,_,.inr ⟨_,r0,.inr ⟨_,_,r1,q2,h2,c2,.inl ⟨rfl,b2,a,rfl,rfl,rfl⟩⟩⟩⟩
  ·exact ⟨3,j,.inr ⟨_,r0,.inr ⟨_,_,r1,q2,h2,c2,.inr (.inl ⟨rfl,b2,a,d,hr⟩)⟩⟩⟩
 ·exact .inl ⟨p,e,_,⟨⟨hp,he⟩,.mk o0 c0 u0 v0 y0,[],1,_,.inr ⟨_,r0,.inl ⟨rfl,r1⟩⟩⟩,hm,λh i hi=>(P h i).trans (by
   have E:=qc hi
   simp only [Nd.enc,Nd.cs,Exp.cs,jw,jW] at k0
   simp only [sB.1,c78,seval,qe,qx,qp, *])⟩
 ·exact .inl ⟨p,e,_,⟨⟨hp,he⟩,x,[],0,j,.inl ⟨rfl,r0⟩⟩,hm,λh i hi=>(P h i).trans (by
   have E:=qc hi
   simp only [sB.1,c78,seval,qe, *])⟩
theorem qpY (hw:WF ws) (hk:KOK ws) {n:Nat} (hn:n < ws.length):LB ws 77 4 4 (λi=>[.str qnf,.fn 78 [.ptr i 0] []]) (λm=>isW ws m qnf) (qc5.enc φP) (qx1 ws) (qFt ws) n:=
 qls rfl (λ_ _ _ h=>h.1) (qfy (M:=105) (B:=106) (O:=107) (k:=6) (z:=[.int .i64 0,.int .i64 0,.str [],.str [],.lst [] .full,.lst [] .full]) rfl zk rfl zk rfl zk rfl zk hw (by decide) rfl rfl (by decide) (by decide) (λm hm hs=>qCI hw hk hs (qi hw hm hs)) hn)
end
section
variable {ws:List Tok}
structure RuS (ws:List Tok) (p e:Int) (h:List qk) (n:Int) (D:List qd) (b:Nat) (x:Exp) (xs tt:List qd) (H:List qk):Prop where
 m:MS ws 191 p e h n D tt H
 e12:lkp tt 12 = .ptr b 0
 hb:h.length + 3 < b
 bb:H[b]? = some (.cells (x.cs φR ++ [.lst xs (ofl 7 xs)]))
theorem qqI {n:Nat} (hn:n < ws.length) (hk:KOK ws) (hb:qkL ws n = true) :
  (∀h,Wd (.fn 12 [] []) [Wv ws,.int .i64 (n:Nat),.str [97,100,100]] h = some (.ret (.bool true),h,false))\/
  ((∀h,Wd (.fn 12 [] []) [Wv ws,.int .i64 (n:Nat),.str [97,100,100]] h = some (.ret (.bool false),h,false))/\∀h,Wd (.fn 12 [] []) [Wv ws,.int .i64 (n:Nat),.str [100,114,111,112]] h = some (.ret (.bool true),h,false))\/
  ((∀h,Wd (.fn 12 [] []) [Wv ws,.int .i64 (n:Nat),.str [97,100,100]] h = some (.ret (.bool false),h,false))/\(∀h,Wd (.fn 12 [] []) [Wv ws,.int .i64 (n:Nat),.str [100,114,111,112]] h = some (.ret (.bool false),h,false))/\∀h,Wd (.fn 12 [] []) [Wv ws,.int .i64 (n:Nat),.str [116,105,101]] h = some (.ret (.bool true),h,false))\/
  ((∀h,Wd (.fn 12 [] []) [Wv ws,.int .i64 (n:Nat),.str [97,100,100]] h = some (.ret (.bool false),h,false))/\(∀h,Wd (.fn 12 [] []) [Wv ws,.int .i64 (n:Nat),.str [100,114,111,112]] h = some (.ret (.bool false),h,false))/\(∀h,Wd (.fn 12 [] []) [Wv ws,.int .i64 (n:Nat),.str [116,105,101]] h = some (.ret (.bool false),h,false))/\∀h,Wd (.fn 12 [] []) [Wv ws,.int .i64 (n:Nat),.str [99,117,116]] h = some (.ret (.bool true),h,false)):=by
 simp only [qaO hn hk (show qC [97,100,100] = true by kernel_rfl),qaO hn hk (show qC [100,114,111,112] = true by kernel_rfl),qaO hn hk (show qC [116,105,101] = true by kernel_rfl),qaO hn hk (show qC [99,117,116] = true by kernel_rfl)]
 revert hb
 rw [qkL]
 cases isW ws n [97,100,100] <;> cases isW ws n [100,114,111,112] <;> cases isW ws n [116,105,101] <;> cases isW ws n [99,117,116] <;> simp
theorem quP {n:Nat} (hn:n < ws.length) (hk:KOK ws) (hb:qkL ws n = false):∀s ∈ [[97,100,100],[100,114,111,112],[116,105,101],[99,117,116]],∀h,Wd (.fn 12 [] []) [Wv ws,.int .i64 (n:Nat),.str s] h = some (.ret (.bool false),h,false):=by
 simp only [qkL,Bool.or_eq_false_iff] at hb
 obtain ⟨⟨⟨a,b⟩,c⟩,d⟩:=hb
 intro s hs h
 simp only [List.mem_cons,List.not_mem_nil,or_false] at hs
 rcases hs with rfl | rfl | rfl | rfl <;> rw [qaO hn hk zk] <;> simp only [a,b,c,d]
theorem qkS {h:List qk} {n b:Nat} {D:List qd} {x:Exp} {xs tt:List qd} {H:List qk} {d:qdk} {j p e:Int} (hk:KOK ws) (hb:qkL ws n = true) (U:n < ws.length) (hr:RY ws 58 n [] d.enc j p e) (hl:xs.length < 5) (hx:∀u ∈ xs,Shp 7 u) (S:RuS ws 0 0 h (n:Nat) D b x xs tt H) :
  ∃E H',qg h.length Wd qew ⟨tt,H,false⟩ = some (.nor,⟨E,H',false⟩)/\RuS ws p e h j D b x (xs ++ [d.enc]) E H':=by
 have a1:=qiW (qh2 d) hx zo
 have c10:((xs.length:Int) == 5) = false:=qdH hl
 obtain ⟨⟨ht,e0,e2,e4,e6,e8,e9,b4,b6,b8,b9,tk⟩,a6,Y,bb⟩:=S
 obtain ⟨op,c,u,v,y⟩:=x
 have l9:=qc b9
 have lb:=qc bb
 simp only [Exp.cs,jw,jW] at bb
 simp only [qdk.enc] at hr a1
 have a7:=qbb (z:=[.int .i64 0,.str [],.str [],.str [],.str [],.str [],.str []]) (k:=7) (a:=[.int .i64 d.kind,.str d.name,.str d.model,.str d.link.frm.part,.str d.link.frm.port,.str d.link.to.part,.str d.link.to.port]) rfl zo rfl (by simp [qd.storable]) zo
 have n1:Nat.ble h.length b = true:=qE zo
 generalize he:qg h.length Wd qew _ = R
 by_cases I:xs = []
 all_goals
  first
  | (subst I;rw [qgL] at bb;simp only [List.length_nil] at c10)
  | rw [qhk I] at bb
  have g1:∀y,(H.set (h.length + 3) y)[b]? = H[b]?:=λy=>jf zo
  simp only [bb] at g1
  rcases qqI U hk hb with r | ⟨r,s⟩ | ⟨r,s,t⟩ | ⟨r,s,t,u⟩
  all_goals
   simp only [sA.1,qew,seval, *] at he
   subst he
   refine ⟨_,_,rfl,?_,?_,Y,?_⟩
   ·exact ⟨Y0,Y3,Y4,y9,v6,y5,z8,qL (qf (qf b4 zo _) zo _) _,qL (qf (qf b6 zo _) zo _) _,qL (qf (qf b8 zo _) zo _) _,qL (qf (qU b9 _) zo _) _,qaz (qz (qz tk zo _) zo _) (by simp;omega) _⟩
   ·simp only [sB.1,seval,a6]
   ·exact qL (by rw [qkm];exact qU (g1 _) _) _
theorem qns {h:List qk} {n b:Nat} {D:List qd} {x:Exp} {xs tt:List qd} {H:List qk} (hk:KOK ws) (hb:qkL ws n = false) (I:n < ws.length) (S:RuS ws 0 0 h (n:Nat) D b x xs tt H) :
  ∃E H',qg h.length Wd qew ⟨tt,H,false⟩ = some (.exit 6,⟨E,H',false⟩)/\RuS ws 0 0 h (n:Nat) D b x xs E H':=by
 have r:=quP I hk hb
 simp only [List.forall_mem_cons] at r
 obtain ⟨r0,r1,r2,r3,_⟩:=r
 obtain ⟨⟨ht,e0,e2,e4,e6,e8,e9,b4,b6,b8,b9,tk⟩,Y,U,bb⟩:=S
 have l9:=qc b9
 generalize he:qg h.length Wd qew _ = R
 simp only [sB.1,qew,seval,ht,e0,e2,e9,b9,r0,r1,r2,r3] at he
 subst he
 refine ⟨_,_,rfl,?_,?_,U,?_⟩
 ·exact ⟨Y0,Y3,Y2,y9,v6,y5,z8,b4,b6,b8,b9,tk⟩
 ·simp only [sB.1,seval,Y]
 ·exact bb
theorem qqF {h:List qk} {b:Nat} {j p e:Int} {D:List qd} {x:Exp} {xs tt:List qd} {H:List qk} (I:(e == 0) = false) (S:RuS ws p e h j D b x xs tt H) :
  ∃E H',qg h.length Wd qew ⟨tt,H,false⟩ = some (.exit 6,⟨E,H',false⟩)/\RuS ws p e h j D b x xs E H':=by
 obtain ⟨⟨ht,e0,e2,e4,e6,e8,e9,b4,b6,b8,b9,tk⟩,Y,U,bb⟩:=S
 have l9:=qc b9
 generalize he:qg h.length Wd qew _ = R
 simp only [sB.1,qew,seval,ht,e0,e2,e9,b9,I] at he
 subst he
 refine ⟨_,_,rfl,?_,?_,U,?_⟩
 ·exact ⟨Y0,Y3,Y2,y9,v6,y5,z8,b4,b6,b8,b9,tk⟩
 ·simp only [sB.1,seval,Y]
 ·exact bb
abbrev qgV (nm:Str) (c:Bool) (ins outs us vs xs:qd):List qd:=[.str nm,.bool c,ins,outs,.lst [] .full,.lst [] .full,.lst [] .full,.lst [] .full,.lst [] .full,.int .i64 0,.lst [] .full,us,vs,xs]
theorem quO {h:List qk} {n b:Nat} {nm:Str} {c:Bool} {ins outs us vs zs:List qd} {x:Exp} {xs tt:List qd} {H:List qk} (U:∀k,qj k ins = true) (E:∀k,qj k outs = true) (a6:∀k,qj k us = true) (a1:∀k,qj k vs = true) (Y:∀k,qj k zs = true) (hk:KOK ws) (hb:qkL ws n = true) (I:n < ws.length) (hl:xs.length = 5) (S:RuS ws 0 0 h (n:Nat) (qgV nm c (lV ins) (lV outs) (.lst us (ofl 2 us)) (.lst vs (ofl 4 vs)) (.lst zs (ofl 6 zs))) b x xs tt H) :
  ∃s,qg h.length Wd qew ⟨tt,H,false⟩ = some (.ret,s)/\qbS c35.results h (some (.ret,s)) = some (.ret (.tup [.agg (qgV nm c (lV ins) (lV outs) (lV us) (lV vs) (lV zs)),.int .i64 (n:Nat),.agg [.int .i64 (word ws n).pos,.int .i64 8]]),h,false):=by
 have c10:((xs.length:Int) == 5) = true:=by rw [hl];rfl
 have hT:=qae I
 obtain ⟨⟨ht,e0,e2,e4,e6,e8,e9,b4,b6,b8,b9,tk⟩,ad,ac,bb⟩:=S
 obtain ⟨op,c,u,v,y⟩:=x
 have ab:=qc b4
 have aa:=qc b6
 have a7:=qc b8
 have a8:=qc b9
 have lb:=qc bb
 simp only [Exp.cs,jw,jW] at bb
 have g6:∀y,(H.set (h.length + 1) y)[h.length + 2]? = some zz:=λy=>qf b8 zo y
 have r6:∀y z,((H.set (h.length + 1) y).set (h.length + 2) z)[h.length + 1]? = some y:=λy z=>qf (qU b6 y) zo z
 have r8:∀y z,((H.set (h.length + 1) y).set (h.length + 2) z)[h.length + 2]? = some z:=λy z=>qU (g6 y) z
 have n1:=blA h 1
 generalize hx:qg h.length Wd qew _ = R
 rcases qqI I hk hb with r | ⟨r,s⟩ | ⟨r,s,t⟩ | ⟨r,s,t,u⟩
 all_goals
  simp only [sB.1,qew,bne,seval,qr,qp,qac,lV, *] at hx
  subst hx
  refine ⟨_,rfl,?_⟩
  simp only [sB.1,c35,seval,ht,e6,e8,r6,a7,qp,lV]
  exact congrArg some (qw (qz (qz tk zo _) zo _) (by simp only [qd.lower,qj,U,E,a6,a1,Y];rfl))
end
def ruF:qK:=match qdT with
 | .seq a _=>a
 | _=>.skip
def ruI:qK:=match qdT with
 | .seq _ (.block _ c)=>c
 | _=>.skip
section
variable {ws:List Tok}
theorem qxW {h H H1:List qk} {tt t1:List qd} (h1:qg h.length Wd ruF ⟨tt,H,false⟩ = some (.nor,⟨t1,H1,false⟩)):qg h.length Wd qdT ⟨tt,H,false⟩ = qbj 5 (qbr (qg h.length Wd (qas 5 ruI)) (qbr (λs=>qbj 6 (qg h.length Wd (.loop qew) s)) (qg h.length Wd (qau 4 ruI) ⟨t1,H1,false⟩))):=by
 rw [show qdT = .seq ruF (.block 5 ruI) from rfl,qbx,h1,qaT,qcU,qdC 4]
 congr 1
 rcases qg h.length Wd (qau 4 ruI) ⟨t1,H1,false⟩ with _ | ⟨x,s⟩
 ·rfl
 ·cases x <;> try rfl
  rw [qaT,qaT,qdC 1,qfl,show qau 1 (qas 4 ruI) = .seq (.block 6 (.loop qew)) .skip from rfl,qbx,qcU,qcC]
theorem qtX {h:List qk} {n:Nat} {D tt:List qd} {H:List qk} (hk:KOK ws) (hb:isW ws n qnf = true) (I:n < ws.length) (S:MS ws 191 0 0 h (n:Nat) D tt H) :
  ∃E,qg h.length Wd ruF ⟨tt,H,false⟩ = some (.nor,⟨E,H,false⟩)/\MS ws 191 0 0 h (n:Nat) D E H:=by
 have hN:=λh=>qaO (n:=n) I hk (s:=qnf) zk h
 rw [hb] at hN
 obtain ⟨ht,e0,e2,e4,e6,e8,e9,b4,b6,b8,b9,tk⟩:=S
 have l4:=qc b4
 have l9:=qc b9
 generalize he:qg h.length Wd ruF _ = R
 simp only [sB.1,ruF,qdT,seval,ht,e0,e2,hN] at he
 subst he
 exact ⟨_,rfl,Y0,Y3,Y2,y9,v6,y5,z8,b4,b6,b8,b9,tk⟩
def RuP (ws:List Tok) (n:Nat) (x:Exp) (j p e:Int):Prop:=
 ((e == 0) = false/\RY ws 57 (n + 1) [] (x.enc φR) j p e)\/∃n1:Nat,RY ws 57 (n + 1) [] (x.enc φR) (n1:Nat) 0 0/\qjQ ws n1 [123] j p e
theorem qtW {h:List qk} {n:Nat} {nm:Str} {c:Bool} {ins outs us vs zs:List qd} {x:Exp} {j p e:Int} {tt:List qd} {H:List qk} (hw:WF ws) (I:n < ws.length) (hp:RuP ws n x j p e) (hl:zs.length < 4) (S:MS ws 191 0 0 h (n:Nat) (qgV nm c (lV ins) (lV outs) (.lst us (ofl 2 us)) (.lst vs (ofl 4 vs)) (.lst zs (ofl 6 zs))) tt H) :
  ∃E H' b,qg h.length Wd (qau 4 ruI) ⟨tt,H,false⟩ = some (.nor,⟨E,H',false⟩)/\RuS ws p e h j (qgV nm c (lV ins) (lV outs) (.lst us (ofl 2 us)) (.lst vs (ofl 4 vs)) (.lst zs (ofl 6 zs))) b x [] E H':=by
 have c10:((zs.length:Int) == 4) = false:=qdH hl
 have w:=qo (n:=n) (by have:=hw.len;omega)
 obtain ⟨ht,e0,e2,e4,e6,e8,e9,b4,b6,b8,b9,tk⟩:=S
 have l4:=qc b4
 have l9:=qc b9
 obtain ⟨op,c1,u,v,y⟩:=x
 simp only [RuP,Exp.enc,Exp.cs] at hp
 have g4:∀y,(H.set (h.length + 3) y)[h.length]? = H[h.length]?:=λy=>jf zo
 generalize he:qg h.length Wd (qau 4 ruI) _ = R
 rcases hp with ⟨U,r0⟩ | ⟨n1,r0,r1⟩
 all_goals
  simp only [sB.1,ruI,qdT,qau,seval,qav,qac,qp,lV,qx, *] at he
  subst he
  refine ⟨_,_,H.length,rfl,?_,?_,?_,?_⟩
  ·exact ⟨Y0,Y3,Y4,y9,v6,y5,z8,qL (qf b4 zo _) _,qL (qf b6 zo _) _,qL (qf b8 zo _) _,qL (qU b9 _) _,qaz (qz tk zo _) (by simp;omega) _⟩
  ·simp only [sB.1,seval,ht]
  ·omega
  ·simp [Exp.cs,ofl]
theorem qxX {h:List qk} {nm:Str} {c:Bool} {ins outs us vs zs:List qd} {x:Exp} {b m:Nat} {j p e:Int} {xs tt:List qd} {H:List qk} (I:∀k,qj k ins = true) (E:∀k,qj k outs = true) (a1:∀k,qj k us = true) (Y:∀k,qj k vs = true) (U:∀k,qj k zs = true) (a6:(e == 0) = false) (S:RuS ws p e h j (qgV nm c (lV ins) (lV outs) (.lst us (ofl 2 us)) (.lst vs (ofl 4 vs)) (.lst zs (ofl 6 zs))) b x xs tt H) :
  ∃s,qg h.length Wd (qau 3 (qas 5 ruI)) ⟨tt,H,false⟩ = some (.ret,s)/\qbS c35.results h (some (.ret,s)) = some (.ret (.tup [.agg (qgV nm c (lV ins) (lV outs) (lV us) (lV vs) (lV zs)),.int .i64 j,.agg [.int .i64 p,.int .i64 e]]),h,false):=by
 obtain ⟨⟨ht,e0,e2,e4,e6,e8,e9,b4,b6,b8,b9,tk⟩,a8,a7,bb⟩:=S
 obtain ⟨op,c1,u,v,y⟩:=x
 have l4:=qc b4
 have l6:=qc b6
 have l8:=qc b8
 have l9:=qc b9
 have lb:=qc bb
 simp only [Exp.cs,jw,jW] at bb
 have f6:H[h.length + 1]? = some (.cells Z14):=b6
 have g8:∀y,(H.set (h.length + 1) y)[h.length + 2]? = some zz:=λy=>qf b8 zo y
 have g9:∀y,(H.set (h.length + 1) y)[h.length + 3]? = H[h.length + 3]?:=λy=>jf zo
 have r6:∀y z,((H.set (h.length + 1) y).set (h.length + 2) z)[h.length + 1]? = some y:=λy z=>qf (qU b6 y) zo z
 have n1:=blA h 1
 generalize hx:qg h.length Wd (qau 3 (qas 5 ruI)) _ = R
 simp only [sB.1,ruI,qdT,qau,qas,bne,seval,ht,e0,e2,e4,e6,e8,e9,b4,b6,b9,g8,g9,a6,qav,qac,qp,lV,n1] at hx
 subst hx
 refine ⟨_,rfl,?_⟩
 simp only [sB.1,c35,seval,ht,e6,e8,r6,l8,qp,lV]
 exact congrArg some (qw (qz (qz tk zo _) zo _) (by simp only [qd.lower,qj,I,E,a1,Y,U];rfl))
theorem qFi {h:List qk} {nm:Str} {c:Bool} {ins outs us vs zs:List qd} {x:Exp} {b m:Nat} {j p e:Int} {xs tt:List qd} {H:List qk} (I:∀k,qj k ins = true) (E:∀k,qj k outs = true) (a1:∀k,qj k us = true) (Y:∀k,qj k vs = true) (U:∀k,qj k zs = true) (a6:(e == 0) = false) (r1:qjQ ws m [125] j p e) (S:RuS ws 0 0 h (m:Nat) (qgV nm c (lV ins) (lV outs) (.lst us (ofl 2 us)) (.lst vs (ofl 4 vs)) (.lst zs (ofl 6 zs))) b x xs tt H) :
  ∃s,qg h.length Wd (qau 3 (qas 5 ruI)) ⟨tt,H,false⟩ = some (.ret,s)/\qbS c35.results h (some (.ret,s)) = some (.ret (.tup [.agg (qgV nm c (lV ins) (lV outs) (lV us) (lV vs) (lV zs)),.int .i64 j,.agg [.int .i64 p,.int .i64 e]]),h,false):=by
 obtain ⟨⟨ht,e0,e2,e4,e6,e8,e9,b4,b6,b8,b9,tk⟩,a8,a7,bb⟩:=S
 obtain ⟨op,c1,u,v,y⟩:=x
 have l4:=qc b4
 have l6:=qc b6
 have l8:=qc b8
 have l9:=qc b9
 have lb:=qc bb
 simp only [Exp.cs,jw,jW] at bb
 have f4:∀y,(H.set (h.length + 3) y)[h.length]? = H[h.length]?:=λy=>jf zo
 have f9:∀y z,((H.set (h.length + 3) y).set (h.length + 1) z)[h.length + 3]? = some y:=λy z=>qf (qU b9 y) zo z
 have f6:∀q ,(H.set (h.length + 3) q)[h.length + 1]? = some (.cells Z14):=λq =>(qf b6 zo q)
 have g8:∀q y,((H.set (h.length + 3) q).set (h.length + 1) y)[h.length + 2]? = some zz:=λq y=>qf (qf b8 zo q) zo y
 have r6:∀q y z,(((H.set (h.length + 3) q).set (h.length + 1) y).set (h.length + 2) z)[h.length + 1]? = some y:=λq y z=>qf (qU (qf b6 zo q) y) zo z
 have n1:=blA h 1
 generalize hx:qg h.length Wd (qau 3 (qas 5 ruI)) _ = R
 simp only [sB.1,ruI,qdT,qau,qas,bne,seval,ht,e0,e2,e4,e6,e8,e9,b4,b9,f4,f6,f9,g8,l9,a6,r1,qav,qac,qp,lV,n1] at hx
 subst hx
 refine ⟨_,rfl,?_⟩
 simp only [sB.1,c35,seval,ht,e6,e8,r6,l8,qp,lV]
 exact congrArg some (qw (qz (qz (qz tk zo _) zo _) zo _) (by simp only [qd.lower,qj,I,E,a1,Y,U];rfl))
theorem qFj {h:List qk} {nm:Str} {c:Bool} {ins outs us vs zs:List qd} {x:Exp} {aS:List qdk} {b m:Nat} {j:Int} {tt:List qd} {H:List qk} (hz:∀u ∈ zs,Shp 6 u) (hl:zs.length < 4) (r1:qjQ ws m [125] j 0 0) (S:RuS ws 0 0 h (m:Nat) (qgV nm c (lV ins) (lV outs) (.lst us (ofl 2 us)) (.lst vs (ofl 4 vs)) (.lst zs (ofl 6 zs))) b x (aS.map qdk.enc) tt H) :
  ∃I H',qg h.length Wd (qau 3 (qas 5 ruI)) ⟨tt,H,false⟩ = some (.nor,⟨I,H',false⟩)/\MS ws 191 0 0 h j (qgV nm c (lV ins) (lV outs) (.lst us (ofl 2 us)) (.lst vs (ofl 4 vs)) (.lst (zs ++ [(qc5.mk x aS).enc φR]) (ofl 6 (zs ++ [(qc5.mk x aS).enc φR])))) I H':=by
 have a1:=qiW (qc4 φR ⟨x,aS⟩) hz zo
 have was:=λk=>qi7 k aS
 obtain ⟨⟨ht,e0,e2,e4,e6,e8,e9,b4,b6,b8,b9,tk⟩,Y,a6,bb⟩:=S
 obtain ⟨op,c1,u,v,y⟩:=x
 have l4:=qc b4
 have l6:=qc b6
 have l8:=qc b8
 have l9:=qc b9
 have lb:=qc bb
 simp only [Exp.cs,jw,jW] at bb
 have f4:∀y,(H.set (h.length + 3) y)[h.length]? = H[h.length]?:=λy=>jf zo
 have fb:∀y,(H.set (h.length + 3) y)[b]? = H[b]?:=λy=>jf zo
 have E:=qbb (z:=[.int .i64 0,.int .i64 0,.str [],.str [],.lst [] .full,.lst [] .full]) (k:=6) (a:=[.int .i64 op,.int .i64 c1,.str u,.str v,.lst (qaE φR y) (fl (φR op y.length)),lV (aS.map qdk.enc)]) rfl zo rfl (by simp [qd.storable,lV]) zo
 simp only [qc5.enc,Exp.cs,jw,jW,lV] at a1 E
 generalize hx:qg h.length Wd (qau 3 (qas 5 ruI)) _ = R
 by_cases U:zs = []
 all_goals
  first
  | (subst U;simp only [qgL] at b4)
  | simp only [qhk U] at b4
  simp only [sA.1,ruI,qdT,qau,qas,seval,ht,e0,e2,e4,e6,e9,Y,b4,b9,bb,f4,fb,l4,l9,r1,qav,qac,qp,lV,was,qx,E,a1] at hx
  subst hx
  exact ⟨_,_,rfl,Y0,Y3,Y4,y9,v6,y5,z8,by rw [qkm];simp only [qc5.enc,Exp.cs,jw,jW,lV];exact qU ((f4 _).trans b4) _,qf (qf b6 zo _) zo _,qf (qf b8 zo _) zo _,qf (qU b9 _) zo _,qz (qz tk zo _) zo _⟩
end
section
variable {ws:List Tok} {h:List qk} {nm:Str} {c:Bool} {ins outs us vs zs:List qd}
theorem qkB {H H1 H2 H3:List qk} {tt t1 t2 t3:List qd} (h1:qg h.length Wd ruF ⟨tt,H,false⟩ = some (.nor,⟨t1,H1,false⟩)) (h2:qg h.length Wd (qau 4 ruI) ⟨t1,H1,false⟩ = some (.nor,⟨t2,H2,false⟩)) (h3:qg h.length Wd (.loop qew) ⟨t2,H2,false⟩ = some (.exit 6,⟨t3,H3,false⟩)) :
  qg h.length Wd qdT ⟨tt,H,false⟩ = qbj 5 (qg h.length Wd (qau 3 (qas 5 ruI)) ⟨t3,H3,false⟩):=by
 rw [qxW h1,h2,qaT,h3,show qbj 6 (some (Ex.exit 6,(⟨t3,H3,false⟩ :St))) = some (Ex.nor,⟨t3,H3,false⟩) from rfl,qaT,qdC 3,show qas 3 (qas 5 ruI) = .skip from rfl,qcC]
theorem qzR {H H1 H2:List qk} {tt t1 t2:List qd} {s:St} (h1:qg h.length Wd ruF ⟨tt,H,false⟩ = some (.nor,⟨t1,H1,false⟩)) (h2:qg h.length Wd (qau 4 ruI) ⟨t1,H1,false⟩ = some (.nor,⟨t2,H2,false⟩)) (h3:qg h.length Wd (.loop qew) ⟨t2,H2,false⟩ = some (.ret,s)) :
  qg h.length Wd qdT ⟨tt,H,false⟩ = some (.ret,s):=by
 rw [qxW h1,h2,qaT,h3]
 rfl
theorem qtV {D:List qd} {n m b:Nat} {x:Exp} {aS:List qdk} {tt:List qd} {H:List qk} (hk:KOK ws) (hc:Ch (qqe ws (qkL ws) 58 0 qdk.enc qdk.good) n aS m) (hl:aS.length <= 5) (S:RuS ws 0 0 h (n:Nat) D b x [] tt H) :
  ∃E H',RuS ws 0 0 h (m:Nat) D b x (aS.map qdk.enc) E H'/\qg h.length Wd (.loop qew) ⟨tt,H,false⟩ = qg h.length Wd (.loop qew) ⟨E,H',false⟩:=
 qsX (most:=5) (S:=λn xs tt H=>RuS ws 0 0 h (n:Nat) D b x xs tt H) qh2 (fun {n m d xs tt H} h1 h2 h3 S=>qkS hk h1.1 (by have:=h1.2.1;have:=h1.2.2.1;omega) (by have:=h1.2.2.2.2;rwa [Nat.add_zero] at this) h2 h3 S) hc (xs:=[]) (by simpa using hl) (λ_ h=>by cases h) S
theorem qpZ {n m:Nat} {d:qc5} {tt:List qd} {H:List qk} (hk:KOK ws) (hw:WF ws) (h1:qx1 ws n d m) (hl:zs.length < 4) (hz:∀u ∈ zs,Shp 6 u) (S:MS ws 191 0 0 h (n:Nat) (qgV nm c (lV ins) (lV outs) (.lst us (ofl 2 us)) (.lst vs (ofl 4 vs)) (.lst zs (ofl 6 zs))) tt H) :
  ∃E H',qg h.length Wd qdT ⟨tt,H,false⟩ = some (.nor,⟨E,H',false⟩)/\MS ws 191 0 0 h (m:Nat) (qgV nm c (lV ins) (lV outs) (.lst us (ofl 2 us)) (.lst vs (ofl 4 vs)) (.lst (zs ++ [d.enc φR]) (ofl 6 (zs ++ [d.enc φR])))) E H':=by
 obtain ⟨hb,Y,hm,_,hr⟩:=h1
 rcases hr with ⟨h,_⟩ | ⟨n1,r0,(⟨h,_⟩ | ⟨n2,m2,r1,hc,U,ha,(⟨h,_⟩ | ⟨h,_⟩ | ⟨_,I,r2⟩)⟩)⟩
 ·cases h
 ·cases h
 ·cases h
 ·cases h
 obtain ⟨t1,x1,S1⟩:=qtX hk hb zo S
 obtain ⟨t2,H2,b,x2,S2⟩:=qtW hw zo (.inr ⟨n1,r0,r1⟩) hl S1
 obtain ⟨t3,H3,S3,x3⟩:=qtV hk hc ha S2
 obtain ⟨t4,H4,x4,S4⟩:=qns hk I U S3
 obtain ⟨t5,H5,x5,S5⟩:=qFj hz hl r2 S4
 refine ⟨t5,H5,?_,S5⟩
 rw [qkB x1 x2 (by rw [x3,qh,x4,qbi]),x5]
 rfl
theorem qwT {n k:Nat} {x:Exp} {aS:List qdk} {j p e:Int} {tt:List qd} {H:List qk} (I:∀k,qj k ins = true) (E:∀k,qj k outs = true) (a1:∀k,qj k us = true) (Y:∀k,qj k vs = true) (hk:KOK ws) (hw:WF ws) (hb:isW ws n qnf = true) (a8:n < ws.length) (he:(e == 0) = false) (hr:Ru ws n x aS k j p e) (hl:zs.length < 4) (hz:∀u ∈ zs,Shp 6 u) (S:MS ws 191 0 0 h (n:Nat) (qgV nm c (lV ins) (lV outs) (.lst us (ofl 2 us)) (.lst vs (ofl 4 vs)) (.lst zs (ofl 6 zs))) tt H) :
  ∃s,qg h.length Wd qdT ⟨tt,H,false⟩ = some (.ret,s)/\qbS c35.results h (some (.ret,s)) = some (.ret (.tup [.agg (qgV nm c (lV ins) (lV outs) (lV us) (lV vs) (lV zs)),.int .i64 j,.agg [.int .i64 p,.int .i64 e]]),h,false):=by
 have U:=qI hz
 obtain ⟨t1,x1,S1⟩:=qtX hk hb a8 S
 have early:RuP ws n x j p e->∃s,qg h.length Wd qdT ⟨tt,H,false⟩ = some (.ret,s)/\qbS c35.results h (some (.ret,s)) = some (.ret (.tup [.agg (qgV nm c (lV ins) (lV outs) (lV us) (lV vs) (lV zs)),.int .i64 j,.agg [.int .i64 p,.int .i64 e]]),h,false):=λhp=>by
  obtain ⟨t2,H2,b,x2,S2⟩:=qtW hw a8 hp hl S1
  obtain ⟨t4,H4,x4,S4⟩:=qqF he S2
  obtain ⟨s,x5,x6⟩:=qxX (m:=0) I E a1 Y U he S4
  refine ⟨s,?_,x6⟩
  rw [qkB x1 x2 (by rw [qh,x4,qbi]),x5]
  rfl
 rcases hr with ⟨_,r0⟩ | ⟨n1,r0,(⟨_,r1⟩ | ⟨n2,m2,r1,hc,a7,ha,hr⟩)⟩
 ·exact early (.inl ⟨he,r0⟩)
 ·exact early (.inr ⟨n1,r0,r1⟩)
 obtain ⟨t2,H2,b,x2,S2⟩:=qtW hw a8 (.inr ⟨n1,r0,r1⟩) hl S1
 obtain ⟨t3,H3,S3,x3⟩:=qtV hk hc ha S2
 rcases hr with ⟨_,a6,h5,rfl,rfl,rfl⟩ | ⟨_,a6,h5,d,r2⟩ | ⟨_,aa,r2⟩
 ·obtain ⟨s,x5,x6⟩:=quO I E a1 Y U hk a6 a7 (by simpa using h5) S3
  exact ⟨s,qzR x1 x2 (by rw [x3,qh,x5,qat]),x6⟩
 ·obtain ⟨t4,H4,x4,S4⟩:=qkS hk a6 a7 r2 (by simpa using h5) (qad qh2 aS) S3
  obtain ⟨t5,H5,x5,S5⟩:=qqF he S4
  obtain ⟨s,x6,x7⟩:=qxX (m:=0) I E a1 Y U he S5
  refine ⟨s,?_,x7⟩
  rw [qkB x1 x2 (by rw [x3,qh,x4,qaT,qh,x5,qbi]),x6]
  rfl
 ·obtain ⟨t4,H4,x4,S4⟩:=qns hk aa a7 S3
  obtain ⟨s,x6,x7⟩:=qFi I E a1 Y U he r2 S4
  refine ⟨s,?_,x7⟩
  rw [qkB x1 x2 (by rw [x3,qh,x4,qbi]),x6]
  rfl
end
section
variable {ws:List Tok}
theorem qbf (d:qcc):Shp 2 d.enc:=⟨_,rfl,rfl,by simp [qd.storable],λn=>by simp [qj,qd.lower],rfl⟩
theorem qbN (d:qb8):Shp 4 d.enc:=⟨_,rfl,rfl,by simp [qd.storable],λn=>by simp [qj,qd.lower],rfl⟩
theorem qic (φ:Int->Nat->Bool) (e:Exp) (n:Nat):qj n (e.cs φ) = true:=by cases e;simp [Exp.cs,qj,qd.lower,qx]
theorem qbF (φ:Int->Nat->Bool) (n:Nat) (es:List Exp):qj n (es.map (Exp.enc φ)) = true:=by
 induction es with
 | nil=>rfl
 | cons e es ih=>rw [List.map_cons,qj,ih,Exp.enc,qd.lower,qic];rfl
theorem qdo (φ:Int->Nat->Bool) (d:qbB):Shp 7 (d.enc φ):=by
 obtain ⟨nm,⟨op,c,u,v,y⟩,cs⟩:=d
 refine ⟨_,rfl,rfl,by simp [Exp.cs,qd.storable],λn=>?_,?_⟩
 ·have:=qbF φ n cs
  simp [Exp.cs,qj,qd.lower,qx,this]
 ·simp only [Exp.cs,jw,jW,List.map_cons,List.map_nil,qp];rfl
theorem qpF (hw:WF ws) (hk:KOK ws) {n:Nat} (hn:n < ws.length):LB ws 73 32 32 (λi=>[.str [112,97,114,116],.fn 74 [.ptr i 0] []]) (λm=>isW ws m [112,97,114,116]) qcc.enc (qqe ws (λm=>isW ws m [112,97,114,116]) 55 1 qcc.enc (qcc.good)) (ErT ws 55 1 qcc.enc) n:=
 qls rfl (λ_ _ _ h=>h.1) (qfy (M:=98) (B:=99) (O:=100) (k:=2) (z:=[.str [],.str []]) rfl zk rfl zk rfl zk rfl zk hw (by decide) rfl rfl (by decide) (by decide) (λm hm hs=>qhQ qbf hs (qxT hw hk (qi hw hm hs))) hn)
theorem qpn (hw:WF ws) (hk:KOK ws) {n:Nat} (hn:n < ws.length):LB ws 75 200 200 (λi=>[.str [108,105,110,107],.fn 76 [.ptr i 0] []]) (λm=>isW ws m [108,105,110,107]) qb8.enc (qqe ws (λm=>isW ws m [108,105,110,107]) 56 1 qb8.enc (qb8.good)) (ErT ws 56 1 qb8.enc) n:=
 qls rfl (λ_ _ _ h=>h.1) (qfy (M:=101) (B:=102) (O:=103) (k:=4) (z:=[.str [],.str [],.str [],.str []]) rfl zk rfl zk rfl zk rfl zk hw (by decide) rfl rfl (by decide) (by decide) (λm hm hs=>qhQ qbN hs (qsQ hw hk (qi hw hm hs))) hn)
theorem quw (hw:WF ws) (hk:KOK ws) {n:Nat} (hn:n < ws.length):LB ws 79 10 10 (λi=>[.str [118,97,114],.fn 80 [.ptr i 0] []]) (λm=>isW ws m [118,97,114]) (qbq.enc φP) (qqe ws (λm=>isW ws m [118,97,114]) 59 1 (qbq.enc φR) (qlh)) (ErT ws 59 1 (qbq.enc φR)) n:=
 qls rfl (λ_ _ _ h=>h.1) (qfy (M:=111) (B:=112) (O:=113) (k:=6) (z:=[.str [],.int .i64 0,.int .i64 0,.str [],.str [],.lst [] .full]) rfl zk rfl zk rfl zk rfl zk hw (by decide) rfl rfl (by decide) (by decide) (λm hm hs=>qhQ (qdi φP) hs (qCN hw hk (qi hw hm hs))) hn)
theorem qoF (hw:WF ws) (hk:KOK ws) {n:Nat} (hn:n < ws.length):LB ws 81 8 8 (λi=>[.str [101,109,105,116],.fn 82 [.ptr i 0] []]) (λm=>isW ws m [101,109,105,116]) (qbB.enc φP) (qqe ws (λm=>isW ws m [101,109,105,116]) 60 1 (qbB.enc φR) (qbB.good)) (ErT ws 60 1 (qbB.enc φR)) n:=
 qls rfl (λ_ _ _ h=>h.1) (qfy (M:=114) (B:=115) (O:=116) (k:=7) (z:=[.str [],.int .i64 0,.int .i64 0,.str [],.str [],.lst [] .full,.lst [] .full]) rfl zk rfl zk rfl zk rfl zk hw (by decide) rfl rfl (by decide) (by decide) (λm hm hs=>qhQ (qdo φP) hs (qBz hw hk (qi hw hm hs))) hn)
def BoM {D:Type} (ws:List Tok) (F R:FuncId) (C A:List qd) (eP eR:D->List qd) (Q:D->Prop) (n:Nat):Prop:=
 (∃(d:D) (m:Nat),n <= m/\m < ws.length/\Q d/\(∀(h:List qk) (i r:Nat),h[i]? = some (PB ws n)->h[r]? = some (.cells C)->i ≠ r->Wd (.fn F [] []) [.ptr i 0,.ptr r 0] h = some (.ret (.tup []),(h.set i (PB ws m)).set r (.cells (eP d)),false))/\∀h:List qk,Wd (.fn R [] []) [Wv ws,.agg A,.int .i64 (n:Nat)] h = some (.ret (.tup [.agg (eR d),.int .i64 (m:Nat),.agg [.int .i64 0,.int .i64 0]]),h,false))\/
 ∃(p e:Int) (m:Nat) (j:Int) (v:qd),m < ws.length/\Flt ws p e/\(e == 0) = false/\Shp 14 v/\(∀(h:List qk) (i r:Nat),h[i]? = some (PB ws n)->h[r]? = some (.cells C)->i ≠ r->∃X,Wd (.fn F [] []) [.ptr i 0,.ptr r 0] h = some (.pan (qbK p e),(h.set i (PB ws m)).set r X,false))/\∀h:List qk,Wd (.fn R [] []) [Wv ws,.agg A,.int .i64 (n:Nat)] h = some (.ret (.tup [v,.int .i64 j,.agg [.int .i64 p,.int .i64 e]]),h,false)
abbrev PNM (ws:List Tok) (F:FuncId) (C:List qd) (n:Nat) (p e:Int) (m:Nat):Prop:=∀(h:List qk) (i r:Nat),h[i]? = some (PB ws n)->h[r]? = some (.cells C)->i ≠ r->∃X,Wd (.fn F [] []) [.ptr i 0,.ptr r 0] h = some (.pan (qbK p e),(h.set i (PB ws m)).set r X,false)
theorem qBo {a b:Nat} (h:b < a):Nat.ble a b = false:=by
 cases e:Nat.ble a b with
 | false=>rfl
 | true=>have:=Nat.le_of_ble_eq_true e;omega
theorem two {h:List qk} {i r:Nat} {x y:qk} (hi:h[i]? = some x) (hr:h[r]? = some y) (E:i ≠ r):i < h.length/\r < h.length/\Nat.ble h.length r = false/\(∀a b,((h.set i a).set r b)[i]? = some a)/\(∀a b,((h.set i a).set r b)[r]? = some b)/\(∀a,(h.set i a)[r]? = some y)/\(∀a b c,((h.set i a).set r b).set i c = (h.set i c).set r b)/\(∀a b c,((h.set i a).set r b).set r c = (h.set i a).set r c)/\∀a,h.set i a = (h.set i a).set r y:=by
 have U:=qc hi
 have I:=qc hr
 refine ⟨U,I,qBo I,λa b=>by rw [jf (Ne.symm E),jg U],λa b=>jg (by simpa using I),λa=>by rw [jf E];exact hr,λa b c=>by rw [List.set_comm _ _ (Ne.symm E),List.set_set],λa b c=>List.set_set ..,λa=>?_⟩
 apply List.ext_getElem?
 intro j
 by_cases hj:r = j
 ·subst hj;rw [jg (by simpa using I),jf E,hr]
 ·rw [jf hj]
abbrev qdc (nm:Str) (c:Bool) (ins outs:List qd):List qd:=qgV nm c (lV ins) (lV outs) (.lst [] .full) (.lst [] .full) (.lst [] .full)
theorem qgc {nm:Str} {c:Bool} {ins outs us vs ws:List qd} (a:∀k,qj k ins = true) (b:∀k,qj k outs = true) (p:∀k,qj k us = true) (q:∀k,qj k vs = true) (r:∀k,qj k ws = true):Shp 14 (.agg (qgV nm c (lV ins) (lV outs) (lV us) (lV vs) (lV ws))):=
 ⟨_,rfl,rfl,by simp [qd.storable,lV],λn=>by simp [qj,qd.lower,lV,a,b,p,q,r],by simp only [List.map_cons,List.map_nil,qp,lV];rfl⟩
structure qg8 where
 parts:List qcc
 links:List qb8
 rules:List qc5
def qg8.row (φ:Int->Nat->Bool) (nm:Str) (c:Bool) (ins outs:List qd) (x:qg8):List qd:=qgV nm c (lV ins) (lV outs) (lV (x.parts.map qcc.enc)) (lV (x.links.map qb8.enc)) (lV (x.rules.map (qc5.enc φ)))
def qg8.good (x:qg8):Prop:=x.parts.length <= 32/\x.links.length <= 200/\x.rules.length <= 4/\(∀d ∈ x.parts,d.good)/\(∀d ∈ x.links,d.good)/\∀d ∈ x.rules,qlg d.cond/\d.acts.length <= 5/\∀a ∈ d.acts,a.good
theorem qrg (hw:WF ws) (hk:KOK ws) {nm:Str} {c:Bool} {ins outs:List qd} (I:∀k,qj k ins = true) (E:∀k,qj k outs = true) {n:Nat} (hn:n < ws.length):BoM ws 50 35 (qdc nm c ins outs) (qdc nm c ins outs) (qg8.row φP nm c ins outs) (qg8.row φR nm c ins outs) qg8.good n:=by
 have wz:∀k,qj k [] = true:=λ_=>rfl
 have A0:=AtC.start (F:=35) (aS:=[Wv ws,.agg (qdc nm c ins outs),.int .i64 (n:Nat)]) rfl (show T.get 35 = some c35 by kernel_rfl)
 have A1:=A0.go 2 (S':=λh tt H=>MS ws 191 0 0 h (n:Nat) (qdc nm c ins outs) tt H) (λh tt H ⟨ht,hH⟩=>by
  subst ht hH
  generalize hx:qg H.length Wd _ _ = R
  simp only [sB.1,c35,qas,qau,Wv,qdc,seval,qp,lV] at hx
  subst hx
  exact ⟨_,_,rfl,Y1,Y1,Y1,Y1,Y1,Y1,Y1,by simp [lV],by simp,by simp,by simp,by simp⟩)
 obtain ⟨U,m0,l0,h0,q0,c0,b0,_,w0,k0⟩ | ⟨p,e,m',U,m0,a1,hp,he,hm,q0,c0,b0,x0,k0⟩:=qpF hw hk hn
 all_goals have A2:=A1.loop (S:=λh n xs tt H=>MS ws 191 0 0 h (n:Nat) (qgV nm c (lV ins) (lV outs) (.lst xs (ofl 2 xs)) (.lst [] .full) (.lst [] .full)) tt H) (body:=qgw) (id:=0) rfl qbf (fun {h n m d xs tt H} h1 hl hx S=>qpG hk hw h1.1 (by have:=h1.2.1;have:=h1.2.2.1;omega) h1.2.2.2.2 (qbf d) hl hx S) c0 q0
 ·have A3:=A2.exit (λh tt H S=>qtr hk b0 h0 S)
  obtain ⟨Y,m1,l1,h1,q1,c1,b1,_,w1,k1⟩ | ⟨p,e,m',Y,m1,a1,hp,he,hm,q1,c1,b1,x1,k1⟩:=qpn hw hk h0
  all_goals have A4:=A3.loop (S:=λh n xs tt H=>MS ws 191 0 0 h (n:Nat) (qgV nm c (lV ins) (lV outs) (.lst (U.map qcc.enc) (ofl 2 (U.map qcc.enc))) (.lst xs (ofl 4 xs)) (.lst [] .full)) tt H) (body:=qgx) (id:=2) rfl qbN (fun {h n m d xs tt H} h1 hl hx S=>qpo hk hw h1.1 (by have:=h1.2.1;have:=h1.2.2.1;omega) h1.2.2.2.2 (qbN d) hl hx S) c1 q1
  ·have A5:=A4.exit (λh tt H S=>qsR hk b1 h1 S)
   obtain ⟨aa,m2,l2,h2,q2,c2,b2,_,w2,k2⟩ | ⟨p,e,m',aa,m2,a1,hp,he,hm,q2,c2,b2,x2,k2⟩:=qpY hw hk h1
   all_goals have A6:=A5.loop (S:=λh n xs tt H=>MS ws 191 0 0 h (n:Nat) (qgV nm c (lV ins) (lV outs) (.lst (U.map qcc.enc) (ofl 2 (U.map qcc.enc))) (.lst (Y.map qb8.enc) (ofl 4 (Y.map qb8.enc))) (.lst xs (ofl 6 xs))) tt H) (body:=qdT) (id:=4) rfl (qc4 φR) (fun {h n m d xs tt H} h1 hl hx S=>qpZ hk hw h1 hl hx S) c2 q2
   ·have A7:=A6.exit (λh tt H S=>qtY hk b2 h2 S)
    exact .inl ⟨⟨U,Y,aa⟩,m2,zo,h2,⟨q0,q1,q2,c0.all λ_ _ _ h=>h.2.2.2.1,c1.all λ_ _ _ h=>h.2.2.2.1,c2.all λ_ _ _ h=>h.2.2.2.1⟩,λh i r hi hr a6=>by
      obtain ⟨ab,a8,a7,s1,s2,s3,s4,s5,s6⟩:=two hi hr a6
      rw [PBi] at hi
      generalize hW:Wd _ _ h = W
      rw [qu 50 c50] at hW
      simp only [sB.1,c50,seval,k0,k1,k2,w0,w1,w2,hi,a8,a7,PBi,qdc,s1,s3,s4,qp,qB,lV] at hW
      exact hW.symm,A7.out 2 (λh tt H S=>by
     obtain ⟨ht,e0,e2,e4,e6,e8,e9,b4,b6,b8,b9,tk⟩:=S
     have l4:=qc b4
     have l6:=qc b6
     have l8:=qc b8
     have l9:=qc b9
     have n1:=blA h 1
     have g6:∀y,(H.set (h.length + 1) y)[h.length + 2]? = some zz:=λy=>qf b8 zo y
     have g9:∀y,(H.set (h.length + 1) y)[h.length + 3]? = H[h.length + 3]?:=λy=>jf zo
     have r6:∀y z,((H.set (h.length + 1) y).set (h.length + 2) z)[h.length + 1]? = some y:=λy z=>qf (qU b6 y) zo z
     have u0:=(λk=>qI (qad qbf U) k)
     have u1:=(λk=>qI (qad qbN Y) k)
     have u2:=(λk=>qI (qad (qc4 φR) aa) k)
     generalize hx:qg h.length Wd _ _ = R
     simp only [sB.1,c35,qas,qau,bne,seval,ht,e2,e4,e6,e8,e9,b4,b6,b9,g6,g9,qac,qp,lV,n1] at hx
     subst hx
     refine ⟨_,rfl,?_⟩
     simp only [sB.1,c35,seval,ht,e6,e8,r6,l8,qp,qg8.row,lV]
     exact congrArg some (qw (qz (qz tk zo _) zo _) (by simp only [qd.lower,qj,u0,u1,u2,I,E];rfl)))⟩
   ·have K:PNM ws 50 (qdc nm c ins outs) n p e m':=λh i r hi hr a6=>by
     obtain ⟨ab,a8,a7,s1,s2,s3,s4,s5,s6⟩:=two hi hr a6
     rw [PBi] at hi
     generalize hW:Wd _ _ h = W
     rw [qu 50 c50] at hW
     simp only [sB.1,c50,seval,k0,k1,k2,w0,w1,hi,a8,a7,PBi,qdc,s1,s3,s4,qe,qp,qB,lV] at hW
     subst hW
     first
     | exact ⟨_,rfl⟩
     | exact ⟨_,by rw [s6];rfl⟩
    rcases x2 with ⟨q,rfl,rfl⟩ | ⟨q,_,x,aS,k,j,hr⟩
    ·exact .inr ⟨_,_,m',(m2:Nat),_,a1,hp,he,qgc I E (λk=>qI (qad qbf U) k) (λk=>qI (qad qbN Y) k) (λk=>qI (qad (qc4 φR) aa) k),K,A6.out (λh tt H S=>qtZ I E (λk=>qI (qad qbf U) k) (λk=>qI (qad qbN Y) k) hk b2 hm (by simpa using q) (qad (qc4 φR) _) S)⟩
    ·exact .inr ⟨p,e,m',j,_,a1,hp,he,qgc I E (λk=>qI (qad qbf U) k) (λk=>qI (qad qbN Y) k) (λk=>qI (qad (qc4 φR) aa) k),K,A6.out (λh tt H S=>qwT I E (λk=>qI (qad qbf U) k) (λk=>qI (qad qbN Y) k) hk hw b2 hm he hr (by simpa using q) (qad (qc4 φR) _) S)⟩
  ·have K:PNM ws 50 (qdc nm c ins outs) n p e m':=λh i r hi hr a6=>by
    obtain ⟨ab,a8,a7,s1,s2,s3,s4,s5,s6⟩:=two hi hr a6
    rw [PBi] at hi
    generalize hW:Wd _ _ h = W
    rw [qu 50 c50] at hW
    simp only [sB.1,c50,seval,k0,k1,w0,hi,a7,PBi,qdc,s1,s3,s4,qe,qp,qB,lV] at hW
    subst hW
    first
    | exact ⟨_,rfl⟩
    | exact ⟨_,by rw [s6];rfl⟩
   rcases x1 with ⟨q,rfl,rfl⟩ | ⟨q,_,d,j,hr⟩
   ·exact .inr ⟨_,_,m',(m1:Nat),_,a1,hp,he,qgc I E (λk=>qI (qad qbf U) k) (λk=>qI (qad qbN Y) k) wz,K,A4.out (λh tt H S=>qsS I E (λk=>qI (qad qbf U) k) hk b1 hm (by simpa using q) (qad qbN _) S)⟩
   ·exact .inr ⟨p,e,m',j,_,a1,hp,he,qgc I E (λk=>qI (qad qbf U) k) (λk=>qI (qad qbN Y) k) wz,K,A4.out (λh tt H S=>qv2 I E (λk=>qI (qad qbf U) k) hk hw b1 hm he hr (qbN _) (by simpa using q) (qad qbN _) S)⟩
 ·have K:PNM ws 50 (qdc nm c ins outs) n p e m':=λh i r hi hr a6=>by
   obtain ⟨ab,a8,a7,s1,s2,s3,s4,s5,s6⟩:=two hi hr a6
   rw [PBi] at hi
   generalize hW:Wd _ _ h = W
   rw [qu 50 c50] at hW
   simp only [sB.1,c50,seval,k0,hi,PBi,qe] at hW
   subst hW
   first
   | exact ⟨_,rfl⟩
   | exact ⟨_,by rw [s6];rfl⟩
  rcases x0 with ⟨q,rfl,rfl⟩ | ⟨q,_,d,j,hr⟩
  ·exact .inr ⟨_,_,m',(m0:Nat),_,a1,hp,he,qgc I E (λk=>qI (qad qbf U) k) wz wz,K,A2.out (λh tt H S=>qts I E hk b0 hm (by simpa using q) (qad qbf _) S)⟩
  ·exact .inr ⟨p,e,m',j,_,a1,hp,he,qgc I E (λk=>qI (qad qbf U) k) wz wz,K,A2.out (λh tt H S=>qwm I E hk hw b0 hm he hr (qbf _) (by simpa using q) (qad qbf _) S)⟩
end
end Go.Proofs.YtkehdpkcdnofaaaGreatDoor.AE
