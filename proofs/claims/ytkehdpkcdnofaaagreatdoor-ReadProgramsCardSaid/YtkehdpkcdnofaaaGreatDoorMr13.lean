/- A part of the proof. No condition. -/
import Derived.Test.YtkehdpkcdnofaaaGreatDoorMr12
set_option maxRecDepth 100000
set_option maxHeartbeats 0
open List renaming take_set_of_le→jT
namespace Go.Proofs.YtkehdpkcdnofaaaGreatDoor.AE
open Go.AE
section
variable {ws:List Tok} {n:Nat}
theorem qCi:φR 14 1 = true:=Eq.trans rfl rfl
theorem qCh:φR 13 1 = true:=Eq.trans rfl rfl
theorem qCg:φR 12 1 = true:=Eq.trans rfl rfl
theorem qCf:φR 10 1 = true:=Eq.trans rfl rfl
theorem z7:((7:Int) == 0) = false:=Eq.trans rfl rfl
theorem z6:((6:Int) == 0) = false:=Eq.trans rfl rfl
theorem t2:((2:Nat):Int) = 2:=Eq.trans rfl rfl
theorem t3:((3:Nat):Int) = 3:=Eq.trans rfl rfl
theorem t6:((6:Nat):Int) = 6:=Eq.trans rfl rfl
theorem qm5 (hw:WF ws) (hk:KOK ws) (hn:n < ws.length) {L:Nat} {o:Out} (hs:isW ws n [110,111,116] = true) (hL:L <= 3) (h:HT ws (RCl ws) L n o):RCl ws n L o:=by
 have n1:=qi hw hn hs
 have U:=qae hn
 have cL:ile (L:Int) 3 = true:=by rw [qdF];simp;omega
 have w:=qo (n:=n) (by have:=hw.len;omega)
 cases h with
 | @bad p err m hx=>
  obtain ⟨q1,x,m',q2⟩:=hx
  simp only [t3] at q2
  refine ⟨q1,x,m',λh=>?_⟩
  rw [qu 87 c87]
  simp only [sB.1,c87,seval,exB.1,qcE.1,U,qaO hn hk,hs,cL,w,q1,q2]
 | @deep x I hx hd=>
  obtain ⟨xs,xd,xn,q2⟩:=hx
  simp only [t3] at q2
  refine ⟨rfl,noE,I,λh=>?_⟩
  have E:=qff (op:=14) (k:=0) (name:=[]) (sub:=[]) qCi xd xs (word ws n).pos (I:Nat)
  simp only [if_neg hd] at E
  rw [qu 87 c87]
  simp only [sB.1,c87,seval,exB.1,qr,qcE.1,U,qaO hn hk,hs,cL,w,q2,qck,E,z7]
 | @go x I o hx hd hM=>
  obtain ⟨xs,xd,xn,q2⟩:=hx
  simp only [t3] at q2
  have E:=qff (op:=14) (k:=0) (name:=[]) (sub:=[]) qCi xd xs (word ws n).pos (I:Nat)
  simp only [if_pos hd] at E
  have hr:=qtM hw hk zo zo xn hd (qcj (by simp) (by simpa using xs)) hM
  cases o with
  | ok e n2=>
   obtain ⟨y1,y2,y3,hr⟩:=hr
   simp only [t2] at hr
   refine ⟨y1,y2,y3,λh=>?_⟩
   rw [qu 87 c87]
   simp only [sB.1,c87,seval,exB.1,qr,qcE.1,U,qaO hn hk,hs,cL,w,q2,qck,E,hr]
  | no p err m=>
   obtain ⟨y1,x,m',hr⟩:=hr
   simp only [t2] at hr
   refine ⟨y1,x,m',λh=>?_⟩
   rw [qu 87 c87]
   simp only [sB.1,c87,seval,exB.1,qr,qcE.1,U,qaO hn hk,hs,cL,w,q2,qck,E,hr]
theorem qku (hw:WF ws) (hk:KOK ws) (hn:n < ws.length) {L:Nat} {o:Out} (hL:L <= 7) (hs:L <= 3->isW ws n [110,111,116] = false) (h:HN ws (qkR ws) (RCl ws) L n o):RCl ws n L o:=by
 have E:=qae hn
 rcases Nat.lt_or_ge 3 L with h3 | h3
 ·have cL:ile (L:Int) 3 = false:=by rw [qdF];simp;omega
  cases h with
  | @bad p err m hx=>
   obtain ⟨q1,x,m',q2⟩:=hx
   refine ⟨q1,x,m',λh=>?_⟩
   rw [qu 87 c87]
   simp only [sB.1,c87,seval,exB.1,E,cL,q1,q2]
  | @go x U o hx hM=>
   obtain ⟨xs,xd,xn,q2⟩:=hx
   have hr:=qtM hw hk zo zo xn xd xs hM
   cases o with
   | ok e n2=>
    obtain ⟨y1,y2,y3,hr⟩:=hr
    simp only [t6] at hr
    refine ⟨y1,y2,y3,λh=>?_⟩
    rw [qu 87 c87]
    simp only [sB.1,c87,seval,exB.1,E,cL,q2,hr]
   | no p err m=>
    obtain ⟨y1,x,m',hr⟩:=hr
    simp only [t6] at hr
    refine ⟨y1,x,m',λh=>?_⟩
    rw [qu 87 c87]
    simp only [sB.1,c87,seval,exB.1,E,cL,q2,hr]
 ·have cL:ile (L:Int) 3 = true:=by rw [qdF];simp;omega
  have I:=hs h3
  cases h with
  | @bad p err m hx=>
   obtain ⟨q1,x,m',q2⟩:=hx
   refine ⟨q1,x,m',λh=>?_⟩
   rw [qu 87 c87]
   simp only [sB.1,c87,seval,exB.1,qcE.1,E,qaO hn hk,I,cL,q1,q2]
  | @go x U o hx hM=>
   obtain ⟨xs,xd,xn,q2⟩:=hx
   have hr:=qtM hw hk zo zo xn xd xs hM
   cases o with
   | ok e n2=>
    obtain ⟨y1,y2,y3,hr⟩:=hr
    simp only [t6] at hr
    refine ⟨y1,y2,y3,λh=>?_⟩
    rw [qu 87 c87]
    simp only [sB.1,c87,seval,exB.1,qcE.1,E,qaO hn hk,I,cL,q2,hr]
   | no p err m=>
    obtain ⟨y1,x,m',hr⟩:=hr
    simp only [t6] at hr
    refine ⟨y1,x,m',λh=>?_⟩
    rw [qu 87 c87]
    simp only [sB.1,c87,seval,exB.1,qcE.1,E,qaO hn hk,I,cL,q2,hr]
theorem qtN (hw:WF ws) (hk:KOK ws) (hn:n < ws.length) (hs:isW ws n [45] = true) {p err:Int} {m:Nat} (h1:qkR ws (n + 1) (.no p err m)):qkR ws n (.no p err m):=by
 have E:=qae hn
 have w:=qo (n:=n) (by have:=hw.len;omega)
 obtain ⟨q1,x,m',q2⟩:=h1
 refine ⟨q1,x,m',λh=>?_⟩
 rw [qu 120 qqg]
 simp only [sB.1,qqg,seval,exB.1,qcE.1,E,qaO hn hk,hs,w,q1,q2]
theorem qpP (hw:WF ws) (hk:KOK ws) (hn:n < ws.length) (hs:isW ws n [45] = true) {x:Exp} {n1:Nat} (h1:qkR ws (n + 1) (.ok x n1)) (hd:¬ (Exp.mk 13 0 [] [] [x]).depth <= 20):qkR ws n (.no (word ws n).pos 7 n1):=by
 have I:=qae hn
 have w:=qo (n:=n) (by have:=hw.len;omega)
 obtain ⟨xs,xd,xn,q2⟩:=h1
 have E:=qff (op:=13) (k:=0) (name:=[]) (sub:=[]) qCh xd xs (word ws n).pos (n1:Nat)
 simp only [if_neg hd] at E
 refine ⟨rfl,noE,n1,λh=>?_⟩
 rw [qu 120 qqg]
 simp only [sB.1,qqg,seval,exB.1,qr,qcE.1,I,qaO hn hk,hs,w,q2,qck,E]
theorem qpR (hw:WF ws) (hk:KOK ws) (hn:n < ws.length) (hs:isW ws n [45] = true) {x:Exp} {n1:Nat} (h1:qkR ws (n + 1) (.ok x n1)) (hd:(Exp.mk 13 0 [] [] [x]).depth <= 20):qkR ws n (.ok (.mk 13 0 [] [] [x]) n1):=by
 have I:=qae hn
 have w:=qo (n:=n) (by have:=hw.len;omega)
 obtain ⟨xs,xd,xn,q2⟩:=h1
 have E:=qff (op:=13) (k:=0) (name:=[]) (sub:=[]) qCh xd xs (word ws n).pos (n1:Nat)
 simp only [if_pos hd] at E
 refine ⟨qcj (by simp) (by simpa using xs),hd,xn,λh=>?_⟩
 rw [qu 120 qqg]
 simp only [sB.1,qqg,seval,exB.1,qr,qcE.1,I,qaO hn hk,hs,w,q2,qck,E]
structure qqs (h:List qk) (e:Exp) (H:List qk):Prop where
 len:h.length + 3 < H.length
 res:H[h.length]? = some qkJ
 err:H[h.length + 1]? = some qkI
 exp:H[h.length + 2]? = some (.cells (e.cs φR))
 flt:H[h.length + 3]? = some (.cells [.int .i64 0,.int .i64 0])
 old:H.take h.length = h
theorem qqs.next {h H:List qk} {e:Exp} (hl:qqs h e H) (e':Exp):qqs h e' ((H.set (h.length + 2) (.cells (e'.cs φR))).set (h.length + 3) (.cells [.int .i64 0,.int .i64 0])):=by
 have h2:=hl.len
 refine ⟨by simp;omega,?_,?_,?_,?_,?_⟩
 ·rw [qN zo,qN zo,hl.res]
 ·rw [qN zo,qN zo,hl.err]
 ·rw [qN zo,qY zo]
 ·rw [qY (by simp;omega)]
 ·rw [jT zo,jT zo,hl.old]
def qqp (ws:List Tok) (x:Exp) (m:Int) (h:List qk) (R:Option (Ex×St)):Out->Prop
 | .ok e n=>e.small/\e.depth <= 20/\n < ws.length/\∃tt H,R = some (.exit 0,⟨tt,H,false⟩)/\tt.length = 105/\lkp tt 1 = .int .i64 (n:Nat)/\lkp tt 4 = .ptr h.length 0/\lkp tt 6 = .ptr (h.length + 1) 0/\lkp tt 11 = .ptr (h.length + 2) 0/\lkp tt 12 = .ptr (h.length + 3) 0/\qqs h e H
 | .no p err _=>(err == 0) = false/\
  ((∃(tt:List qd) (H:List qk),R = some (.exit 0,⟨tt,H,false⟩)/\tt.length = 105/\lkp tt 1 = .int .i64 m/\lkp tt 4 = .ptr h.length 0/\lkp tt 6 = .ptr (h.length + 1) 0/\lkp tt 11 = .ptr (h.length + 2) 0/\lkp tt 12 = .ptr (h.length + 3) 0/\h.length + 3 < H.length/\H[h.length]? = some qkJ/\H[h.length + 1]? = some qkI/\H[h.length + 2]? = some (.cells (x.cs φR))/\H[h.length + 3]? = some (.cells [.int .i64 p,.int .i64 err])/\H.take h.length = h)\/
   (∃(tt:List qd) (H:List qk),R = some (.ret,⟨tt,H,false⟩)/\tt.length = 105/\lkp tt 4 = .ptr h.length 0/\lkp tt 5 = .int .i64 m/\lkp tt 6 = .ptr (h.length + 1) 0/\H[h.length]? = some (.cells (x.cs φR))/\H[h.length + 1]? = some (.cells [.int .i64 p,.int .i64 err])/\H.take h.length = h))
theorem qwc (hw:WF ws) (hk:KOK ws) {pos:Int} {e:Exp} {n:Nat} {o:Out} (hI:qeo ws pos e n o):∃(x:Exp) (m:Int),∀(h:List qk) (tt:List qd) (H:List qk),n < ws.length->e.depth <= 20->e.small->qqs h e H->tt.length = 105->lkp tt 0 = .lst (ws.map Tok.enc) .no->lkp tt 1 = .int .i64 (n:Nat)->lkp tt 4 = .ptr h.length 0->lkp tt 6 = .ptr (h.length + 1) 0->lkp tt 7 = .int .i64 pos->lkp tt 11 = .ptr (h.length + 2) 0->lkp tt 12 = .ptr (h.length + 3) 0->
  qqp ws x m h (qg h.length Wd (.loop qdm) ⟨tt,H,false⟩) o:=by
 induction hI with
 | @stop e n hs=>
  refine ⟨noE,0,?_⟩
  intro h tt H hn hd U hL ht e0 e1 e4 e6 e7 e11 E
  have I:=hL.flt
  rw [qh]
  generalize he:qg h.length Wd qdm _ = R
  simp only [sB.1,qdm,seval,qcE.1,ht,e0,e1,E,I,qaO hn hk,hs] at he
  subst he
  refine ⟨U,hd,hn,_,_,rfl,Y0,?_,?_,?_,?_,?_,hL⟩
  all_goals simp only [sB.1,seval,e1,e4,e6,e11,E]
 | @bad e n hs a6=>
  refine ⟨noE,(n + 1:Nat),?_⟩
  intro h tt H hn hd U hL ht e0 e1 e4 e6 e7 e11 E
  have n1:=qi hw hn hs
  have I:=hL.flt
  have a1:=hL.res
  have a7:=hL.err
  rw [qdn] at a1
  rw [qcR] at a7
  have ac:=hL.len
  have l0:h.length < H.length:=zo
  have l1:h.length + 1 < H.length:=zo
  have ab:¬ (h.length = h.length + 1):=zo
  have w:=qo (n:=n) (by have:=hw.len;omega)
  have Y:=qae n1
  have k1:((word ws (n + 1)).kind == 1) = false:=by simpa using a6
  rw [qh]
  generalize he:qg h.length Wd qdm _ = R
  simp only [sB.1,qdm,seval,exB.1,qr,qcE.1,ht,e0,e1,e4,e6,E,I,a1,a7,ab,qaO hn hk,hs,w,Y,k1,qdh n1] at he
  subst he
  refine ⟨rfl,.inr ⟨_,_,rfl,Y0,?_,?_,?_,?_,?_,?_⟩⟩
  ·simp only [sB.1,seval,e4]
  ·simp only [sB.1,seval,ht]
  ·simp only [sB.1,seval,e6]
  ·rw [qN zo,qY zo];rfl
  ·rw [qY (by simp;omega)]
  ·rw [jT zo,jT zo,hL.old]
 | @many e n hs a6 h4=>
  refine ⟨noE,(n + 1:Nat),?_⟩
  intro h tt H hn hd U hL ht e0 e1 e4 e6 e7 e11 E
  have n1:=qi hw hn hs
  have I:=hL.flt
  have a1:=hL.res
  have a7:=hL.err
  rw [qdn] at a1
  rw [qcR] at a7
  have ac:=hL.len
  have l0:h.length < H.length:=zo
  have l1:h.length + 1 < H.length:=zo
  have ab:¬ (h.length = h.length + 1):=zo
  have w:=qo (n:=n) (by have:=hw.len;omega)
  have Y:=qae n1
  have k1:((word ws (n + 1)).kind == 1) = true:=by simpa using a6
  have c4:ilt 3 (word ws (n + 1)).n = true:=by rw [qD];simp;omega
  rw [qh]
  generalize he:qg h.length Wd qdm _ = R
  simp only [sB.1,qdm,seval,exB.1,qr,qcE.1,ht,e0,e1,e4,e6,E,I,a1,a7,ab,qaO hn hk,hs,w,Y,k1,c4] at he
  subst he
  refine ⟨rfl,.inr ⟨_,_,rfl,Y0,?_,?_,?_,?_,?_,?_⟩⟩
  ·simp only [sB.1,seval,e4]
  ·simp only [sB.1,seval,ht]
  ·simp only [sB.1,seval,e6]
  ·rw [qN zo,qY zo];rfl
  ·rw [qY (by simp;omega)]
  ·rw [jT zo,jT zo,hL.old]
 | @deep e n hs a6 h4 ae=>
  refine ⟨noE,(n + 1 + 1:Nat),?_⟩
  intro h tt H hn hd U hL ht e0 e1 e4 e6 e7 e11 E
  have n1:=qi hw hn hs
  have I:=hL.flt
  have ad:=hL.exp
  have ac:=hL.len
  have l2:h.length + 2 < H.length:=zo
  have l3:h.length + 3 < H.length:=zo
  have aa:¬ (h.length + 2 = h.length + 3):=zo
  have w:=qo (n:=n) (by have:=hw.len;omega)
  have w2:=qo (n:=n + 1) (by have:=hw.len;omega)
  have Y:=qae n1
  have k1:((word ws (n + 1)).kind == 1) = true:=by simpa using a6
  have c4:ilt 3 (word ws (n + 1)).n = false:=by rw [qD];simp;omega
  have a8:=qff (op:=12) (k:=(word ws (n + 1)).n) (name:=[]) (sub:=[]) qCg hd U pos (n + 1 + 1:Nat)
  simp only [if_neg ae] at a8
  rw [qh]
  generalize he:qg h.length Wd qdm _ = R
  simp only [sB.1,qdm,seval,exB.1,qr,qcE.1,ht,e0,e1,e7,e11,E,I,ad,aa,qaO hn hk,hs,w,w2,Y,k1,c4,qck,a8] at he
  subst he
  rw [qaC,qh]
  generalize he:qg h.length Wd qdm _ = R
  have hg:((H.set (h.length + 2) (.cells [.int .i64 0,.int .i64 0,.str [],.str [],.lst [] .full])).set (h.length + 3) (.cells [.int .i64 pos,.int .i64 7]))[h.length + 3]? = some (.cells [.int .i64 pos,.int .i64 7]):=by rw [qY (by simp;omega)]
  simp only [sB.1,qdm,seval,ht,e0,E,hg,z7] at he
  subst he
  refine ⟨rfl,.inl ⟨_,_,rfl,Y0,?_,?_,?_,?_,?_,by simp;omega,?_,?_,?_,hg,?_⟩⟩
  ·simp only [sB.1,seval,ht]
  ·simp only [sB.1,seval,e4]
  ·simp only [sB.1,seval,e6]
  ·simp only [sB.1,seval,e11]
  ·simp only [sB.1,seval,E]
  ·rw [qN zo,qN zo,hL.res]
  ·rw [qN zo,qN zo,hL.err]
  ·rw [qN zo,qY zo];rfl
  ·rw [jT zo,jT zo,hL.old]
 | @go e n o hs a6 h4 ae hI ih=>
  obtain ⟨x,m,ih⟩:=ih
  refine ⟨x,m,?_⟩
  intro h tt H hn hd U hL ht e0 e1 e4 e6 e7 e11 E
  have n1:=qi hw hn hs
  have n2:=hw.next n1 zo
  have I:=hL.flt
  have ad:=hL.exp
  have ac:=hL.len
  have l2:h.length + 2 < H.length:=zo
  have l3:h.length + 3 < H.length:=zo
  have aa:¬ (h.length + 2 = h.length + 3):=zo
  have w:=qo (n:=n) (by have:=hw.len;omega)
  have w2:=qo (n:=n + 1) (by have:=hw.len;omega)
  have Y:=qae n1
  have k1:((word ws (n + 1)).kind == 1) = true:=by simpa using a6
  have c4:ilt 3 (word ws (n + 1)).n = false:=by rw [qD];simp;omega
  have a8:=qff (op:=12) (k:=(word ws (n + 1)).n) (name:=[]) (sub:=[]) qCg hd U pos (n + 1 + 1:Nat)
  simp only [if_pos ae] at a8
  have af:(Exp.mk 12 (word ws (n + 1)).n [] [] [e]).small:=qcj (by simp) (by simpa using U)
  rw [qh]
  generalize he:qg h.length Wd qdm _ = R
  simp only [sB.1,qdm,seval,exB.1,qr,qcE.1,ht,e0,e1,e7,e11,E,I,ad,aa,qaO hn hk,hs,w,w2,Y,k1,c4,qck,a8] at he
  subst he
  refine ih h _ _ n2 ae af (hL.next _) ?_ ?_ ?_ ?_ ?_ ?_ ?_ ?_
  all_goals simp only [sB.1,seval,ht,e0,e4,e6,e7,e11,E]
theorem qpQ (hw:WF ws) (hk:KOK ws) (hn:n < ws.length) (hs:isW ws n [45] = false) {e:Exp} {n1:Nat} {o:Out} (h1:qeJ ws n (.ok e n1)) (hI:qeo ws (word ws n).pos e n1 o):qkR ws n o:=by
 obtain ⟨xs,xd,xn,q2⟩:=h1
 have ad:=qae hn
 obtain ⟨x0,m0,aa⟩:=qwc hw hk hI
 have run:∀h:List qk,∃r,qqp ws x0 m0 h r o/\Wd (.fn 120 [] []) [.lst (ws.map Tok.enc) .no,.int .i64 (n:Nat)] h = qbS [.cell 4 (some 5),.tmp 5,.cell 6 (some 2)] h (qbr (qg h.length Wd (.seq (.draw [⟨ao 102 (.ld (some 5) (.t 11)),0,0⟩,⟨ao 103 (.mov (.t 1)),1,0⟩,⟨ao 104 (.ld (some 2) (.t 12)),2,0⟩,⟨an (.st (some 5) (.t 4) (.t 102)),3,1⟩,⟨ao 5 (.asg (.t 103)),4,11⟩,⟨an (.st (some 2) (.t 6) (.t 104)),5,31⟩]) .ret)) (qbj 0 r)):=by
  intro h
  generalize hR:Wd (.fn 120 [] []) _ h = R
  rw [qu 120 qqg] at hR
  simp only [sB.1,qqg,seval,exB.1,qcE.1,ad,qaO hn hk,hs,q2] at hR
  generalize hq:qg h.length Wd (.loop qdm) _ = r at hR
  refine ⟨r,?_,?_⟩
  ·rw [<-hq]
   refine aa h _ _ xn xd xs ⟨by simp,?_,?_,?_,?_,?_⟩ ?_ ?_ ?_ ?_ ?_ ?_ ?_ ?_
   ·rw [qjh];rfl
   ·rw [qaP];rfl
   ·rw [qaP];rfl
   ·rw [qaP];rfl
   ·simp
   all_goals simp only [sB.1,seval]
  ·rw [<-hR]
   simp only [sC.1,seval]
 cases o with
 | ok e' n'=>
  obtain ⟨r,hE,_⟩:=run []
  refine ⟨hE.1,hE.2.1,hE.2.2.1,λh=>?_⟩
  obtain ⟨r,⟨_,_,_,tt,H,rfl,ht,e1,e4,e6,e11,a8,hL⟩,hr⟩:=run h
  have a6:=hL.flt
  have a7:=hL.exp
  have E:=hL.res
  have I:=hL.err
  rw [qdn] at E
  rw [qcR] at I
  have ac:=hL.len
  have l0:h.length < H.length:=zo
  have l1:h.length + 1 < H.length:=zo
  have a1:¬ (h.length = h.length + 1):=zo
  have ab:¬ (h.length = h.length + 2):=zo
  have Y:¬ (h.length = h.length + 3):=zo
  have U:¬ (h.length + 1 = h.length):=zo
  rw [hr]
  simp only [sB.1,seval,exB.1,ht,e1,e4,e6,e11,a8,a6,a7,E,I,l0,l1,a1,Y,U]
  exact congrArg some (qw (by rw [jT zo,jT zo,hL.old]) (by simp [qd.lower,qj,Exp.enc,qcH]))
 | no p err m=>
  obtain ⟨r,hE,_⟩:=run []
  refine ⟨hE.1,x0,m0,λh=>?_⟩
  obtain ⟨r,⟨_,hE⟩,hr⟩:=run h
  rcases hE with ⟨tt,H,rfl,ht,e1,e4,e6,e11,a8,ac,E,I,a7,a6,ho⟩ | ⟨tt,H,rfl,ht,e4,e5,e6,g1,g2,ho⟩
  ·rw [qdn] at E
   rw [qcR] at I
   have l0:h.length < H.length:=zo
   have l1:h.length + 1 < H.length:=zo
   have a1:¬ (h.length = h.length + 1):=zo
   have ab:¬ (h.length = h.length + 2):=zo
   have Y:¬ (h.length = h.length + 3):=zo
   have U:¬ (h.length + 1 = h.length):=zo
   rw [hr]
   simp only [sB.1,seval,exB.1,ht,e1,e4,e6,e11,a8,a6,a7,E,I,l0,l1,a1,Y,U]
   exact congrArg some (qw (by rw [jT zo,jT zo,ho]) (by simp [qd.lower,qj,Exp.enc,qcH]))
  ·rw [hr]
   simp only [sB.1,seval,exB.1,e4,e5,e6,g1,g2]
   exact congrArg some (qw ho (by simp [qd.lower,qj,Exp.enc,qcH]))
theorem qn2 (hw:WF ws) (hk:KOK ws) (hn:n < ws.length) (hs:isW ws n [45] = false) {p err:Int} {m:Nat} (h1:qeJ ws n (.no p err m)):qkR ws n (.no p err m):=by
 obtain ⟨q1,x,m',q2⟩:=h1
 have E:=qae hn
 refine ⟨q1,x,m',λh=>?_⟩
 rw [qu 120 qqg]
 generalize hR:qbS _ h _ = R
 simp only [sB.1,qqg,seval,exB.1,qcE.1,E,qaO hn hk,hs,q2] at hR
 rw [qh] at hR
 simp only [sB.1,qdm,seval,exB.1,q1] at hR
 exact hR.symm
end
end Go.Proofs.YtkehdpkcdnofaaaGreatDoor.AE
