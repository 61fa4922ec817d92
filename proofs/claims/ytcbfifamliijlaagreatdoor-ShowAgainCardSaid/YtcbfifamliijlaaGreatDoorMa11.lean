/- A part of the proof. No condition. -/
import Derived.Test.YtcbfifamliijlaaGreatDoorMa9
import Derived.Test.YtcbfifamliijlaaGreatDoorMa10
set_option maxRecDepth 100000
open Bool renaming and_eq_true→jk,false_eq_true→jl,and_true→jv
open Nat renaming le_refl→jm
open List renaming append_assoc→jp,append_nil→jF,cons_append→jw
namespace Go.Proofs.YtcbfifamliijlaaGreatDoor.AE
open Go.AE
theorem qaT {ws:List Tok} {n:Nat} (h:qU ws n = true):qI (word ws n).s = true:=by
 simp only [qU,jk] at h
 exact h.2
mutual
def Exp.rx:Exp->Bool
 | .mk op n name sub args=>(qb7 op n name sub args.length && ile n 9223372036854775807) && rxs args
def rxs:List Exp->Bool
 | []=>true
 | e :: es=>e.rx && rxs es
end
mutual
def Exp.sz:Exp->Nat
 | .mk _ _ _ _ args=>1 + szs args
def szs:List Exp->Nat
 | []=>0
 | e :: es=>e.sz + szs es
end
theorem qEE {x:Exp}:∀{d:Nat},x.rx = true->x.depth <= d->∃e:Exl,e.cv = x/\right d e = true/\OkN e/\sz d e <= x.sz:=by
 refine Exp.rec (motive_1:=λx=>∀{d:Nat},x.rx = true->x.depth <= d->∃e:Exl,e.cv = x/\right d e = true/\OkN e/\sz d e <= x.sz)
  (motive_2:=λxs=>∀{d:Nat},rxs xs = true->qaR xs <= d->∃es:List Exl,es.map Exl.cv = xs/\es.all (right d) = true/\(∀e ∈ es,OkN e)/\(es.map (sz d)).sum <= szs xs) ?_ ?_ ?_ x
 ·intro op n nm sb aS ih d h hd
  rw [Exp.rx,jk,jk,qaD,decide_eq_true_eq] at h
  rw [Exp.depth] at hd
  cases d with
  | zero=>omega
  | succ d=>
   obtain ⟨es,rfl,h1,h2,h3⟩:=ih (d:=d) h.2 zo
   refine ⟨.mk op n nm sb es,cv_mk ..,?_,?_,?_⟩
   ·rw [right,h1,jv]
    simpa using h.1.1
   ·rw [OkN]
    exact ⟨h.1.2,h2⟩
   ·rw [Go.Proofs.YtcbfifamliijlaaGreatDoor.AE.sz,Exp.sz]
    omega
 ·intro d _ _
  exact ⟨[],rfl,rfl,(λ_ h=>nomatch h),jm _⟩
 ·intro e es I E d h hd
  rw [rxs,jk] at h
  rw [qaR] at hd
  obtain ⟨x,rfl,a1,a2,a3⟩:=I (d:=d) h.1 zo
  obtain ⟨xs,rfl,b1,b2,b3⟩:=E (d:=d) h.2 zo
  refine ⟨x :: xs,rfl,by rw [List.all_cons,a1,b1];rfl,λe he=>?_,?_⟩
  ·rcases List.mem_cons.1 he with rfl | he
   ·exact a2
   ·exact b2 e he
  ·rw [List.map_cons,List.sum_cons,szs]
   omega
def XOK (n:Nat):Out->Prop
 | .ok e m=>e.rx = true/\e.sz + n <= m
 | .no _ err _=>1 <= err
theorem er6:(1:Int) <= 6:=by decide
theorem er7:(1:Int) <= 7:=by decide
theorem er8:(1:Int) <= 8:=by decide
theorem zr {p:Prop} (h:p:=by first | exact er6 | exact er7 | exact er8):p:=h
def WQ (ws:List Tok):Prop:=∀n,n < ws.length->((word ws n).kind = 1->0 <= (word ws n).n/\(word ws n).n <= 9223372036854775807)/\((word ws n).kind = 2->qcw (word ws n).s = true)
theorem qi6 {a b:Int} (h:a <= b):ile a b = true:=by rw [qaD];simp [h]
theorem qDj {a b:Int} (h:a < b):ilt a b = true:=by rw [qaj];simp [h]
theorem i00:ile 0 0 = true:=Eq.trans rfl rfl
theorem i11:ile 1 1 = true:=Eq.trans rfl rfl
theorem i33:ile 3 3 = true:=Eq.trans rfl rfl
theorem i0m:ile 0 9223372036854775807 = true:=Eq.trans rfl rfl
theorem qIT {n:Int} (h:0 <= n/\n <= 9223372036854775807):(Exp.mk 0 n [] [] []).rx = true:=by simp [Exp.rx,rxs,qb7,fB,qi6 h.1,qi6 h.2,i00]
theorem qIU {s:Str} (h:qcw s = true):(Exp.mk 3 0 s [] []).rx = true:=by simp [Exp.rx,rxs,qb7,fB,h,i00,i0m]
theorem qvp {op:Int} (h:op = 1\/op = 2\/op = 11):(Exp.mk op 0 [] [] []).rx = true:=by rcases h with rfl | rfl | rfl <;> rfl
theorem qCl {op:Int} {s:Str} (h:op = 4\/op = 7\/op = 8\/op = 9) (hs:qI s = true):(Exp.mk op 0 s [] []).rx = true:=by rcases h with rfl | rfl | rfl | rfl <;> simp [Exp.rx,rxs,qb7,fB,hs,i00,i0m]
theorem qLH {s t:Str} (hs:qI s = true) (ht:qI t = true):(Exp.mk 5 0 s t []).rx = true:=by simp [Exp.rx,rxs,qb7,fB,hs,ht,i00,i0m]
theorem qB5 {s:Str} {x:Exp} (hs:qI s = true) (hx:x.rx = true):(Exp.mk 10 0 s [] [x]).rx = true:=by simp [Exp.rx,rxs,qb7,fB,hs,hx,i11,i0m]
theorem qJL {op:Int} {x:Exp} (h:op = 13\/op = 14) (hx:x.rx = true):(Exp.mk op 0 [] [] [x]).rx = true:=by rcases h with rfl | rfl <;> simp [Exp.rx,rxs,qb7,fB,hx,i11,i0m]
theorem qE2 {n:Int} {x:Exp} (h0:0 <= n) (h4:n < 4) (hx:x.rx = true):(Exp.mk 12 n [] [] [x]).rx = true:=by simp [Exp.rx,rxs,qb7,fB,hx,qi6 h0,qDj h4,qi6 (show n <= 9223372036854775807 by omega),i11]
theorem qLG {a b c:Exp} (ha:a.rx = true) (hb:b.rx = true) (hc:c.rx = true):(Exp.mk 25 0 [] [] [a,b,c]).rx = true:=by simp [Exp.rx,rxs,qb7,fB,ha,hb,hc,i33,i0m]
theorem qE1 {k:Int} {a b:Exp} (hk:15 <= k/\k <= 24) (ha:a.rx = true) (hb:b.rx = true):(Exp.mk k 0 [] [] [a,b]).rx = true:=by
 rcases (show k = 15\/k = 16\/k = 17\/k = 18\/k = 19\/k = 20\/k = 21\/k = 22\/k = 23\/k = 24 by omega) with rfl | rfl | rfl | rfl | rfl | rfl | rfl | rfl | rfl | rfl <;> simp [Exp.rx,rxs,qb7,fB,qaD,ha,hb]
theorem qE3 {args:List Exp} (h1:1 <= args.length) (h4:args.length <= 4) (ha:rxs args = true):(Exp.mk 6 0 [] [] args).rx = true:=by
 have e1:ile 1 (args.length:Int) = true:=qi6 zo
 have e2:ile (args.length:Int) 4 = true:=qi6 zo
 simp [Exp.rx,qb7,fB,ha,e1,e2,i0m]
theorem qE4 {x:Exp} (hx:x.rx = true):(Exp.mk 6 0 [] [] [x]).rx = true:=qE3 (by simp) (by simp) (by simp [rxs,hx])
theorem qoi {args:List Exp} {y:Exp} (ha:rxs args = true) (hy:y.rx = true):rxs (args ++ [y]) = true:=by
 induction args with
 | nil=>simp [rxs,hy]
 | cons a aS ih=>
  simp only [rxs,jk] at ha
  simp only [jw,rxs,ha.1,ih ha.2,Bool.and_self]
theorem qoo (args:List Exp) (y:Exp):szs (args ++ [y]) = szs args + y.sz:=by
 induction args with
 | nil=>simp [szs]
 | cons a aS ih=>simp only [jw,szs,ih];omega
theorem zs {p:Prop} (h:p:=by simp only [Exp.sz,szs] at *;omega):p:=h
section
variable {ws:List Tok}
theorem qxK {n:Nat} {k:Int} (h:qct ws n = some k):15 <= k/\k <= 24:=by rcases qc2 h with ⟨_,rfl⟩ | ⟨_,_,rfl⟩ | ⟨_,_,_,rfl⟩ <;> decide
theorem qBU {n:Nat} {k:Int} (h:qdH ws n = some k):15 <= k/\k <= 24:=by rcases qdI h with ⟨_,rfl⟩ | ⟨_,_,rfl⟩ <;> decide
theorem qx5 {n:Nat} {k:Int} (h:qcv ws n = some k):15 <= k/\k <= 24:=by rcases qc3 h with ⟨_,rfl⟩ | ⟨_,_,rfl⟩ | ⟨_,_,_,rfl⟩ <;> decide
theorem qzF {n:Nat} {k:Int} (h:qhG ws n = some k):15 <= k/\k <= 24:=by obtain ⟨_,rfl⟩:=qiV h;decide
theorem qEn {n:Nat} {k:Int} (h:qtZ ws n = some k):15 <= k/\k <= 24:=by obtain ⟨_,rfl⟩:=qlx h;decide
theorem qdw.imp {op:Nat->Option Int} {sub E:Nat->Out->Prop} {pos:Int} (hs:∀n o,sub n o->E n o) {e:Exp} {n:Nat} {o:Out} (h:qdw op sub pos e n o):qdw op E pos e n o:=by
 induction h with
 | stop a=>exact .stop a
 | bad a b=>exact .bad a (hs _ _ b)
 | deep a b c=>exact .deep a (hs _ _ b) c
 | go a b c _ ih=>exact .go a (hs _ _ b) c ih
theorem qdl.imp {sub E:Nat->Out->Prop} {pos:Int} (hs:∀n o,sub n o->E n o) {args:List Exp} {n:Nat} {o:Out} (h:qdl ws sub pos args n o):qdl ws E pos args n o:=by
 induction h with
 | many a=>exact .many a
 | bad a b=>exact .bad a (hs _ _ b)
 | next a b c _ ih=>exact .next a (hs _ _ b) c ih
 | unshut a b c d=>exact .unshut a (hs _ _ b) c d
 | deep a b c d e=>exact .deep a (hs _ _ b) c d e
 | shut a b c d e=>exact .shut a (hs _ _ b) c d e
def Exs (ws:List Tok) (sub:Nat->Out->Prop) (n:Nat):Prop:=∀m,n <= m->m < ws.length->∃o,sub m o
def qFH (ws:List Tok) (sub:Nat->Out->Prop):Prop:=∀m e m',sub m (.ok e m')->m < m'/\m' < ws.length
theorem qdw.ex {op:Nat->Option Int} {sub:Nat->Out->Prop} {pos:Int} (hop:∀n k,n < ws.length->op n = some k->n + 1 < ws.length) (hg:qFH ws sub) (n0:Nat) (hx:Exs ws sub n0):∀(k:Nat) (e:Exp) (n:Nat),n0 <= n->ws.length - n <= k->n < ws.length->∃o,qdw op sub pos e n o:=by
 intro k
 induction k with
 | zero=>intro e n _ h1 h2;omega
 | succ k ih=>
  intro e n h0 h1 h2
  cases hs:op n with
  | none=>exact ⟨_,.stop hs⟩
  | some j=>
   obtain ⟨o,ho⟩:=hx (n + 1) zo (hop n j h2 hs)
   cases o with
   | no p err m=>exact ⟨_,.bad hs ho⟩
   | ok x n1=>
    obtain ⟨g1,g2⟩:=hg _ _ _ ho
    by_cases hd:(Exp.mk j 0 [] [] [e,x]).depth <= 20
    ·obtain ⟨o,h⟩:=ih (.mk j 0 [] [] [e,x]) n1 zo zo g2
     exact ⟨o,.go hs ho hd h⟩
    ·exact ⟨_,.deep hs ho hd⟩
theorem qeh.ex (hw:WF ws) {pos:Int}:∀(k:Nat) (e:Exp) (n:Nat),ws.length - n <= k->n < ws.length->∃o,qeh ws pos e n o:=by
 intro k
 induction k with
 | zero=>intro e n h1 h2;omega
 | succ k ih=>
  intro e n h1 h2
  cases hs:isW ws n [46] with
  | false=>exact ⟨_,.stop hs⟩
  | true=>
   have n1:=ql hw h2 hs
   by_cases hk:(word ws (n + 1)).kind = 1
   ·by_cases h4:4 <= (word ws (n + 1)).n
    ·exact ⟨_,.many hs hk h4⟩
    ·by_cases hd:(Exp.mk 12 (word ws (n + 1)).n [] [] [e]).depth <= 20
     ·have n2:=hw.next n1 zo
      obtain ⟨o,h⟩:=ih (.mk 12 (word ws (n + 1)).n [] [] [e]) (n + 1 + 1) zo n2
      exact ⟨o,.go hs hk zo hd h⟩
     ·exact ⟨_,.deep hs hk zo hd⟩
   ·exact ⟨_,.bad hs hk⟩
theorem qdl.ex (hw:WF ws) {sub:Nat->Out->Prop} {pos:Int} (hg:qFH ws sub) (n0:Nat) (hx:Exs ws sub n0):∀(k:Nat) (args:List Exp) (m:Nat),args.length + k = 4->n0 <= m->m < ws.length->∃o,qdl ws sub pos args m o:=by
 intro k
 induction k with
 | zero=>intro args m h1 _ _;exact ⟨_,.many zo⟩
 | succ k ih=>
  intro args m h1 h0 h2
  obtain ⟨o,ho⟩:=hx m h0 h2
  cases o with
  | no p err j=>exact ⟨_,.bad zo ho⟩
  | ok y m1=>
   obtain ⟨g1,g2⟩:=hg _ _ _ ho
   cases hc:isW ws m1 [44] with
   | true=>
    obtain ⟨o,h⟩:=ih (args ++ [y]) (m1 + 1) (by simp;omega) zo (ql hw g2 hc)
    exact ⟨o,.next zo ho hc h⟩
   | false=>
    cases hs:isW ws m1 [41] with
    | false=>exact ⟨_,.unshut zo ho hc hs⟩
    | true=>
     by_cases hd:(Exp.mk 6 0 [] [] (args ++ [y])).depth <= 20
     ·exact ⟨_,.shut zo ho hc hs hd⟩
     ·exact ⟨_,.deep zo ho hc hs hd⟩
theorem qdw.xok {op:Nat->Option Int} {sub:Nat->Out->Prop} {pos:Int} (hop:∀n k,op n = some k->15 <= k/\k <= 24) (hs:∀n o,sub n o->XOK n o) {e:Exp} {n n0:Nat} {o:Out} (he:e.rx = true/\e.sz + n0 <= n) (h:qdw op sub pos e n o):XOK n0 o:=by
 induction h with
 | stop _=>exact he
 | bad _ b=>exact (hs _ _ b :)
 | deep _ _ _=>exact zr
 | go a b _ _ ih=>
  have q:=hs _ _ b
  exact ih ⟨qE1 (hop _ _ a) he.1 q.1,by have:=q.2;have:=he.2;simp only [Exp.sz,szs];omega⟩
theorem qeh.xok (hw:WF ws) (hz:WQ ws) {pos:Int} {e:Exp} {n n0:Nat} {o:Out} (hn:n < ws.length) (he:e.rx = true/\e.sz + n0 <= n) (h:qeh ws pos e n o):XOK n0 o:=by
 induction h with
 | stop _=>exact he
 | bad _ _=>exact zr
 | many _ _ _=>exact zr
 | deep _ _ _ _=>exact zr
 | go a b c _ _ ih=>exact ih (hw.next (ql hw hn a) zo) ⟨qE2 ((hz _ (ql hw hn a)).1 b).1 c he.1,by have:=he.2;simp only [Exp.sz,szs];omega⟩
theorem qdl.xok {sub:Nat->Out->Prop} {pos:Int} (hs:∀n o,sub n o->XOK n o) {args:List Exp} {n n0:Nat} {o:Out} (ha:rxs args = true/\1 + szs args + n0 <= n) (h1:1 <= args.length) (h:qdl ws sub pos args n o):XOK n0 o:=by
 induction h with
 | @many args m _=>show (1:Int) <= _;cases qaY ws m <;> decide
 | bad _ b=>exact (hs _ _ b :)
 | next _ b c _ ih=>
  have q:=hs _ _ b
  exact ih ⟨qoi ha.1 q.1,by have:=ha.2;have:=q.2;rw [qoo];omega⟩ (by simp)
 | unshut _ b _ _=>exact zr
 | deep _ _ _ _ _=>exact zr
 | shut a b _ _ _=>
  have q:=hs _ _ b
  exact ⟨qE3 (by simp) (by simp;omega) (qoi ha.1 q.1),by have:=ha.2;have:=q.2;rw [Exp.sz,qoo];omega⟩
theorem qAQ (hw:WF ws) {n:Nat} (hn:n < ws.length) {p err:Int} {m:Nat} (h1:qag 219 ws n (.no p err m)):qag 218 ws n (.no p err m):=by
 obtain ⟨g1,g2⟩:=h1
 refine ⟨g1,λh i hi=>?_⟩
 have E:=qf hi
 rw [PBi] at hi
 rw [qm 218 qCe]
 simp only [qCe,sT.1,sC.1,qg,seval,-Int.reduceNatCast',g2,hi,E,PBi,qe]
def qCo (ws:List Tok) (n:Nat) (o:Out):Prop:=n < ws.length/\XOK n o/\qag 215 ws n o
def qvy (ws:List Tok) (n:Nat) (o:Out):Prop:=n < ws.length/\XOK n o/\qag 209 ws n o
def qE9 (ws:List Tok) (n:Nat) (o:Out):Prop:=n < ws.length/\XOK n o/\qag 198 ws n o
def qCq (ws:List Tok) (n:Nat) (o:Out):Prop:=n < ws.length/\XOK n o/\qag 190 ws n o
def qCp (ws:List Tok) (n:Nat) (o:Out):Prop:=n < ws.length/\XOK n o/\qag 183 ws n o
def qE8 (ws:List Tok) (n:Nat) (o:Out):Prop:=n < ws.length/\XOK n o/\qag 148 ws n o
def JOr (ws:List Tok) (n:Nat) (o:Out):Prop:=n < ws.length/\XOK n o/\qag 100 ws n o
def qqK (ws:List Tok) (n:Nat) (o:Out):Prop:=n < ws.length/\XOK n o/\qag 65 ws n o
theorem qhX {sub:Nat->Out->Prop} {f:FuncId} (h:∀n o,sub n o->qag f ws n o):qFH ws sub:=λm e m' hs=>⟨(h _ _ hs).1,(h _ _ hs).2.1⟩
variable (hw:WF ws) (hz:WQ ws)
include hw hz
set_option linter.unusedSectionVars false
theorem qDr {n:Nat} {o:Out} (h:qCo ws n o) (hx:Exs ws (qCo ws) (n + 1)):∃o,qvy ws n o:=by
 obtain ⟨hn,E,hp⟩:=h
 cases o with
 | no p err m=>exact ⟨_,hn,(by exact E),qBm hw hn hp⟩
 | ok e n1=>
  obtain ⟨o,ho⟩:=qdw.ex (op:=qct ws) (pos:=(word ws n).pos) (λm k hm hs=>qeM hw hm (by rw [qmZ m k hs];simp)) (qhX (f:=215) λ_ _ h=>h.2.2) (n + 1) hx ws.length e n1 hp.1 zo hp.2.1
  refine ⟨o,hn,qdw.xok (λm k hk=>qxK hk) (λ_ _ h=>h.2.1) E ho,qob hw hn hp (ho.imp λ_ _ h=>h.2.2)⟩
theorem qGx {n:Nat} {o:Out} (h:qvy ws n o) (hx:Exs ws (qvy ws) (n + 1)):∃o,qE9 ws n o:=by
 obtain ⟨hn,E,hp⟩:=h
 cases o with
 | no p err m=>exact ⟨_,hn,(by exact E),qEK hw hn hp⟩
 | ok e n1=>
  obtain ⟨o,ho⟩:=qdw.ex (op:=qdH ws) (pos:=(word ws n).pos) (λm k hm hs=>qeM hw hm (by rw [qqo m k hs];simp)) (qhX (f:=209) λ_ _ h=>h.2.2) (n + 1) hx ws.length e n1 hp.1 zo hp.2.1
  refine ⟨o,hn,qdw.xok (λm k hk=>qBU hk) (λ_ _ h=>h.2.1) E ho,quV hw hn hp (ho.imp λ_ _ h=>h.2.2)⟩
theorem qDs {n:Nat} {o:Out} (h:qE9 ws n o) (hx:Exs ws (qE9 ws) (n + 1)):∃o,qCq ws n o:=by
 obtain ⟨hn,E,hp⟩:=h
 cases o with
 | no p err m=>exact ⟨_,hn,E,qx6 hw hn hp⟩
 | ok e n1=>
  cases hs:qcv ws n1 with
  | none=>exact ⟨_,hn,E,qoj hw hn hp hs⟩
  | some k=>
   have I:=qm8 n1 k hs
   have n2:=qeM hw hp.2.1 (by rw [I];simp)
   obtain ⟨o2,h2⟩:=hx (n1 + 1) (by have:=hp.1;omega) n2
   cases o2 with
   | no p err m=>exact ⟨_,hn,(by exact h2.2.1),qlK hw hn hp hs h2.2.2⟩
   | ok x n2=>
    by_cases hd:(Exp.mk k 0 [] [] [e,x]).depth <= 20
    ·exact ⟨_,hn,(by exact ⟨qE1 (qx5 hs) E.1 h2.2.1.1,by have:=E.2;have:=h2.2.1.2;simp only [Exp.sz,szs];omega⟩),qok hw hn hp hs h2.2.2 hd⟩
    ·exact ⟨_,hn,zr,qkm hw hn hp hs h2.2.2 hd⟩
theorem qGv {n:Nat} (hn:n < ws.length) (h:isW ws n [110,111,116] = false->∃o,qCq ws n o) (hx:Exs ws (qCp ws) (n + 1)):∃o,qCp ws n o:=by
 cases hs:isW ws n [110,111,116] with
 | false=>
  obtain ⟨o,_,E,hp⟩:=h hs
  exact ⟨o,hn,E,qn2 hw hn hs hp⟩
 | true=>
  obtain ⟨o,h2⟩:=hx (n + 1) (jm _) (ql hw hn hs)
  cases o with
  | no p err m=>exact ⟨_,hn,(by exact h2.2.1),qBe hw hn hs h2.2.2⟩
  | ok x n1=>
   by_cases hd:(Exp.mk 14 0 [] [] [x]).depth <= 20
   ·exact ⟨_,hn,(by exact ⟨qJL (by decide) h2.2.1.1,by have:=h2.2.1.2;simp only [Exp.sz,szs];omega⟩),qn3 hw hn hs h2.2.2 hd⟩
   ·exact ⟨_,hn,zr,qxt hw hn hs h2.2.2 hd⟩
theorem qGt {n:Nat} {o:Out} (h:qCp ws n o) (hx:Exs ws (qCp ws) (n + 1)):∃o,qE8 ws n o:=by
 obtain ⟨hn,E,hp⟩:=h
 cases o with
 | no p err m=>exact ⟨_,hn,(by exact E),qCx hw hn hp⟩
 | ok e n1=>
  obtain ⟨o,ho⟩:=qdw.ex (op:=qhG ws) (pos:=(word ws n).pos) (λm k hm hs=>qeM hw hm (by rw [qoA m k hs];simp)) (qhX (f:=183) λ_ _ h=>h.2.2) (n + 1) hx ws.length e n1 hp.1 zo hp.2.1
  refine ⟨o,hn,qdw.xok (λm k hk=>qzF hk) (λ_ _ h=>h.2.1) E ho,qqV hw hn hp (ho.imp λ_ _ h=>h.2.2)⟩
theorem qJ2 {n:Nat} {o:Out} (h:qE8 ws n o) (hx:Exs ws (qE8 ws) (n + 1)):∃o,JOr ws n o:=by
 obtain ⟨hn,E,hp⟩:=h
 cases o with
 | no p err m=>exact ⟨_,hn,(by exact E),qIy hw hn hp⟩
 | ok e n1=>
  obtain ⟨o,ho⟩:=qdw.ex (op:=qtZ ws) (pos:=(word ws n).pos) (λm k hm hs=>qeM hw hm (by rw [qt0 m k hs];simp)) (qhX (f:=148) λ_ _ h=>h.2.2) (n + 1) hx ws.length e n1 hp.1 zo hp.2.1
  refine ⟨o,hn,qdw.xok (λm k hk=>qEn hk) (λ_ _ h=>h.2.1) E ho,qzd hw hn hp (ho.imp λ_ _ h=>h.2.2)⟩
theorem qDq {n:Nat} (hn:n < ws.length) (h:∃o,JOr ws n o) (hx:Exs ws (qqK ws) (n + 1)):∃o,qqK ws n o:=by
 cases hs:isW ws n [105,102] with
 | false=>
  obtain ⟨o,_,a1,hp⟩:=h
  exact ⟨o,hn,a1,qk2 hw hn hs hp⟩
 | true=>
  obtain ⟨o1,_,Y,p1⟩:=hx (n + 1) (jm _) (ql hw hn hs)
  cases o1 with
  | no p err m=>exact ⟨_,hn,(by exact Y),if1 hw hn hs p1⟩
  | ok a n1=>
   cases ht:isW ws n1 [116,104,101,110] with
   | false=>exact ⟨_,hn,zr,if2 hw hn hs p1 ht⟩
   | true=>
    obtain ⟨o2,_,I,p2⟩:=hx (n1 + 1) (by have:=p1.1;omega) (ql hw p1.2.1 ht)
    cases o2 with
    | no p err m=>exact ⟨_,hn,(by exact I),if3 hw hn hs p1 ht p2⟩
    | ok b n2=>
     cases he:isW ws n2 [101,108,115,101] with
     | false=>exact ⟨_,hn,zr,if4 hw hn hs p1 ht p2 he⟩
     | true=>
      obtain ⟨o3,_,E,p3⟩:=hx (n2 + 1) (by have:=p1.1;have:=p2.1;omega) (ql hw p2.2.1 he)
      cases o3 with
      | no p err m=>exact ⟨_,hn,(by exact E),if5 hw hn hs p1 ht p2 he p3⟩
      | ok c n3=>
       by_cases hd:(Exp.mk 25 0 [] [] [a,b,c]).depth <= 20
       ·exact ⟨_,hn,(by exact ⟨qLG Y.1 I.1 E.1,by have:=Y.2;have:=I.2;have:=E.2;simp only [Exp.sz,szs];omega⟩),if7 hw hn hs p1 ht p2 he p3 hd⟩
       ·exact ⟨_,hn,zr,if6 hw hn hs p1 ht p2 he p3 hd⟩
def qIY (ws:List Tok) (n:Nat):Prop:=∃o,XOK n o/\qag 219 ws n o
theorem qpz {n:Nat} (hn:n < ws.length) (hs:isW ws n [40] = true) (hx:Exs ws (qqK ws) (n + 1)):∃o,XOK n o/\qag 221 ws n o:=by
 obtain ⟨o,_,E,p1⟩:=hx (n + 1) (jm _) (ql hw hn hs)
 cases o with
 | no p err m=>exact ⟨_,(by exact E),br1 hw hn hs p1⟩
 | ok x n1=>
  cases h2:isW ws n1 [41] with
  | true=>exact ⟨_,(by exact ⟨E.1,by have:=E.2;omega⟩),br2 hw hn hs p1 h2⟩
  | false=>
   cases h3:isW ws n1 [44] with
   | false=>exact ⟨_,zr,br3 hw hn hs p1 h2 h3⟩
   | true=>
    have n2:=ql hw p1.2.1 h3
    cases h4:isW ws (n1 + 1) [41] with
    | true=>
     by_cases hd:(Exp.mk 6 0 [] [] [x]).depth <= 20
     ·exact ⟨_,(by exact ⟨qE4 E.1,by have:=E.2;simp only [Exp.sz,szs];omega⟩),br4 hw hn hs p1 h2 h3 h4 hd⟩
     ·exact ⟨_,zr,br5 hw hn hs p1 h2 h3 h4 hd⟩
    | false=>
     obtain ⟨o,ho⟩:=qdl.ex hw (pos:=(word ws n).pos) (qhX (f:=65) λ_ _ h=>h.2.2) (n + 1) hx 3 [x] (n1 + 1) rfl (by have:=p1.1;omega) n2
     exact ⟨o,qdl.xok (λ_ _ h=>h.2.1) ⟨by simp only [rxs,jv];exact E.1,by have:=E.2;simp only [szs];omega⟩ (by simp) ho,br6 hw hn hs p1 h2 h3 h4 (ho.imp λ_ _ h=>h.2.2)⟩
theorem qGw {n:Nat} (hn:n < ws.length) (hx:Exs ws (qqK ws) (n + 1)):qIY ws n:=by
 by_cases k1:(word ws n).kind = 1
 ·exact ⟨_,(by exact ⟨qIT ((hz _ hn).1 k1),by simp only [Exp.sz,szs];omega⟩),qtR hw hn k1⟩
 by_cases k2:(word ws n).kind = 2
 ·exact ⟨_,(by exact ⟨qIU ((hz _ hn).2 k2),by simp only [Exp.sz,szs];omega⟩),qtT hw hn k2⟩
 cases hs:qU ws n with
 | true=>
  have n1:=qL hw hn hs
  cases hp:isW ws (n + 1) [46] with
  | false=>
   have h:isW ws (n + 1) [46] = true->qU ws (n + 1 + 1) = false:=λh=>by rw [hp] at h;cases h
   exact ⟨_,(by exact ⟨qCl (by decide) (qaT hs),by simp only [Exp.sz,szs];omega⟩),qgJ hw hn hs (qiB hw hn hs h)⟩
  | true=>
   have n2:=ql hw n1 hp
   by_cases k3:(word ws (n + 1 + 1)).kind = 1
   ·have hq:qU ws (n + 1 + 1) = false:=by simp [qU,k3]
    exact ⟨_,(by exact ⟨qCl (by decide) (qaT hs),by simp only [Exp.sz,szs];omega⟩),qgJ hw hn hs (qiB hw hn hs λ_=>hq)⟩
   ·cases hq:qU ws (n + 1 + 1) with
    | true=>exact ⟨_,(by exact ⟨qLH (qaT hs) (qaT hq),by simp only [Exp.sz,szs];omega⟩),qgJ hw hn hs (qEW hw hn hs hp hq)⟩
    | false=>exact ⟨_,(by exact ⟨qCl (by decide) (qaT hs),by simp only [Exp.sz,szs];omega⟩),qgJ hw hn hs (qiB hw hn hs λ_=>hq)⟩
 | false=>
  cases hb:isW ws n [40] with
  | true=>
   obtain ⟨o,I,p1⟩:=qpz hw hz hn hb hx
   exact ⟨o,I,qdf hw hn k1 k2 hs hb p1⟩
  | false=>
   cases q0:isW ws n [116,114,117,101] with
   | true=>exact ⟨_,(by exact ⟨qvp (by decide),by simp only [Exp.sz,szs];omega⟩),qV hw hn k1 k2 hs hb (qiW hw hn q0)⟩
   | false=>
   cases q1:isW ws n [102,97,108,115,101] with
   | true=>exact ⟨_,(by exact ⟨qvp (by decide),by simp only [Exp.sz,szs];omega⟩),qV hw hn k1 k2 hs hb (qhI hw hn q1)⟩
   | false=>
   cases q2:isW ws n [101,108,97,112,115,101,100] with
   | true=>exact ⟨_,(by exact ⟨qvp (by decide),by simp only [Exp.sz,szs];omega⟩),qV hw hn k1 k2 hs hb (qfS hw hn q2)⟩
   | false=>
   cases q3:isW ws n [99,111,117,110,116] with
   | true=>
    cases g1:isW ws (n + 1) [40] with
    | false=>exact ⟨_,zr,qV hw hn k1 k2 hs hb (qkG hw hn q3 g1)⟩
    | true=>
    cases g2:qU ws (n + 1 + 1) with
    | false=>exact ⟨_,zr,qV hw hn k1 k2 hs hb (qkH hw hn q3 g1 g2)⟩
    | true=>
    cases g3:isW ws (n + 1 + 1 + 1) [41] with
    | false=>exact ⟨_,zr,qV hw hn k1 k2 hs hb (qkI hw hn q3 g1 g2 g3)⟩
    | true=>exact ⟨_,(by exact ⟨qCl (by decide) (qaT g2),by simp only [Exp.sz,szs];omega⟩),qV hw hn k1 k2 hs hb (qhH hw hn q3 g1 g2 g3)⟩
   | false=>
   cases q4:isW ws n [104,97,115] with
   | true=>
    cases g1:isW ws (n + 1) [40] with
    | false=>exact ⟨_,zr,qV hw hn k1 k2 hs hb (qoC hw hn q4 g1)⟩
    | true=>
    cases g2:qU ws (n + 1 + 1) with
    | false=>exact ⟨_,zr,qV hw hn k1 k2 hs hb (qoD hw hn q4 g1 g2)⟩
    | true=>
    cases g3:isW ws (n + 1 + 1 + 1) [41] with
    | false=>exact ⟨_,zr,qV hw hn k1 k2 hs hb (qoE hw hn q4 g1 g2 g3)⟩
    | true=>exact ⟨_,(by exact ⟨qCl (by decide) (qaT g2),by simp only [Exp.sz,szs];omega⟩),qV hw hn k1 k2 hs hb (qkJ hw hn q4 g1 g2 g3)⟩
   | false=>
   cases q5:isW ws n [115,117,109] with
   | true=>
    cases g1:isW ws (n + 1) [40] with
    | false=>exact ⟨_,zr,qV hw hn k1 k2 hs hb (qoG hw hn q5 g1)⟩
    | true=>
    cases g2:qU ws (n + 1 + 1) with
    | false=>exact ⟨_,zr,qV hw hn k1 k2 hs hb (qoH hw hn q5 g1 g2)⟩
    | true=>
    cases g3:isW ws (n + 1 + 1 + 1) [41] with
    | false=>exact ⟨_,zr,qV hw hn k1 k2 hs hb (qoI hw hn q5 g1 g2 g3)⟩
    | true=>exact ⟨_,(by exact ⟨qCl (by decide) (qaT g2),by simp only [Exp.sz,szs];omega⟩),qV hw hn k1 k2 hs hb (qkK hw hn q5 g1 g2 g3)⟩
   | false=>
   cases q6:isW ws n [108,101,97,115,116] with
   | false=>exact ⟨_,zr,qV hw hn k1 k2 hs hb (qoF hw hn q0 q1 q2 q3 q4 q5 q6)⟩
   | true=>
    cases g1:isW ws (n + 1) [40] with
    | false=>exact ⟨_,zr,qV hw hn k1 k2 hs hb (qDN hw hn q6 g1)⟩
    | true=>
    have n1:=ql hw hn q6
    have n2:=ql hw n1 g1
    cases g2:qU ws (n + 1 + 1) with
    | false=>exact ⟨_,zr,qV hw hn k1 k2 hs hb (qDO hw hn q6 g1 g2)⟩
    | true=>
    have n3:=qL hw n2 g2
    cases g3:isW ws (n + 1 + 1 + 1) [44] with
    | false=>exact ⟨_,zr,qV hw hn k1 k2 hs hb (qDP hw hn q6 g1 g2 g3)⟩
    | true=>
    obtain ⟨o,_,E,p4⟩:=hx (n + 1 + 1 + 1 + 1) zo (ql hw n3 g3)
    cases o with
    | no p err m=>exact ⟨_,(by exact E),qV hw hn k1 k2 hs hb (qDQ hw hn q6 g1 g2 g3 p4)⟩
    | ok x m=>
     cases g5:isW ws m [41] with
     | false=>exact ⟨_,zr,qV hw hn k1 k2 hs hb (qDR hw hn q6 g1 g2 g3 p4 g5)⟩
     | true=>
      by_cases hd:(Exp.mk 10 0 (word ws (n + 1 + 1)).s [] [x]).depth <= 20
      ·exact ⟨_,(by exact ⟨qB5 (qaT g2) E.1,by have:=E.2;simp only [Exp.sz,szs];omega⟩),qV hw hn k1 k2 hs hb (qyZ hw hn q6 g1 g2 g3 p4 g5 hd)⟩
      ·exact ⟨_,zr,qV hw hn k1 k2 hs hb (qDS hw hn q6 g1 g2 g3 p4 g5 hd)⟩
theorem qGu {n:Nat} (hn:n < ws.length) (h1:qIY ws n) (hx:Exs ws (qCo ws) (n + 1)):∃o,qCo ws n o:=by
 cases hs:isW ws n [45] with
 | true=>
  obtain ⟨o,_,E,p1⟩:=hx (n + 1) (jm _) (ql hw hn hs)
  cases o with
  | no p err m=>exact ⟨_,hn,(by exact E),qA8 hw hn hs p1⟩
  | ok x n1=>
   by_cases hd:(Exp.mk 13 0 [] [] [x]).depth <= 20
   ·exact ⟨_,hn,(by exact ⟨qJL (by decide) E.1,by have:=E.2;simp only [Exp.sz,szs];omega⟩),qn1 hw hn hs p1 hd⟩
   ·exact ⟨_,hn,zr,qxq hw hn hs p1 hd⟩
 | false=>
  obtain ⟨o,E,p1⟩:=h1
  cases o with
  | no p err m=>exact ⟨_,hn,E,qj7 hw hn hs (qAQ hw hn p1)⟩
  | ok e n1=>
   obtain ⟨o,ho⟩:=qeh.ex hw (pos:=(word ws n).pos) ws.length e n1 zo p1.2.1
   exact ⟨o,hn,qeh.xok hw hz p1.2.1 E ho,qj7 hw hn hs (qnK hw hn p1 ho ho.mono)⟩
structure All (ws:List Tok) (n:Nat):Prop where
 neg:∃o,qCo ws n o
 prod:∃o,qvy ws n o
 sum:∃o,qE9 ws n o
 not:∃o,qCp ws n o
 and:∃o,qE8 ws n o
 expr:∃o,qqK ws n o
theorem qqU:∀(k n:Nat),ws.length - n <= k->n < ws.length->All ws n:=by
 intro k
 induction k with
 | zero=>intro n h1 h2;omega
 | succ k ih=>
  intro n h1 hn
  have hx:∀m,n + 1 <= m->m < ws.length->All ws m:=λm h2 h3=>ih m zo h3
  have a1:=qGu hw hz hn (qGw hw hz hn λm h2 h3=>(hx m h2 h3).expr) λm h2 h3=>(hx m h2 h3).neg
  have E:=a1.elim λ_ h=>qDr hw hz h λm h2 h3=>(hx m h2 h3).neg
  have I:=E.elim λ_ h=>qGx hw hz h λm h2 h3=>(hx m h2 h3).prod
  have a7:=I.elim λ_ h=>qDs hw hz h λm h2 h3=>(hx m h2 h3).sum
  have Y:=qGv hw hz hn (λ_=>a7) λm h2 h3=>(hx m h2 h3).not
  have a6:=Y.elim λ_ h=>qGt hw hz h λm h2 h3=>(hx m h2 h3).not
  have a8:=a6.elim λ_ h=>qJ2 hw hz h λm h2 h3=>(hx m h2 h3).and
  exact ⟨a1,E,I,Y,a6,qDq hw hz hn a8 λm h2 h3=>(hx m h2 h3).expr⟩
theorem qAw {n:Nat} (hn:n < ws.length):∃o,qag 65 ws n o/\XOK n o:=by
 obtain ⟨o,_,h0,h1⟩:=(qqU hw hz ws.length n zo hn).expr
 exact ⟨o,h1,h0⟩
end
theorem qkS:∀(l:List Exp) (d:Nat),(∀x ∈ l,x.depth <= d)->qaR l <= d
 | [],d,_=>by rw [qaR];omega
 | x :: l,d,h=>by
  rw [qaR]
  have:=h x (by simp)
  have:=qkS l d λy hy=>h y (by simp [hy])
  omega
theorem qyN:∀(d:Nat) (e:Exl),right d e = true->e.cv.depth <= d
 | 0,_,h=>by rw [right] at h;cases h
 | d + 1,.mk op n nm sb aS,h=>by
  rw [right,jk,List.all_eq_true] at h
  rw [cv_mk,Exp.depth]
  have:=qkS (aS.map Exl.cv) d λx hx=>by
   obtain ⟨a,ha,rfl⟩:=List.mem_map.1 hx
   exact qyN d a (h.2 a ha)
  omega
def rkN (op:Int):Nat:=(rk op).toNat
def qiv (t:PT) (k:Nat):Bool:=!tW t [46] && ((decide (6 <= k) || !(tW t [42] || (tW t [47] || tW t [37]))) && ((decide (5 <= k) || !(tW t [43] || tW t [45])) && ((decide (5 <= k) || !(tW t [61] || (tW t [60] || tW t [60,61]))) && ((decide (2 <= k) || !tW t [97,110,100]) && (decide (1 <= k) || !tW t [111,114])))))
section
variable {ws:List Tok} {ks:List PT} {x:Exp} {r:Nat}
theorem See.stp {m k:Nat} {t:PT} {b:List PT} (h:See ws m (t :: b)) (hk:qiv t k = true):Stp ws m k:=by
 simp only [qiv,jk,Bool.or_eq_true,Bool.not_eq_true',Bool.or_eq_false_iff,decide_eq_true_eq] at hk
 obtain ⟨h1,h2,h3,h4,h5,h6⟩:=hk
 have e:=λs=>h.is s
 refine ⟨λq=>?_,λ_=>by rw [e,h1],λq=>?_,λq=>?_,λq=>?_,λq=>?_,λq=>?_⟩
 ·rw [e,h1] at q;cases q
 ·obtain ⟨a,b,c⟩:=h2.resolve_left zo
  simp only [qct,e,a,b,c,jl,if_false]
 ·obtain ⟨a,b⟩:=h3.resolve_left zo
  simp only [qdH,e,a,b,jl,if_false]
 ·obtain ⟨a,b,c⟩:=h4.resolve_left zo
  simp only [qcv,e,a,b,c,jl,if_false]
 ·have a:=h5.resolve_left zo
  simp only [qhG,qhi,e,a,jl,if_false]
 ·have a:=h6.resolve_left zo
  simp only [qtZ,qhi,e,a,jl,if_false]
theorem Fst.down {j:Nat} (h:Fst r ks) (hj:j <= r):Fst j ks:=⟨h.ne,λt ht q=>h.eif t ht zo,λt ht q=>h.enot t ht zo,λt ht q=>h.eneg t ht zo,h.esh⟩
theorem qjX {b:List PT} (h:Fst r ks):Fst r (ks ++ b):=by
 cases ks with
 | nil=>exact absurd rfl h.ne
 | cons t l=>exact ⟨by simp,h.eif,h.enot,h.eneg,h.esh⟩
theorem qbR {t:PT} {b:List PT} (h1:tW t [105,102] = false\/r < 1) (h2:tW t [110,111,116] = false\/r < 4) (h3:tW t [45] = false\/r < 8) (h4:tW t [41] = false):Fst r (t :: b):=
 ⟨by simp,λu hu q=>by simp at hu;subst hu;exact h1.resolve_right zo,λu hu q=>by simp at hu;subst hu;exact h2.resolve_right zo,λu hu q=>by simp at hu;subst hu;exact h3.resolve_right zo,λu hu=>by simp at hu;subst hu;exact h4⟩
theorem brk (hw:WF ws) (h:Gd ws ks x r):Gd ws (mk3 [40] :: (ks ++ [mk3 [41]])) x 9:=by
 refine qcc hw (qbR (.inl rfl) (.inl rfl) (.inl rfl) rfl) zo ?_
 intro n hs hl E o hc
 cases hc
 obtain ⟨hn,k1,_⟩:=hs.head
 have s1:=hs.tail.app.1
 have s2:=hs.tail.app.2
 have e1:n + (mk3 [40] :: (ks ++ [mk3 [41]])).length = n + 1 + ks.length + 1:=by simp;omega
 rw [e1] at hl ⊢
 exact qdf hw hn (by rw [k1];simp [mk3]) (by rw [k1];simp [mk3]) (by rw [hs.named];rfl) (by rw [hs.is];rfl) (br2 hw hn (by rw [hs.is];rfl) (h.2 0 zo (n + 1) s1 zo (s2.stp rfl) _ rfl) (by rw [s2.is];rfl))
theorem qLB (hw:WF ws) {op K:Int} (h0:0 <= op) (h1:op <= 25) (h:Gd ws ks x (rkN op)) (j:Nat) (hj:(j:Int) <= K) (h9:j <= 9):Fst j (itk K (op,ks))/\Lv ws (itk K (op,ks)) x j:=by
 rw [itk]
 simp only
 cases hc:ile K (rk op) with
 | true=>
  rw [cond_true]
  rw [qaD] at hc
  have hc:=of_decide_eq_true hc
  have hr:j <= rkN op:=by unfold rkN;omega
  exact ⟨h.1.down hr,h.2 j hr⟩
 | false=>
  rw [cond_false]
  have:=brk hw h
  exact ⟨this.1.down h9,this.2 j h9⟩
end
structure Ag (ws:List Tok) (d:Nat) (a:Exl):Prop where
 o0:0 <= a.op
 o1:a.op <= 25
 gd:Gd ws (tk d a) a.cv (rkN a.op)
section
variable {ws:List Tok} {d:Nat}
theorem Ag.at {a:Exl} (h:Ag ws d a) (hw:WF ws) {K:Int} (j:Nat) (hj:(j:Int) <= K) (h9:j <= 9):Fst j (itk K (a.op,tk d a))/\Lv ws (itk K (a.op,tk d a)) a.cv j:=qLB hw h.o0 h.o1 h.gd j hj h9
theorem qic (hw:WF ws) {a b:Exl} (ha:Ag ws d a) (hb:Ag ws d b) {op K L:Int} {t:PT} (k l:Nat) (hk:(k:Int) <= K) (hl:(l:Int) <= L) (a7:k < l) (h9:l <= 8) (I:k = 6\/k = 5\/k = 2\/k = 1) (a6:qiv t k = true)
  (hop:∀m r,See ws m (t :: r)->(k = 6->qct ws m = some op)/\(k = 5->qdH ws m = some op)/\(k = 2->qhG ws m = some op)/\(k = 1->qtZ ws m = some op))
  (E:l = k + 1) (hd:(Exp.mk op 0 [] [] [a.cv,b.cv]).depth <= 20):Fst k (itk K (a.op,tk d a) ++ (t :: itk L (b.op,tk d b)))/\Lv ws (itk K (a.op,tk d a) ++ (t :: itk L (b.op,tk d b))) (.mk op 0 [] [] [a.cv,b.cv]) k:=by
 obtain ⟨fa,va⟩:=ha.at hw (K:=K) k hk zo
 obtain ⟨_,vb⟩:=hb.at hw (K:=L) l hl zo
 refine ⟨qjX fa,?_⟩
 generalize itk K (a.op,tk d a) = A at *
 generalize itk L (b.op,tk d b) = B at *
 intro n hs a1 Y o hc
 have s1:=hs.app.1
 have s2:=hs.app.2
 have e:n + (A ++ t :: B).length = n + A.length + 1 + B.length:=by simp;omega
 rw [e] at a1 Y hc
 have hB:qag (fnL l) ws (n + A.length + 1) (.ok b.cv (n + A.length + 1 + B.length)):=vb.end s2.tail a1 Y a7 (.inr zo)
 obtain ⟨q6,q5,q2,q1⟩:=hop _ _ s2
 refine va n s1 zo (s2.stp a6) o ?_
 subst E
 rcases I with rfl | rfl | rfl | rfl
 ·exact qdw.go (q6 rfl) hB hd hc
 ·exact qdw.go (q5 rfl) hB hd hc
 ·exact qdw.go (q2 rfl) hB hd hc
 ·exact qdw.go (q1 rfl) hB hd hc
theorem qmR (hw:WF ws) {a b:Exl} (ha:Ag ws d a) (hb:Ag ws d b) {op:Int} {t:PT} (Y:qiv t 5 = true) (a1:∀m r,See ws m (t :: r)->qdH ws m = none) (hop:∀m r,See ws m (t :: r)->qcv ws m = some op) (hd:(Exp.mk op 0 [] [] [a.cv,b.cv]).depth <= 20) :
  Fst 4 (itk 5 (a.op,tk d a) ++ (t :: itk 5 (b.op,tk d b)))/\Lv ws (itk 5 (a.op,tk d a) ++ (t :: itk 5 (b.op,tk d b))) (.mk op 0 [] [] [a.cv,b.cv]) 4:=by
 obtain ⟨fa,va⟩:=ha.at hw (K:=5) 5 zo zo
 obtain ⟨_,vb⟩:=hb.at hw (K:=5) 5 zo zo
 refine ⟨qjX (fa.down zo),?_⟩
 generalize itk 5 (a.op,tk d a) = A at *
 generalize itk 5 (b.op,tk d b) = B at *
 intro n hs I E o hc
 cases hc
 have s1:=hs.app.1
 have s2:=hs.app.2
 have e:n + (A ++ t :: B).length = n + A.length + 1 + B.length:=by simp;omega
 rw [e] at I E ⊢
 have hB:qag (fnL 5) ws (n + A.length + 1) (.ok b.cv (n + A.length + 1 + B.length)):=vb.end s2.tail I E zo (.inr zo)
 have hn:n < ws.length:=zo
 exact qok hw hn (va n s1 zo (s2.stp Y) _ (qdw.stop (a1 _ _ s2))) (hop _ _ s2) hB hd
theorem qCF (hw:WF ws) {pos:Int}:∀(rest:List Exl),rest ≠ []->(∀a ∈ rest,Ag ws d a)->∀(args:List Exp) (m:Nat),args.length + rest.length <= 4->See ws m (qbg (rest.map λa=>itk 0 (a.op,tk d a)) ++ [mk3 [41]])->m + (qbg (rest.map λa=>itk 0 (a.op,tk d a))).length + 1 < ws.length->(Exp.mk 6 0 [] [] (args ++ rest.map Exl.cv)).depth <= 20->
  qdl ws (qag 65 ws) pos args m (.ok (.mk 6 0 [] [] (args ++ rest.map Exl.cv)) (m + (qbg (rest.map λa=>itk 0 (a.op,tk d a))).length + 1))
 | [],h,_,_,_,_,_,_,_=>absurd rfl h
 | [y],_,h,args,m,hl,hs,E,hd=>by
  obtain ⟨_,vy⟩:=(h y (by simp)).at hw (K:=0) 0 zo zo
  simp only [List.map_cons,List.map_nil,qbg,List.flatten_nil,jF] at hs E hd ⊢
  generalize itk 0 (y.op,tk d y) = Y at *
  have s2:=hs.app.2
  exact .shut (by simp at hl;omega) (vy m hs.app.1 zo (s2.stp rfl) _ rfl) (by rw [s2.is];rfl) (by rw [s2.is];rfl) hd
 | y :: z :: r,_,h,args,m,hl,hs,E,hd=>by
  obtain ⟨_,vy⟩:=(h y (by simp)).at hw (K:=0) 0 zo zo
  have e:qbg ((y :: z :: r).map λa=>itk 0 (a.op,tk d a)) = itk 0 (y.op,tk d y) ++ (mk3 [44] :: qbg ((z :: r).map λa=>itk 0 (a.op,tk d a))):=by simp [qbg]
  rw [e] at hs E ⊢
  have I:=qCF (pos:=pos) hw (z :: r) (by simp) (λa ha=>h a (by simp at ha ⊢;exact .inr ha)) (args ++ [y.cv])
  rw [List.map_cons,List.map_cons] at hd
  generalize qbg ((z :: r).map λa=>itk 0 (a.op,tk d a)) = Z at *
  generalize itk 0 (y.op,tk d y) = Y at *
  rw [jp,jw] at hs
  have s2:=hs.app.2
  have el:m + (Y ++ mk3 [44] :: Z).length + 1 = m + Y.length + 1 + Z.length + 1:=by simp;omega
  rw [el] at E ⊢
  have I:=I (m + Y.length + 1) (by simp at hl ⊢;omega) s2.tail E (by simpa using hd)
  refine .next (by simp at hl;omega) (vy m hs.app.1 zo (s2.stp rfl) _ rfl) (by rw [s2.is];rfl) ?_
  simpa using I
end
section
variable {ws:List Tok} {d:Nat}
theorem qag.var {n:Nat} {s:Str} (hw:WF ws) (hn:n < ws.length) (h1:qU ws n = true) (h2:isW ws (n + 1) [46] = true->qU ws (n + 1 + 1) = false) (hs:(word ws n).s = s):qag 220 ws n (.ok (.mk 4 0 s [] []) (n + 1)):=by
 subst hs
 exact ⟨zo,qL hw hn h1,by rw [Exp.depth,qaR];omega,λh i hi=>qfx hw hn hi h1 h2⟩
theorem qag.of {n:Nat} {s t:Str} (hw:WF ws) (hn:n < ws.length) (h1:qU ws n = true) (h2:isW ws (n + 1) [46] = true) (h3:qU ws (n + 1 + 1) = true) (hs:(word ws n).s = s) (ht:(word ws (n + 1 + 1)).s = t):qag 220 ws n (.ok (.mk 5 0 s t []) (n + 1 + 1 + 1)):=by
 subst hs;subst ht
 exact ⟨zo,qL hw (ql hw (qL hw hn h1) h2) h3,by rw [Exp.depth,qaR];omega,λh i hi=>qiC hw hn hi h1 h2 h3⟩
theorem qnD {r:Nat} {nm:Str} {b:List PT} (h:qI nm = true):Fst r (nm0 nm :: b):=by
 have e:=λw (hw:qI w = false)=>qA7 (s:=nm) (w:=w) h hw
 refine qbR (.inl ?_) (.inl ?_) (.inl ?_) ?_ <;> simp only [tW,nm0] <;> rw [e _ zk] <;> rfl
theorem qLl (hw:WF ws) (n:Int):Gd ws [in1 n] (.mk 0 n [] [] []) 9:=by
 refine qcc hw (qbR (.inl rfl) (.inl rfl) (.inl rfl) rfl) zo ?_
 intro n hs hl E o hc
 cases hc
 obtain ⟨hn,k1,_,k3⟩:=hs.head
 have:=qtR hw hn k1
 rw [k3] at this
 exact this
theorem qLm (hw:WF ws):Gd ws [nm0 [116,114,117,101]] (.mk 1 0 [] [] []) 9:=by
 refine qcc hw (qbR (.inl rfl) (.inl rfl) (.inl rfl) rfl) zo ?_
 intro n hs hl E o hc
 cases hc
 obtain ⟨hn,k1,_,k3⟩:=hs.head
 exact qV hw hn (by rw [k1];simp [nm0]) (by rw [k1];simp [nm0]) (by rw [hs.named];kernel_rfl) (by rw [hs.is];rfl) (qiW hw hn (by rw [hs.is];rfl))
theorem qLn (hw:WF ws):Gd ws [nm0 [102,97,108,115,101]] (.mk 2 0 [] [] []) 9:=by
 refine qcc hw (qbR (.inl rfl) (.inl rfl) (.inl rfl) rfl) zo ?_
 intro n hs hl E o hc
 cases hc
 obtain ⟨hn,k1,_,k3⟩:=hs.head
 exact qV hw hn (by rw [k1];simp [nm0]) (by rw [k1];simp [nm0]) (by rw [hs.named];kernel_rfl) (by rw [hs.is];rfl) (qhI hw hn (by rw [hs.is];rfl))
theorem qIn (hw:WF ws):Gd ws [nm0 [101,108,97,112,115,101,100]] (.mk 11 0 [] [] []) 9:=by
 refine qcc hw (qbR (.inl rfl) (.inl rfl) (.inl rfl) rfl) zo ?_
 intro n hs hl E o hc
 cases hc
 obtain ⟨hn,k1,_,k3⟩:=hs.head
 exact qV hw hn (by rw [k1];simp [nm0]) (by rw [k1];simp [nm0]) (by rw [hs.named];kernel_rfl) (by rw [hs.is];rfl) (qfS hw hn (by rw [hs.is];rfl))
theorem qLo (hw:WF ws) (nm:Str):Gd ws [sy2 nm] (.mk 3 0 nm [] []) 9:=by
 refine qcc hw (qbR (.inl rfl) (.inl rfl) (.inl rfl) rfl) zo ?_
 intro n hs hl E o hc
 cases hc
 obtain ⟨hn,k1,k2,k3⟩:=hs.head
 have:=qtT hw hn k1
 rw [k2] at this
 exact this
theorem qLp (hw:WF ws) {nm:Str} (h:qI nm = true):Gd ws [nm0 nm] (.mk 4 0 nm [] []) 9:=by
 refine qcc hw (qnD h) zo ?_
 intro n hs hl E o hc
 cases hc
 obtain ⟨hn,k1,k2,k3⟩:=hs.head
 have hN:qU ws n = true:=by rw [hs.named];exact h
 exact qgJ hw hn hN (qag.var hw hn hN E.of k2)
theorem qLq (hw:WF ws) {nm sb:Str} (h:qI nm = true) (h2:qI sb = true):Gd ws [nm0 nm,mk3 [46],nm0 sb] (.mk 5 0 nm sb []) 9:=by
 refine qcc hw (qnD h) zo ?_
 intro n hs hl E o hc
 cases hc
 obtain ⟨hn,k1,k2,k3⟩:=hs.head
 have hN:qU ws n = true:=by rw [hs.named];exact h
 have s2:=hs.tail
 have s3:=s2.tail
 exact qgJ hw hn hN (qag.of hw hn hN (by rw [s2.is];rfl) (by rw [s3.named];exact h2) k2 s3.head.2.2.1)
theorem qLs (hw:WF ws) {nm:Str} (h:qI nm = true):Gd ws [nm0 [99,111,117,110,116],mk3 [40],nm0 nm,mk3 [41]] (.mk 7 0 nm [] []) 9:=by
 refine qcc hw (qbR (.inl rfl) (.inl rfl) (.inl rfl) rfl) zo ?_
 intro n hs hl E o hc
 cases hc
 obtain ⟨hn,k1,k2,k3⟩:=hs.head
 have s2:=hs.tail
 have s3:=s2.tail
 have s4:=s3.tail
 have:=qhH hw hn (by rw [hs.is];rfl) (by rw [s2.is];rfl) (by rw [s3.named];exact h) (by rw [s4.is];rfl)
 rw [s3.head.2.2.1] at this
 exact qV hw hn (by rw [k1];simp [nm0]) (by rw [k1];simp [nm0]) (by rw [hs.named];kernel_rfl) (by rw [hs.is];rfl) this
theorem qLt (hw:WF ws) {nm:Str} (h:qI nm = true):Gd ws [nm0 [104,97,115],mk3 [40],nm0 nm,mk3 [41]] (.mk 8 0 nm [] []) 9:=by
 refine qcc hw (qbR (.inl rfl) (.inl rfl) (.inl rfl) rfl) zo ?_
 intro n hs hl E o hc
 cases hc
 obtain ⟨hn,k1,k2,k3⟩:=hs.head
 have s2:=hs.tail
 have s3:=s2.tail
 have s4:=s3.tail
 have:=qkJ hw hn (by rw [hs.is];rfl) (by rw [s2.is];rfl) (by rw [s3.named];exact h) (by rw [s4.is];rfl)
 rw [s3.head.2.2.1] at this
 exact qV hw hn (by rw [k1];simp [nm0]) (by rw [k1];simp [nm0]) (by rw [hs.named];kernel_rfl) (by rw [hs.is];rfl) this
theorem qLu (hw:WF ws) {nm:Str} (h:qI nm = true):Gd ws [nm0 [115,117,109],mk3 [40],nm0 nm,mk3 [41]] (.mk 9 0 nm [] []) 9:=by
 refine qcc hw (qbR (.inl rfl) (.inl rfl) (.inl rfl) rfl) zo ?_
 intro n hs hl E o hc
 cases hc
 obtain ⟨hn,k1,k2,k3⟩:=hs.head
 have s2:=hs.tail
 have s3:=s2.tail
 have s4:=s3.tail
 have:=qkK hw hn (by rw [hs.is];rfl) (by rw [s2.is];rfl) (by rw [s3.named];exact h) (by rw [s4.is];rfl)
 rw [s3.head.2.2.1] at this
 exact qV hw hn (by rw [k1];simp [nm0]) (by rw [k1];simp [nm0]) (by rw [hs.named];kernel_rfl) (by rw [hs.is];rfl) this
theorem qIm (hw:WF ws) {nm:Str} (h:qI nm = true) {a:Exl} (ha:Ag ws d a) (hd:(Exp.mk 10 0 nm [] [a.cv]).depth <= 20):Gd ws ([nm0 [108,101,97,115,116],mk3 [40],nm0 nm,mk3 [44]] ++ (itk 0 (a.op,tk d a) ++ [mk3 [41]])) (.mk 10 0 nm [] [a.cv]) 9:=by
 refine qcc hw (qbR (.inl rfl) (.inl rfl) (.inl rfl) rfl) zo ?_
 obtain ⟨_,va⟩:=ha.at hw (K:=0) 0 zo zo
 generalize itk 0 (a.op,tk d a) = A at *
 intro n hs hl E o hc
 cases hc
 obtain ⟨hn,k1,k2,k3⟩:=hs.head
 have s2:=hs.tail
 have s3:=s2.tail
 have s4:=s3.tail
 have s5:See ws (n + 1 + 1 + 1 + 1) (A ++ [mk3 [41]]):=s4.tail
 have s6:=s5.app.2
 have el:n + ([nm0 [108,101,97,115,116],mk3 [40],nm0 nm,mk3 [44]] ++ (A ++ [mk3 [41]])).length = n + 1 + 1 + 1 + 1 + A.length + 1:=by simp;omega
 rw [el] at hl ⊢
 have hx:=s3.head.2.2.1
 have:=qyZ hw hn (by rw [hs.is];rfl) (by rw [s2.is];rfl) (by rw [s3.named];exact h) (by rw [s4.is];rfl) (va _ s5.app.1 zo (s6.stp rfl) _ rfl) (by rw [s6.is];rfl) (by rw [hx];exact hd)
 rw [hx] at this
 exact qV hw hn (by rw [k1];simp [nm0]) (by rw [k1];simp [nm0]) (by rw [hs.named];kernel_rfl) (by rw [hs.is];rfl) this
theorem qLr (hw:WF ws) {aS:List Exl} (Y:1 <= aS.length) (E:aS.length <= 4) (ha:∀a ∈ aS,Ag ws d a) (hd:(Exp.mk 6 0 [] [] (aS.map Exl.cv)).depth <= 20):Gd ws (qEQ (aS.map λa=>(a.op,tk d a))) (.mk 6 0 [] [] (aS.map Exl.cv)) 9:=by
 rw [qEQ,List.map_map,List.length_map]
 refine qcc hw (qbR (.inl rfl) (.inl rfl) (.inl rfl) rfl) zo ?_
 rw [show (itk 0 ∘ λa:Exl=>(a.op,tk d a)) = λa:Exl=>itk 0 (a.op,tk d a) from rfl]
 match aS,Y,E,ha,hd with
 | [a],_,_,ha,hd=>
  obtain ⟨_,va⟩:=(ha a (by simp)).at hw (K:=0) 0 zo zo
  rw [show ([a].length == 1) = true from rfl,cond_true]
  simp only [List.map_cons,List.map_nil,qbg,List.flatten_nil,jF] at hd ⊢
  generalize itk 0 (a.op,tk d a) = A at *
  intro n hs hl I o hc
  cases hc
  obtain ⟨hn,k1,k2,k3⟩:=hs.head
  have s2:=hs.tail
  have s3:=s2.app.2
  have s4:=s3.tail
  have el:n + (mk3 [40] :: (A ++ [mk3 [44],mk3 [41]])).length = n + 1 + A.length + 1 + 1:=by simp;omega
  rw [el] at hl ⊢
  exact qdf hw hn (by rw [k1];simp [mk3]) (by rw [k1];simp [mk3]) (by rw [hs.named];rfl) (by rw [hs.is];rfl) (br4 hw hn (by rw [hs.is];rfl) (va _ s2.app.1 zo (s3.stp rfl) _ rfl) (by rw [s3.is];rfl) (by rw [s3.is];rfl) (by rw [s4.is];rfl) hd)
 | a :: b :: r,_,E,ha,hd=>
  obtain ⟨_,va⟩:=(ha a (by simp)).at hw (K:=0) 0 zo zo
  obtain ⟨fb,_⟩:=(ha b (by simp)).at hw (K:=0) 0 zo zo
  have ej:qbg ((a :: b :: r).map λa=>itk 0 (a.op,tk d a)) = itk 0 (a.op,tk d a) ++ (mk3 [44] :: qbg ((b :: r).map λa=>itk 0 (a.op,tk d a))):=by simp [qbg]
  have a6:=λpos=>qCF (pos:=pos) hw (b :: r) (by simp) (λx hx=>ha x (by simp at hx ⊢;exact .inr hx)) [a.cv]
  have a1:Fst 0 (qbg ((b :: r).map λa=>itk 0 (a.op,tk d a)) ++ [mk3 [41]]):=by
   rw [List.map_cons,qbg,jp]
   exact qjX fb
  rw [ej,show ((a :: b :: r).length == 1) = false by simp,cond_false]
  generalize qbg ((b :: r).map λa=>itk 0 (a.op,tk d a)) = Z at *
  generalize itk 0 (a.op,tk d a) = A at *
  intro n hs hl I o hc
  cases hc
  obtain ⟨hn,k1,k2,k3⟩:=hs.head
  have s2:=hs.tail
  rw [jp,jw] at s2
  have s3:=s2.app.2
  have s4:=s3.tail
  have el:n + (mk3 [40] :: (A ++ mk3 [44] :: Z ++ [mk3 [41]])).length = n + 1 + A.length + 1 + Z.length + 1:=by simp;omega
  rw [el] at hl ⊢
  have h4:isW ws (n + 1 + A.length + 1) [41] = false:=by
   revert s4 a1
   cases hz:Z ++ [mk3 [41]] with
   | nil=>intro h;exact absurd rfl h.ne
   | cons t z=>intro h s4;rw [s4.is];exact h.esh t rfl
  exact qdf hw hn (by rw [k1];simp [mk3]) (by rw [k1];simp [mk3]) (by rw [hs.named];rfl) (by rw [hs.is];rfl) (br6 hw hn (by rw [hs.is];rfl) (va _ s2.app.1 zo (s3.stp rfl) _ rfl) (by rw [s3.is];rfl) (by rw [s3.is];rfl) h4 (a6 _ (n + 1 + A.length + 1) (by simp at E ⊢;omega) s4 hl (by simpa using hd)))
theorem qIo (hw:WF ws) {a:Exl} (ha:Ag ws d a) {n0:Int} (I:n0 < 4) {K:Int} (hK:8 <= K) (hd:(Exp.mk 12 n0 [] [] [a.cv]).depth <= 20):Gd ws (itk K (a.op,tk d a) ++ [mk3 [46],in1 n0]) (.mk 12 n0 [] [] [a.cv]) 8:=by
 obtain ⟨fa,va⟩:=ha.at hw (K:=K) 8 zo zo
 refine qcc hw (qjX fa) zo ?_
 generalize itk K (a.op,tk d a) = A at *
 intro n hs hl E o hc
 have s2:=hs.app.2
 have s3:=s2.tail
 obtain ⟨_,k1,_,k3⟩:=s3.head
 have el:n + (A ++ [mk3 [46],in1 n0]).length = n + A.length + 1 + 1:=by simp;omega
 rw [el] at hl E hc
 refine va n hs.app.1 zo ⟨λ_=>by rw [s3.named];rfl,λh=>absurd h zo,λh=>absurd h zo,λh=>absurd h zo,λh=>absurd h zo,λh=>absurd h zo,λh=>absurd h zo⟩ o ?_
 have k3:(word ws (n + A.length + 1)).n = n0:=k3
 exact qeh.go (by rw [s2.is];rfl) k1 (by rw [k3];exact I) (by rw [k3];exact hd) (by rw [k3];exact hc)
theorem qIp (hw:WF ws) {a:Exl} (ha:Ag ws d a) (hd:(Exp.mk 13 0 [] [] [a.cv]).depth <= 20):Gd ws (mk3 [45] :: itk 7 (a.op,tk d a)) (.mk 13 0 [] [] [a.cv]) 7:=by
 obtain ⟨_,va⟩:=ha.at hw (K:=7) 7 zo zo
 refine qcc hw (qbR (.inl rfl) (.inl rfl) (.inr zo) rfl) zo ?_
 generalize itk 7 (a.op,tk d a) = A at *
 intro n hs hl E o hc
 cases hc
 have el:n + (mk3 [45] :: A).length = n + 1 + A.length:=by simp;omega
 rw [el] at hl E ⊢
 exact qn1 hw hs.head.1 (by rw [hs.is];rfl) (va _ hs.tail hl E _ rfl) hd
theorem qIq (hw:WF ws) {a:Exl} (ha:Ag ws d a) (hd:(Exp.mk 14 0 [] [] [a.cv]).depth <= 20):Gd ws (nm0 [110,111,116] :: itk 3 (a.op,tk d a)) (.mk 14 0 [] [] [a.cv]) 3:=by
 obtain ⟨_,va⟩:=ha.at hw (K:=3) 3 zo zo
 refine qcc hw (qbR (.inl rfl) (.inr zo) (.inl rfl) rfl) zo ?_
 generalize itk 3 (a.op,tk d a) = A at *
 intro n hs hl E o hc
 cases hc
 have el:n + (nm0 [110,111,116] :: A).length = n + 1 + A.length:=by simp;omega
 rw [el] at hl E ⊢
 exact qn3 hw hs.head.1 (by rw [hs.is];rfl) (va _ hs.tail hl E _ rfl) hd
theorem qIr (hw:WF ws) {a b c:Exl} (ha:Ag ws d a) (hb:Ag ws d b) (hc:Ag ws d c) (hd:(Exp.mk 25 0 [] [] [a.cv,b.cv,c.cv]).depth <= 20):Gd ws (nm0 [105,102] :: (itk 0 (a.op,tk d a) ++ (nm0 [116,104,101,110] :: (itk 0 (b.op,tk d b) ++ (nm0 [101,108,115,101] :: itk 0 (c.op,tk d c)))))) (.mk 25 0 [] [] [a.cv,b.cv,c.cv]) 0:=by
 obtain ⟨_,va⟩:=ha.at hw (K:=0) 0 zo zo
 obtain ⟨_,vb⟩:=hb.at hw (K:=0) 0 zo zo
 obtain ⟨_,vc⟩:=hc.at hw (K:=0) 0 zo zo
 refine qcc hw (qbR (.inr zo) (.inl rfl) (.inl rfl) rfl) zo ?_
 generalize itk 0 (a.op,tk d a) = A at *
 generalize itk 0 (b.op,tk d b) = B at *
 generalize itk 0 (c.op,tk d c) = C at *
 intro n hs hl E o hc
 cases hc
 have s1:=hs.tail
 have s2:=s1.app.2
 have s3:=s2.tail
 have s4:=s3.app.2
 have s5:=s4.tail
 have el:n + (nm0 [105,102] :: (A ++ (nm0 [116,104,101,110] :: (B ++ (nm0 [101,108,115,101] :: C))))).length = n + 1 + A.length + 1 + B.length + 1 + C.length:=by simp;omega
 rw [el] at hl E ⊢
 exact if7 hw hs.head.1 (by rw [hs.is];rfl) (va _ s1.app.1 zo (s2.stp rfl) _ rfl) (by rw [s2.is];rfl) (vb _ s3.app.1 zo (s4.stp rfl) _ rfl) (by rw [s4.is];rfl) (vc _ s5 hl E _ rfl) hd
theorem qBc (hw:WF ws) {op n:Int} {nm sb:Str} {aS:List Exl} (hb:qb7 op n nm sb aS.length = true) (hd:(Exp.mk op n nm sb (aS.map Exl.cv)).depth <= 20) (h:∀a ∈ aS,Ag ws d a):Gd ws (ntk op n nm sb (aS.map λa=>(a.op,tk d a))) (.mk op n nm sb (aS.map Exl.cv)) (rkN op):=by
 cases qlt hb
 case int q=>exact qLl hw n
 case word q=>
  rcases q with rfl | rfl | rfl
  ·exact qLm hw
  ·exact qLn hw
  ·exact qIn hw
 case sym q=>exact qLo hw nm
 case var q r=>
  rcases q with rfl | rfl | rfl | rfl
  ·exact qLp hw r
  ·exact qLs hw r
  ·exact qLt hw r
  ·exact qLu hw r
 case of q r=>exact qLq hw q r
 case tup q r=>exact qLr hw q r h hd
 case least a q=>exact qIm hw q (h a (by simp)) hd
 case item a q r=>exact qIo hw (h a (by simp)) zo (K:=bif a.op == 0 then 10 else 8) (by cases a.op == 0 <;> simp) hd
 case un a q=>
  rcases q with rfl | rfl
  ·exact qIp hw (h a (by simp)) hd
  ·exact qIq hw (h a (by simp)) hd
 case bin a b q r=>
  rcases (show op = 15\/op = 16\/op = 17\/op = 18\/op = 19\/op = 20\/op = 21\/op = 22\/op = 23\/op = 24 by omega) with rfl | rfl | rfl | rfl | rfl | rfl | rfl | rfl | rfl | rfl
  ·have e:=λm r (s:See ws m (mk3 [43] :: r)) w=>s.is w
   have:=qic (op:=15) (t:=mk3 [43]) (K:=5) (L:=6) hw (h a (by simp)) (h b (by simp)) 5 6 zo zo zo zo zo rfl (λm r s=>⟨λh=>absurd h zo,λ_=>by simp only [qdH,e m r s];rfl,λh=>absurd h zo,λh=>absurd h zo⟩) rfl hd
   exact qcc hw this.1 (by decide) this.2
  ·have e:=λm r (s:See ws m (mk3 [45] :: r)) w=>s.is w
   have:=qic (op:=16) (t:=mk3 [45]) (K:=5) (L:=6) hw (h a (by simp)) (h b (by simp)) 5 6 zo zo zo zo zo rfl (λm r s=>⟨λh=>absurd h zo,λ_=>by simp only [qdH,e m r s];rfl,λh=>absurd h zo,λh=>absurd h zo⟩) rfl hd
   exact qcc hw this.1 (by decide) this.2
  ·have e:=λm r (s:See ws m (mk3 [42] :: r)) w=>s.is w
   have:=qic (op:=17) (t:=mk3 [42]) (K:=6) (L:=7) hw (h a (by simp)) (h b (by simp)) 6 7 zo zo zo zo zo rfl (λm r s=>⟨λ_=>by simp only [qct,e m r s];rfl,λh=>absurd h zo,λh=>absurd h zo,λh=>absurd h zo⟩) rfl hd
   exact qcc hw this.1 (by decide) this.2
  ·have e:=λm r (s:See ws m (mk3 [47] :: r)) w=>s.is w
   have:=qic (op:=18) (t:=mk3 [47]) (K:=6) (L:=7) hw (h a (by simp)) (h b (by simp)) 6 7 zo zo zo zo zo rfl (λm r s=>⟨λ_=>by simp only [qct,e m r s];rfl,λh=>absurd h zo,λh=>absurd h zo,λh=>absurd h zo⟩) rfl hd
   exact qcc hw this.1 (by decide) this.2
  ·have e:=λm r (s:See ws m (mk3 [37] :: r)) w=>s.is w
   have:=qic (op:=19) (t:=mk3 [37]) (K:=6) (L:=7) hw (h a (by simp)) (h b (by simp)) 6 7 zo zo zo zo zo rfl (λm r s=>⟨λ_=>by simp only [qct,e m r s];rfl,λh=>absurd h zo,λh=>absurd h zo,λh=>absurd h zo⟩) rfl hd
   exact qcc hw this.1 (by decide) this.2
  ·have e:=λm r (s:See ws m (mk3 [61] :: r)) w=>s.is w
   have:=qmR (op:=20) (t:=mk3 [61]) hw (h a (by simp)) (h b (by simp)) rfl (λm r s=>by simp only [qdH,e m r s];rfl) (λm r s=>by simp only [qcv,e m r s];rfl) hd
   exact qcc hw this.1 (by decide) this.2
  ·have e:=λm r (s:See ws m (mk3 [60] :: r)) w=>s.is w
   have:=qmR (op:=21) (t:=mk3 [60]) hw (h a (by simp)) (h b (by simp)) rfl (λm r s=>by simp only [qdH,e m r s];rfl) (λm r s=>by simp only [qcv,e m r s];rfl) hd
   exact qcc hw this.1 (by decide) this.2
  ·have e:=λm r (s:See ws m (mk3 [60,61] :: r)) w=>s.is w
   have:=qmR (op:=22) (t:=mk3 [60,61]) hw (h a (by simp)) (h b (by simp)) rfl (λm r s=>by simp only [qdH,e m r s];rfl) (λm r s=>by simp only [qcv,e m r s];rfl) hd
   exact qcc hw this.1 (by decide) this.2
  ·have e:=λm r (s:See ws m (nm0 [97,110,100] :: r)) w=>s.is w
   have:=qic (op:=23) (t:=nm0 [97,110,100]) (K:=2) (L:=3) hw (h a (by simp)) (h b (by simp)) 2 3 zo zo zo zo zo rfl (λm r s=>⟨λh=>absurd h zo,λh=>absurd h zo,λ_=>by simp only [qhG,qhi,e m r s];rfl,λh=>absurd h zo⟩) rfl hd
   exact qcc hw this.1 (by decide) this.2
  ·have e:=λm r (s:See ws m (nm0 [111,114] :: r)) w=>s.is w
   have:=qic (op:=24) (t:=nm0 [111,114]) (K:=1) (L:=2) hw (h a (by simp)) (h b (by simp)) 1 2 zo zo zo zo zo rfl (λm r s=>⟨λh=>absurd h zo,λh=>absurd h zo,λh=>absurd h zo,λ_=>by simp only [qtZ,qhi,e m r s];rfl⟩) rfl hd
   exact qcc hw this.1 (by decide) this.2
 case cond a b c=>exact qIr hw (h a (by simp)) (h b (by simp)) (h c (by simp)) hd
theorem qq1 (hw:WF ws):∀(d:Nat) (e:Exl),d <= 20->right d e = true->Gd ws (tk d e) e.cv (rkN e.op)
 | 0,_,_,h=>by rw [right] at h;cases h
 | d + 1,.mk op n nm sb aS,I,h=>by
  have E:=qyN (d + 1) _ h
  rw [right,jk,List.all_eq_true] at h
  rw [tk,cv_mk] at *
  refine qBc hw h.1 zo λa ha=>?_
  have hr:=h.2 a ha
  have ho:0 <= a.op/\a.op <= 25:=by
   cases d with
   | zero=>rw [right] at hr;cases hr
   | succ d=>
    obtain ⟨o',n',m',s',Y⟩:=a
    rw [right,jk] at hr
    show 0 <= o'/\o' <= 25
    have h1:=qig hr.1
    exact ⟨h1.1,h1.2.1⟩
  exact ⟨ho.1,ho.2,qq1 hw d a zo hr⟩
end
end Go.Proofs.YtcbfifamliijlaaGreatDoor.AE
