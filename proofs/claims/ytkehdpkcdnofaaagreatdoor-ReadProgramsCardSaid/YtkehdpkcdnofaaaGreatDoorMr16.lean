/- A part of the proof. No condition. -/
import Derived.Test.YtkehdpkcdnofaaaGreatDoorMr15
set_option maxRecDepth 100000
set_option maxHeartbeats 0
open Bool renaming and_eq_true→jk
open Nat renaming le_refl→jm
open List renaming nil_append→jW,cons_append→jw
namespace Go.Proofs.YtkehdpkcdnofaaaGreatDoor.AE
open Go.AE
section
variable {ws:List Tok}
theorem qeP.imp {op:Nat->Option Int} {sub E:Nat->Out->Prop} {pos:Int} (hs:∀n o,sub n o->E n o) {e:Exp} {n:Nat} {o:Out} (h:qeP op sub pos e n o):qeP op E pos e n o:=by
 induction h with
 | stop a=>exact .stop a
 | bad a b=>exact .bad a (hs _ _ b)
 | deep a b c=>exact .deep a (hs _ _ b) c
 | go a b c _ ih=>exact .go a (hs _ _ b) c ih
theorem qdS.imp {sub E:Nat->Out->Prop} {pos:Int} (hs:∀n o,sub n o->E n o) {args:List Exp} {n:Nat} {o:Out} (h:qdS ws sub pos args n o):qdS ws E pos args n o:=by
 induction h with
 | many a=>exact .many a
 | bad a b=>exact .bad a (hs _ _ b)
 | next a b c _ ih=>exact .next a (hs _ _ b) c ih
 | unshut a b c d=>exact .unshut a (hs _ _ b) c d
 | deep a b c d e=>exact .deep a (hs _ _ b) c d e
 | shut a b c d e=>exact .shut a (hs _ _ b) c d e
def Exs (ws:List Tok) (sub:Nat->Out->Prop) (n:Nat):Prop:=∀m,n <= m->m < ws.length->∃o,sub m o
def qDk (ws:List Tok) (sub:Nat->Out->Prop):Prop:=∀m e m',sub m (.ok e m')->m < m'/\m' < ws.length
theorem qeP.ex {op:Nat->Option Int} {sub:Nat->Out->Prop} {pos:Int} (hop:∀n k,n < ws.length->op n = some k->n + 1 < ws.length) (hg:qDk ws sub) (n0:Nat) (hx:Exs ws sub n0):∀(k:Nat) (e:Exp) (n:Nat),n0 <= n->ws.length - n <= k->n < ws.length->∃o,qeP op sub pos e n o:=by
 intro k
 induction k with
 | zero=>intro e n _ h1 h2;omega
 | succ k ih=>
  intro e n h0 h1 h2
  cases hs:op n with
  | none=>exact ⟨_,.stop hs⟩
  | some j=>
   obtain ⟨o,ho⟩:=hx (n + 1) zo (hop n j h2 hs)
   cases o with
   | no p err m=>exact ⟨_,.bad hs ho⟩
   | ok x n1=>
    obtain ⟨g1,g2⟩:=hg _ _ _ ho
    by_cases hd:(Exp.mk j 0 [] [] [e,x]).depth <= 20
    ·obtain ⟨o,h⟩:=ih (.mk j 0 [] [] [e,x]) n1 zo zo g2
     exact ⟨o,.go hs ho hd h⟩
    ·exact ⟨_,.deep hs ho hd⟩
theorem qeo.ex (hw:WF ws) {pos:Int}:∀(k:Nat) (e:Exp) (n:Nat),ws.length - n <= k->n < ws.length->∃o,qeo ws pos e n o:=by
 intro k
 induction k with
 | zero=>intro e n h1 h2;omega
 | succ k ih=>
  intro e n h1 h2
  cases hs:isW ws n [46] with
  | false=>exact ⟨_,.stop hs⟩
  | true=>
   have n1:=qi hw h2 hs
   by_cases hk:(word ws (n + 1)).kind = 1
   ·by_cases h4:4 <= (word ws (n + 1)).n
    ·exact ⟨_,.many hs hk h4⟩
    ·by_cases hd:(Exp.mk 12 (word ws (n + 1)).n [] [] [e]).depth <= 20
     ·have n2:=hw.next n1 zo
      obtain ⟨o,h⟩:=ih (.mk 12 (word ws (n + 1)).n [] [] [e]) (n + 1 + 1) zo n2
      exact ⟨o,.go hs hk zo hd h⟩
     ·exact ⟨_,.deep hs hk zo hd⟩
   ·exact ⟨_,.bad hs hk⟩
theorem qdS.ex (hw:WF ws) {sub:Nat->Out->Prop} {pos:Int} (hg:qDk ws sub) (n0:Nat) (hx:Exs ws sub n0):∀(k:Nat) (args:List Exp) (m:Nat),args.length + k = 4->n0 <= m->m < ws.length->∃o,qdS ws sub pos args m o:=by
 intro k
 induction k with
 | zero=>intro args m h1 _ _;exact ⟨_,.many zo⟩
 | succ k ih=>
  intro args m h1 h0 h2
  obtain ⟨o,ho⟩:=hx m h0 h2
  cases o with
  | no p err j=>exact ⟨_,.bad zo ho⟩
  | ok y m1=>
   obtain ⟨g1,g2⟩:=hg _ _ _ ho
   cases hc:isW ws m1 [44] with
   | true=>
    obtain ⟨o,h⟩:=ih (args ++ [y]) (m1 + 1) (by simp;omega) zo (qi hw g2 hc)
    exact ⟨o,.next zo ho hc h⟩
   | false=>
    cases hs:isW ws m1 [41] with
    | false=>exact ⟨_,.unshut zo ho hc hs⟩
    | true=>
     by_cases hd:(Exp.mk 6 0 [] [] (args ++ [y])).depth <= 20
     ·exact ⟨_,.shut zo ho hc hs hd⟩
     ·exact ⟨_,.deep zo ho hc hs hd⟩
def qfK (ws:List Tok):Out->Prop
 | .ok _ _=>True
 | .no p err _=>(∃k,k < ws.length/\p = (word ws k).pos)/\1 <= err
theorem qeP.ok {op:Nat->Option Int} {sub:Nat->Out->Prop} {pos:Int} (hp:∃k,k < ws.length/\pos = (word ws k).pos) (hs:∀n o,sub n o->qfK ws o) {e:Exp} {n:Nat} {o:Out} (h:qeP op sub pos e n o):qfK ws o:=by
 induction h with
 | stop _=>trivial
 | bad _ b=>exact hs _ _ b
 | deep _ _ _=>exact ⟨hp,by decide⟩
 | go _ _ _ _ ih=>exact ih
theorem qeo.ok (hw:WF ws) {pos:Int} (hp:∃k,k < ws.length/\pos = (word ws k).pos) {e:Exp} {n:Nat} {o:Out} (hn:n < ws.length) (h:qeo ws pos e n o):qfK ws o:=by
 induction h with
 | stop _=>trivial
 | bad a _=>exact ⟨⟨_,qi hw hn a,rfl⟩,by decide⟩
 | many a _ _=>exact ⟨⟨_,qi hw hn a,rfl⟩,by decide⟩
 | deep _ _ _ _=>exact ⟨hp,by decide⟩
 | go a b _ _ _ ih=>exact ih (hw.next (qi hw hn a) zo)
theorem qdS.ok {sub:Nat->Out->Prop} {pos:Int} (hp:∃k,k < ws.length/\pos = (word ws k).pos) (hs:∀n o,sub n o->qfK ws o) {args:List Exp} {n:Nat} {o:Out} (hn:n < ws.length) (hg:∀n e m,sub n (.ok e m)->m < ws.length) (hw:WF ws) (h:qdS ws sub pos args n o):qfK ws o:=by
 induction h with
 | @many args m _=>exact ⟨⟨m,hn,rfl⟩,by cases qa6 ws m <;> decide⟩
 | bad _ b=>exact hs _ _ b
 | next _ b c _ ih=>exact ih (qi hw (hg _ _ _ b) c)
 | unshut _ b _ _=>exact ⟨⟨_,hg _ _ _ b,rfl⟩,by decide⟩
 | deep _ _ _ _ _=>exact ⟨hp,by decide⟩
 | shut _ _ _ _ _=>trivial
theorem qza (hw:WF ws) {n:Nat} (hn:n < ws.length) {p err:Int} {m:Nat} (h1:qaA 152 ws n (.no p err m)):qaA 150 ws n (.no p err m):=by
 obtain ⟨g1,g2⟩:=h1
 refine ⟨g1,λh i hi=>?_⟩
 have E:=qc hi
 rw [PBi] at hi
 rw [qu 150 qAr]
 simp only [sB.1,qAr,seval,g2,hi,E,PBi,qe]
def qAk (ws:List Tok) (n:Nat) (o:Out):Prop:=n < ws.length/\qfK ws o/\qaA 146 ws n o/\qkR ws n o
def qqr (ws:List Tok) (n:Nat) (o:Out):Prop:=n < ws.length/\qfK ws o/\qaA 141 ws n o/\HN ws (qkR ws) (RCl ws) 6 n o
def qAz (ws:List Tok) (n:Nat) (o:Out):Prop:=n < ws.length/\qfK ws o/\qaA 134 ws n o/\HN ws (qkR ws) (RCl ws) 5 n o
def qAy (ws:List Tok) (n:Nat) (o:Out):Prop:=n < ws.length/\qfK ws o/\qaA 129 ws n o/\HN ws (qkR ws) (RCl ws) 3 n o
def qAx (ws:List Tok) (n:Nat) (o:Out):Prop:=n < ws.length/\qfK ws o/\qaA 122 ws n o/\HC ws (qkR ws) (RCl ws) 3 n o
def qC0 (ws:List Tok) (n:Nat) (o:Out):Prop:=n < ws.length/\qfK ws o/\qaA 90 ws n o/\HC ws (qkR ws) (RCl ws) 2 n o
def JOr (ws:List Tok) (n:Nat) (o:Out):Prop:=n < ws.length/\qfK ws o/\qaA 64 ws n o/\HC ws (qkR ws) (RCl ws) 1 n o
def qqq (ws:List Tok) (n:Nat) (o:Out):Prop:=n < ws.length/\qfK ws o/\qaA 43 ws n o/\qbp ws n o
theorem qij {sub:Nat->Out->Prop} {f:FuncId} (h:∀n o,sub n o->qaA f ws n o):qDk ws sub:=λm e m' hs=>⟨(h _ _ hs).1,(h _ _ hs).2.1⟩
variable (hw:WF ws) (hk:KOK ws)
include hw hk
theorem cl7 {n:Nat} {o:Out} (h:qAk ws n o):RCl ws n 7 o:=qku hw hk h.1 zo (λh=>zo) (HN.base h.2.2.2)
theorem cl6 {n:Nat} {o:Out} (h:qqr ws n o):RCl ws n 6 o:=qku hw hk h.1 zo (λh=>zo) h.2.2.2
theorem cl5 {n:Nat} {o:Out} (h:qAz ws n o):RCl ws n 5 o:=qku hw hk h.1 zo (λh=>zo) h.2.2.2
theorem clC {L n:Nat} {o:Out} (hn:n < ws.length) (hL:L <= 3) (h:HC ws (qkR ws) (RCl ws) L n o):RCl ws n L o:=by
 rcases h with ⟨a,b⟩ | ⟨a,b⟩
 ·exact qm5 hw hk hn a hL b
 ·exact qku hw hk hn zo (λ_=>a) b
theorem qBP {n:Nat} {o:Out} (h:qAk ws n o) (hx:Exs ws (qAk ws) (n + 1)):∃o,qqr ws n o:=by
 obtain ⟨hn,E,hp,hr⟩:=h
 cases o with
 | no p err m=>exact ⟨_,hn,(by trivial),qzB hw hn hp,(HN.base hr).no zo⟩
 | ok e n1=>
  obtain ⟨o,ho⟩:=qeP.ex (op:=qgR ws) (pos:=(word ws n).pos) (λm k hm hs=>qfg hw hm (by rw [qiC m k hs];simp)) (qij (f:=146) λ_ _ h=>h.2.2.1) (n + 1) hx ws.length e n1 hp.1 zo hp.2.1
  refine ⟨o,hn,qeP.ok ⟨n,hn,rfl⟩ (λ_ _ h=>h.2.1) ho,qwt hw hn hp (ho.imp λ_ _ h=>h.2.2.1),(HN.base hr).on zo zo zo zo ?_⟩
  exact qeP.more (L:=6) zo zo qiC qtB (λ_ _ h=>cl7 hw hk h) ho
theorem qD4 {n:Nat} {o:Out} (h:qqr ws n o) (hx:Exs ws (qqr ws) (n + 1)):∃o,qAz ws n o:=by
 obtain ⟨hn,E,hp,hr⟩:=h
 cases o with
 | no p err m=>exact ⟨_,hn,(by trivial),qCP hw hn hp,hr.no zo⟩
 | ok e n1=>
  obtain ⟨o,ho⟩:=qeP.ex (op:=qkE ws) (pos:=(word ws n).pos) (λm k hm hs=>qfg hw hm (by rw [qjK m k hs];simp)) (qij (f:=141) λ_ _ h=>h.2.2.1) (n + 1) hx ws.length e n1 hp.1 zo hp.2.1
  refine ⟨o,hn,qeP.ok ⟨n,hn,rfl⟩ (λ_ _ h=>h.2.1) ho,qAd hw hn hp (ho.imp λ_ _ h=>h.2.2.1),hr.on zo zo zo zo ?_⟩
  exact qeP.more (L:=5) zo zo qjK qxd (λ_ _ h=>cl6 hw hk h) ho
theorem qBQ {n:Nat} {o:Out} (h:qAz ws n o) (hx:Exs ws (qAz ws) (n + 1)):∃o,qAy ws n o:=by
 obtain ⟨hn,I,hp,hr⟩:=h
 cases o with
 | no p err m=>exact ⟨_,hn,(by trivial),qwW hw hn hp,hr.no zo⟩
 | ok e n1=>
  cases hs:qfj ws n1 with
  | none=>
   refine ⟨_,hn,(by trivial),qwX hw hn hp hs,hr.on zo zo zo zo (.stop ?_)⟩
   have:=qt3 n1 hs
   have:=no3 (ws:=ws) n1
   omega
  | some k=>
   have E:=qnh n1 k hs
   have n2:=qfg hw hp.2.1 (by rw [E];simp)
   obtain ⟨o2,h2⟩:=hx (n1 + 1) (by have:=hp.1;omega) n2
   have c2:=cl5 hw hk h2
   have a1:(qar ws n1).1 ≠ 0:=by rw [E];simp
   have a2:3 <= (qar ws n1).1:=by rw [E];simp
   have a3:(qar ws n1).1 <= 5 - 1:=by rw [E];simp
   have a4:(qar ws n1).1 + 1 = 5:=by rw [E]
   have a5:(qar ws n1).2 = k:=by rw [E]
   cases o2 with
   | no p err m=>
    refine ⟨_,hn,(by exact h2.2.1),qlT hw hn hp hs h2.2.2.1,hr.on zo zo zo zo (.bad a1 a2 a3 ?_)⟩
    rw [a4];exact c2
   | ok x n2=>
    by_cases hd:(Exp.mk k 0 [] [] [e,x]).depth <= 20
    ·refine ⟨_,hn,(by trivial),qwY hw hn hp hs h2.2.2.1 hd,hr.on zo zo zo zo ?_⟩
     have st:qg7 ws (RCl ws) (word ws n).pos 3 (if (qar ws n1).1 = 4 then 2 else (qar ws n1).1) (.mk k 0 [] [] [e,x]) n2 (.ok (.mk k 0 [] [] [e,x]) n2):=by
      rw [if_pos zo]
      exact .stop zo
     refine .go (x:=x) (n1:=n2) a1 a2 a3 (by rw [a4];exact c2) (by rw [a5];exact hd) ?_
     rw [a5];exact st
    ·refine ⟨_,hn,(by exact ⟨⟨_,by assumption,rfl⟩,by decide⟩),qkD hw hn hp hs h2.2.2.1 hd,hr.on zo zo zo zo (.deep (x:=x) a1 a2 a3 ?_ ?_)⟩
     ·rw [a4];exact c2
     ·rw [a5];exact hd
theorem qD2 {n:Nat} (hn:n < ws.length) (h:isW ws n [110,111,116] = false->∃o,qAy ws n o) (hx:Exs ws (qAx ws) (n + 1)):∃o,qAx ws n o:=by
 cases hs:isW ws n [110,111,116] with
 | false=>
  obtain ⟨o,_,E,hp,hr⟩:=h hs
  exact ⟨o,hn,E,qwg hw hn hs hp,.inr ⟨hs,hr⟩⟩
 | true=>
  obtain ⟨o,h2⟩:=hx (n + 1) (jm _) (qi hw hn hs)
  have c:=clC hw hk h2.1 zo h2.2.2.2
  cases o with
  | no p err m=>exact ⟨_,hn,(by exact h2.2.1),qzr hw hn hs h2.2.2.1,.inl ⟨hs,.bad c⟩⟩
  | ok x n1=>
   by_cases hd:(Exp.mk 14 0 [] [] [x]).depth <= 20
   ·exact ⟨_,hn,(by trivial),qwh hw hn hs h2.2.2.1 hd,.inl ⟨hs,.go c hd (.stop zo)⟩⟩
   ·exact ⟨_,hn,(by exact ⟨⟨_,by assumption,rfl⟩,by decide⟩),qwf hw hn hs h2.2.2.1 hd,.inl ⟨hs,.deep c hd⟩⟩
theorem qD0 {n:Nat} {o:Out} (h:qAx ws n o) (hx:Exs ws (qAx ws) (n + 1)):∃o,qC0 ws n o:=by
 obtain ⟨hn,E,hp,hr⟩:=h
 cases o with
 | no p err m=>exact ⟨_,hn,(by trivial),qAH hw hn hp,hr.no zo⟩
 | ok e n1=>
  obtain ⟨o,ho⟩:=qeP.ex (op:=qjR ws) (pos:=(word ws n).pos) (λm k hm hs=>qfg hw hm (by rw [qja m k hs];simp)) (qij (f:=122) λ_ _ h=>h.2.2.1) (n + 1) hx ws.length e n1 hp.1 zo hp.2.1
  refine ⟨o,hn,qeP.ok ⟨n,hn,rfl⟩ (λ_ _ h=>h.2.1) ho,qx7 hw hn hp (ho.imp λ_ _ h=>h.2.2.1),hr.on zo zo zo ?_⟩
  exact qeP.more (L:=2) zo zo qja quS (λ_ _ h=>clC hw hk h.1 zo h.2.2.2) ho
theorem qF2 {n:Nat} {o:Out} (h:qC0 ws n o) (hx:Exs ws (qC0 ws) (n + 1)):∃o,JOr ws n o:=by
 obtain ⟨hn,E,hp,hr⟩:=h
 cases o with
 | no p err m=>exact ⟨_,hn,(by trivial),qEU hw hn hp,hr.no zo⟩
 | ok e n1=>
  obtain ⟨o,ho⟩:=qeP.ex (op:=qwl ws) (pos:=(word ws n).pos) (λm k hm hs=>qfg hw hm (by rw [qlI m k hs];simp)) (qij (f:=90) λ_ _ h=>h.2.2.1) (n + 1) hx ws.length e n1 hp.1 zo hp.2.1
  refine ⟨o,hn,qeP.ok ⟨n,hn,rfl⟩ (λ_ _ h=>h.2.1) ho,qCv hw hn hp (ho.imp λ_ _ h=>h.2.2.1),hr.on zo zo zo ?_⟩
  exact qeP.more (L:=1) zo zo qlI qzy (λ_ _ h=>clC hw hk h.1 zo h.2.2.2) ho
theorem qBO {n:Nat} (hn:n < ws.length) (h:∃o,JOr ws n o) (hx:Exs ws (qqq ws) (n + 1)):∃o,qqq ws n o:=by
 cases hs:isW ws n [105,102] with
 | false=>
  obtain ⟨o,_,E,hp,hr⟩:=h
  exact ⟨o,hn,E,qrO hw hn hs hp,qm6 hw hk hn hs (clC hw hk hn zo hr)⟩
 | true=>
  obtain ⟨o1,_,Y,p1,r1⟩:=hx (n + 1) (jm _) (qi hw hn hs)
  cases o1 with
  | no p err m=>exact ⟨_,hn,(by trivial),if1 hw hn hs p1,qE6 hw hk hn hs r1⟩
  | ok a n1=>
   cases ht:isW ws n1 [116,104,101,110] with
   | false=>exact ⟨_,hn,(by exact ⟨⟨_,p1.2.1,rfl⟩,by decide⟩),if2 hw hn hs p1 ht,qE7 hw hk hn hs r1 ht⟩
   | true=>
    obtain ⟨o2,_,U,p2,r2⟩:=hx (n1 + 1) (by have:=p1.1;omega) (qi hw p1.2.1 ht)
    cases o2 with
    | no p err m=>exact ⟨_,hn,(by trivial),if3 hw hn hs p1 ht p2,qE8 hw hk hn hs r1 ht r2⟩
    | ok b n2=>
     cases he:isW ws n2 [101,108,115,101] with
     | false=>exact ⟨_,hn,(by exact ⟨⟨_,p2.2.1,rfl⟩,by decide⟩),if4 hw hn hs p1 ht p2 he,qE9 hw hk hn hs r1 ht r2 he⟩
     | true=>
      obtain ⟨o3,_,I,p3,r3⟩:=hx (n2 + 1) (by have:=p1.1;have:=p2.1;omega) (qi hw p2.2.1 he)
      cases o3 with
      | no p err m=>exact ⟨_,hn,(by trivial),if5 hw hn hs p1 ht p2 he p3,qFa hw hk hn hs r1 ht r2 he r3⟩
      | ok c n3=>
       by_cases hd:(Exp.mk 25 0 [] [] [a,b,c]).depth <= 20
       ·exact ⟨_,hn,(by trivial),if7 hw hn hs p1 ht p2 he p3 hd,qFc hw hk hn hs r1 ht r2 he r3 hd⟩
       ·exact ⟨_,hn,(by exact ⟨⟨_,by assumption,rfl⟩,by decide⟩),if6 hw hn hs p1 ht p2 he p3 hd,qFb hw hk hn hs r1 ht r2 he r3 hd⟩
def qFu (ws:List Tok) (n:Nat):Prop:=
 (∃o,qfK ws o/\qaA 152 ws n o/\qeJ ws n o)\/
 ∃e n1,qaA 152 ws n (.ok e n1)/\isW ws n1 [46] = true/\(word ws (n1 + 1)).kind ≠ 1/\qeJ ws n (.no (word ws (n1 + 1)).pos 6 (n1 + 1))
theorem qo8 {n:Nat} (hn:n < ws.length) (hs:isW ws n [40] = true) (hx:Exs ws (qqq ws) (n + 1)):∃o,qfK ws o/\qaA 158 ws n o/\RBr ws n o:=by
 obtain ⟨o,_,E,p1,r1⟩:=hx (n + 1) (jm _) (qi hw hn hs)
 cases o with
 | no p err m=>exact ⟨_,(by trivial),br1 hw hn hs p1,qEZ hw hk hn hs r1⟩
 | ok x n1=>
  cases h2:isW ws n1 [41] with
  | true=>exact ⟨_,(by trivial),br2 hw hn hs p1 h2,qE0 hw hk hn hs r1 h2⟩
  | false=>
   cases h3:isW ws n1 [44] with
   | false=>exact ⟨_,(by exact ⟨⟨_,p1.2.1,rfl⟩,by decide⟩),br3 hw hn hs p1 h2 h3,qE1 hw hk hn hs r1 h2 h3⟩
   | true=>
    have n2:=qi hw p1.2.1 h3
    cases h4:isW ws (n1 + 1) [41] with
    | true=>
     by_cases hd:(Exp.mk 6 0 [] [] [x]).depth <= 20
     ·exact ⟨_,(by trivial),br4 hw hn hs p1 h2 h3 h4 hd,qE2 hw hk hn hs r1 h2 h3 h4 hd⟩
     ·exact ⟨_,(by exact ⟨⟨_,by assumption,rfl⟩,by decide⟩),br5 hw hn hs p1 h2 h3 h4 hd,qE3 hw hk hn hs r1 h2 h3 h4 hd⟩
    | false=>
     obtain ⟨o,ho⟩:=qdS.ex hw (pos:=(word ws n).pos) (qij (f:=43) λ_ _ h=>h.2.2.1) (n + 1) hx 3 [x] (n1 + 1) rfl (by have:=p1.1;omega) n2
     exact ⟨o,qdS.ok ⟨n,hn,rfl⟩ (λ_ _ h=>h.2.1) n2 (λ_ _ _ h=>h.2.2.1.2.1) hw ho,br6 hw hn hs p1 h2 h3 h4 (ho.imp λ_ _ h=>h.2.2.1),qE4 hw hk hn hs r1 h2 h3 h4 (ho.imp λ_ _ h=>h.2.2.2)⟩
theorem qD3 {n:Nat} (hn:n < ws.length) (hx:Exs ws (qqq ws) (n + 1)):qFu ws n:=by
 by_cases k1:(word ws n).kind = 1
 ·exact .inl ⟨_,(by trivial),qzs hw hn k1,qtO hw hk hn k1⟩
 by_cases k2:(word ws n).kind = 2
 ·exact .inl ⟨_,(by trivial),qzu hw hn k2,qtQ hw hk hn k2⟩
 cases hs:qM ws n with
 | true=>
  have n1:=qF hw hn hs
  cases hp:isW ws (n + 1) [46] with
  | false=>
   have h:isW ws (n + 1) [46] = true->qM ws (n + 1 + 1) = false:=λh=>by rw [hp] at h;cases h
   exact .inl ⟨_,(by trivial),qko hw hn hs (qiP hw hn hs h),qtR hw hk hn hs hp⟩
  | true=>
   have n2:=qi hw n1 hp
   by_cases k3:(word ws (n + 1 + 1)).kind = 1
   ·have hq:qM ws (n + 1 + 1) = false:=by simp [qM,k3]
    exact .inl ⟨_,(by trivial),qko hw hn hs (qiP hw hn hs λ_=>hq),qpS hw hk hn hs hp k3⟩
   ·cases hq:qM ws (n + 1 + 1) with
    | true=>exact .inl ⟨_,(by trivial),qko hw hn hs (qCW hw hn hs hp hq),qwM hw hk hn hs hp k3 hq⟩
    | false=>exact .inr ⟨_,_,qko hw hn hs (qiP hw hn hs λ_=>hq),hp,k3,qtP hw hk hn hs hp k3 hq⟩
 | false=>
  cases hb:isW ws n [40] with
  | true=>
   obtain ⟨o,E,p1,r1⟩:=qo8 hw hk hn hb hx
   exact .inl ⟨o,E,qlE hw hn k1 k2 hs hb p1,qwL hw hk hn hb r1⟩
  | false=>
   refine .inl ?_
   cases q0:isW ws n [116,114,117,101] with
   | true=>exact ⟨_,(by trivial),qaH hw hn k1 k2 hs hb (qok hw hn q0),qpU hw hk hn q0⟩
   | false=>
   cases q1:isW ws n [102,97,108,115,101] with
   | true=>exact ⟨_,(by trivial),qaH hw hn k1 k2 hs hb (qmb hw hn q1),qm7 hw hk hn q1⟩
   | false=>
   cases q2:isW ws n [101,108,97,112,115,101,100] with
   | true=>exact ⟨_,(by trivial),qaH hw hn k1 k2 hs hb (qjU hw hn q2),qkw hw hk hn q2⟩
   | false=>
   cases q3:isW ws n [99,111,117,110,116] with
   | true=>
    cases g1:isW ws (n + 1) [40] with
    | false=>exact ⟨_,(by exact ⟨⟨_,qi hw hn (by assumption),rfl⟩,by decide⟩),qaH hw hn k1 k2 hs hb (qkV hw hn q3 g1),qwz hw hk hn q3 g1⟩
    | true=>
    cases g2:qM ws (n + 1 + 1) with
    | false=>exact ⟨_,(by exact ⟨⟨_,qi hw (qi hw hn (by assumption)) (by assumption),rfl⟩,by decide⟩),qaH hw hn k1 k2 hs hb (qkW hw hn q3 g1 g2),qwA hw hk hn q3 g1 g2⟩
    | true=>
    cases g3:isW ws (n + 1 + 1 + 1) [41] with
    | false=>exact ⟨_,(by exact ⟨⟨_,qF hw (qi hw (qi hw hn (by assumption)) (by assumption)) (by assumption),rfl⟩,by decide⟩),qaH hw hn k1 k2 hs hb (qkX hw hn q3 g1 g2 g3),qwB hw hk hn q3 g1 g2 g3⟩
    | true=>exact ⟨_,(by trivial),qaH hw hn k1 k2 hs hb (qma hw hn q3 g1 g2 g3),qzH hw hk hn q3 g1 g2 g3⟩
   | false=>
   cases q4:isW ws n [104,97,115] with
   | true=>
    cases g1:isW ws (n + 1) [40] with
    | false=>exact ⟨_,(by exact ⟨⟨_,qi hw hn (by assumption),rfl⟩,by decide⟩),qaH hw hn k1 k2 hs hb (qod hw hn q4 g1),qCA hw hk hn q4 g1⟩
    | true=>
    cases g2:qM ws (n + 1 + 1) with
    | false=>exact ⟨_,(by exact ⟨⟨_,qi hw (qi hw hn (by assumption)) (by assumption),rfl⟩,by decide⟩),qaH hw hn k1 k2 hs hb (qoe hw hn q4 g1 g2),qCB hw hk hn q4 g1 g2⟩
    | true=>
    cases g3:isW ws (n + 1 + 1 + 1) [41] with
    | false=>exact ⟨_,(by exact ⟨⟨_,qF hw (qi hw (qi hw hn (by assumption)) (by assumption)) (by assumption),rfl⟩,by decide⟩),qaH hw hn k1 k2 hs hb (qof hw hn q4 g1 g2 g3),qCC hw hk hn q4 g1 g2 g3⟩
    | true=>exact ⟨_,(by trivial),qaH hw hn k1 k2 hs hb (qqO hw hn q4 g1 g2 g3),qE5 hw hk hn q4 g1 g2 g3⟩
   | false=>
   cases q5:isW ws n [115,117,109] with
   | true=>
    cases g1:isW ws (n + 1) [40] with
    | false=>exact ⟨_,(by exact ⟨⟨_,qi hw hn (by assumption),rfl⟩,by decide⟩),qaH hw hn k1 k2 hs hb (qoh hw hn q5 g1),qCD hw hk hn q5 g1⟩
    | true=>
    cases g2:qM ws (n + 1 + 1) with
    | false=>exact ⟨_,(by exact ⟨⟨_,qi hw (qi hw hn (by assumption)) (by assumption),rfl⟩,by decide⟩),qaH hw hn k1 k2 hs hb (qoi hw hn q5 g1 g2),qCE hw hk hn q5 g1 g2⟩
    | true=>
    cases g3:isW ws (n + 1 + 1 + 1) [41] with
    | false=>exact ⟨_,(by exact ⟨⟨_,qF hw (qi hw (qi hw hn (by assumption)) (by assumption)) (by assumption),rfl⟩,by decide⟩),qaH hw hn k1 k2 hs hb (qoj hw hn q5 g1 g2 g3),qCF hw hk hn q5 g1 g2 g3⟩
    | true=>exact ⟨_,(by trivial),qaH hw hn k1 k2 hs hb (qqP hw hn q5 g1 g2 g3),qFe hw hk hn q5 g1 g2 g3⟩
   | false=>
   cases q6:isW ws n [108,101,97,115,116] with
   | false=>exact ⟨_,(by exact ⟨⟨_,by assumption,rfl⟩,by decide⟩),qaH hw hn k1 k2 hs hb (qog hw hn q0 q1 q2 q3 q4 q5 q6),qpT hw hk hn k1 k2 hs hb q0 q1 q2 q3 q4 q5 q6⟩
   | true=>
    cases g1:isW ws (n + 1) [40] with
    | false=>exact ⟨_,(by exact ⟨⟨_,qi hw hn (by assumption),rfl⟩,by decide⟩),qaH hw hn k1 k2 hs hb (qBY hw hn q6 g1),qwC hw hk hn q6 g1⟩
    | true=>
    have n1:=qi hw hn q6
    have n2:=qi hw n1 g1
    cases g2:qM ws (n + 1 + 1) with
    | false=>exact ⟨_,(by exact ⟨⟨_,by assumption,rfl⟩,by decide⟩),qaH hw hn k1 k2 hs hb (qBZ hw hn q6 g1 g2),qwD hw hk hn q6 g1 g2⟩
    | true=>
    have n3:=qF hw n2 g2
    cases g3:isW ws (n + 1 + 1 + 1) [44] with
    | false=>exact ⟨_,(by exact ⟨⟨_,by assumption,rfl⟩,by decide⟩),qaH hw hn k1 k2 hs hb (qB0 hw hn q6 g1 g2 g3),qwE hw hk hn q6 g1 g2 g3⟩
    | true=>
    obtain ⟨o,_,I,p4,r4⟩:=hx (n + 1 + 1 + 1 + 1) zo (qi hw n3 g3)
    cases o with
    | no p err m=>exact ⟨_,(by trivial),qaH hw hn k1 k2 hs hb (qB1 hw hn q6 g1 g2 g3 p4),qwF hw hk hn q6 g1 g2 g3 r4⟩
    | ok x m=>
     cases g5:isW ws m [41] with
     | false=>exact ⟨_,(by exact ⟨⟨_,p4.2.1,rfl⟩,by decide⟩),qaH hw hn k1 k2 hs hb (qB2 hw hn q6 g1 g2 g3 p4 g5),qwG hw hk hn q6 g1 g2 g3 r4 g5⟩
     | true=>
      by_cases hd:(Exp.mk 10 0 (word ws (n + 1 + 1)).s [] [x]).depth <= 20
      ·exact ⟨_,(by trivial),qaH hw hn k1 k2 hs hb (qB4 hw hn q6 g1 g2 g3 p4 g5 hd),qwI hw hk hn q6 g1 g2 g3 r4 g5 hd⟩
      ·exact ⟨_,(by exact ⟨⟨_,by assumption,rfl⟩,by decide⟩),qaH hw hn k1 k2 hs hb (qB3 hw hn q6 g1 g2 g3 p4 g5 hd),qwH hw hk hn q6 g1 g2 g3 r4 g5 hd⟩
theorem qD1 {n:Nat} (hn:n < ws.length) (h1:qFu ws n) (hx:Exs ws (qAk ws) (n + 1)):∃o,qAk ws n o:=by
 cases hs:isW ws n [45] with
 | true=>
  obtain ⟨o,_,E,p1,r1⟩:=hx (n + 1) (jm _) (qi hw hn hs)
  cases o with
  | no p err m=>exact ⟨_,hn,(by trivial),qzm hw hn hs p1,qtN hw hk hn hs r1⟩
  | ok x n1=>
   by_cases hd:(Exp.mk 13 0 [] [] [x]).depth <= 20
   ·exact ⟨_,hn,(by trivial),qwd hw hn hs p1 hd,qpR hw hk hn hs r1 hd⟩
   ·exact ⟨_,hn,(by exact ⟨⟨_,by assumption,rfl⟩,by decide⟩),qwb hw hn hs p1 hd,qpP hw hk hn hs r1 hd⟩
 | false=>
  rcases h1 with ⟨o,E,p1,r1⟩ | ⟨e,n1,p1,hp,k3,r1⟩
  ·cases o with
   | no p err m=>exact ⟨_,hn,(by trivial),qki hw hn hs (qza hw hn p1),qn2 hw hk hn hs r1⟩
   | ok e n1=>
    obtain ⟨o,ho⟩:=qeo.ex hw (pos:=(word ws n).pos) ws.length e n1 zo p1.2.1
    exact ⟨o,hn,qeo.ok hw ⟨n,hn,rfl⟩ p1.2.1 ho,qki hw hn hs (qnO hw hn p1 ho ho.mono),qpQ hw hk hn hs r1 ho⟩
  ·have ho:qeo ws (word ws n).pos e n1 _:=.bad hp k3
   have n2:=qi hw p1.2.1 hp
   exact ⟨_,hn,(by exact ⟨⟨_,by assumption,rfl⟩,by decide⟩),qki hw hn hs (qnO hw hn p1 ho ho.mono),qn2 hw hk hn hs r1⟩
structure All (ws:List Tok) (n:Nat):Prop where
 neg:∃o,qAk ws n o
 prod:∃o,qqr ws n o
 sum:∃o,qAz ws n o
 not:∃o,qAx ws n o
 and:∃o,qC0 ws n o
 expr:∃o,qqq ws n o
theorem qqL:∀(k n:Nat),ws.length - n <= k->n < ws.length->All ws n:=by
 intro k
 induction k with
 | zero=>intro n h1 h2;omega
 | succ k ih=>
  intro n h1 hn
  have hx:∀m,n + 1 <= m->m < ws.length->All ws m:=λm h2 h3=>ih m zo h3
  have Y:=qD1 hw hk hn (qD3 hw hk hn λm h2 h3=>(hx m h2 h3).expr) λm h2 h3=>(hx m h2 h3).neg
  have E:=Y.elim λ_ h=>qBP hw hk h λm h2 h3=>(hx m h2 h3).neg
  have I:=E.elim λ_ h=>qD4 hw hk h λm h2 h3=>(hx m h2 h3).prod
  have a6:=I.elim λ_ h=>qBQ hw hk h λm h2 h3=>(hx m h2 h3).sum
  have U:=qD2 hw hk hn (λ_=>a6) λm h2 h3=>(hx m h2 h3).not
  have a1:=U.elim λ_ h=>qD0 hw hk h λm h2 h3=>(hx m h2 h3).not
  have a7:=a1.elim λ_ h=>qF2 hw hk h λm h2 h3=>(hx m h2 h3).and
  exact ⟨Y,E,I,U,a1,qBO hw hk hn a7 λm h2 h3=>(hx m h2 h3).expr⟩
theorem qyX {n:Nat} (hn:n < ws.length):∃o,qfK ws o/\qaA 43 ws n o/\qbp ws n o:=by
 obtain ⟨o,_,h0,h1,h2⟩:=(qqL hw hk ws.length n zo hn).expr
 exact ⟨o,h0,h1,h2⟩
end
section
variable {ws:List Tok}
theorem qlA {n:Nat} (h:qM ws n = true):qfZ (word ws n).s = true:=by
 simp only [qM,jk] at h
 exact h.2
def Flt (ws:List Tok) (p e:Int):Prop:=(∃k,k < ws.length/\p = (word ws k).pos)/\1 <= e
theorem qnF {n:Nat} (hn:n < ws.length):Flt ws (word ws n).pos 6:=⟨⟨n,hn,rfl⟩,by decide⟩
abbrev PY (ws:List Tok) (F:FuncId) (n:Nat) (v:qd) (m:Nat):Prop:=∀(h:List qk) (i:Nat),h[i]? = some (PB ws n)->Wd (.fn F [] []) [.ptr i 0] h = some (.ret v,h.set i (PB ws m),false)
abbrev PN (ws:List Tok) (F:FuncId) (n:Nat) (p e:Int) (m:Nat):Prop:=∀(h:List qk) (i:Nat),h[i]? = some (PB ws n)->Wd (.fn F [] []) [.ptr i 0] h = some (.pan (qbK p e),h.set i (PB ws m),false)
abbrev RY (ws:List Tok) (R:FuncId) (n:Nat) (A:List qd) (v:qd) (m p e:Int):Prop:=∀h:List qk,Wd (.fn R [] []) (.lst (ws.map Tok.enc) .no :: .int .i64 (n:Nat) :: A) h = some (.ret (.tup [v,.int .i64 m,.agg [.int .i64 p,.int .i64 e]]),h,false)
def Bo {D:Type} (ws:List Tok) (F R:FuncId) (A:List qd) (eP eR:D->qd) (Q:D->Prop) (n:Nat):Prop:=
 (∃(d:D) (m:Nat),n < m/\m < ws.length/\Q d/\PY ws F n (eP d) m/\RY ws R n A (eR d) (m:Nat) 0 0)\/
 ∃(p e:Int) (m:Nat) (j:Int) (d:D),m < ws.length/\Flt ws p e/\(e == 0) = false/\PN ws F n p e m/\RY ws R n A (eR d) j p e
theorem qfa (hw:WF ws) {n:Nat} (hn:n < ws.length):Bo ws 28 16 [] qd.str qd.str (λs=>qfZ s = true) n:=by
 cases a:qM ws n with
 | true=>exact .inl ⟨_,n + 1,zo,qF hw hn a,qlA a,λh i hi=>qcq hw hn hi a,λh=>qbh hn hw a h⟩
 | false=>exact .inr ⟨_,6,n,(n:Nat),[],hn,qnF hn,rfl,λh i hi=>by rw [qcO hi];exact qmX hw hn hi a,λh=>qfe hn a h⟩
theorem qbW (hw:WF ws) (hk:KOK ws) (s:Str) (ha:qC s = true) {n:Nat} (hn:n < ws.length) :
  (n + 1 < ws.length/\(∀(h:List qk) (i:Nat),h[i]? = some (PB ws n)->Wd (.fn 27 [] []) [.ptr i 0,.str s] h = some (.ret (.tup []),h.set i (PB ws (n + 1)),false))/\∀h:List qk,Wd (.fn 15 [] []) [.lst (ws.map Tok.enc) .no,.int .i64 (n:Nat),.lst [.str s] .full] h = some (.ret (.tup [.int .i64 (n + 1:Nat),.agg [.int .i64 0,.int .i64 0]]),h,false))\/
  ∃p e:Int,n < ws.length/\Flt ws p e/\(e == 0) = false/\(∀(h:List qk) (i:Nat),h[i]? = some (PB ws n)->Wd (.fn 27 [] []) [.ptr i 0,.str s] h = some (.pan (qbK p e),h.set i (PB ws n),false))/\∀h:List qk,Wd (.fn 15 [] []) [.lst (ws.map Tok.enc) .no,.int .i64 (n:Nat),.lst [.str s] .full] h = some (.ret (.tup [.int .i64 (n:Nat),.agg [.int .i64 p,.int .i64 e]]),h,false):=by
 cases a:isW ws n s with
 | true=>exact .inl ⟨qi hw hn a,λh i hi=>qH hw hn hi a,λh=>qaB hw hk hn ha a h⟩
 | false=>exact .inr ⟨_,6,hn,qnF hn,rfl,λh i hi=>by rw [qcO hi];exact qb3 hw hn hi a,λh=>qdN hw hk hn ha a h⟩
theorem qkF (hw:WF ws) (hk:KOK ws) (s:Str) (ha:qC s = true) {n:Nat} (hn:n < ws.length) :
  (isW ws n s = true/\n + 1 < ws.length/\IntKind.i64.wrap ((n:Int) + 1) = ((n + 1:Nat):Int)/\(∀(h:List qk) (i:Nat),h[i]? = some (PB ws n)->Wd (.fn 52 [] []) [.ptr i 0,.str s] h = some (.ret (.bool true),h.set i (PB ws (n + 1)),false))/\∀h:List qk,Wd (.fn 12 [] []) [.lst (ws.map Tok.enc) .no,.int .i64 (n:Nat),.str s] h = some (.ret (.bool true),h,false))\/
  isW ws n s = false/\(∀(h:List qk) (i:Nat),h[i]? = some (PB ws n)->Wd (.fn 52 [] []) [.ptr i 0,.str s] h = some (.ret (.bool false),h.set i (PB ws n),false))/\∀h:List qk,Wd (.fn 12 [] []) [.lst (ws.map Tok.enc) .no,.int .i64 (n:Nat),.str s] h = some (.ret (.bool false),h,false):=by
 cases a:isW ws n s with
 | true=>exact .inl ⟨rfl,qi hw hn a,qo (by have:=hw.len;omega),λh i hi=>qt hw hn hi a,λh=>by rw [qaO hn hk ha,a]⟩
 | false=>exact .inr ⟨rfl,λh i hi=>by rw [qcO hi];exact qy hw hn hi a,λh=>by rw [qaO hn hk ha,a]⟩
theorem qlb (hw:WF ws) (hk:KOK ws) {n:Nat} (hn:n < ws.length) :
  (∃(x:Exp) (m:Nat),n < m/\m < ws.length/\(x.small/\x.depth <= 20)/\PY ws 43 n (Nd.enc ⟨x,(word ws n).pos⟩) m/\RY ws 57 n [] (x.enc φR) (m:Nat) 0 0)\/
  ∃(p e:Int) (m:Nat) (j:Int) (x:Exp),m < ws.length/\Flt ws p e/\(e == 0) = false/\PN ws 43 n p e m/\RY ws 57 n [] (x.enc φR) j p e:=by
 obtain ⟨o,h0,h1,h2⟩:=qyX hw hk hn
 cases o with
 | ok x m=>exact .inl ⟨x,m,h1.1,h1.2.1,⟨h2.1,h2.2.1⟩,h1.2.2.2,h2.2.2.2⟩
 | no p e m=>
  obtain ⟨he,x,j,hr⟩:=h2
  exact .inr ⟨p,e,m,j,x,h1.1,h0,he,h1.2,hr⟩
end
structure qcc where
 name:Str
 model:Str
def qcc.enc (x:qcc):qd:=.agg [.str x.name,.str x.model]
def qqf (s:Str):Prop:=s.length <= 9223372036854775807
def qcc.good (x:qcc):Prop:=qqf x.name/\qqf x.model
structure qn8 where
 part:Str
 port:Str
def qn8.enc (x:qn8):qd:=.agg [.str x.part,.str x.port]
def qn8.good (x:qn8):Prop:=qqf x.part/\qqf x.port
structure qb8 where
 frm:qn8
 to:qn8
def qb8.enc (x:qb8):qd:=.agg [.str x.frm.part,.str x.frm.port,.str x.to.part,.str x.to.port]
def qb8.good (x:qb8):Prop:=qqf x.frm.part/\qqf x.frm.port/\qqf x.to.part/\qqf x.to.port
theorem quv {s:Str} (h:qge s = true):s.length <= 16:=by
 simp only [qge,jk,decide_eq_true_eq] at h
 exact h.1.2
theorem qxb {s:Str} (h:qfZ s = true):qqf s:=by
 simp only [qfZ,jk] at h
 have:=quv h.1
 simp only [qqf]
 omega
theorem qav (s:Str):qcV 1 [.str []] 1 [(0,.str s)] = some (.lst [.str s] .full):=rfl
section
variable {ws:List Tok}
theorem qxT (hw:WF ws) (hk:KOK ws) {n:Nat} (hn:n < ws.length):Bo ws 74 55 [] qcc.enc qcc.enc qcc.good n:=by
 have P:=λ(h:List qk) (i:Nat)=>qu 74 c74 (first:=[]) (cap:=[]) (args:=[.ptr i 0]) (h:=h)
 have R:=λh:List qk=>qu 55 c55 (first:=[]) (cap:=[]) (args:=[.lst (ws.map Tok.enc) .no,.int .i64 (n:Nat)]) (h:=h)
 obtain ⟨s0,n0,l0,h0,q0,k0,r0⟩ | ⟨p,e,m,j,d,hm,hp,he,k0,r0⟩:=qfa hw hn
 obtain ⟨h1,k1,r1⟩ | ⟨p,e,hm,hp,he,k1,r1⟩:=qbW hw hk [61] zk h0
 obtain ⟨s2,n2,l2,h2,q2,k2,r2⟩ | ⟨p,e,m,j,d,hm,hp,he,k2,r2⟩:=qfa hw h1
 obtain ⟨h3,k3,r3⟩ | ⟨p,e,hm,hp,he,k3,r3⟩:=qbW hw hk [59] zk h2
 all_goals
  simp only [sB.1,c55,seval,qr,qav, *] at R
  first
  | exact .inl ⟨⟨_,_⟩,_,zo,by assumption,⟨qxb q0,qxb q2⟩,λh i hi=>(P h i).trans (by
    have E:=qc hi
    simp only [sB.1,c74,seval,qcc.enc, *]),R⟩
  | exact .inr ⟨_,_,_,_,⟨_,_⟩,hm,hp,he,λh i hi=>(P h i).trans (by
    have E:=qc hi
    simp only [sB.1,c74,seval,qe, *]),R⟩
theorem qBA (hw:WF ws) (hk:KOK ws) {n:Nat} (hn:n < ws.length):Bo ws 104 86 [] qn8.enc qn8.enc qn8.good n:=by
 have P:=λ(h:List qk) (i:Nat)=>qu 104 qBq (first:=[]) (cap:=[]) (args:=[.ptr i 0]) (h:=h)
 have R:=λh:List qk=>qu 86 c86 (first:=[]) (cap:=[]) (args:=[.lst (ws.map Tok.enc) .no,.int .i64 (n:Nat)]) (h:=h)
 obtain ⟨s0,n0,l0,h0,q0,k0,r0⟩ | ⟨p,e,m,j,d,hm,hp,he,k0,r0⟩:=qfa hw hn
 obtain ⟨a1,h1,w1,k1,r1⟩ | ⟨a1,k1,r1⟩:=qkF hw hk [46] zk h0
 obtain ⟨s2,n2,l2,h2,q2,k2,r2⟩ | ⟨p,e,m,j,d,hm,hp,he,k2,r2⟩:=qfa hw h1
 all_goals
  simp only [sB.1,c86,seval,qr, *] at R
  first
  | exact .inl ⟨⟨_,_⟩,_,zo,by assumption,(by first | exact ⟨qxb q0,qxb q2⟩ | exact ⟨Nat.zero_le _,qxb q0⟩),λh i hi=>(P h i).trans (by
    have E:=qc hi
    simp only [sB.1,qBq,seval,qr,qn8.enc, *]),R⟩
  | exact .inr ⟨_,_,_,_,⟨_,_⟩,hm,hp,he,λh i hi=>(P h i).trans (by
    have E:=qc hi
    simp only [sB.1,qBq,seval,qe, *]),R⟩
theorem qsQ (hw:WF ws) (hk:KOK ws) {n:Nat} (hn:n < ws.length):Bo ws 76 56 [] qb8.enc qb8.enc qb8.good n:=by
 have P:=λ(h:List qk) (i:Nat)=>qu 76 c76 (first:=[]) (cap:=[]) (args:=[.ptr i 0]) (h:=h)
 have R:=λh:List qk=>qu 56 c56 (first:=[]) (cap:=[]) (args:=[.lst (ws.map Tok.enc) .no,.int .i64 (n:Nat)]) (h:=h)
 obtain ⟨x0,n0,l0,h0,q0,k0,r0⟩ | ⟨p,e,m,j,d,hm,hp,he,k0,r0⟩:=qBA hw hk hn
 obtain ⟨h1,k1,r1⟩ | ⟨p,e,hm,hp,he,k1,r1⟩:=qbW hw hk [45,62] zk h0
 obtain ⟨x2,n2,l2,h2,q2,k2,r2⟩ | ⟨p,e,m,j,d,hm,hp,he,k2,r2⟩:=qBA hw hk h1
 obtain ⟨h3,k3,r3⟩ | ⟨p,e,hm,hp,he,k3,r3⟩:=qbW hw hk [59] zk h2
 all_goals
  simp only [sB.1,c56,seval,qr,qav,qn8.enc, *] at R
  first
  | exact .inl ⟨⟨⟨_,_⟩,⟨_,_⟩⟩,_,zo,by assumption,⟨q0.1,q0.2,q2.1,q2.2⟩,λh i hi=>(P h i).trans (by
    have E:=qc hi
    simp only [sB.1,c76,seval,qn8.enc,qb8.enc, *]),R⟩
  | exact .inr ⟨_,_,_,_,⟨⟨_,_⟩,⟨_,_⟩⟩,hm,hp,he,λh i hi=>(P h i).trans (by
    have E:=qc hi
    simp only [sB.1,c76,seval,qe,qn8.enc, *]),R⟩
end
structure qbq where
 name:Str
 e:Exp
def qbq.enc (φ:Int->Nat->Bool) (x:qbq):qd:=.agg (.str x.name :: x.e.cs φ)
def qlg (e:Exp):Prop:=e.small/\e.depth <= 20
section
variable {ws:List Tok}
theorem qCN (hw:WF ws) (hk:KOK ws) {n:Nat} (hn:n < ws.length):Bo ws 80 59 [] (qbq.enc φP) (qbq.enc φR) (λx=>qlg x.e) n:=by
 have P:=λ(h:List qk) (i:Nat)=>qu 80 c80 (first:=[]) (cap:=[]) (args:=[.ptr i 0]) (h:=h)
 have R:=λh:List qk=>qu 59 c59 (first:=[]) (cap:=[]) (args:=[.lst (ws.map Tok.enc) .no,.int .i64 (n:Nat)]) (h:=h)
 obtain ⟨s0,n0,l0,h0,q0,k0,r0⟩ | ⟨p,e,m,j,d,hm,hp,he,k0,r0⟩:=qfa hw hn
 obtain ⟨h1,k1,r1⟩ | ⟨p,e,hm,hp,he,k1,r1⟩:=qbW hw hk [61] zk h0
 obtain ⟨⟨o2,c2,u2,v2,y2⟩,n2,l2,h2,q2,k2,r2⟩ | ⟨p,e,m,j,⟨o2,c2,u2,v2,y2⟩,hm,hp,he,k2,r2⟩:=qlb hw hk h1
 obtain ⟨h3,k3,r3⟩ | ⟨p,e,hm,hp,he,k3,r3⟩:=qbW hw hk [59] zk h2
 all_goals
  simp only [sB.1,c59,seval,qr,qav,Exp.enc,Exp.cs,qx,qp, *] at R
  first
  | exact .inl ⟨⟨_,.mk _ _ _ _ _⟩,_,zo,by assumption,q2,λh i hi=>(P h i).trans (by
    have E:=qc hi
    simp only [sB.1,c80,seval,Nd.enc,Nd.cs,Exp.cs,qx,qp,qbq.enc, *]),R⟩
  | exact .inr ⟨_,_,_,_,⟨_,noE⟩,hm,hp,he,λh i hi=>(P h i).trans (by
    have E:=qc hi
    simp only [sB.1,c80,seval,qe, *]),R⟩
  | exact .inr ⟨_,_,_,_,⟨_,.mk _ _ _ _ _⟩,hm,hp,he,λh i hi=>(P h i).trans (by
    have E:=qc hi
    simp only [sB.1,c80,seval,qe,Nd.enc,Nd.cs,Exp.cs,qx,qp, *]),R⟩
structure qbB where
 port:Str
 e:Exp
 cond:List Exp
def qbB.enc (φ:Int->Nat->Bool) (x:qbB):qd:=.agg (.str x.port :: (x.e.cs φ ++ [.lst (x.cond.map (Exp.enc φ)) .full]))
theorem qb7 {z:List qd} (φ:Int->Nat->Bool) (op k:Int) (nm sb:Str) (args:List Exp) (b:Bool) (hz:z.length = 5):qcV 5 z 1 [(0,.agg [.int .i64 op,.int .i64 k,.str nm,.str sb,.lst (qaE φ args) (fl b)])] = some (.lst [.agg [.int .i64 op,.int .i64 k,.str nm,.str sb,.lst (qaE φ args) (fl b)]] .full):=qbb hz zo rfl (by simp [qd.storable]) zo
def qbB.good (x:qbB):Prop:=qlg x.e/\x.cond.length <= 1/\∀e ∈ x.cond,qlg e
theorem qBz (hw:WF ws) (hk:KOK ws) {n:Nat} (hn:n < ws.length):Bo ws 82 60 [] (qbB.enc φP) (qbB.enc φR) qbB.good n:=by
 have P:=λ(h:List qk) (i:Nat)=>qu 82 c82 (first:=[]) (cap:=[]) (args:=[.ptr i 0]) (h:=h)
 have R:=λh:List qk=>qu 60 c60 (first:=[]) (cap:=[]) (args:=[.lst (ws.map Tok.enc) .no,.int .i64 (n:Nat)]) (h:=h)
 obtain ⟨s0,n0,l0,h0,q0,k0,r0⟩ | ⟨p,e,m,j,d,hm,hp,he,k0,r0⟩:=qfa hw hn
 obtain ⟨⟨o1,c1,u1,v1,y1⟩,n1,l1,h1,q1,k1,r1⟩ | ⟨p,e,m,j,⟨o1,c1,u1,v1,y1⟩,hm,hp,he,k1,r1⟩:=qlb hw hk h0
 obtain ⟨a2,h2,w2,k2,r2⟩ | ⟨a2,k2,r2⟩:=qkF hw hk [105,102] zk h1
 ·obtain ⟨⟨o3,c3,u3,v3,y3⟩,n3,l3,h3,q3,k3,r3⟩ | ⟨p,e,m,j,⟨o3,c3,u3,v3,y3⟩,hm,hp,he,k3,r3⟩:=qlb hw hk h2
  obtain ⟨h4,k4,r4⟩ | ⟨p,e,hm,hp,he,k4,r4⟩:=qbW hw hk [59] zk h3
  all_goals
   simp only [sB.1,c60,seval,qr,qav,Exp.enc,Exp.cs,qx,qp,qb7, *] at R
   first
   | exact .inl ⟨⟨_,.mk _ _ _ _ _,[.mk _ _ _ _ _]⟩,_,zo,by assumption,⟨q1,jm 1,λe he=>by rw [List.mem_singleton] at he;rw [he];exact q3⟩,λh i hi=>(P h i).trans (by
     have E:=qc hi
     simp only [sB.1,c82,seval,Nd.enc,Nd.cs,Exp.enc,Exp.cs,qx,qp,qb7,qbB.enc, *]),R⟩
   | exact .inr ⟨_,_,_,_,⟨_,noE,[]⟩,hm,hp,he,λh i hi=>(P h i).trans (by
     have E:=qc hi
     simp only [sB.1,c82,seval,qr,qe,Nd.enc,Nd.cs,Exp.enc,Exp.cs,jw,jW,qx,qp,qB,qb7,qbB.enc,List.map_cons,List.map_nil, *]),R⟩
   | exact .inr ⟨_,_,_,_,⟨_,.mk _ _ _ _ _,[]⟩,hm,hp,he,λh i hi=>(P h i).trans (by
     have E:=qc hi
     simp only [sB.1,c82,seval,qe,Nd.enc,Nd.cs,Exp.cs,qx,qp, *]),R⟩
   | exact .inr ⟨_,_,_,_,⟨_,.mk _ _ _ _ _,[.mk _ _ _ _ _]⟩,hm,hp,he,λh i hi=>(P h i).trans (by
     have E:=qc hi
     simp only [sB.1,c82,seval,qe,Nd.enc,Nd.cs,Exp.cs,qx,qp,qb7, *]),R⟩
 ·obtain ⟨h4,k4,r4⟩ | ⟨p,e,hm,hp,he,k4,r4⟩:=qbW hw hk [59] zk h1
  all_goals
   simp only [sB.1,c60,seval,qr,qav,Exp.enc,Exp.cs,qx,qp, *] at R
   first
   | exact .inl ⟨⟨_,.mk _ _ _ _ _,[]⟩,_,zo,by assumption,⟨q1,Nat.zero_le 1,λ_ he=>by cases he⟩,λh i hi=>(P h i).trans (by
     have E:=qc hi
     simp only [sB.1,c82,seval,Nd.enc,Nd.cs,Exp.cs,qx,qp,qbB.enc, *]),R⟩
   | exact .inr ⟨_,_,_,_,⟨_,noE,[]⟩,hm,hp,he,λh i hi=>(P h i).trans (by
     have E:=qc hi
     simp only [sB.1,c82,seval,qr,qe,Nd.enc,Nd.cs,Exp.enc,Exp.cs,jw,jW,qx,qp,qB,qb7,qbB.enc,List.map_cons,List.map_nil, *]),R⟩
   | exact .inr ⟨_,_,_,_,⟨_,.mk _ _ _ _ _,[]⟩,hm,hp,he,λh i hi=>(P h i).trans (by
     have E:=qc hi
     simp only [sB.1,c82,seval,qe,Nd.enc,Nd.cs,Exp.cs,qx,qp, *]),R⟩
 all_goals
  simp only [sB.1,c60,seval,qr,Exp.enc,Exp.cs,qx,qp, *] at R
  first
  | exact .inl ⟨⟨_,.mk _ _ _ _ _,[]⟩,_,zo,by assumption,⟨q1,Nat.zero_le 1,λ_ he=>by cases he⟩,λh i hi=>(P h i).trans (by
    have E:=qc hi
    simp only [sB.1,c82,seval,qr,Nd.enc,Nd.cs,Exp.enc,Exp.cs,jw,jW,qx,qp,qB,qb7,qbB.enc,List.map_cons,List.map_nil, *]),R⟩
  | exact .inr ⟨_,_,_,_,⟨_,noE,[]⟩,hm,hp,he,λh i hi=>(P h i).trans (by
    have E:=qc hi
    simp only [sB.1,c82,seval,qe, *]),R⟩
  | exact .inr ⟨_,_,_,_,⟨_,.mk _ _ _ _ _,[]⟩,hm,hp,he,λh i hi=>(P h i).trans (by
    have E:=qc hi
    simp only [sB.1,c82,seval,qr,qe,Nd.enc,Nd.cs,Exp.enc,Exp.cs,jw,jW,qx,qp,qB,qb7,qbB.enc,List.map_cons,List.map_nil, *]),R⟩
end
end Go.Proofs.YtkehdpkcdnofaaaGreatDoor.AE
