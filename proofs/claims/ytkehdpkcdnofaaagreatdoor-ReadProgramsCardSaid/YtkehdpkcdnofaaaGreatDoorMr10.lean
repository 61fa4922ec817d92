/- A part of the proof. No condition. -/
import Derived.Test.YtkehdpkcdnofaaaGreatDoorMr9
import Derived.Test.YtkehdpkcdnofaaaGreatDoorMr7
import Derived.Test.YtkehdpkcdnofaaaGreatDoorMr2
set_option maxRecDepth 100000
set_option maxHeartbeats 0
open List renaming getElem?_append_left→ja,getElem?_eq_some_iff→jd,take_append_of_le_length→jS,getElem?_set_ne→jf,getElem?_set_self→jg,drop_eq_getElem_cons→jU,getElem?_eq_getElem→jh,length_cons→jy
open Bool renaming and_eq_true→jk,true_and→j0
open Nat renaming le_refl→jm
open Option renaming map_none→jZ
namespace Go.Proofs.YtkehdpkcdnofaaaGreatDoor.AE
open Go.AE
section
variable {ws:List Tok}
theorem qBN {n:Nat} {s:Str} (h:isW ws n s = true) (s':Str):isW ws n s' = (s == s'):=by
 simp only [isW,jk,beq_iff_eq] at h
 simp only [isW,h.1,h.2,j0]
def qa1:List (Str×Nat×Int):=[([111,114],1,24),([97,110,100],2,23),([61],4,20),([60],4,21),([60,61],4,22),([43],5,15),([45],5,16),([42],6,17),([47],6,18),([37],6,19)]
def qgS (is:Str->Bool):List (Str×Nat×Int)->Nat×Int
 | []=>(0,0)
 | x :: xs=>bif is x.1 then x.2 else qgS is xs
def qar (ws:List Tok) (n:Nat):Nat×Int:=qgS (isW ws n) qa1
theorem qek (is:Str->Bool):∀xs,qgS is xs = (0,0)\/∃x ∈ xs,is x.1 = true/\qgS is xs = x.2
 | []=>.inl rfl
 | x :: xs=>by
  rw [qgS]
  cases h:is x.1 with
  | true=>exact .inr ⟨x,by simp,h,rfl⟩
  | false=>
   rcases qek is xs with h2 | ⟨y,h2,h3,h4⟩
   ·exact .inl h2
   ·exact .inr ⟨y,by simp [h2],h3,h4⟩
theorem qkx (n:Nat):(qar ws n).1 <= 6:=by
 rcases qek (isW ws n) qa1 with h | ⟨x,h1,_,h3⟩
 ·rw [qar,h];omega
 ·rw [qar,h3]
  have:qa1.all (λx=>decide (x.2.1 <= 6)) = true:=zk
  simpa using List.all_eq_true.1 this x h1
theorem qfg (hw:WF ws) {n:Nat} (hn:n < ws.length) (h:(qar ws n).1 ≠ 0):n + 1 < ws.length:=by
 rcases qek (isW ws n) qa1 with h0 | ⟨x,h1,h2,h3⟩
 ·rw [qar,h0] at h;exact absurd rfl h
 ·exact qi hw hn h2
theorem qiE {n:Nat} {s:Str} (h:isW ws n s = true):qar ws n = qgS (s == ·) qa1:=by
 rw [qar,show isW ws n = (s == ·) from funext (qBN h)]
theorem qel {n L:Nat} (h:∀x ∈ qa1,x.2.1 = L->isW ws n x.1 = false) (hL:L ≠ 0):(qar ws n).1 ≠ L:=by
 rcases qek (isW ws n) qa1 with h0 | ⟨x,h1,h2,h3⟩
 ·rw [qar,h0];exact λh=>hL h.symm
 ·rw [qar,h3]
  intro q
  rw [h x h1 q] at h2
  cases h2
inductive qg7 (ws:List Tok) (cl:Nat->Nat->Out->Prop) (pos:Int) (least:Nat):Nat->Exp->Nat->Out->Prop
 | stop {most e n}:(qar ws n).1 = 0\/(qar ws n).1 < least\/most < (qar ws n).1->qg7 ws cl pos least most e n (.ok e n)
 | bad {most e n p err m}:(qar ws n).1 ≠ 0->least <= (qar ws n).1->(qar ws n).1 <= most->cl (n + 1) ((qar ws n).1 + 1) (.no p err m)->qg7 ws cl pos least most e n (.no p err m)
 | deep {most e n x n1}:(qar ws n).1 ≠ 0->least <= (qar ws n).1->(qar ws n).1 <= most->cl (n + 1) ((qar ws n).1 + 1) (.ok x n1)->¬ (Exp.mk (qar ws n).2 0 [] [] [e,x]).depth <= 20->qg7 ws cl pos least most e n (.no pos 7 n1)
 | go {most e n x n1 o}:(qar ws n).1 ≠ 0->least <= (qar ws n).1->(qar ws n).1 <= most->cl (n + 1) ((qar ws n).1 + 1) (.ok x n1)->(Exp.mk (qar ws n).2 0 [] [] [e,x]).depth <= 20->qg7 ws cl pos least (if (qar ws n).1 = 4 then 2 else (qar ws n).1) (.mk (qar ws n).2 0 [] [] [e,x]) n1 o->qg7 ws cl pos least most e n o
variable {cl:Nat->Nat->Out->Prop} {pos:Int}
theorem qg7.comp0 {lo hi:Nat} (I:lo <= hi) (h4:hi ≠ 4) {most:Nat} {e:Exp} {n:Nat} {o':Out} (h:qg7 ws cl pos hi most e n o'):∀e1 n1 o,o' = .ok e1 n1->hi - 1 <= most->1 <= hi->qg7 ws cl pos lo (hi - 1) e1 n1 o->qg7 ws cl pos lo most e n o:=by
 induction h with
 | @stop most e n hs=>
  intro e1 n1 o ho hm h1 h2
  cases ho
  cases h2 with
  | stop E=>exact .stop zo
  | bad a b c d=>exact .bad a b zo d
  | deep a b c d f=>exact .deep a b zo d f
  | go a b c d f g=>exact .go a b zo d f g
 | bad _ _ _ _=>intro e1 n1 o ho;cases ho
 | deep _ _ _ _ _=>intro e1 n1 o ho;cases ho
 | go a b c d f _ ih=>
  intro e1 n1 o ho hm h1 h2
  refine .go a zo c d f (ih e1 n1 o ho ?_ h1 h2)
  split <;> omega
theorem qg7.comp {lo hi most:Nat} (E:lo <= hi) (h4:hi ≠ 4) (h1:1 <= hi) (hm:hi - 1 <= most) {e:Exp} {n:Nat} {e1:Exp} {n1:Nat} (h:qg7 ws cl pos hi most e n (.ok e1 n1)) {o:Out} (h2:qg7 ws cl pos lo (hi - 1) e1 n1 o):qg7 ws cl pos lo most e n o:=
 h.comp0 E h4 e1 n1 o rfl hm h1 h2
theorem qg7.no0 {lo hi:Nat} (E:lo <= hi) {most:Nat} {e:Exp} {n:Nat} {o:Out} (h:qg7 ws cl pos hi most e n o):∀p err m,o = .no p err m->qg7 ws cl pos lo most e n o:=by
 induction h with
 | stop _=>intro p err m ho;cases ho
 | bad a b c d=>intro p err m ho;exact .bad a zo c d
 | deep a b c d f=>intro p err m ho;exact .deep a zo c d f
 | go a b c d f _ ih=>intro p err m ho;exact .go a zo c d f (ih p err m ho)
theorem qg7.no {lo hi most:Nat} (E:lo <= hi) {e:Exp} {n:Nat} {p err:Int} {m:Nat} (h:qg7 ws cl pos hi most e n (.no p err m)):qg7 ws cl pos lo most e n (.no p err m):=h.no0 E p err m rfl
theorem qeP.more {op:Nat->Option Int} {sub:Nat->Out->Prop} {L:Nat} (h1:L ≠ 0) (h4:L ≠ 4) (hop:∀n k,op n = some k->qar ws n = (L,k)) (I:∀n,op n = none->(qar ws n).1 ≠ L) (E:∀n o,sub n o->cl n (L + 1) o)
  {e:Exp} {n:Nat} {o:Out} (h:qeP op sub pos e n o):qg7 ws cl pos L L e n o:=by
 induction h with
 | @stop e n hs=>exact .stop (by have:=I n hs;omega)
 | @bad e n k p err m hs hx=>
  have r:=hop n k hs
  refine .bad ?_ ?_ ?_ ?_
  ·rw [r];exact h1
  ·rw [r];exact jm _
  ·rw [r];exact jm _
  ·rw [r];exact E _ _ hx
 | @deep e n k x n1 hs hx hd=>
  have r:=hop n k hs
  refine .deep (x:=x) ?_ ?_ ?_ ?_ ?_
  ·rw [r];exact h1
  ·rw [r];exact jm _
  ·rw [r];exact jm _
  ·rw [r];exact E _ _ hx
  ·rw [r];exact hd
 | @go e n k x n1 o hs hx hd _ ih=>
  have r:=hop n k hs
  refine .go (x:=x) (n1:=n1) ?_ ?_ ?_ ?_ ?_ ?_
  ·rw [r];exact h1
  ·rw [r];exact jm _
  ·rw [r];exact jm _
  ·rw [r];exact E _ _ hx
  ·rw [r];exact hd
  ·rw [r]
   simp only
   rw [if_neg h4]
   exact ih
theorem qiC (n:Nat) (k:Int) (h:qgR ws n = some k):qar ws n = (6,k):=by
 rcases qeD h with ⟨a,rfl⟩ | ⟨_,a,rfl⟩ | ⟨_,_,a,rfl⟩ <;> (rw [qiE a];rfl)
theorem qjK (n:Nat) (k:Int) (h:qkE ws n = some k):qar ws n = (5,k):=by
 rcases qfG h with ⟨a,rfl⟩ | ⟨_,a,rfl⟩ <;> (rw [qiE a];rfl)
theorem qnh (n:Nat) (k:Int) (h:qfj ws n = some k):qar ws n = (4,k):=by
 rcases qeG h with ⟨a,rfl⟩ | ⟨_,a,rfl⟩ | ⟨_,_,a,rfl⟩ <;> (rw [qiE a];rfl)
theorem qja (n:Nat) (k:Int) (h:qjR ws n = some k):qar ws n = (2,k):=by
 obtain ⟨a,rfl⟩:=qfn h
 rw [qiE a];rfl
theorem qlI (n:Nat) (k:Int) (h:qwl ws n = some k):qar ws n = (1,k):=by
 obtain ⟨a,rfl⟩:=qgN h
 rw [qiE a];rfl
theorem qtB (n:Nat) (h:qgR ws n = none):(qar ws n).1 ≠ 6:=by
 obtain ⟨a,b,c⟩:=qiB h
 exact qel (by simp [qa1,a,b,c]) zo
theorem qxd (n:Nat) (h:qkE ws n = none):(qar ws n).1 ≠ 5:=by
 obtain ⟨a,b⟩:=qjJ h
 exact qel (by simp [qa1,a,b]) zo
theorem qt3 (n:Nat) (h:qfj ws n = none):(qar ws n).1 ≠ 4:=by
 obtain ⟨a,b,c⟩:=qiH h
 exact qel (by simp [qa1,a,b,c]) zo
theorem quS (n:Nat) (h:qjR ws n = none):(qar ws n).1 ≠ 2:=by
 exact qel (by simp [qa1,qi9 h]) zo
theorem qzy (n:Nat) (h:qwl ws n = none):(qar ws n).1 ≠ 1:=by
 exact qel (by simp [qa1,qlH h]) zo
theorem no3 (n:Nat):(qar ws n).1 ≠ 3:=qel (by simp [qa1]) zo
inductive HN (ws:List Tok) (neg:Nat->Out->Prop) (cl:Nat->Nat->Out->Prop) (L n:Nat):Out->Prop
 | bad {p err m}:neg n (.no p err m)->HN ws neg cl L n (.no p err m)
 | go {e n1 o}:neg n (.ok e n1)->qg7 ws cl (word ws n).pos L 6 e n1 o->HN ws neg cl L n o
inductive HT (ws:List Tok) (cl:Nat->Nat->Out->Prop) (L n:Nat):Out->Prop
 | bad {p err m}:cl (n + 1) 3 (.no p err m)->HT ws cl L n (.no p err m)
 | deep {x n1}:cl (n + 1) 3 (.ok x n1)->¬ (Exp.mk 14 0 [] [] [x]).depth <= 20->HT ws cl L n (.no (word ws n).pos 7 n1)
 | go {x n1 o}:cl (n + 1) 3 (.ok x n1)->(Exp.mk 14 0 [] [] [x]).depth <= 20->qg7 ws cl (word ws n).pos L 2 (.mk 14 0 [] [] [x]) n1 o->HT ws cl L n o
def HC (ws:List Tok) (neg:Nat->Out->Prop) (cl:Nat->Nat->Out->Prop) (L n:Nat) (o:Out):Prop:=
 (isW ws n [110,111,116] = true/\HT ws cl L n o)\/(isW ws n [110,111,116] = false/\HN ws neg cl L n o)
variable {neg:Nat->Out->Prop}
theorem HN.on {lo hi n:Nat} (E:lo <= hi) (h4:hi ≠ 4) (h1:1 <= hi) (h6:hi <= 7) {e:Exp} {n1:Nat} (h:HN ws neg cl hi n (.ok e n1)) {o:Out} (h2:qg7 ws cl (word ws n).pos lo (hi - 1) e n1 o):HN ws neg cl lo n o:=by
 cases h with
 | go a b=>exact .go a (b.comp E h4 h1 zo h2)
theorem HN.no {lo hi n:Nat} (E:lo <= hi) {p err:Int} {m:Nat} (h:HN ws neg cl hi n (.no p err m)):HN ws neg cl lo n (.no p err m):=by
 cases h with
 | bad a=>exact .bad a
 | go a b=>exact .go a (b.no E)
theorem HT.on {lo hi n:Nat} (E:lo <= hi) (h1:1 <= hi) (h3:hi <= 3) {e:Exp} {n1:Nat} (h:HT ws cl hi n (.ok e n1)) {o:Out} (h2:qg7 ws cl (word ws n).pos lo (hi - 1) e n1 o):HT ws cl lo n o:=by
 cases h with
 | go a b c=>exact .go a b (c.comp E zo h1 zo h2)
theorem HT.no {lo hi n:Nat} (E:lo <= hi) {p err:Int} {m:Nat} (h:HT ws cl hi n (.no p err m)):HT ws cl lo n (.no p err m):=by
 cases h with
 | bad a=>exact .bad a
 | deep a b=>exact .deep a b
 | go a b c=>exact .go a b (c.no E)
theorem HC.on {lo hi n:Nat} (E:lo <= hi) (h1:1 <= hi) (h3:hi <= 3) {e:Exp} {n1:Nat} (h:HC ws neg cl hi n (.ok e n1)) {o:Out} (h2:qg7 ws cl (word ws n).pos lo (hi - 1) e n1 o):HC ws neg cl lo n o:=by
 rcases h with ⟨a,b⟩ | ⟨a,b⟩
 ·exact .inl ⟨a,b.on E h1 h3 h2⟩
 ·exact .inr ⟨a,b.on E zo h1 zo h2⟩
theorem HC.no {lo hi n:Nat} (E:lo <= hi) {p err:Int} {m:Nat} (h:HC ws neg cl hi n (.no p err m)):HC ws neg cl lo n (.no p err m):=by
 rcases h with ⟨a,b⟩ | ⟨a,b⟩
 ·exact .inl ⟨a,b.no E⟩
 ·exact .inr ⟨a,b.no E⟩
theorem HN.base {n:Nat} {o:Out} (h:neg n o):HN ws neg cl 7 n o:=by
 cases o with
 | ok e n1=>exact .go h (.stop (by have:=qkx (ws:=ws) n1;omega))
 | no p err m=>exact .bad h
end
section
variable {h:List qk}
theorem qeI (c:UInt8) (h:List qk):Wd (.fn 91 [] []) [.int .u8 (c.toNat:Nat)] h = some (.ret (.bool (qba c)),h,false):=by
 rw [qu 91 c91]
 simp only [sB.1,c91,seval,qba]
theorem qjL (c:UInt8) (h:List qk):Wd (.fn 93 [] []) [.int .u8 (c.toNat:Nat)] h = some (.ret (.bool (qaq c)),h,false):=by
 rw [qu 93 c93]
 simp only [sB.1,c93,seval,qaq]
def qaa (p:UInt8->Bool) (s:Str) (i:Nat):Nat:=i + ((s.drop i).takeWhile p).length
theorem qd2 {p:UInt8->Bool} {s:Str} {i:Nat} (hi:i < s.length) (hp:p s[i] = true):qaa p s i = qaa p s (i + 1):=by
 rw [qaa,qaa,jU hi,List.takeWhile_cons_of_pos hp,jy]
 omega
theorem qem {p:UInt8->Bool} {s:Str} {i:Nat} (hi:i < s.length) (hp:p s[i] = false):qaa p s i = i:=by
 rw [qaa,jU hi,List.takeWhile_cons_of_neg (by simp [hp])]
 rfl
theorem qfi {p:UInt8->Bool} {s:Str} {i:Nat} (hi:s.length <= i):qaa p s i = i:=by
 rw [qaa,List.drop_eq_nil_of_le hi]
 rfl
theorem qcr (p:UInt8->Bool) (s:Str) {i:Nat} (hi:i <= s.length):qaa p s i <= s.length:=by
 have h1:=(List.takeWhile_sublist (l:=s.drop i) p).length_le
 rw [List.length_drop] at h1
 rw [qaa]
 omega
theorem qcL (p:UInt8->Bool) (s:Str) (i:Nat):i <= qaa p s i:=by rw [qaa];omega
def qaF (c:UInt8):Bool:=qba c || qaq c
theorem qtf {b:Nat} (s:Str) (hs:s.length <= 100000):∀(k i:Nat) (tt:List qd),i + k = s.length->tt.length = 60->lkp tt 0 = .str s->lkp tt 11 = .int .i64 (i:Nat)->
  ∃E,qg b Wd (.loop qlr) ⟨tt,h,false⟩ = some (.exit 0,⟨E,h,false⟩)/\E.length = 60/\lkp E 0 = .str s/\lkp E 11 = .int .i64 (qaa qaF s i:Nat)/\lkp E 1 = lkp tt 1/\lkp E 2 = lkp tt 2/\lkp E 3 = lkp tt 3/\lkp E 8 = lkp tt 8:=by
 intro k
 induction k with
 | zero=>
  intro i tt hk ht e0 e11
  have c1:ilt (i:Int) (s.length:Int) = false:=by rw [qD];simp;omega
  rw [qfi zo,qh]
  simp only [sB.1,qlr,seval,ht,e0,e11,c1]
  exact ⟨_,rfl,Y0,Y3,z14,Y1,Y1,Y1,Y1⟩
 | succ k ih=>
  intro i tt hk ht e0 e11
  have hi:i < s.length:=zo
  have c1:ilt (i:Int) (s.length:Int) = true:=by rw [qD];simp;omega
  have hx:=qbU hi
  have w:=qo (n:=i) zo
  rw [qh]
  generalize he:qg b Wd qlr _ = r
  cases hb:qba s[i] with
  | true=>
   rw [qd2 hi (by rw [qaF,hb];rfl)]
   simp only [sB.1,qlr,seval,ht,e0,e11,c1,hx,w,qeI,hb] at he
   subst he
   refine (ih (i + 1) _ zo ?_ ?_ ?_).imp λE g=>⟨g.1,g.2.1,g.2.2.1,g.2.2.2.1,g.2.2.2.2.1.trans ?_,g.2.2.2.2.2.1.trans ?_,g.2.2.2.2.2.2.1.trans ?_,g.2.2.2.2.2.2.2.trans ?_⟩
   all_goals simp only [sB.1,seval,ht,e0]
  | false=>
   cases hd:qaq s[i] with
   | true=>
    rw [qd2 hi (by rw [qaF,hb,hd];rfl)]
    simp only [sB.1,qlr,seval,ht,e0,e11,c1,hx,w,qeI,qjL,hb,hd] at he
    subst he
    refine (ih (i + 1) _ zo ?_ ?_ ?_).imp λE g=>⟨g.1,g.2.1,g.2.2.1,g.2.2.2.1,g.2.2.2.2.1.trans ?_,g.2.2.2.2.2.1.trans ?_,g.2.2.2.2.2.2.1.trans ?_,g.2.2.2.2.2.2.2.trans ?_⟩
    all_goals simp only [sB.1,seval,ht,e0]
   | false=>
    rw [qem hi (by rw [qaF,hb,hd];rfl)]
    simp only [sB.1,qlr,seval,ht,e0,e11,c1,hx,qeI,qjL,hb,hd] at he
    subst he
    exact ⟨_,rfl,Y0,Y3,z14,Y1,Y1,Y1,Y1⟩
theorem qdM {b:Nat} (s:Str) (hs:s.length <= 100000):∀(k i:Nat) (tt:List qd),i + k = s.length->tt.length = 53->lkp tt 0 = .str s->lkp tt 7 = .int .i64 (i:Nat)->
  ∃E,qg b Wd (.loop qis) ⟨tt,h,false⟩ = some (.exit 0,⟨E,h,false⟩)/\E.length = 53/\lkp E 0 = .str s/\lkp E 7 = .int .i64 (qaa qaq s i:Nat)/\lkp E 1 = lkp tt 1/\lkp E 4 = lkp tt 4:=by
 intro k
 induction k with
 | zero=>
  intro i tt hk ht e0 e11
  have c1:ilt (i:Int) (s.length:Int) = false:=by rw [qD];simp;omega
  rw [qfi zo,qh]
  simp only [sB.1,qis,seval,ht,e0,e11,c1]
  exact ⟨_,rfl,Y0,Y3,z14,Y1,Y1⟩
 | succ k ih=>
  intro i tt hk ht e0 e11
  have hi:i < s.length:=zo
  have c1:ilt (i:Int) (s.length:Int) = true:=by rw [qD];simp;omega
  have hx:=qbU hi
  have w:=qo (n:=i) zo
  rw [qh]
  generalize he:qg b Wd qis _ = r
  cases hd:qaq s[i] with
  | true=>
   rw [qd2 hi hd]
   simp only [sB.1,qis,seval,ht,e0,e11,c1,hx,w,qjL,hd] at he
   subst he
   refine (ih (i + 1) _ zo ?_ ?_ ?_).imp λE g=>⟨g.1,g.2.1,g.2.2.1,g.2.2.2.1,g.2.2.2.2.1.trans ?_,g.2.2.2.2.2.trans ?_⟩
   all_goals simp only [sB.1,seval,ht,e0]
  | false=>
   rw [qem hi hd]
   simp only [sB.1,qis,seval,ht,e0,e11,c1,hx,qjL,hd] at he
   subst he
   exact ⟨_,rfl,Y0,Y3,z14,Y1,Y1⟩
def qcn (kind:Int) (s:Str) (n pos:Int):qd:=.agg [.int .i64 kind,.str s,.int .i64 n,.int .i64 pos]
theorem qn5 (s:Str) (kind at_:Int) (i:Nat) (hi:i <= s.length) (hb:∀h:i < s.length,qba s[i] = false):Wd (.fn 92 [] []) [.str s,.int .i64 kind,.int .i64 at_,.int .i64 (i:Nat)] h = some (.ret (.tup [qcn 0 [] 0 at_,.int .i64 at_,.int .i64 5]),h,false):=by
 rw [qu 92 c92]
 rcases Nat.lt_or_ge i s.length with h1 | h1
 ·have hx:qln (.str s) (.int .i64 (i:Nat)) = some (.int .u8 (s[i].toNat:Nat)):=qdp (jh h1)
  have c1:((i:Int) == (s.length:Int)) = false:=by simp;omega
  simp only [sB.1,c92,seval,c1,hx,qeI,hb h1,qr]
  rfl
 ·have c1:((i:Int) == (s.length:Int)) = true:=by simp;omega
  simp only [sB.1,c92,seval,c1,qr]
  rfl
end
section
variable {h:List qk}
theorem quq (s:Str) (hs:s.length <= 100000) (kind at_:Int) (i:Nat) (hi:i < s.length) (hb:qba s[i] = true):Wd (.fn 92 [] []) [.str s,.int .i64 kind,.int .i64 at_,.int .i64 (i:Nat)] h =
  if qaa qaF s i - i <= 16 then some (.ret (.tup [qcn kind ((s.drop i).take (qaa qaF s i - i)) 0 at_,.int .i64 (qaa qaF s i:Nat),.int .i64 0]),h,false) else some (.ret (.tup [qcn 0 [] 0 at_,.int .i64 at_,.int .i64 9]),h,false):=by
 have hx:=qbU hi
 have c1:((i:Int) == (s.length:Int)) = false:=by simp;omega
 have Y:=qcL qaF s i
 have U:=qcr qaF s (Nat.le_of_lt hi)
 have w:IntKind.i64.wrap ((qaa qaF s i:Nat) - (i:Int)) = ((qaa qaF s i - i:Nat):Int):=by
  rw [qcb zo zo];omega
 have I:=qcM Y U
 rw [qu 92 c92]
 generalize hR:qbS _ h _ = R
 simp only [sB.1,c92,seval,c1,hx,qeI,hb] at hR
 generalize hr:qg h.length Wd (.loop qlr) _ = r at hR
 obtain ⟨tt,rfl,ht,e0,e11,e1,e2,e3,e8⟩ :∃tt,r = some (.exit 0,⟨tt,h ++ [.cells [.int .i64 0,.str [],.int .i64 0,.int .i64 0]],false⟩)/\tt.length = 60/\lkp tt 0 = .str s/\lkp tt 11 = .int .i64 (qaa qaF s i:Nat)/\lkp tt 1 = .int .i64 kind/\lkp tt 2 = .int .i64 at_/\lkp tt 3 = .int .i64 (i:Nat)/\lkp tt 8 = .ptr h.length 0:=by
  rw [<-hr]
  refine (qtf s hs (s.length - i) i _ zo ?_ ?_ ?_).imp λa1 g=>⟨g.1,g.2.1,g.2.2.1,g.2.2.2.1,g.2.2.2.2.1.trans ?_,g.2.2.2.2.2.1.trans ?_,g.2.2.2.2.2.2.1.trans ?_,g.2.2.2.2.2.2.2.trans ?_⟩
  all_goals simp only [sB.1,seval]
 by_cases E:qaa qaF s i - i <= 16
 ·have c2:ilt 16 ((qaa qaF s i - i:Nat):Int) = false:=by rw [qD];simp;omega
  rw [if_pos E,<-hR]
  simp only [sB.1,seval,ht,e0,e1,e2,e3,e8,e11,w,c2,qcu,I,qr]
  rfl
 ·have c2:ilt 16 ((qaa qaF s i - i:Nat):Int) = true:=by rw [qD];simp;omega
  rw [if_neg E,<-hR]
  simp only [sB.1,seval,ht,e2,e3,e8,e11,w,c2,qr]
  rfl
theorem qlk (s m:Str):Wd (.fn 95 [] []) [.str s,.str m] h = some (.ret (.bool (s.take m.length == m)),h,false):=by
 have inner:Wd (.fn 124 [] []) [.str s,.str m] h = some (.ret (.bool (s.take m.length == m)),h,false):=by
  rw [qu 124 qBr]
  rcases Nat.lt_or_ge s.length m.length with h1 | h1
  ·have c1:ile (m.length:Int) (s.length:Int) = false:=by rw [qdF];simp;omega
   have c2:(s.take m.length == m) = false:=by
    rw [beq_eq_false_iff_ne]
    intro e
    have:=congrArg List.length e
    rw [List.length_take] at this
    omega
   simp only [sB.1,qBr,seval,c1,c2]
  ·have c1:ile (m.length:Int) (s.length:Int) = true:=by rw [qdF];simp;omega
   simp only [sB.1,qBr,seval,c1,qtG,jZ,qAc h1]
 rw [qu 95 c95]
 simp only [sB.1,c95,seval,inner]
def qi6 (s:Str) (n:Int):Prop:=∀h,Wd (.fn 123 [] []) [.str s] h = some (.ret (.tup [.int .i64 n,.niliface]),h,false)
def qnp (s:Str):Prop:=∀h,∃n t v more,Wd (.fn 123 [] []) [.str s] h = some (.ret (.tup [.int .i64 n,.iface t v]),h ++ more,false)
def qsH (s:Str) (i:Nat) (hi:i < s.length):Bool:=s[i] == 48 && decide (1 < qaa qaq s i - i)
theorem qqj (c:UInt8):((c.toNat:Int) == 48) = (c == 48):=by
 rw [Bool.eq_iff_iff,beq_iff_eq,beq_iff_eq]
 constructor
 ·intro h
  apply UInt8.toNat_inj.1
  show c.toNat = 48
  omega
 ·intro h
  subst h
  rfl
theorem qfV (j:Nat) (t:List qd):qcy .niliface j t = t:=Eq.trans rfl rfl
theorem qxD:qDc 1 true .niliface .niliface = some (.bool false):=Eq.trans rfl rfl
theorem qxC (t:TypeId) (v:qd):qDc 1 true (.iface t v) .niliface = some (.bool true):=Eq.trans rfl rfl
theorem qmZ (s:Str) (hs:s.length <= 100000) (i:Nat) (hi:i < s.length) (hb:qsH s i hi = true):Wd (.fn 94 [] []) [.str s,.int .i64 (i:Nat)] h = some (.ret (.tup [qcn 0 [] 0 i,.int .i64 (i:Nat),.int .i64 6]),h,false):=by
 rw [qsH,jk,decide_eq_true_eq] at hb
 have c2:ilt 1 ((qaa qaq s i - i:Nat):Int) = true:=by rw [qD];simp;omega
 have hx:=qbU hi
 have I:=qcL qaq s i
 have E:=qcr qaq s (Nat.le_of_lt hi)
 have w:IntKind.i64.wrap ((qaa qaq s i:Nat) - (i:Int)) = ((qaa qaq s i - i:Nat):Int):=by
  rw [qcb zo zo];omega
 have U:=qcM I E
 rw [qu 94 c94]
 generalize hR:qbS _ h _ = R
 simp only [sB.1,c94,seval] at hR
 generalize hr:qg h.length Wd (.loop qis) _ = r at hR
 obtain ⟨tt,rfl,ht,e0,e7,e1,e4⟩ :∃tt,r = some (.exit 0,⟨tt,h ++ [.cells [.int .i64 0,.str [],.int .i64 0,.int .i64 0]],false⟩)/\tt.length = 53/\lkp tt 0 = .str s/\lkp tt 7 = .int .i64 (qaa qaq s i:Nat)/\lkp tt 1 = .int .i64 (i:Nat)/\lkp tt 4 = .ptr h.length 0:=by
  rw [<-hr]
  refine (qdM s hs (s.length - i) i _ zo ?_ ?_ ?_).imp λY g=>⟨g.1,g.2.1,g.2.2.1,g.2.2.2.1,g.2.2.2.2.1.trans ?_,g.2.2.2.2.2.trans ?_⟩
  all_goals simp only [sB.1,seval]
 rw [<-hR]
 simp only [sB.1,seval,ht,e0,e1,e4,e7,w,hx,qqj,hb.1,c2,qr]
 rfl
theorem qpy (s:Str) (hs:s.length <= 100000) (i:Nat) (hi:i < s.length) (h0:(s[i] == 48) = false) {n:Int} (hn:qi6 ((s.drop i).take (qaa qaq s i - i)) n):Wd (.fn 94 [] []) [.str s,.int .i64 (i:Nat)] h = some (.ret (.tup [qcn 1 [] n i,.int .i64 (qaa qaq s i:Nat),.int .i64 0]),h,false):=by
 rw [qi6] at hn
 have hx:=qbU hi
 have U:=qcL qaq s i
 have I:=qcr qaq s (Nat.le_of_lt hi)
 have w:IntKind.i64.wrap ((qaa qaq s i:Nat) - (i:Int)) = ((qaa qaq s i - i:Nat):Int):=by
  rw [qcb zo zo];omega
 have E:=qcM U I
 rw [qu 94 c94]
 generalize hR:qbS _ h _ = R
 simp only [sB.1,c94,seval] at hR
 generalize hr:qg h.length Wd (.loop qis) _ = r at hR
 obtain ⟨tt,rfl,ht,e0,e7,e1,e4⟩ :∃tt,r = some (.exit 0,⟨tt,h ++ [.cells [.int .i64 0,.str [],.int .i64 0,.int .i64 0]],false⟩)/\tt.length = 53/\lkp tt 0 = .str s/\lkp tt 7 = .int .i64 (qaa qaq s i:Nat)/\lkp tt 1 = .int .i64 (i:Nat)/\lkp tt 4 = .ptr h.length 0:=by
  rw [<-hr]
  refine (qdM s hs (s.length - i) i _ zo ?_ ?_ ?_).imp λY g=>⟨g.1,g.2.1,g.2.2.1,g.2.2.2.1,g.2.2.2.2.1.trans ?_,g.2.2.2.2.2.trans ?_⟩
  all_goals simp only [sB.1,seval]
 rw [<-hR]
 simp only [sB.1,seval,ht,e0,e1,e4,e7,hx,qqj,h0,qcu,E,hn,qr,qxD,qfV]
 simp only [qcn]
theorem qpz (s:Str) (hs:s.length <= 100000) (i:Nat) (hi:i < s.length) (hb:qsH s i hi = false) (h0:(s[i] == 48) = true) {n:Int} (hn:qi6 ((s.drop i).take (qaa qaq s i - i)) n):Wd (.fn 94 [] []) [.str s,.int .i64 (i:Nat)] h = some (.ret (.tup [qcn 1 [] n i,.int .i64 (qaa qaq s i:Nat),.int .i64 0]),h,false):=by
 rw [qi6] at hn
 rw [qsH] at hb
 have hx:=qbU hi
 have U:=qcL qaq s i
 have I:=qcr qaq s (Nat.le_of_lt hi)
 have w:IntKind.i64.wrap ((qaa qaq s i:Nat) - (i:Int)) = ((qaa qaq s i - i:Nat):Int):=by
  rw [qcb zo zo];omega
 have E:=qcM U I
 rw [qu 94 c94]
 generalize hR:qbS _ h _ = R
 simp only [sB.1,c94,seval] at hR
 generalize hr:qg h.length Wd (.loop qis) _ = r at hR
 obtain ⟨tt,rfl,ht,e0,e7,e1,e4⟩ :∃tt,r = some (.exit 0,⟨tt,h ++ [.cells [.int .i64 0,.str [],.int .i64 0,.int .i64 0]],false⟩)/\tt.length = 53/\lkp tt 0 = .str s/\lkp tt 7 = .int .i64 (qaa qaq s i:Nat)/\lkp tt 1 = .int .i64 (i:Nat)/\lkp tt 4 = .ptr h.length 0:=by
  rw [<-hr]
  refine (qdM s hs (s.length - i) i _ zo ?_ ?_ ?_).imp λY g=>⟨g.1,g.2.1,g.2.2.1,g.2.2.2.1,g.2.2.2.2.1.trans ?_,g.2.2.2.2.2.trans ?_⟩
  all_goals simp only [sB.1,seval]
 rw [<-hR]
 rw [h0,j0,decide_eq_false_iff_not] at hb
 have c2:ilt 1 ((qaa qaq s i - i:Nat):Int) = false:=by rw [qD];simp;omega
 simp only [sB.1,seval,ht,e0,e1,e4,e7,w,hx,qqj,h0,c2,qcu,E,hn,qr,qxD,qfV]
 simp only [qcn]
theorem qtj (s:Str) (hs:s.length <= 100000) (i:Nat) (hi:i < s.length) (hb:qsH s i hi = false) {n:Int} (hn:qi6 ((s.drop i).take (qaa qaq s i - i)) n):Wd (.fn 94 [] []) [.str s,.int .i64 (i:Nat)] h = some (.ret (.tup [qcn 1 [] n i,.int .i64 (qaa qaq s i:Nat),.int .i64 0]),h,false):=by
 cases h0:s[i] == 48 with
 | false=>exact qpy s hs i hi h0 hn
 | true=>exact qpz s hs i hi hb h0 hn
theorem qkk (s:Str) (hs:s.length <= 100000) (i:Nat) (hi:i < s.length) (h0:(s[i] == 48) = false) (hn:qnp ((s.drop i).take (qaa qaq s i - i))):Wd (.fn 94 [] []) [.str s,.int .i64 (i:Nat)] h = some (.ret (.tup [qcn 0 [] 0 i,.int .i64 (i:Nat),.int .i64 2]),h,false):=by
 obtain ⟨n,t,v,more,hn⟩:=hn (h ++ [.cells [.int .i64 0,.str [],.int .i64 0,.int .i64 0]])
 have hx:=qbU hi
 have U:=qcL qaq s i
 have I:=qcr qaq s (Nat.le_of_lt hi)
 have w:IntKind.i64.wrap ((qaa qaq s i:Nat) - (i:Int)) = ((qaa qaq s i - i:Nat):Int):=by
  rw [qcb zo zo];omega
 have E:=qcM U I
 rw [qu 94 c94]
 generalize hR:qbS _ h _ = R
 simp only [sB.1,c94,seval] at hR
 generalize hr:qg h.length Wd (.loop qis) _ = r at hR
 obtain ⟨tt,rfl,ht,e0,e7,e1,e4⟩ :∃tt,r = some (.exit 0,⟨tt,h ++ [.cells [.int .i64 0,.str [],.int .i64 0,.int .i64 0]],false⟩)/\tt.length = 53/\lkp tt 0 = .str s/\lkp tt 7 = .int .i64 (qaa qaq s i:Nat)/\lkp tt 1 = .int .i64 (i:Nat)/\lkp tt 4 = .ptr h.length 0:=by
  rw [<-hr]
  refine (qdM s hs (s.length - i) i _ zo ?_ ?_ ?_).imp λY g=>⟨g.1,g.2.1,g.2.2.1,g.2.2.2.1,g.2.2.2.2.1.trans ?_,g.2.2.2.2.2.trans ?_⟩
  all_goals simp only [sB.1,seval]
 rw [<-hR]
 simp only [sB.1,seval,ht,e0,e1,e4,e7,hx,qqj,h0,qcu,E,hn,qr,qxC]
 simp only [qcn]
theorem qkl (s:Str) (hs:s.length <= 100000) (i:Nat) (hi:i < s.length) (hb:qsH s i hi = false) (h0:(s[i] == 48) = true) (hn:qnp ((s.drop i).take (qaa qaq s i - i))):Wd (.fn 94 [] []) [.str s,.int .i64 (i:Nat)] h = some (.ret (.tup [qcn 0 [] 0 i,.int .i64 (i:Nat),.int .i64 2]),h,false):=by
 obtain ⟨n,t,v,more,hn⟩:=hn (h ++ [.cells [.int .i64 0,.str [],.int .i64 0,.int .i64 0]])
 rw [qsH] at hb
 have hx:=qbU hi
 have U:=qcL qaq s i
 have I:=qcr qaq s (Nat.le_of_lt hi)
 have w:IntKind.i64.wrap ((qaa qaq s i:Nat) - (i:Int)) = ((qaa qaq s i - i:Nat):Int):=by
  rw [qcb zo zo];omega
 have E:=qcM U I
 rw [qu 94 c94]
 generalize hR:qbS _ h _ = R
 simp only [sB.1,c94,seval] at hR
 generalize hr:qg h.length Wd (.loop qis) _ = r at hR
 obtain ⟨tt,rfl,ht,e0,e7,e1,e4⟩ :∃tt,r = some (.exit 0,⟨tt,h ++ [.cells [.int .i64 0,.str [],.int .i64 0,.int .i64 0]],false⟩)/\tt.length = 53/\lkp tt 0 = .str s/\lkp tt 7 = .int .i64 (qaa qaq s i:Nat)/\lkp tt 1 = .int .i64 (i:Nat)/\lkp tt 4 = .ptr h.length 0:=by
  rw [<-hr]
  refine (qdM s hs (s.length - i) i _ zo ?_ ?_ ?_).imp λY g=>⟨g.1,g.2.1,g.2.2.1,g.2.2.2.1,g.2.2.2.2.1.trans ?_,g.2.2.2.2.2.trans ?_⟩
  all_goals simp only [sB.1,seval]
 rw [<-hR]
 rw [h0,j0,decide_eq_false_iff_not] at hb
 have c2:ilt 1 ((qaa qaq s i - i:Nat):Int) = false:=by rw [qD];simp;omega
 simp only [sB.1,seval,ht,e0,e1,e4,e7,w,hx,qqj,h0,c2,qcu,E,hn,qr,qxC]
 simp only [qcn]
theorem qlC (s:Str) (hs:s.length <= 100000) (i:Nat) (hi:i < s.length) (hb:qsH s i hi = false) (hn:qnp ((s.drop i).take (qaa qaq s i - i))):Wd (.fn 94 [] []) [.str s,.int .i64 (i:Nat)] h = some (.ret (.tup [qcn 0 [] 0 i,.int .i64 (i:Nat),.int .i64 2]),h,false):=by
 cases h0:s[i] == 48 with
 | false=>exact qkk s hs i hi h0 hn
 | true=>exact qkl s hs i hi hb h0 hn
end
section
variable {h:List qk}
def marks:List Str:=g0.map qCX
theorem qv8:g0 = marks.map qd.str:=zk
theorem qs9:marks.length = 17:=zk
def qgv (r m:Str):Bool:=r.take m.length == m
def qdK (r:Str):Option Str:=marks.find? (qgv r)
theorem qpt:∀m ∈ marks,m.length <= 2:=by
 have:marks.all (λm=>decide (m.length <= 2)) = true:=zk
 intro m hm
 simpa using List.all_eq_true.1 this m hm
def qFq:qk:=.cells [.int .i64 0,.str [],.int .i64 0,.int .i64 0]
theorem qCQ:qFq = .cells [.int .i64 0,.str [],.int .i64 0,.int .i64 0]:=Eq.trans rfl rfl
def qqw (h:List qk) (s:Str) (i:Nat) (r:Option (Ex×St)):Option Str->Prop
 | some m=>∃tt',r = some (.ret,⟨tt',h ++ [.cells [.int .i64 3,.str m,.int .i64 0,.int .i64 (i:Nat)]],false⟩)/\tt'.length = 72/\lkp tt' 4 = .ptr h.length 0/\lkp tt' 5 = .int .i64 (i + m.length:Nat)/\lkp tt' 6 = .int .i64 0
 | none=>∃tt',r = some (.exit 1,⟨tt',h ++ [qFq],false⟩)/\tt'.length = 72/\lkp tt' 0 = .str s/\lkp tt' 1 = .int .i64 (i:Nat)/\lkp tt' 4 = .ptr h.length 0
theorem qs7 (s:Str) (hs:s.length <= 100000) (i:Nat) (hi:i <= s.length):∀(k j:Nat) (tt:List qd),j + k = 17->tt.length = 72->lkp tt 0 = .str s->lkp tt 1 = .int .i64 (i:Nat)->lkp tt 4 = .ptr h.length 0->lkp tt 52 = .agg g0->lkp tt 53 = .int .i64 (j:Nat)->
  qqw h s i (qg h.length Wd (.loop qmP) ⟨tt,h ++ [qFq],false⟩) ((marks.drop j).find? (qgv (s.drop i))):=by
 intro k
 have a1:=qs9
 induction k with
 | zero=>
  intro j tt hj ht e0 e1 e4 I E
  have c1:ilt (j:Int) 17 = false:=by rw [qD];simp;omega
  rw [List.drop_eq_nil_of_le («as»:=marks) zo,List.find?_nil,qh]
  simp only [sB.1,qmP,seval,ht,E,c1]
  exact ⟨_,rfl,Y0,Y3,y11,y9⟩
 | succ k ih=>
  intro j tt hj ht e0 e1 e4 I E
  have Y:j < marks.length:=zo
  have c1:ilt (j:Int) 17 = true:=by rw [qD];simp;omega
  have hx:qAu 17 none (.agg g0) (.int .i64 (j:Nat)) = some (.str marks[j]):=by
   rw [qnP (v:=.str marks[j]) zo (by rw [qv8,List.getElem?_map,jh Y];rfl)]
   rfl
  have a6:=qpt _ (List.getElem_mem Y)
  have w:=qo (n:=j) zo
  have U:=qiM hi
  have w2:IntKind.i64.wrap ((i:Int) + (marks[j].length:Int)) = ((i + marks[j].length:Nat):Int):=by
   rw [qcb zo zo];omega
  rw [jU Y,qh]
  generalize he:qg h.length Wd qmP _ = r
  cases hb:((s.drop i).take marks[j].length == marks[j]) with
  | true=>
   rw [List.find?_cons_of_pos (p:=qgv (s.drop i)) hb]
   simp only [sB.1,qmP,seval,ht,e0,e1,e4,I,E,c1,hx,qcu,jZ,U,qlk,hb,qr,w2,qCQ] at he
   subst he
   exact ⟨_,rfl,Y0,y9,Y4,Y4⟩
  | false=>
   rw [List.find?_cons_of_neg (p:=qgv (s.drop i)) (by rw [qgv,hb];exact Bool.false_ne_true)]
   simp only [sB.1,qmP,seval,ht,e0,e1,I,E,c1,hx,qcu,jZ,U,qlk,hb,w] at he
   subst he
   refine ih (j + 1) _ zo ?_ ?_ ?_ ?_ ?_ ?_
   all_goals simp only [sB.1,seval,ht,e0,e1,e4,I]
theorem qs8:cut g0 0 (some 17) = some (.agg g0):=zk
theorem qrJ (c:UInt8):((c.toNat:Int) == 39) = (c == 39):=by
 rw [Bool.eq_iff_iff,beq_iff_eq,beq_iff_eq]
 constructor
 ·intro h
  apply UInt8.toNat_inj.1
  show c.toNat = 39
  omega
 ·intro h
  subst h
  rfl
theorem qxq (s:Str):Wd (.fn 67 [] []) [.str s,.int .i64 (s.length:Nat)] h = some (.ret (.tup [qcn 4 [] 0 s.length,.int .i64 (s.length:Nat),.int .i64 0]),h,false):=by
 rw [qu 67 c67]
 simp only [sB.1,c67,seval,qr,qcn]
section
variable {s:Str} {i:Nat} (hi:i < s.length)
include hi
theorem quA {k n p to e:Int} {w:Str} (h1:qba s[i] = true) (hn:∀h,Wd (.fn 92 [] []) [.str s,.int .i64 0,.int .i64 (i:Nat),.int .i64 (i:Nat)] h = some (.ret (.tup [qcn k w n p,.int .i64 to,.int .i64 e]),h,false)):Wd (.fn 67 [] []) [.str s,.int .i64 (i:Nat)] h = some (.ret (.tup [qcn k w n p,.int .i64 to,.int .i64 e]),h,false):=by
 have hx:=qbU hi
 have c1:((i:Int) == (s.length:Int)) = false:=by simp;omega
 simp only [qcn] at hn
 rw [qu 67 c67]
 simp only [sB.1,c67,seval,c1,hx,qeI,h1,hn,qcn]
theorem qxs {k n p to e:Int} {w:Str} (h1:qba s[i] = false) (h2:(s[i] == 39) = true) (hl:s.length <= 100000) (hn:∀h,Wd (.fn 92 [] []) [.str s,.int .i64 2,.int .i64 (i:Nat),.int .i64 (i + 1:Nat)] h = some (.ret (.tup [qcn k w n p,.int .i64 to,.int .i64 e]),h,false)):Wd (.fn 67 [] []) [.str s,.int .i64 (i:Nat)] h = some (.ret (.tup [qcn k w n p,.int .i64 to,.int .i64 e]),h,false):=by
 have hx:=qbU hi
 have c1:((i:Int) == (s.length:Int)) = false:=by simp;omega
 have w:=qo (n:=i) zo
 simp only [qcn] at hn
 rw [qu 67 c67]
 simp only [sB.1,c67,seval,c1,hx,qeI,h1,qrJ,h2,w,hn,qcn]
theorem qxr {k n p to e:Int} {w:Str} (h1:qba s[i] = false) (h2:(s[i] == 39) = false) (h3:qaq s[i] = true) (hn:∀h,Wd (.fn 94 [] []) [.str s,.int .i64 (i:Nat)] h = some (.ret (.tup [qcn k w n p,.int .i64 to,.int .i64 e]),h,false)):Wd (.fn 67 [] []) [.str s,.int .i64 (i:Nat)] h = some (.ret (.tup [qcn k w n p,.int .i64 to,.int .i64 e]),h,false):=by
 have hx:=qbU hi
 have c1:((i:Int) == (s.length:Int)) = false:=by simp;omega
 simp only [qcn] at hn
 rw [qu 67 c67]
 simp only [sB.1,c67,seval,c1,hx,qeI,qjL,h1,qrJ,h2,h3,hn,qcn]
def qzh (s:Str) (i:Nat):Option Str->List qd
 | some m=>[qcn 3 m 0 i,.int .i64 (i + m.length:Nat),.int .i64 0]
 | none=>[qcn 0 [] 0 i,.int .i64 (i:Nat),.int .i64 5]
theorem quz (h1:qba s[i] = false) (h2:(s[i] == 39) = false) (h3:qaq s[i] = false) (hl:s.length <= 100000):Wd (.fn 67 [] []) [.str s,.int .i64 (i:Nat)] h = some (.ret (.tup (qzh s i (qdK (s.drop i)))),h,false):=by
 have hx:=qbU hi
 have c1:((i:Int) == (s.length:Int)) = false:=by simp;omega
 rw [qu 67 c67]
 generalize hR:qbS _ h _ = R
 simp only [sB.1,c67,seval,c1,hx,qeI,qjL,h1,qrJ,h2,h3,qs8] at hR
 generalize hr:qg h.length Wd (.loop qmP) _ = r at hR
 have q:qqw h s i r (qdK (s.drop i)):=by
  rw [<-hr]
  refine qs7 s hl i zo 17 0 _ zo ?_ ?_ ?_ ?_ ?_ ?_
  all_goals simp only [sB.1,seval,Int.natCast_zero]
 rw [<-hR]
 cases hm:qdK (s.drop i) with
 | some m=>
  rw [hm] at q
  obtain ⟨tt,rfl,ht,e4,e5,e6⟩:=q
  simp only [sB.1,seval,e4,e5,e6,qzh,qcn]
 | none=>
  rw [hm] at q
  obtain ⟨tt,rfl,ht,e0,e1,e4⟩:=q
  rw [qCQ]
  simp only [sB.1,seval,ht,e1,e4,qr,qzh,qcn]
end
end
section
variable {h:List qk}
def blank (c:UInt8):Bool:=(c.toNat:Int) == 32 || (c.toNat:Int) == 9 || (c.toNat:Int) == 10
def sharp (c:UInt8):Bool:=(c.toNat:Int) == 35
def qdf (s:Str):Option Nat:=s.findIdx? (· == 10)
def qey (s:Str):Int:=match qdf s with
 | some k=>k
 | none=>-1
def qcT:Prop:=∀(s:Str) (h:List qk),Wd (.fn 96 [] []) [.str s,.int .u8 10] h = some (.ret (.int .i64 (qey s)),h,false)
inductive qiV (s:Str):Nat->Nat->Prop
 | done:qiV s s.length s.length
 | blank {i j} (hi:i < s.length):blank s[i] = true->qiV s (i + 1) j->qiV s i j
 | line {i j k} (hi:i < s.length):blank s[i] = false->sharp s[i] = true->qdf (s.drop i) = some k->qiV s (i + k + 1) j->qiV s i j
 | last {i} (hi:i < s.length):blank s[i] = false->sharp s[i] = true->qdf (s.drop i) = none->qiV s i s.length
 | word {i} (hi:i < s.length):blank s[i] = false->sharp s[i] = false->qiV s i i
theorem qjt {s:Str} {k:Nat} (h:qdf s = some k):k < s.length:=by
 rw [qdf,List.findIdx?_eq_some_iff_getElem] at h
 exact h.1
theorem qiV.le {s:Str} {i j:Nat} (h:qiV s i j):i <= j/\j <= s.length:=by
 induction h with
 | done=>omega
 | blank hi _ _ ih=>omega
 | line hi _ _ _ _ ih=>omega
 | last hi _ _ _=>omega
 | word hi _ _=>omega
theorem qiV.ex (s:Str):∀(n i:Nat),s.length - i <= n->i <= s.length->∃j,qiV s i j:=by
 intro n
 induction n with
 | zero=>
  intro i h1 h2
  have:i = s.length:=zo
  subst this
  exact ⟨_,.done⟩
 | succ n ih=>
  intro i h1 h2
  rcases Nat.lt_or_ge i s.length with hi | hi
  ·cases hb:AE.blank s[i] with
   | true=>
    obtain ⟨j,hj⟩:=ih (i + 1) zo zo
    exact ⟨j,.blank hi hb hj⟩
   | false=>
    cases hs:sharp s[i] with
    | false=>exact ⟨i,.word hi hb hs⟩
    | true=>
     cases hl:qdf (s.drop i) with
     | none=>exact ⟨_,.last hi hb hs hl⟩
     | some k=>
      have:=qjt hl
      rw [List.length_drop] at this
      obtain ⟨j,hj⟩:=ih (i + k + 1) zo zo
      exact ⟨j,.line hi hb hs hl hj⟩
  ·have:i = s.length:=zo
   subst this
   exact ⟨_,.done⟩
def qqD (h:List qk) (j:Nat) (r:Option (Ex×St)):Prop:=
 (∃tt,r = some (.exit 0,⟨tt,h,false⟩)/\tt.length = 34/\lkp tt 1 = .int .i64 (j:Nat))\/(∃tt,r = some (.ret,⟨tt,h,false⟩)/\tt.length = 34/\lkp tt 4 = .int .i64 (j:Nat))
theorem quc (hx:qcT) {s:Str} (hs:s.length <= 100000) {i j:Nat} (hk:qiV s i j):∀tt:List qd,tt.length = 34->lkp tt 0 = .str s->lkp tt 1 = .int .i64 (i:Nat)->qqD h j (qg h.length Wd (.loop qgA) ⟨tt,h,false⟩):=by
 rw [qcT] at hx
 induction hk with
 | done=>
  intro tt ht e0 e1
  have c1:ilt (s.length:Int) (s.length:Int) = false:=by rw [qD];simp
  rw [qh]
  simp only [sB.1,qgA,seval,ht,e0,e1,c1]
  exact .inl ⟨_,rfl,Y0,y11⟩
 | @blank i j hi hb _ ih=>
  intro tt ht e0 e1
  have c1:ilt (i:Int) (s.length:Int) = true:=by rw [qD];simp;omega
  have hg:qln (.str s) (.int .i64 (i:Nat)) = some (.int .u8 (s[i].toNat:Nat)):=qdp (jh hi)
  have w:=qo (n:=i) zo
  rw [qh]
  generalize he:qg h.length Wd qgA _ = r
  rw [AE.blank] at hb
  cases q1:((s[i].toNat:Int) == 32) with
  | true=>
   simp only [sB.1,qgA,seval,ht,e0,e1,c1,hg,w,q1] at he
   subst he
   refine ih _ ?_ ?_ ?_
   all_goals simp only [sB.1,seval,ht,e0]
  | false=>
   cases q2:((s[i].toNat:Int) == 9) with
   | true=>
    simp only [sB.1,qgA,seval,ht,e0,e1,c1,hg,w,q1,q2] at he
    subst he
    refine ih _ ?_ ?_ ?_
    all_goals simp only [sB.1,seval,ht,e0]
   | false=>
    have q3:((s[i].toNat:Int) == 10) = true:=by simpa [q1,q2] using hb
    simp only [sB.1,qgA,seval,ht,e0,e1,c1,hg,w,q1,q2,q3] at he
    subst he
    refine ih _ ?_ ?_ ?_
    all_goals simp only [sB.1,seval,ht,e0]
 | @line i j k hi hb hh hl _ ih=>
  intro tt ht e0 e1
  have c1:ilt (i:Int) (s.length:Int) = true:=by rw [qD];simp;omega
  have hg:qln (.str s) (.int .i64 (i:Nat)) = some (.int .u8 (s[i].toNat:Nat)):=qdp (jh hi)
  have I:=qjt hl
  rw [List.length_drop] at I
  have w:=qo (n:=i + k) zo
  have w2:IntKind.i64.wrap ((i:Int) + (k:Int)) = ((i + k:Nat):Int):=by rw [qcb zo zo];omega
  have hI:qey (s.drop i) = (k:Int):=by rw [qey,hl]
  have c2:ilt (k:Int) 0 = false:=by rw [qD];simp
  have E:=qiM (Nat.le_of_lt hi)
  rw [qh]
  generalize he:qg h.length Wd qgA _ = r
  simp only [AE.blank,Bool.or_eq_false_iff] at hb
  rw [sharp] at hh
  simp only [sB.1,qgA,seval,ht,e0,e1,c1,hg,hb.1.1,hb.1.2,hb.2,hh,qcu,jZ,E,hx,hI,c2,w2,w] at he
  subst he
  refine ih _ ?_ ?_ ?_
  all_goals simp only [sB.1,seval,ht,e0]
 | @last i hi hb hh hl=>
  intro tt ht e0 e1
  have c1:ilt (i:Int) (s.length:Int) = true:=by rw [qD];simp;omega
  have hg:qln (.str s) (.int .i64 (i:Nat)) = some (.int .u8 (s[i].toNat:Nat)):=qdp (jh hi)
  have hI:qey (s.drop i) = -1:=by rw [qey,hl]
  have c2:ilt (-1) 0 = true:=zk
  have E:=qiM (Nat.le_of_lt hi)
  rw [qh]
  generalize he:qg h.length Wd qgA _ = r
  simp only [AE.blank,Bool.or_eq_false_iff] at hb
  rw [sharp] at hh
  simp only [sB.1,qgA,seval,ht,e0,e1,c1,hg,hb.1.1,hb.1.2,hb.2,hh,qcu,jZ,E,hx,hI,c2] at he
  subst he
  exact .inr ⟨_,rfl,Y0,Y4⟩
 | @word i hi hb hh=>
  intro tt ht e0 e1
  have c1:ilt (i:Int) (s.length:Int) = true:=by rw [qD];simp;omega
  have hg:qln (.str s) (.int .i64 (i:Nat)) = some (.int .u8 (s[i].toNat:Nat)):=qdp (jh hi)
  rw [qh]
  generalize he:qg h.length Wd qgA _ = r
  simp only [AE.blank,Bool.or_eq_false_iff] at hb
  rw [sharp] at hh
  simp only [sB.1,qgA,seval,ht,e0,e1,c1,hg,hb.1.1,hb.1.2,hb.2,hh] at he
  subst he
  exact .inr ⟨_,rfl,Y0,Y4⟩
theorem qni (hx:qcT) {s:Str} (hs:s.length <= 100000) {i j:Nat} (hk:qiV s i j):Wd (.fn 68 [] []) [.str s,.int .i64 (i:Nat)] h = some (.ret (.int .i64 (j:Nat)),h,false):=by
 rw [qu 68 c68]
 generalize hR:qbS _ h _ = R
 simp only [sB.1,c68,seval] at hR
 generalize hr:qg h.length Wd (.loop qgA) _ = r at hR
 have q:qqD h j r:=by
  rw [<-hr]
  refine quc hx hs hk _ ?_ ?_ ?_
  all_goals simp only [sB.1,seval]
 rw [<-hR]
 rcases q with ⟨tt,rfl,ht,e1⟩ | ⟨tt,rfl,ht,e4⟩
 ·simp only [sB.1,seval,ht,e1]
 ·simp only [sB.1,seval,e4]
end
section
variable {h:List qk}
def qbP:qK:=(.seq (.reg [ao 6 (.new [(.int .i64 0),(.str []),(.int .i64 0),(.int .i64 0)]),an (.st (some 4) (.t 6) (.t 10))]) (.reg [ao 7 (.asg (.t 11))]))
theorem qCZ (t:List qd) (p:Nat) (ps:List Nat) (a:qd) (aS:List qd):ql0 t (p :: ps) (a :: aS) = ql0 (up t p a) ps aS:=Eq.trans rfl rfl
theorem qCY (t aS:List qd):ql0 t [] aS = t:=by cases aS <;> exact Eq.trans rfl rfl
theorem qnu (xs:List qd) (hx:∀x ∈ xs,x.cells.length = 4) (hl:xs.length <= 100000) (k:Int) (w:Str) (n p:Int):qbE 4 xs [.agg [.int .i64 k,.str w,.int .i64 n,.int .i64 p]] = true:=by
 simp only [qbE,jk,decide_eq_true_eq]
 refine ⟨⟨?_,?_⟩,?_⟩
 ·simp only [jy,List.length_nil,qe6];omega
 ·simp [qd.cells,qd.storable]
 ·cases xs with
  | nil=>rfl
  | cons x xs=>simp [hx x (by simp)]
theorem qhe (m:Nat):∀xs ys:List qd,qj m xs = true->qj m ys = true->qj m (xs ++ ys) = true
 | [],ys,_,h=>h
 | x :: xs,ys,h1,h2=>by
  rw [qez,jk] at h1
  rw [List.cons_append,qez,h1.1,qhe m xs ys h1.2 h2]
  rfl
theorem qgF (k:Int) (w:Str) (n p:Int):qcV 4 [.int .i64 0,.str [],.int .i64 0,.int .i64 0] 1 [(0,.agg [.int .i64 k,.str w,.int .i64 n,.int .i64 p])] = some (.lst [.agg [.int .i64 k,.str w,.int .i64 n,.int .i64 p]] .full):=qbb (Eq.trans rfl rfl) zo (Eq.trans rfl rfl) (Eq.trans rfl rfl) zo
theorem qjH {H:List qk} {tab:List qd} {xs:List qd} {f:qha} (hf:(f = .full/\xs = [])\/f = .own 4) {q l:Nat} (ht:tab.length = 22) (e5:lkp tab 5 = .ptr q 0) (hq:H[q]? = some (.cells [.lst xs f])) (hl:H[l]? = some (.loop tab [10,11] qbP qd8 .ready none)) (Y:q ≠ l) (hx:∀x ∈ xs,x.cells.length = 4) (hn:xs.length <= 100000) (a8:∀m,qj m xs = true) (k:Int) (w:Str) (n p:Int) :
  Wd (.yld l) [qcn k w n p,.int .i64 0] H = some (.ret (.bool true),H.set q (.cells [.lst (xs ++ [qcn k w n p]) (.own 4)]),false):=by
 have a1:q < H.length:=(jd.1 hq).1
 have I:l < H.length:=(jd.1 hl).1
 have a7:=qnu xs hx hn k w n p
 have aa:∀m,qj m (xs ++ [.agg [.int .i64 k,.str w,.int .i64 n,.int .i64 p]]) = true:=λm=>qhe m _ _ (a8 m) (Eq.trans rfl rfl)
 have ac:Nat.ble H.length q = false:=by rw [Bool.eq_false_iff];intro h;have:=Nat.le_of_ble_eq_true h;omega
 let busy:qk:=.loop tab [10,11] qbP qd8 .busy none
 have A:qg H.length Wd qbP ⟨ql0 tab [10,11] ([qcn k w n p,.int .i64 0].map qd.dim),H,false⟩ = some (.nor,⟨up (up (up (up tab 10 (qcn k w n p)) 11 (.int .i64 0)) 6 (.ptr H.length 0)) 7 (.int .i64 0),H ++ [.cells [.int .i64 k,.str w,.int .i64 n,.int .i64 p]],false⟩):=by
  simp only [sB.1,qbP,qCZ,qCY,qcn,seval,ht]
 have E:(H.set l busy).length = H.length:=by simp
 have U:(H.set l busy)[q]? = some (.cells [.lst xs f]):=by rw [jf zo];exact hq
 have B:∃tt,qg H.length Wd qd8 ⟨up (up (up (up tab 10 (qcn k w n p)) 11 (.int .i64 0)) 6 (.ptr H.length 0)) 7 (.int .i64 0),(H ++ [qk.cells [.int .i64 k,.str w,.int .i64 n,.int .i64 p]]).set l busy,false⟩ = some (Ex.nor,⟨tt,(H.set l busy).set q (.cells [.lst (xs ++ [qcn k w n p]) (.own 4)]) ++ [qk.cells [.int .i64 k,.str w,.int .i64 n,.int .i64 p]],false⟩):=by
  rw [List.set_append_left _ _ I]
  revert U E
  generalize H.set l busy = Hb
  intro E U
  have ab:q < Hb.length:=zo
  generalize he:qg H.length Wd _ _ = r
  rcases hf with ⟨rfl,rfl⟩ | rfl
  ·simp only [sA.1,qd8,seval,qcn,ht,e5,U,a1,E,a7,qgF] at he
   subst he
   exact ⟨_,by simp only [qcn,List.nil_append];rfl⟩
  ·simp only [sA.1,qd8,seval,qcn,ht,e5,U,a1,E,a7,qgF,aa] at he
   subst he
   exact ⟨_,by simp only [qcn];rfl⟩
 obtain ⟨tt,B⟩:=B
 have a6:l < ((H.set l busy).set q (qk.cells [.lst (xs ++ [qcn k w n p]) (.own 4)])).length:=by simpa using I
 rw [show Wd (.yld l) [qcn k w n p,.int .i64 0] H = qlM Wd l [qcn k w n p,.int .i64 0] H from qAE qiQ]
 refine qlN (call:=Wd) hl rfl A (t1:=tab) (ps1:=[10,11]) (asg1:=qbP) (body1:=qd8) (pend1:=none) ?_ B (t2:=tab) (ps2:=[10,11]) (asg2:=qbP) (body2:=qd8) (st2:=.busy) (pend2:=none) ?_ ?_
 ·rw [ja I]
  exact hl
 ·rw [ja a6,jf Y,jg I]
 ·rw [qkz]
  refine congrArg some (qw ?_ rfl)
  rw [List.set_append_left _ _ a6,jS (by simp),List.take_of_length_le (by simp),List.set_comm _ _ (Ne.symm Y),List.set_set]
  apply List.ext_getElem?
  intro j
  by_cases hj:l = j
  ·subst hj
   rw [jg (by simpa using I),jf Y,hl]
  ·rw [jf hj]
theorem qt7 {H:List qk} {tab:List qd} {a l:Nat} {x0 x1:Int} (ht:tab.length = 22) (e2:lkp tab 2 = .ptr a 0) (e3:lkp tab 3 = .ptr (a + 1) 0) (e4:lkp tab 4 = .ptr (a + 1 + 1) 0) (h0:H[a]? = some (.cells [.lst [] .full])) (h1:H[a + 1]? = some (.cells [.int .i64 x0])) (h2:H[a + 1 + 1]? = some (.cells [.int .i64 x1])) (hl:H[l]? = some (.loop tab [10,11] qbP qd8 .ready none)) (a7:a + 1 + 1 < l) (k:Int) (w:Str) (n p e:Int) (a6:(e == 0) = false) :
  Wd (.yld l) [qcn k w n p,.int .i64 e] H = some (.ret (.bool false),(((H.set a (.cells [.lst [] .full])).set (a + 1) (.cells [.int .i64 p])).set (a + 1 + 1) (.cells [.int .i64 e])).set l (.loop tab [10,11] qbP qd8 .done (some .ret)),false):=by
 have I:l < H.length:=(jd.1 hl).1
 let busy:qk:=.loop tab [10,11] qbP qd8 .busy none
 have A:qg H.length Wd qbP ⟨ql0 tab [10,11] ([qcn k w n p,.int .i64 e].map qd.dim),H,false⟩ = some (.nor,⟨up (up (up (up tab 10 (qcn k w n p)) 11 (.int .i64 e)) 6 (.ptr H.length 0)) 7 (.int .i64 e),H ++ [.cells [.int .i64 k,.str w,.int .i64 n,.int .i64 p]],false⟩):=by
  simp only [sB.1,qbP,qCZ,qCY,qcn,seval,ht]
 have E:(H.set l busy).length = H.length:=by simp
 have g0:(H.set l busy)[a]? = some (.cells [.lst [] .full]):=by rw [jf zo];exact h0
 have Y:(H.set l busy)[a + 1]? = some (.cells [.int .i64 x0]):=by rw [jf zo];exact h1
 have U:(H.set l busy)[a + 1 + 1]? = some (.cells [.int .i64 x1]):=by rw [jf zo];exact h2
 have B:∃tt,qg H.length Wd qd8 ⟨up (up (up (up tab 10 (qcn k w n p)) 11 (.int .i64 e)) 6 (.ptr H.length 0)) 7 (.int .i64 e),(H ++ [qk.cells [.int .i64 k,.str w,.int .i64 n,.int .i64 p]]).set l busy,false⟩ = some (Ex.ret,⟨tt,(((H.set l busy).set a (.cells [.lst [] .full])).set (a + 1) (.cells [.int .i64 p])).set (a + 1 + 1) (.cells [.int .i64 e]) ++ [qk.cells [.int .i64 k,.str w,.int .i64 n,.int .i64 p]],false⟩):=by
  rw [List.set_append_left _ _ I]
  revert g0 Y U E
  generalize H.set l busy = Hb
  intro E g0 Y U
  have q0:a < H.length:=zo
  have q1:a + 1 < H.length:=zo
  have q2:a + 1 + 1 < H.length:=zo
  have n1:a ≠ a + 1:=zo
  have n2:a ≠ a + 1 + 1:=zo
  have n3:a + 1 ≠ a + 1 + 1:=zo
  generalize he:qg H.length Wd _ _ = r
  simp only [sB.1,qd8,bne,seval,qcn,ht,e2,e3,e4,a6,g0,Y,U,q0,q1,q2,n1,n2,n3,E] at he
  subst he
  exact ⟨_,rfl⟩
 obtain ⟨tt,B⟩:=B
 have a1:l < ((((H.set l busy).set a (.cells [.lst [] .full])).set (a + 1) (.cells [.int .i64 p])).set (a + 1 + 1) (.cells [.int .i64 e])).length:=by simpa using I
 rw [show Wd (.yld l) [qcn k w n p,.int .i64 e] H = qlM Wd l [qcn k w n p,.int .i64 e] H from qAE qiQ]
 refine qlN (call:=Wd) hl rfl A (t1:=tab) (ps1:=[10,11]) (asg1:=qbP) (body1:=qd8) (pend1:=none) ?_ B (t2:=tab) (ps2:=[10,11]) (asg2:=qbP) (body2:=qd8) (st2:=.busy) (pend2:=none) ?_ ?_
 ·rw [ja I]
  exact hl
 ·rw [ja a1,jf zo,jf zo,jf zo,jg I]
 ·rw [qkz]
  refine congrArg some (qw ?_ rfl)
  rw [List.set_append_left _ _ a1,jS (by simp),List.take_of_length_le (by simp),List.set_comm (l:=H) _ _ (show l ≠ a by omega),List.set_comm _ _ (show l ≠ a + 1 by omega),List.set_comm _ _ (show l ≠ a + 1 + 1 by omega),List.set_set]
end
section
variable {s:Str} {H H2:List qk} {base b l i j:Nat} {tt:List qd} {k n p to e:Int} {w:Str} {yb:Bool}
theorem qAF (hx:qcT) (hs:s.length <= 100000) (hk:qiV s i j) (ht:tt.length = 37) (e0:lkp tt 0 = .yld l) (e1:lkp tt 1 = .ptr b 0) (e3:lkp tt 3 = .int .i64 (i:Nat)) (hb:H[b]? = some (.cells [.str s])) (a1:base <= H.length)
  (hw:∀h,Wd (.fn 67 [] []) [.str s,.int .i64 (j:Nat)] h = some (.ret (.tup [qcn k w n p,.int .i64 to,.int .i64 0]),h,false))
  (hy:Wd (.yld l) [qcn k w n p,.int .i64 0] (H ++ [.cells [.int .i64 k,.str w,.int .i64 n,.int .i64 p]]) = some (.ret (.bool true),H2,false)) (h2:H2[H.length]? = some (.cells [.int .i64 k,.str w,.int .i64 n,.int .i64 p])) (U:(k == 4) = false) :
  ∃E,qg base Wd qka ⟨tt,H,false⟩ = some (.nor,⟨E,H2,false⟩)/\E.length = 37/\lkp E 0 = .yld l/\lkp E 1 = .ptr b 0/\lkp E 3 = .int .i64 to:=by
 have Y:b < H.length:=(jd.1 hb).1
 have I:=λh=>qni (h:=h) hx hs hk
 simp only [qcn] at hw hy
 generalize he:qg base Wd _ _ = r
 simp only [sB.1,qka,seval,ht,e0,e1,e3,hb,Y,I,hw,hy,h2,U] at he
 subst he
 refine ⟨_,rfl,?_,?_,?_,?_⟩
 all_goals simp only [sB.1,seval,ht,e0,e1]
theorem qx6 (hx:qcT) (hs:s.length <= 100000) (hk:qiV s i j) (ht:tt.length = 37) (e0:lkp tt 0 = .yld l) (e1:lkp tt 1 = .ptr b 0) (e3:lkp tt 3 = .int .i64 (i:Nat)) (hb:H[b]? = some (.cells [.str s])) (a1:base <= H.length)
  (hw:∀h,Wd (.fn 67 [] []) [.str s,.int .i64 (j:Nat)] h = some (.ret (.tup [qcn k w n p,.int .i64 to,.int .i64 0]),h,false))
  (hy:Wd (.yld l) [qcn k w n p,.int .i64 0] (H ++ [.cells [.int .i64 k,.str w,.int .i64 n,.int .i64 p]]) = some (.ret (.bool true),H2,false)) (h2:H2[H.length]? = some (.cells [.int .i64 k,.str w,.int .i64 n,.int .i64 p])) (U:(k == 4) = true) :
  ∃E,qg base Wd qka ⟨tt,H,false⟩ = some (.ret,⟨E,H2,false⟩):=by
 have Y:b < H.length:=(jd.1 hb).1
 have I:=λh=>qni (h:=h) hx hs hk
 simp only [qcn] at hw hy
 generalize he:qg base Wd _ _ = r
 simp only [sB.1,qka,seval,ht,e0,e1,e3,hb,Y,I,hw,hy,h2,U] at he
 subst he
 exact ⟨_,rfl⟩
theorem quR (hx:qcT) (hs:s.length <= 100000) (hk:qiV s i j) (ht:tt.length = 37) (e0:lkp tt 0 = .yld l) (e1:lkp tt 1 = .ptr b 0) (e3:lkp tt 3 = .int .i64 (i:Nat)) (hb:H[b]? = some (.cells [.str s])) (Y:base <= H.length)
  (hw:∀h,Wd (.fn 67 [] []) [.str s,.int .i64 (j:Nat)] h = some (.ret (.tup [qcn k w n p,.int .i64 to,.int .i64 e]),h,false))
  (hy:Wd (.yld l) [qcn k w n p,.int .i64 e] (H ++ [.cells [.int .i64 k,.str w,.int .i64 n,.int .i64 p]]) = some (.ret (.bool false),H2,false)) (h2:H2[H.length]? = some (.cells [.int .i64 k,.str w,.int .i64 n,.int .i64 p])) :
  ∃E,qg base Wd qka ⟨tt,H,false⟩ = some (.ret,⟨E,H2,false⟩):=by
 have U:b < H.length:=(jd.1 hb).1
 have I:=λh=>qni (h:=h) hx hs hk
 simp only [qcn] at hw hy
 generalize he:qg base Wd _ _ = r
 simp only [sB.1,qka,seval,ht,e0,e1,e3,hb,U,I,hw,hy] at he
 subst he
 exact ⟨_,rfl⟩
end
end Go.Proofs.YtkehdpkcdnofaaaGreatDoor.AE
