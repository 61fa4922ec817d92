/- A part of the proof. No condition. -/
import Derived.Test.YtkehdpkcdnofaaaGreatDoorMr12
import Derived.Test.YtkehdpkcdnofaaaGreatDoorMr21
set_option maxRecDepth 100000
set_option maxHeartbeats 0
open List renaming length_set→jV,drop_eq_getElem_cons→jU,getElem?_eq_getElem→jh,length_map→jQ,map_append→jX,length_nil→jz
open Int renaming natCast_zero→jR
open Bool renaming false_eq_true→jl,true_or→j9,false_or→jN
namespace Go.Proofs.YtkehdpkcdnofaaaGreatDoor.AE
open Go.AE
section
variable {h:List qk}
theorem qdP (c:UInt8) (h:List qk):Wd (.fn 30 [] []) [.int .u8 (c.toNat:Nat)] h = some (.ret (.bool (qba c)),h,false):=by
 rw [qu 30 c30]
 simp only [sB.1,c30,seval,qba]
theorem qfk (c:UInt8) (h:List qk):Wd (.fn 31 [] []) [.int .u8 (c.toNat:Nat)] h = some (.ret (.bool (qaq c)),h,false):=by
 rw [qu 31 c31]
 simp only [sB.1,c31,seval,qaq]
def qlD:Str:=[123,125,40,41,44,59,58,46,61,60,43,45,42,47,37]
def qd7:Str->Bool
 | c :: d :: _=>c == 45 && d == 62 || c == 60 && d == 61
 | _=>false
def qcm (r:Str):Nat:=bif qd7 r then 2 else match r with
 | c :: _=>bif qlD.any (c == ·) then 1 else 0
 | []=>0
theorem qf9 {r:Str} (h:qd7 r = true):qcm r = 2:=by unfold qcm;rw [h];rfl
theorem qiy {c:UInt8} {r:Str} (h:qd7 (c :: r) = false):qcm (c :: r) = bif qlD.any (c == ·) then 1 else 0:=by unfold qcm;rw [h];rfl
theorem qta:marks = [[45,62],[60,61],[123],[125],[40],[41],[44],[59],[58],[46],[61],[60],[43],[45],[42],[47],[37]]:=zk
theorem qxF (c x:UInt8) (r:Str):qgv (c :: r) [x] = (c == x):=by
 simp [qgv]
theorem qsc (c x y:UInt8) (r:Str):qgv (c :: r) [x,y] = (c == x && r.head? == some y):=by
 cases r with
 | nil=>simp [qgv]
 | cons d r=>simp [qgv]
theorem qlF (c:UInt8) (r:Str):∀l:Str,(l.map λx=>[x]).find? (qgv (c :: r)) = bif l.any (c == ·) then some [c] else none
 | []=>rfl
 | x :: l=>by
  rw [List.map_cons,List.any_cons]
  cases hb:(c == x) with
  | true=>
   rw [List.find?_cons_of_pos (by rw [qxF,hb]),j9,cond_true]
   rw [beq_iff_eq] at hb
   rw [hb]
  | false=>rw [List.find?_cons_of_neg (by rw [qxF,hb];exact Bool.false_ne_true),qlF c r l,jN]
theorem qs6 (c:UInt8) (r:Str):qdK (c :: r) = bif qd7 (c :: r) then some ((c :: r).take 2) else bif qlD.any (c == ·) then some [c] else none:=by
 have e:marks = [45,62] :: [60,61] :: qlD.map λx=>[x]:=by rw [qta];rfl
 rw [qdK,e]
 cases h1:qgv (c :: r) [45,62] with
 | true=>
  rw [List.find?_cons_of_pos h1]
  rw [qsc] at h1
  cases r with
  | nil=>simp at h1
  | cons d r=>
   simp at h1
   simp [qd7,h1.1,h1.2]
 | false=>
  rw [List.find?_cons_of_neg (by rw [h1];exact Bool.false_ne_true)]
  cases h2:qgv (c :: r) [60,61] with
  | true=>
   rw [List.find?_cons_of_pos h2]
   rw [qsc] at h2
   cases r with
   | nil=>simp at h2
   | cons d r=>
    simp at h2
    simp [qd7,h2.1,h2.2]
  | false=>
   rw [List.find?_cons_of_neg (by rw [h2];exact Bool.false_ne_true),qlF]
   have:qd7 (c :: r) = false:=by
    rw [qsc] at h1 h2
    cases r with
    | nil=>rfl
    | cons d r=>
     simp only [List.head?_cons] at h1 h2
     rw [show (some d == some (62:UInt8)) = (d == 62) from rfl] at h1
     rw [show (some d == some (61:UInt8)) = (d == 61) from rfl] at h2
     rw [qd7,h1,h2]
     rfl
   rw [this,cond_false]
theorem qv6 {r:Str} (hr:r ≠ []):(qdK r = none/\qcm r = 0)\/(qdK r = some (r.take (qcm r))/\0 < qcm r/\qcm r <= r.length):=by
 cases r with
 | nil=>exact absurd rfl hr
 | cons c r=>
  rw [qs6]
  cases h2:qd7 (c :: r) with
  | true=>
   rw [qf9 h2,cond_true]
   refine .inr ⟨rfl,zo,?_⟩
   cases r with
   | nil=>cases h2
   | cons d r=>simp
  | false=>
   rw [qiy h2,cond_false]
   cases h1:qlD.any (c == ·) with
   | true=>exact .inr ⟨rfl,by simp,by simp⟩
   | false=>exact .inl ⟨rfl,rfl⟩
theorem qAv (c x:UInt8):((c.toNat:Int) == (x.toNat:Int)) = (c == x):=by
 rw [Bool.eq_iff_iff,beq_iff_eq,beq_iff_eq]
 constructor
 ·intro h
  exact UInt8.toNat_inj.1 zo
 ·intro h;rw [h]
theorem qwj {s:Str} {i:Nat} (hi:i < s.length) {b:Nat}:∀(k j:Nat) (tt:List qd),j + k = 15->tt.length = 51->lkp tt 0 = .str s->lkp tt 1 = .int .i64 (i:Nat)->lkp tt 5 = .str qlD->lkp tt 6 = .int .i64 (j:Nat)->
  ((qlD.drop j).any (s[i] == ·) = true/\∃E,qg b Wd (.loop qlp) ⟨tt,h,false⟩ = some (.ret,⟨E,h,false⟩)/\E.length = 51/\lkp E 4 = .int .i64 1)\/((qlD.drop j).any (s[i] == ·) = false/\∃E,qg b Wd (.loop qlp) ⟨tt,h,false⟩ = some (.exit 0,⟨E,h,false⟩)/\E.length = 51):=by
 have I:qlD.length = 15:=rfl
 intro k
 induction k with
 | zero=>
  intro j tt hj ht e0 e1 e5 e6
  have c1:ilt (j:Int) (qlD.length:Int) = false:=by rw [qD,I];simp;omega
  rw [List.drop_eq_nil_of_le zo,qh]
  simp only [sB.1,qlp,seval,ht,e5,e6,c1]
  exact .inr ⟨rfl,_,rfl,Y0⟩
 | succ k ih=>
  intro j tt hj ht e0 e1 e5 e6
  have U:j < qlD.length:=zo
  have c1:ilt (j:Int) (qlD.length:Int) = true:=by rw [qD,I];simp;omega
  have hx:=qbU hi
  have hy:qln (.str qlD) (.int .i64 (j:Nat)) = some (.int .u8 (qlD[j].toNat:Nat)):=qdp (jh U)
  have w:=qo (n:=j) zo
  rw [jU U,List.any_cons,qh]
  generalize he:qg b Wd qlp _ = R
  cases hb:(s[i] == qlD[j]) with
  | true=>
   simp only [sB.1,qlp,seval,ht,e0,e1,e5,e6,c1,hx,hy,qAv,hb] at he
   subst he
   refine .inl ⟨j9 _,_,rfl,Y0,?_⟩
   simp only [sB.1,seval,ht]
  | false=>
   simp only [sB.1,qlp,seval,ht,e0,e1,e5,e6,c1,hx,hy,qAv,hb,w] at he
   subst he
   rw [jN]
   refine ih (j + 1) _ zo ?_ ?_ ?_ ?_ ?_
   all_goals simp only [sB.1,seval,ht,e0,e1,e5]
theorem q45 (c:UInt8):((c.toNat:Int) == 45) = (c == 45):=qAv c 45
theorem q62 (c:UInt8):((c.toNat:Int) == 62) = (c == 62):=qAv c 62
theorem q60 (c:UInt8):((c.toNat:Int) == 60) = (c == 60):=qAv c 60
theorem q61 (c:UInt8):((c.toNat:Int) == 61) = (c == 61):=qAv c 61
theorem qCJ {s:Str} (hs:s.length <= 100000) {i:Nat} (hi:i < s.length):Wd (.fn 32 [] []) [.str s,.int .i64 (i:Nat)] h = some (.ret (.int .i64 (qcm (s.drop i):Nat)),h,false):=by
 have hx:=qbU hi
 have w:=qo (n:=i) zo
 have hd:=jU hi
 have tail:qd7 (s.drop i) = false->∀(tt:List qd),tt.length = 51->lkp tt 0 = .str s->lkp tt 1 = .int .i64 (i:Nat)->lkp tt 5 = .str qlD->lkp tt 6 = .int .i64 ((0:Nat):Int)->
   qbS [.tmp 4] h (qbr (qg h.length Wd (.seq (.reg [ao 4 (.asg (.c (.int .i64 0)))]) .ret)) (qbj 0 (qg h.length Wd (.loop qlp) ⟨tt,h,false⟩))) = some (.ret (.int .i64 (qcm (s.drop i):Nat)),h,false):=by
  intro h2 tt ht e0 e1 e5 e6
  rw [show qcm (s.drop i) = bif qlD.any (s[i] == ·) then 1 else 0 from by rw [hd] at h2 ⊢;exact qiy h2]
  rcases qwj (h:=h) (b:=h.length) hi 15 0 tt zo ht e0 e1 e5 e6 with ⟨q,U,r,I,e4⟩ | ⟨q,U,r,I⟩
  ·rw [List.drop_zero] at q
   rw [r]
   simp only [sB.1,seval,e4,q]
  ·rw [List.drop_zero] at q
   rw [r]
   simp only [sB.1,seval,I,q]
 rw [qu 32 c32]
 rcases Nat.lt_or_ge (i + 1) s.length with h1 | h1
 ·have c1:ilt ((i + 1:Nat):Int) (s.length:Int) = true:=by rw [qD];simp;omega
  have hy:qln (.str s) (.int .i64 (i + 1:Nat)) = some (.int .u8 (s[i + 1].toNat:Nat)):=qdp (jh h1)
  have E:s.drop i = s[i] :: s[i + 1] :: s.drop (i + 2):=by rw [hd,jU h1]
  cases a1:(s[i] == 45) with
  | true=>
   have a2:(s[i] == 60) = false:=by rw [beq_iff_eq] at a1;rw [a1];rfl
   cases a3:(s[i + 1] == 62) with
   | true=>
    have h2:qd7 (s.drop i) = true:=by rw [E,qd7,a1,a3];rfl
    simp only [sB.1,c32,seval,w,c1,hx,hy,q45,q62,a1,a3,qf9 h2]
   | false=>
    have h2:qd7 (s.drop i) = false:=by rw [E,qd7,a1,a2,a3];rfl
    generalize hR:qbS _ h _ = R
    simp only [sB.1,c32,seval,w,c1,hx,hy,q45,q62,q60,a1,a2,a3] at hR
    rw [<-hR]
    refine tail h2 _ ?_ ?_ ?_ ?_ ?_
    all_goals simp only [sB.1,seval]
    all_goals rfl
  | false=>
   cases a2:(s[i] == 60) with
   | true=>
    cases a4:(s[i + 1] == 61) with
    | true=>
     have h2:qd7 (s.drop i) = true:=by rw [E,qd7,a1,a2,a4];rfl
     simp only [sB.1,c32,seval,w,c1,hx,hy,q45,q60,q61,a1,a2,a4,qf9 h2]
    | false=>
     have h2:qd7 (s.drop i) = false:=by rw [E,qd7,a1,a2,a4];rfl
     generalize hR:qbS _ h _ = R
     simp only [sB.1,c32,seval,w,c1,hx,hy,q45,q60,q61,a1,a2,a4] at hR
     rw [<-hR]
     refine tail h2 _ ?_ ?_ ?_ ?_ ?_
     all_goals simp only [sB.1,seval]
     all_goals rfl
   | false=>
    have h2:qd7 (s.drop i) = false:=by rw [E,qd7,a1,a2];rfl
    generalize hR:qbS _ h _ = R
    simp only [sB.1,c32,seval,w,c1,hx,q45,q60,a1,a2] at hR
    rw [<-hR]
    refine tail h2 _ ?_ ?_ ?_ ?_ ?_
    all_goals simp only [sB.1,seval]
    all_goals rfl
 ·have c1:ilt ((i + 1:Nat):Int) (s.length:Int) = false:=by rw [qD];simp;omega
  have h2:qd7 (s.drop i) = false:=by rw [hd,List.drop_eq_nil_of_le h1];rfl
  generalize hR:qbS _ h _ = R
  simp only [sB.1,c32,seval,w,c1] at hR
  rw [<-hR]
  refine tail h2 _ ?_ ?_ ?_ ?_ ?_
  all_goals simp only [sB.1,seval]
  all_goals rfl
theorem qwN {b:Nat} (s:Str) (hs:s.length <= 100000) {xs:qd}:∀(k i:Nat) (tt:List qd),i + k = s.length->tt.length = 182->lkp tt 0 = .str s->lkp tt 5 = xs->lkp tt 6 = .int .i64 (i:Nat)->
  ∃E,qg b Wd (.loop qmH) ⟨tt,h,false⟩ = some (.exit 2,⟨E,h,false⟩)/\E.length = 182/\lkp E 0 = .str s/\lkp E 5 = xs/\lkp E 6 = .int .i64 (qaa nl s i:Nat):=by
 intro k
 induction k with
 | zero=>
  intro i tt hk ht e0 e5 e6
  have c1:ilt (i:Int) (s.length:Int) = false:=by rw [qD];simp;omega
  rw [qfi zo,qh]
  simp only [sB.1,qmH,seval,ht,e0,e6,c1]
  refine ⟨_,rfl,Y0,?_,?_,?_⟩
  all_goals simp only [sB.1,seval,e0,e5,e6]
 | succ k ih=>
  intro i tt hk ht e0 e5 e6
  have hi:i < s.length:=zo
  have c1:ilt (i:Int) (s.length:Int) = true:=by rw [qD];simp;omega
  have hx:=qbU hi
  have w:=qo (n:=i) zo
  rw [qh]
  generalize he:qg b Wd qmH _ = r
  cases hb:((s[i].toNat:Int) == 10) with
  | true=>
   rw [qem hi (by rw [nl,hb];rfl)]
   simp only [sB.1,qmH,seval,ht,e0,e6,c1,hx,hb] at he
   subst he
   refine ⟨_,qbi _ _ _,Y0,?_,?_,?_⟩
   all_goals simp only [sB.1,seval,e0,e5,e6]
  | false=>
   rw [qd2 hi (by rw [nl,hb];rfl)]
   simp only [sB.1,qmH,seval,ht,e0,e6,c1,hx,hb,w] at he
   subst he
   refine ih (i + 1) _ zo ?_ ?_ ?_ ?_
   all_goals simp only [sB.1,seval,ht,e0,e5]
theorem qnQ {b:Nat} (s:Str) (hs:s.length <= 100000) {xs v8 v9 I:qd}:∀(k i:Nat) (tt:List qd),i + k = s.length->tt.length = 182->lkp tt 0 = .str s->lkp tt 5 = xs->lkp tt 6 = .int .i64 (i:Nat)->lkp tt 8 = v8->lkp tt 9 = v9->lkp tt 10 = I->
  ∃E,qg b Wd (.loop qj9) ⟨tt,h,false⟩ = some (.exit 4,⟨E,h,false⟩)/\E.length = 182/\lkp E 0 = .str s/\lkp E 5 = xs/\lkp E 6 = .int .i64 (qaa qaF s i:Nat)/\lkp E 8 = v8/\lkp E 9 = v9/\lkp E 10 = I:=by
 intro k
 induction k with
 | zero=>
  intro i tt hk ht e0 e5 e6 e8 e9 e10
  have c1:ilt (i:Int) (s.length:Int) = false:=by rw [qD];simp;omega
  rw [qfi zo,qh]
  simp only [sB.1,qj9,seval,ht,e0,e6,c1]
  refine ⟨_,rfl,Y0,?_,?_,?_,?_,?_,?_⟩
  all_goals simp only [sB.1,seval,e0,e5,e6,e8,e9,e10]
 | succ k ih=>
  intro i tt hk ht e0 e5 e6 e8 e9 e10
  have hi:i < s.length:=zo
  have c1:ilt (i:Int) (s.length:Int) = true:=by rw [qD];simp;omega
  have hx:=qbU hi
  have w:=qo (n:=i) zo
  rw [qh]
  generalize he:qg b Wd qj9 _ = r
  cases hb:qba s[i] with
  | true=>
   rw [qd2 hi (by rw [qaF,hb];rfl)]
   simp only [sB.1,qj9,seval,ht,e0,e6,c1,hx,qdP,hb,w] at he
   subst he
   refine ih (i + 1) _ zo ?_ ?_ ?_ ?_ ?_ ?_ ?_
   all_goals simp only [sB.1,seval,ht,e0,e5,e8,e9,e10]
  | false=>
   cases hd:qaq s[i] with
   | true=>
    rw [qd2 hi (by rw [qaF,hb,hd];rfl)]
    simp only [sB.1,qj9,seval,ht,e0,e6,c1,hx,qdP,qfk,hb,hd,w] at he
    subst he
    refine ih (i + 1) _ zo ?_ ?_ ?_ ?_ ?_ ?_ ?_
    all_goals simp only [sB.1,seval,ht,e0,e5,e8,e9,e10]
   | false=>
    rw [qem hi (by rw [qaF,hb,hd];rfl)]
    simp only [sB.1,qj9,seval,ht,e0,e6,c1,hx,qdP,qfk,hb,hd] at he
    subst he
    refine ⟨_,qbi _ _ _,Y0,?_,?_,?_,?_,?_,?_⟩
    all_goals simp only [sB.1,seval,e0,e5,e6,e8,e9,e10]
def qAC (n:Nat) (lg:Bool) (v:Nat):Prop:=n <= qcP/\((lg = false/\n = v)\/(lg = true/\qcP < v))
theorem qmn {c:UInt8} (hd:qaq c = true):48 <= c.toNat/\c.toNat <= 57:=by
 simp only [qaq,qdF,Bool.and_eq_true,decide_eq_true_eq] at hd
 omega
theorem qve {b:Nat} (s:Str) (hs:s.length <= 100000) {xs v7 v8:qd}:∀(k i:Nat) (tt:List qd) (n:Nat) (lg:Bool) (v:Nat),i + k = s.length->tt.length = 182->lkp tt 0 = .str s->lkp tt 5 = xs->lkp tt 6 = .int .i64 (i:Nat)->lkp tt 7 = v7->lkp tt 8 = v8->lkp tt 11 = .int .i64 (n:Nat)->lkp tt 12 = .bool lg->qAC n lg v->
  ∃E n' Y,qg b Wd (.loop qi0) ⟨tt,h,false⟩ = some (.exit 6,⟨E,h,false⟩)/\E.length = 182/\lkp E 0 = .str s/\lkp E 5 = xs/\lkp E 6 = .int .i64 (qaa qaq s i:Nat)/\lkp E 7 = v7/\lkp E 8 = v8/\lkp E 11 = .int .i64 (n':Nat)/\lkp E 12 = .bool Y/\qAC n' Y (((s.drop i).takeWhile qaq).foldl (λa c=>a * 10 + (c.toNat - 48)) v):=by
 intro k
 induction k with
 | zero=>
  intro i tt n lg v hk ht e0 e5 e6 e7 e8 e11 U hr
  have c1:ilt (i:Int) (s.length:Int) = false:=by rw [qD];simp;omega
  rw [qfi zo,qh,List.drop_eq_nil_of_le zo]
  simp only [sB.1,qi0,seval,ht,e0,e6,c1]
  refine ⟨_,n,lg,rfl,Y0,?_,?_,?_,?_,?_,?_,?_,hr⟩
  all_goals simp only [sB.1,seval,e0,e5,e6,e7,e8,e11,U]
 | succ k ih=>
  intro i tt n lg v hk ht e0 e5 e6 e7 e8 e11 U hr
  have hi:i < s.length:=zo
  have c1:ilt (i:Int) (s.length:Int) = true:=by rw [qD];simp;omega
  have hx:=qbU hi
  have w:=qo (n:=i) zo
  rw [qh]
  generalize he:qg b Wd qi0 _ = r
  cases hd:qaq s[i] with
  | false=>
   rw [qem hi hd,jU hi,List.takeWhile_cons_of_neg (by simp [hd])]
   simp only [sB.1,qi0,seval,ht,e0,e6,c1,hx,qfk,hd] at he
   subst he
   refine ⟨_,n,lg,qbi _ _ _,Y0,?_,?_,?_,?_,?_,?_,?_,hr⟩
   all_goals simp only [sB.1,seval,e0,e5,e6,e7,e8,e11,U]
  | true=>
   obtain ⟨d1,d2⟩:=qmn hd
   have u1:IntKind.u8.wrap ((s[i].toNat:Int) - 48) = ((s[i].toNat - 48:Nat):Int):=by
    rw [IntKind.wrap_u8];omega
   have u2:IntKind.i64.wrap ((s[i].toNat - 48:Nat):Int) = ((s[i].toNat - 48:Nat):Int):=qcb zo zo
   rw [qd2 hi hd,jU hi,List.takeWhile_cons_of_pos hd,List.foldl_cons]
   obtain ⟨r1,r2⟩:=hr
   simp only [qcP] at r1 r2
   by_cases a1:922337203685477580 < n\/(n = 922337203685477580/\7 < s[i].toNat - 48)
   ·have I:qAC n true (v * 10 + (s[i].toNat - 48)):=by
     refine ⟨r1,.inr ⟨rfl,?_⟩⟩
     simp only [qcP]
     rcases r2 with ⟨r2,r3⟩ | ⟨r2,r3⟩ <;> omega
    rcases a1 with hb | ⟨hb,a6⟩
    ·have c2:ilt 922337203685477580 (n:Int) = true:=by rw [qD];simp;omega
     simp only [sB.1,qi0,seval,ht,e0,e6,e11,c1,hx,qfk,hd,u1,u2,c2,w] at he
     subst he
     refine ih (i + 1) _ n true _ zo ?_ ?_ ?_ ?_ ?_ ?_ ?_ ?_ I
     all_goals simp only [sB.1,seval,ht,e0,e5,e7,e8,e11]
    ·have c2:ilt 922337203685477580 (n:Int) = false:=by rw [qD];simp;omega
     have c3:((n:Int) == 922337203685477580) = true:=by rw [hb];rfl
     have c4:ilt 7 ((s[i].toNat - 48:Nat):Int) = true:=by rw [qD];simp;omega
     simp only [sB.1,qi0,seval,ht,e0,e6,e11,c1,hx,qfk,hd,u1,u2,c2,c3,c4,w] at he
     subst he
     refine ih (i + 1) _ n true _ zo ?_ ?_ ?_ ?_ ?_ ?_ ?_ ?_ I
     all_goals simp only [sB.1,seval,ht,e0,e5,e7,e8,e11]
   ·have c2:ilt 922337203685477580 (n:Int) = false:=by rw [qD];simp;omega
    have m1:IntKind.i64.wrap ((n:Int) * 10) = ((n * 10:Nat):Int):=by rw [qcb zo zo];omega
    have m2:IntKind.i64.wrap (((n * 10:Nat):Int) + ((s[i].toNat - 48:Nat):Int)) = ((n * 10 + (s[i].toNat - 48):Nat):Int):=by rw [qcb zo zo];omega
    have I:qAC (n * 10 + (s[i].toNat - 48)) lg (v * 10 + (s[i].toNat - 48)):=by
     refine ⟨by simp only [qcP];omega,?_⟩
     simp only [qcP]
     rcases r2 with ⟨r2,r3⟩ | ⟨r2,r3⟩
     ·exact .inl ⟨r2,zo⟩
     ·exact .inr ⟨r2,zo⟩
    cases c3:((n:Int) == 922337203685477580) with
    | true=>
     have hn:n = 922337203685477580:=by rw [beq_iff_eq] at c3;omega
     have c4:ilt 7 ((s[i].toNat - 48:Nat):Int) = false:=by rw [qD];simp;omega
     simp only [sB.1,qi0,seval,ht,e0,e6,e11,c1,hx,qfk,hd,u1,u2,c2,c3,c4,m1,m2,w] at he
     subst he
     refine ih (i + 1) _ _ lg _ zo ?_ ?_ ?_ ?_ ?_ ?_ ?_ ?_ I
     all_goals simp only [sB.1,seval,ht,e0,e5,e7,e8,U]
    | false=>
     simp only [sB.1,qi0,seval,ht,e0,e6,e11,c1,hx,qfk,hd,u1,u2,c2,c3,m1,m2,w] at he
     subst he
     refine ih (i + 1) _ _ lg _ zo ?_ ?_ ?_ ?_ ?_ ?_ ?_ ?_ I
     all_goals simp only [sB.1,seval,ht,e0,e5,e7,e8,U]
def qp2 (xs:List Tok):qha:=bif xs.isEmpty then .full else .own 4
theorem qeH {xs:List Tok} (h:1 <= xs.length):qp2 xs = .own 4:=by
 cases xs with
 | nil=>simp at h
 | cons=>rfl
theorem Tok.encI (t:Tok):t.enc = .agg [.int .i64 t.kind,.str t.s,.int .i64 t.n,.int .i64 t.pos]:=Eq.trans rfl rfl
theorem qdd {xs:List Tok} (hl:xs.length <= 100000) (k:Int) (w:Str) (n p:Int):qbE 4 (xs.map Tok.enc) [.agg [.int .i64 k,.str w,.int .i64 n,.int .i64 p]] = true:=
 qnu _ (qiN xs) (by simpa using hl) k w n p
structure qhN (s:Str) (xs:List Tok) (i:Nat) (tt:List qd):Prop where
 len:tt.length = 182
 e0:lkp tt 0 = .str s
 e5:lkp tt 5 = .lst (xs.map Tok.enc) (qp2 xs)
 e6:lkp tt 6 = .int .i64 (i:Nat)
def qx3 (s:Str) (xs:List Tok) (h:List qk) (R:Option (Go.AE.Ex×St)) (ts:List Tok):Option (Int×Int)->Prop
 | none=>∃ws tt,ts = ws ++ [⟨4,[],0,s.length⟩]/\R = some (.exit 0,⟨tt,h,false⟩)/\qhN s (xs ++ ws) s.length tt
 | some (p,e)=>∃tt,R = some (.ret,⟨tt,h,false⟩)/\tt.length = 182/\lkp tt 2 = .lst [] .full/\lkp tt 3 = .int .i64 p/\lkp tt 4 = .int .i64 e
end
section
variable {h:List qk}
theorem qhN.push {s:Str} {xs:List Tok} {t:Tok} {to:Nat} {tt:List qd} (ht:tt.length = 182) (e0:lkp tt 0 = .str s) (e5:lkp tt 5 = .lst (xs.map Tok.enc ++ [.agg [.int .i64 t.kind,.str t.s,.int .i64 t.n,.int .i64 t.pos]]) (.own 4)) (e6:lkp tt 6 = .int .i64 (to:Nat)):qhN s (xs ++ [t]) to tt:=
 ⟨ht,e0,by rw [qeH (by simp),jX];exact e5,e6⟩
theorem qAi {a b:Nat} (h1:b <= a) (h2:a <= 100000):IntKind.i64.wrap ((a:Int) - (b:Int)) = ((a - b:Nat):Int):=by rw [qcb zo zo];omega
theorem qzT {s:Str} (hs:s.length <= 16384) {xs:List Tok} (ab:xs.length <= 90000) {i:Nat} {tt:List qd} (hS:qhN s xs i tt) (hi:i < s.length) (hb:blank s[i] = false) (hh:sharp s[i] = false) (hl:qba s[i] = true) :
  ((lex s i).2.2 = 0/\∃E,qg h.length Wd (.loop qb2) ⟨tt,h,false⟩ = qg h.length Wd (.loop qb2) ⟨E,h,false⟩/\qhN s (xs ++ [(lex s i).1]) (lex s i).2.1 E)\/
  ((lex s i).2.2 ≠ 0/\∃E,qg h.length Wd (.loop qb2) ⟨tt,h,false⟩ = some (.ret,⟨E,h,false⟩)/\E.length = 182/\lkp E 2 = .lst [] .full/\lkp E 3 = .int .i64 (i:Nat)/\lkp E 4 = .int .i64 (lex s i).2.2):=by
 obtain ⟨ht,e0,e5,e6⟩:=hS
 simp only [blank,Bool.or_eq_false_iff] at hb
 rw [sharp] at hh
 have a7:=jh hi
 have c1:ilt (i:Int) (s.length:Int) = true:=by rw [qD];simp;omega
 have hx:=qbU hi
 have w:=qo (n:=i) zo
 rw [qh]
 generalize he:qg h.length Wd qb2 _ = R
 have n39:(s[i] == 39) = false:=by
  rw [beq_eq_false_iff_ne];intro h;rw [h,qgD] at hl;cases hl
 have aa:((i:Int) == (s.length:Int)) = false:=by simp;omega
 have Y:lex s i = if qaa qaF s i - i <= 16 then (⟨0,(s.drop i).take (qaa qaF s i - i),0,i⟩,qaa qaF s i,0) else (qfb i,i,9):=by
  simp only [lex,qaK,a7,hl,if_true]
 simp only [sB.1,qb2,seval,ht,e0,e6,c1,hx,hb.1.1,hb.1.2,hb.2,hh,qdP,hl,qrJ,n39,aa] at he
 generalize hr:qg h.length Wd (.loop qj9) _ = r at he
 obtain ⟨tq,rfl,ht,e0,e5,e6,e8,e9,e10⟩ :∃tq,r = some (.exit 4,⟨tq,h,false⟩)/\tq.length = 182/\lkp tq 0 = .str s/\lkp tq 5 = .lst (xs.map Tok.enc) (qp2 xs)/\lkp tq 6 = .int .i64 (qaa qaF s (i):Nat)/\lkp tq 8 = .int .i64 (i:Nat)/\lkp tq 9 = .int .i64 0/\lkp tq 10 = .int .i64 (i:Nat):=by
  rw [<-hr]
  refine qnQ s zo (s.length - (i)) (i) _ zo ?_ ?_ ?_ ?_ ?_ ?_ ?_
  all_goals simp only [sB.1,seval,ht,e0,e5,e6]
 have a1:=qcL qaF s (i)
 have a8:=qcr qaF s (i:=i) zo
 have ws:=qAi a1 zo
 have U:=qcM a1 a8
 by_cases a6:qaa qaF s (i) - (i) <= 16
 ·have c16:ilt 16 ((qaa qaF s (i) - (i):Nat):Int) = false:=by rw [qD];simp;omega
  have el:lex s i = (⟨0,(s.drop (i)).take (qaa qaF s (i) - (i)),0,i⟩,qaa qaF s (i),0):=by rw [Y,if_pos a6]
  rw [el]
  cases xs with
  | nil=>
   have e5:lkp tq 5 = .lst [] .full:=e5
   have I:∀(k:Int) (w:Str) (n p:Int),qbE 4 [] [.agg [.int .i64 k,.str w,.int .i64 n,.int .i64 p]] = true:=λk w n p=>qdd (xs:=[]) (by simp) k w n p
   simp only [sA.1,seval,ht,e0,e5,e6,qcu,qgF,I,e8,e9,e10,ws,c16,U] at he
   subst he
   refine .inl ⟨rfl,_,qaC _ _,qhN.push Y0 ?_ ?_ ?_⟩
   all_goals simp only [sB.1,seval,ht,e0,e6]
   all_goals rfl
  | cons x0 xr=>
   rw [qeH (by simp)] at e5
   have I:∀(k:Int) (w:Str) (n p:Int),qbE 4 ((x0 :: xr).map Tok.enc) [.agg [.int .i64 k,.str w,.int .i64 n,.int .i64 p]] = true:=λk w n p=>qdd zo k w n p
   generalize hL:(x0 :: xr).map Tok.enc = L at e5 I
   simp only [sA.1,seval,ht,e0,e5,e6,qcu,qgF,I,e8,e9,e10,ws,c16,U] at he
   subst he
   subst hL
   refine .inl ⟨rfl,_,qaC _ _,qhN.push Y0 ?_ ?_ ?_⟩
   all_goals simp only [sB.1,seval,ht,e0,e6]
   all_goals rfl
 ·have c16:ilt 16 ((qaa qaF s (i) - (i):Nat):Int) = true:=by rw [qD];simp;omega
  have el:lex s i = (qfb i,i,9):=by rw [Y,if_neg a6]
  rw [el]
  simp only [sB.1,seval,ht,e6,e8,e10,ws,c16] at he
  subst he
  refine .inr ⟨by simp,_,qat _ _,Y0,?_,?_,?_⟩
  all_goals simp only [sB.1,seval,ht]
theorem qCL {s:Str} (hs:s.length <= 16384) {xs:List Tok} (af:xs.length <= 90000) {i:Nat} {tt:List qd} (hS:qhN s xs i tt) (hi:i < s.length) (hb:blank s[i] = false) (hh:sharp s[i] = false) (hl:qba s[i] = false) (a1:(s[i] == 39) = true) :
  ((lex s i).2.2 = 0/\∃E,qg h.length Wd (.loop qb2) ⟨tt,h,false⟩ = qg h.length Wd (.loop qb2) ⟨E,h,false⟩/\qhN s (xs ++ [(lex s i).1]) (lex s i).2.1 E)\/
  ((lex s i).2.2 ≠ 0/\∃E,qg h.length Wd (.loop qb2) ⟨tt,h,false⟩ = some (.ret,⟨E,h,false⟩)/\E.length = 182/\lkp E 2 = .lst [] .full/\lkp E 3 = .int .i64 (i:Nat)/\lkp E 4 = .int .i64 (lex s i).2.2):=by
 obtain ⟨ht,e0,e5,e6⟩:=hS
 simp only [blank,Bool.or_eq_false_iff] at hb
 rw [sharp] at hh
 have ac:=jh hi
 have c1:ilt (i:Int) (s.length:Int) = true:=by rw [qD];simp;omega
 have hx:=qbU hi
 have w:=qo (n:=i) zo
 rw [qh]
 generalize he:qg h.length Wd qb2 _ = R
 have ae:(if qba 39 = true then qaK s 0 i i else qaK s 2 i (i + 1)) = qaK s 2 i (i + 1):=by rw [qgD];rfl
 have I:lex s i = qaK s 2 i (i + 1):=by simp only [lex,ac,jl,if_false,beq_iff_eq.1 a1,if_true,qgD]
 rcases Nat.lt_or_ge (i + 1) s.length with h1 | h1
 ·have a6:(((i + 1:Nat):Int) == (s.length:Int)) = false:=by simp;omega
  have hy:qln (.str s) (.int .i64 (i + 1:Nat)) = some (.int .u8 (s[i + 1].toNat:Nat)):=qdp (jh h1)
  cases U:qba s[i + 1] with
  | false=>
   have el:lex s i = (qfb i,i,5):=by rw [I];simp only [qaK,jh h1,U,jl,if_false]
   rw [el]
   simp only [sB.1,qb2,seval,ht,e0,e6,c1,hx,hb.1.1,hb.1.2,hb.2,hh,qdP,hl,qrJ,a1,w,a6,hy,U] at he
   subst he
   refine .inr ⟨by simp,_,qat _ _,Y0,?_,?_,?_⟩
   all_goals simp only [sB.1,seval,ht]
  | true=>
   have a8:lex s i = if qaa qaF s (i + 1) - (i + 1) <= 16 then (⟨2,(s.drop (i + 1)).take (qaa qaF s (i + 1) - (i + 1)),0,i⟩,qaa qaF s (i + 1),0) else (qfb i,i,9):=by
    rw [I];simp only [qaK,jh h1,U,if_true]
   simp only [sB.1,qb2,seval,ht,e0,e6,c1,hx,hb.1.1,hb.1.2,hb.2,hh,qdP,hl,qrJ,a1,w,a6,hy,U] at he
   generalize hr:qg h.length Wd (.loop qj9) _ = r at he
   obtain ⟨tq,rfl,ht,e0,e5,e6,e8,e9,e10⟩ :∃tq,r = some (.exit 4,⟨tq,h,false⟩)/\tq.length = 182/\lkp tq 0 = .str s/\lkp tq 5 = .lst (xs.map Tok.enc) (qp2 xs)/\lkp tq 6 = .int .i64 (qaa qaF s (i + 1):Nat)/\lkp tq 8 = .int .i64 (i:Nat)/\lkp tq 9 = .int .i64 2/\lkp tq 10 = .int .i64 (i + 1:Nat):=by
    rw [<-hr]
    refine qnQ s zo (s.length - (i + 1)) (i + 1) _ zo ?_ ?_ ?_ ?_ ?_ ?_ ?_
    all_goals simp only [sB.1,seval,ht,e0,e5]
   have aa:=qcL qaF s (i + 1)
   have ad:=qcr qaF s (i:=i + 1) zo
   have ws:=qAi aa zo
   have a7:=qcM aa ad
   by_cases ab:qaa qaF s (i + 1) - (i + 1) <= 16
   ·have c16:ilt 16 ((qaa qaF s (i + 1) - (i + 1):Nat):Int) = false:=by rw [qD];simp;omega
    have el:lex s i = (⟨2,(s.drop (i + 1)).take (qaa qaF s (i + 1) - (i + 1)),0,i⟩,qaa qaF s (i + 1),0):=by rw [a8,if_pos ab]
    rw [el]
    cases xs with
    | nil=>
     have e5:lkp tq 5 = .lst [] .full:=e5
     have Y:∀(k:Int) (w:Str) (n p:Int),qbE 4 [] [.agg [.int .i64 k,.str w,.int .i64 n,.int .i64 p]] = true:=λk w n p=>qdd (xs:=[]) (by simp) k w n p
     simp only [sA.1,seval,ht,e0,e5,e6,qcu,qgF,Y,e8,e9,e10,ws,c16,a7] at he
     subst he
     refine .inl ⟨rfl,_,qaC _ _,qhN.push Y0 ?_ ?_ ?_⟩
     all_goals simp only [sB.1,seval,ht,e0,e6]
     all_goals rfl
    | cons x0 xr=>
     rw [qeH (by simp)] at e5
     have Y:∀(k:Int) (w:Str) (n p:Int),qbE 4 ((x0 :: xr).map Tok.enc) [.agg [.int .i64 k,.str w,.int .i64 n,.int .i64 p]] = true:=λk w n p=>qdd zo k w n p
     generalize hL:(x0 :: xr).map Tok.enc = L at e5 Y
     simp only [sA.1,seval,ht,e0,e5,e6,qcu,qgF,Y,e8,e9,e10,ws,c16,a7] at he
     subst he
     subst hL
     refine .inl ⟨rfl,_,qaC _ _,qhN.push Y0 ?_ ?_ ?_⟩
     all_goals simp only [sB.1,seval,ht,e0,e6]
     all_goals rfl
   ·have c16:ilt 16 ((qaa qaF s (i + 1) - (i + 1):Nat):Int) = true:=by rw [qD];simp;omega
    have el:lex s i = (qfb i,i,9):=by rw [a8,if_neg ab]
    rw [el]
    simp only [sB.1,seval,ht,e6,e8,e10,ws,c16] at he
    subst he
    refine .inr ⟨by simp,_,qat _ _,Y0,?_,?_,?_⟩
    all_goals simp only [sB.1,seval,ht]
 ·have a6:(((i + 1:Nat):Int) == (s.length:Int)) = true:=by simp;omega
  have el:lex s i = (qfb i,i,5):=by rw [I];simp only [qaK,List.getElem?_eq_none h1]
  rw [el]
  simp only [sB.1,qb2,seval,ht,e0,e6,c1,hx,hb.1.1,hb.1.2,hb.2,hh,qdP,hl,qrJ,a1,w,a6] at he
  subst he
  refine .inr ⟨by simp,_,qat _ _,Y0,?_,?_,?_⟩
  all_goals simp only [sB.1,seval,ht]
theorem qCK {s:Str} (hs:s.length <= 16384) {xs:List Tok} (ab:xs.length <= 90000) {i:Nat} {tt:List qd} (hS:qhN s xs i tt) (hi:i < s.length) (hb:blank s[i] = false) (hh:sharp s[i] = false) (hl:qba s[i] = false) (a6:(s[i] == 39) = false) (hd:qaq s[i] = true) :
  ((lex s i).2.2 = 0/\∃U,qg h.length Wd (.loop qb2) ⟨tt,h,false⟩ = qg h.length Wd (.loop qb2) ⟨U,h,false⟩/\qhN s (xs ++ [(lex s i).1]) (lex s i).2.1 U)\/
  ((lex s i).2.2 ≠ 0/\∃U,qg h.length Wd (.loop qb2) ⟨tt,h,false⟩ = some (.ret,⟨U,h,false⟩)/\U.length = 182/\lkp U 2 = .lst [] .full/\lkp U 3 = .int .i64 (i:Nat)/\lkp U 4 = .int .i64 (lex s i).2.2):=by
 obtain ⟨ht,e0,e5,e6⟩:=hS
 simp only [blank,Bool.or_eq_false_iff] at hb
 rw [sharp] at hh
 have a8:=jh hi
 have c1:ilt (i:Int) (s.length:Int) = true:=by rw [qD];simp;omega
 have hx:=qbU hi
 have w:=qo (n:=i) zo
 rw [qh]
 generalize he:qg h.length Wd qb2 _ = R
 have n39:s[i] ≠ 39:=by simpa using a6
 have a1:lex s i = qei s i s[i]:=by simp only [lex,a8,hl,jl,if_false,n39,hd,if_true]
 simp only [sB.1,qb2,seval,ht,e0,e6,c1,hx,hb.1.1,hb.1.2,hb.2,hh,qdP,qfk,hl,qrJ,a6,hd] at he
 generalize hr:qg h.length Wd (.loop qi0) _ = r at he
 obtain ⟨tq,n,lg,rfl,ht,e0,e5,e6,e7,e8,e11,Y,hR⟩ :∃tq n lg,r = some (.exit 6,⟨tq,h,false⟩)/\tq.length = 182/\lkp tq 0 = .str s/\lkp tq 5 = .lst (xs.map Tok.enc) (qp2 xs)/\lkp tq 6 = .int .i64 (qaa qaq s i:Nat)/\lkp tq 7 = .int .u8 (s[i].toNat:Nat)/\lkp tq 8 = .int .i64 (i:Nat)/\lkp tq 11 = .int .i64 (n:Nat)/\lkp tq 12 = .bool lg/\qAC n lg (qfO (qcp s i)):=by
  rw [<-hr,qcp,qdO]
  refine qve s zo (s.length - i) i _ 0 false 0 zo ?_ ?_ ?_ ?_ ?_ ?_ ?_ ?_ ⟨by simp [qcP],.inl ⟨rfl,rfl⟩⟩
  all_goals simp only [sB.1,seval,ht,e0,e5,e6,jR]
 have aa:=qcL qaq s i
 have ac:=qcr qaq s (Nat.le_of_lt hi)
 have ws:=qAi aa zo
 obtain ⟨hn,hR⟩:=hR
 by_cases q0:s[i] = 48/\1 < qaa qaq s i - i
 ·have c2:ilt 1 ((qaa qaq s i - i:Nat):Int) = true:=by rw [qD];simp;omega
  have E:(s[i] == 48) = true:=by simpa using q0.1
  have el:lex s i = (qfb i,i,6):=by rw [a1,qei,if_pos q0]
  rw [el]
  have ad:=e5
  simp only [sB.1,seval,ht,e6,e7,e8,qqj,ws,E,c2] at he
  subst he
  refine .inr ⟨by simp,_,qat _ _,Y0,?_,?_,?_⟩
  all_goals simp only [sB.1,seval,ht]
 ·have hq:(s[i] == 48) = false\/((s[i] == 48) = true/\ilt 1 ((qaa qaq s i - i:Nat):Int) = false):=by
   cases E:(s[i] == 48) with
   | false=>exact .inl rfl
   | true=>
    refine .inr ⟨rfl,?_⟩
    have a7:s[i] = 48:=by simpa using E
    have:¬ 1 < qaa qaq s i - i:=λh=>q0 ⟨a7,h⟩
    rw [qD];simp;omega
  rcases hR with ⟨rfl,hv⟩ | ⟨rfl,hv⟩
  ·have el:lex s i = (⟨1,[],(n:Nat),i⟩,qaa qaq s i,0):=by rw [a1,qei,if_neg q0,if_pos zo,<-hv]
   rw [el]
   rcases hq with E | ⟨E,c2⟩
   ·skip
    cases xs with
    | nil=>
     have e5:lkp tq 5 = .lst [] .full:=e5
     have I:∀(k:Int) (w:Str) (n p:Int),qbE 4 [] [.agg [.int .i64 k,.str w,.int .i64 n,.int .i64 p]] = true:=λk w n p=>qdd (xs:=[]) (by simp) k w n p
     simp only [sA.1,seval,ht,e5,e6,qgF,I,e7,e8,e11,Y,qqj,E] at he
     subst he
     refine .inl ⟨rfl,_,qaC _ _,qhN.push Y0 ?_ ?_ ?_⟩
     all_goals simp only [sB.1,seval,ht,e0,e6]
     all_goals rfl
    | cons x0 xr=>
     rw [qeH (by simp)] at e5
     have I:∀(k:Int) (w:Str) (n p:Int),qbE 4 ((x0 :: xr).map Tok.enc) [.agg [.int .i64 k,.str w,.int .i64 n,.int .i64 p]] = true:=λk w n p=>qdd zo k w n p
     generalize hL:(x0 :: xr).map Tok.enc = L at e5 I
     simp only [sA.1,seval,ht,e5,e6,qgF,I,e7,e8,e11,Y,qqj,E] at he
     subst he
     subst hL
     refine .inl ⟨rfl,_,qaC _ _,qhN.push Y0 ?_ ?_ ?_⟩
     all_goals simp only [sB.1,seval,ht,e0,e6]
     all_goals rfl
   ·skip
    cases xs with
    | nil=>
     have e5:lkp tq 5 = .lst [] .full:=e5
     have I:∀(k:Int) (w:Str) (n p:Int),qbE 4 [] [.agg [.int .i64 k,.str w,.int .i64 n,.int .i64 p]] = true:=λk w n p=>qdd (xs:=[]) (by simp) k w n p
     simp only [sA.1,seval,ht,e5,e6,qgF,I,e7,e8,e11,Y,qqj,ws,E,c2] at he
     subst he
     refine .inl ⟨rfl,_,qaC _ _,qhN.push Y0 ?_ ?_ ?_⟩
     all_goals simp only [sB.1,seval,ht,e0,e6]
     all_goals rfl
    | cons x0 xr=>
     rw [qeH (by simp)] at e5
     have I:∀(k:Int) (w:Str) (n p:Int),qbE 4 ((x0 :: xr).map Tok.enc) [.agg [.int .i64 k,.str w,.int .i64 n,.int .i64 p]] = true:=λk w n p=>qdd zo k w n p
     generalize hL:(x0 :: xr).map Tok.enc = L at e5 I
     simp only [sA.1,seval,ht,e5,e6,qgF,I,e7,e8,e11,Y,qqj,ws,E,c2] at he
     subst he
     subst hL
     refine .inl ⟨rfl,_,qaC _ _,qhN.push Y0 ?_ ?_ ?_⟩
     all_goals simp only [sB.1,seval,ht,e0,e6]
     all_goals rfl
  ·have el:lex s i = (qfb i,i,2):=by rw [a1,qei,if_neg q0,if_neg zo]
   rw [el]
   rcases hq with E | ⟨E,c2⟩
   ·simp only [sB.1,seval,ht,e6,e7,e8,Y,qqj,E] at he
    subst he
    refine .inr ⟨by simp,_,qat _ _,Y0,?_,?_,?_⟩
    all_goals simp only [sB.1,seval,ht]
   ·simp only [sB.1,seval,ht,e6,e7,e8,Y,qqj,ws,E,c2] at he
    subst he
    refine .inr ⟨by simp,_,qat _ _,Y0,?_,?_,?_⟩
    all_goals simp only [sB.1,seval,ht]
theorem qzS {s:Str} (hs:s.length <= 16384) {xs:List Tok} (a8:xs.length <= 90000) {i:Nat} {tt:List qd} (hS:qhN s xs i tt) (hi:i < s.length) (hb:blank s[i] = false) (hh:sharp s[i] = false) (hl:qba s[i] = false) (Y:(s[i] == 39) = false) (hd:qaq s[i] = false) :
  ((lex s i).2.2 = 0/\∃E,qg h.length Wd (.loop qb2) ⟨tt,h,false⟩ = qg h.length Wd (.loop qb2) ⟨E,h,false⟩/\qhN s (xs ++ [(lex s i).1]) (lex s i).2.1 E)\/
  ((lex s i).2.2 ≠ 0/\∃E,qg h.length Wd (.loop qb2) ⟨tt,h,false⟩ = some (.ret,⟨E,h,false⟩)/\E.length = 182/\lkp E 2 = .lst [] .full/\lkp E 3 = .int .i64 (i:Nat)/\lkp E 4 = .int .i64 (lex s i).2.2):=by
 obtain ⟨ht,e0,e5,e6⟩:=hS
 simp only [blank,Bool.or_eq_false_iff] at hb
 rw [sharp] at hh
 have a7:=jh hi
 have c1:ilt (i:Int) (s.length:Int) = true:=by rw [qD];simp;omega
 have hx:=qbU hi
 have w:=qo (n:=i) zo
 rw [qh]
 generalize he:qg h.length Wd qb2 _ = R
 have n39:s[i] ≠ 39:=by simpa using Y
 have a1:lex s i = qe5 s i (qdK (s.drop i)):=by simp only [lex,a7,hl,jl,if_false,n39,hd]
 have hm:=qCJ (h:=h) (s:=s) zo hi
 rcases qv6 (r:=s.drop i) (by intro h;have:=congrArg List.length h;simp at this;omega) with ⟨m1,m2⟩ | ⟨m1,m2,m3⟩
 ·have el:lex s i = (qfb i,i,5):=by rw [a1,m1];rfl
  rw [m2] at hm
  have z0:(((0:Nat):Int) == 0) = true:=by rfl
  rw [el]
  simp only [sB.1,qb2,seval,ht,e0,e6,c1,hx,hb.1.1,hb.1.2,hb.2,hh,qdP,qfk,hl,qrJ,Y,hd,hm,z0] at he
  subst he
  refine .inr ⟨by simp,_,qat _ _,Y0,?_,?_,?_⟩
  all_goals simp only [sB.1,seval,ht]
 ·have a6:((s.drop i).take (qcm (s.drop i))).length = qcm (s.drop i):=by rw [List.length_take];omega
  have el:lex s i = (⟨3,(s.drop i).take (qcm (s.drop i)),0,i⟩,i + qcm (s.drop i),0):=by rw [a1,m1,qe5,a6]
  rw [List.length_drop] at m3
  generalize qcm (s.drop i) = k at *
  have z0:((k:Int) == 0) = false:=by simp;omega
  have wk:IntKind.i64.wrap ((i:Int) + (k:Int)) = ((i + k:Nat):Int):=by rw [qcb zo zo];omega
  have I:=qcM (s:=s) (n:=i) (m:=i + k) zo zo
  rw [show i + k - i = k by omega] at I
  rw [el]
  cases xs with
  | nil=>
   have e5:lkp tt 5 = .lst [] .full:=e5
   have U:∀(k:Int) (w:Str) (n p:Int),qbE 4 [] [.agg [.int .i64 k,.str w,.int .i64 n,.int .i64 p]] = true:=λk w n p=>qdd (xs:=[]) (by simp) k w n p
   simp only [sA.1,qb2,seval,ht,e0,e6,c1,hx,hb.1.1,hb.1.2,hb.2,hh,qdP,qfk,hl,qrJ,Y,hd,hm,z0,wk,e5,qcu,I,qgF,U] at he
   subst he
   refine .inl ⟨rfl,_,qaC _ _,qhN.push Y0 ?_ ?_ ?_⟩
   all_goals simp only [sB.1,seval,ht,e0]
   all_goals rfl
  | cons x0 xr=>
   rw [qeH (by simp)] at e5
   have U:∀(k:Int) (w:Str) (n p:Int),qbE 4 ((x0 :: xr).map Tok.enc) [.agg [.int .i64 k,.str w,.int .i64 n,.int .i64 p]] = true:=λk w n p=>qdd zo k w n p
   generalize hL:(x0 :: xr).map Tok.enc = L at e5 U
   simp only [sA.1,qb2,seval,ht,e0,e6,c1,hx,hb.1.1,hb.1.2,hb.2,hh,qdP,qfk,hl,qrJ,Y,hd,hm,z0,wk,e5,qcu,I,qgF,U] at he
   subst he
   subst hL
   refine .inl ⟨rfl,_,qaC _ _,qhN.push Y0 ?_ ?_ ?_⟩
   all_goals simp only [sB.1,seval,ht,e0]
   all_goals rfl
theorem qt6 {s:Str} (hs:s.length <= 16384) {xs:List Tok} (I:xs.length <= 90000) {i:Nat} {tt:List qd} (hS:qhN s xs i tt) (hi:i < s.length) (hb:blank s[i] = false) (hh:sharp s[i] = false) :
  ((lex s i).2.2 = 0/\∃E,qg h.length Wd (.loop qb2) ⟨tt,h,false⟩ = qg h.length Wd (.loop qb2) ⟨E,h,false⟩/\qhN s (xs ++ [(lex s i).1]) (lex s i).2.1 E)\/
  ((lex s i).2.2 ≠ 0/\∃E,qg h.length Wd (.loop qb2) ⟨tt,h,false⟩ = some (.ret,⟨E,h,false⟩)/\E.length = 182/\lkp E 2 = .lst [] .full/\lkp E 3 = .int .i64 (i:Nat)/\lkp E 4 = .int .i64 (lex s i).2.2):=by
 cases hl:qba s[i] with
 | true=>exact qzT hs I hS hi hb hh hl
 | false=>
  cases U:(s[i] == 39) with
  | true=>exact qCL hs I hS hi hb hh hl U
  | false=>
   cases hd:qaq s[i] with
   | true=>exact qCK hs I hS hi hb hh hl U hd
   | false=>exact qzS hs I hS hi hb hh hl U hd
end
section
variable {h:List qk}
theorem qt5 {s:Str} (hs:s.length <= 16384) {i:Nat} {ts:List Tok} {o:Option (Int×Int)} (hW:RW s i ts o):∀(xs:List Tok) (tt:List qd),xs.length + ts.length <= 50000->qhN s xs i tt->qx3 s xs h (qg h.length Wd (.loop qb2) ⟨tt,h,false⟩) ts o:=by
 induction hW with
 | fin=>
  rintro xs tt hl ⟨ht,e0,e5,e6⟩
  have c1:ilt (s.length:Int) (s.length:Int) = false:=by rw [qD];simp
  rw [qh]
  generalize he:qg h.length Wd qb2 _ = R
  simp only [sB.1,qb2,seval,ht,e0,e6,c1] at he
  subst he
  refine ⟨[],_,rfl,qbi _ _ _,?_,?_,?_,?_⟩
  ·simp only [qe4,ht]
  ·simp only [sB.1,seval,e0]
  ·rw [List.append_nil];simp only [sB.1,seval,e5]
  ·simp only [sB.1,seval,e6]
 | @blank i ts o hi hb _ ih=>
  rintro xs tt hl ⟨ht,e0,e5,e6⟩
  have c1:ilt (i:Int) (s.length:Int) = true:=by rw [qD];simp;omega
  have hx:=qbU hi
  have w:=qo (n:=i) zo
  rw [AE.blank] at hb
  rw [qh]
  generalize he:qg h.length Wd qb2 _ = R
  simp only [sB.1,qb2,seval,ht,e0,e6,c1,hx,w,hb] at he
  subst he
  rw [qaC]
  refine ih xs _ hl ⟨?_,?_,?_,?_⟩
  ·simp only [qe4,ht]
  all_goals simp only [sB.1,seval,ht,e0,e5]
 | @sharp i ts o hi hb hh _ ih=>
  rintro xs tt hl ⟨ht,e0,e5,e6⟩
  have c1:ilt (i:Int) (s.length:Int) = true:=by rw [qD];simp;omega
  have hx:=qbU hi
  rw [AE.blank] at hb
  rw [AE.sharp] at hh
  rw [qh]
  generalize he:qg h.length Wd qb2 _ = R
  simp only [sB.1,qb2,seval,ht,e0,e6,c1,hx,hb,hh] at he
  generalize hr:qg h.length Wd (.loop qmH) _ = r at he
  obtain ⟨tq,rfl,ht,e0,e5,e6⟩ :∃tq,r = some (.exit 2,⟨tq,h,false⟩)/\tq.length = 182/\lkp tq 0 = .str s/\lkp tq 5 = .lst (xs.map Tok.enc) (qp2 xs)/\lkp tq 6 = .int .i64 (qaa nl s i:Nat):=by
   rw [<-hr]
   refine qwN s zo (s.length - i) i _ zo ?_ ?_ ?_ ?_
   all_goals simp only [sB.1,seval,ht,e0,e5,e6]
  simp only [sB.1,seval] at he
  subst he
  rw [qaC]
  exact ih xs _ hl ⟨ht,e0,e5,e6⟩
 | @word i ts o hi hb hh h0 _ ih=>
  intro xs tt hl hS
  simp only [List.length_cons] at hl
  rcases qt6 (h:=h) hs zo hS hi hb hh with ⟨_,E,r,I⟩ | ⟨q,_⟩
  ·rw [r]
   have:=ih (xs ++ [(lex s i).1]) E (by simp;omega) I
   cases o with
   | none=>
    obtain ⟨ws,t2,g1,g2,g3⟩:=this
    exact ⟨_ :: ws,t2,by rw [g1];rfl,g2,by rw [List.append_assoc] at g3;exact g3⟩
   | some pe=>exact this
  ·exact absurd h0 q
 | @err i hi hb hh h0=>
  intro xs tt hl hS
  simp only [jz] at hl
  rcases qt6 (h:=h) hs zo hS hi hb hh with ⟨q,_⟩ | ⟨_,E,r,g1,g2,g3,g4⟩
  ·exact absurd q h0
  ·exact ⟨E,r,g1,g2,g3,g4⟩
theorem qt2 {s:Str} (hs:s.length <= 16384) {ts:List Tok} (hW:RW s 0 ts none):Wd (.fn 11 [] []) [.str s] h = some (.ret (.tup [.lst (ts.map Tok.enc) .no,.int .i64 0,.int .i64 0]),h,false):=by
 have U:=hW.le
 have c1:ilt 16384 (s.length:Int) = false:=by rw [qD];simp;omega
 rw [qu 11 c11]
 generalize hR:qbS _ h _ = R
 simp only [sB.1,c11,seval,c1] at hR
 generalize hr:qg h.length Wd (.loop qb2) _ = r at hR
 obtain ⟨ws,tt,rfl,rfl,ht,e0,e5,e6⟩ :qx3 s [] h r ts none:=by
  rw [<-hr]
  refine qt5 hs hW [] _ (by simp;omega) ⟨?_,?_,?_,?_⟩
  all_goals simp only [sB.1,seval,jR]
  rfl
 rw [List.nil_append] at e5
 have hl:ws.length <= 90000:=by have:=U.2.1;simp at this;omega
 have E:=qdR h.length (ws ++ [⟨4,[],0,s.length⟩])
 rw [<-hR]
 cases ws with
 | nil=>
  have e5:lkp tt 5 = .lst [] .full:=e5
  have I:∀(k:Int) (w:Str) (n p:Int),qbE 4 [] [.agg [.int .i64 k,.str w,.int .i64 n,.int .i64 p]] = true:=λk w n p=>qdd (xs:=[]) (by simp) k w n p
  simp only [sA.1,seval,ht,e0,e5,qgF,I,Tok.encI]
 | cons x0 xr=>
  rw [qeH (by simp)] at e5
  have I:∀(k:Int) (w:Str) (n p:Int),qbE 4 ((x0 :: xr).map Tok.enc) [.agg [.int .i64 k,.str w,.int .i64 n,.int .i64 p]] = true:=λk w n p=>qdd zo k w n p
  rw [jX]
  have E:∀n m k,qj h.length ((x0 :: xr).map Tok.enc ++ [.agg [.int .i64 k,.str [],.int .i64 n,.int .i64 m]]) = true:=λn m k=>qhe _ _ _ (qdR _ _) rfl
  generalize (x0 :: xr).map Tok.enc = L at e5 I E ⊢
  simp only [sA.1,seval,ht,e0,e5,qgF,I,Tok.encI,E]
theorem qt1 {s:Str} (hs:s.length <= 16384) {ts:List Tok} {p e:Int} (hW:RW s 0 ts (some (p,e))):Wd (.fn 11 [] []) [.str s] h = some (.ret (.tup [.lst [] .full,.int .i64 p,.int .i64 e]),h,false):=by
 have E:=hW.le
 have c1:ilt 16384 (s.length:Int) = false:=by rw [qD];simp;omega
 rw [qu 11 c11]
 generalize hR:qbS _ h _ = R
 simp only [sB.1,c11,seval,c1] at hR
 generalize hr:qg h.length Wd (.loop qb2) _ = r at hR
 obtain ⟨tt,rfl,ht,e2,e3,e4⟩ :qx3 s [] h r ts (some (p,e)):=by
  rw [<-hr]
  refine qt5 hs hW [] _ (by simp;omega) ⟨?_,?_,?_,?_⟩
  all_goals simp only [sB.1,seval,jR]
  rfl
 rw [<-hR]
 simp only [sB.1,seval,e2,e3,e4]
end
structure qhF where
 models:List qab
 root:Str
def qhF.enc (φ:Int->Nat->Bool) (x:qhF):qd:=.agg [lV (x.models.map (qab.enc φ)),.str x.root]
def qhF.good (x:qhF):Prop:=x.models.length <= 24/\∀m ∈ x.models,m.good
section
variable {ws:List Tok}
abbrev qAA (ws:List Tok):=qqe ws (qbC ws) 13 0 (qab.enc φR) qab.good
def ErM (ws:List Tok) (m:Nat) (p e:Int):Prop:=(Flt ws p e/\(e == 0) = false)/\∃(v:qd) (j:Int),Shp 14 v/\RY ws 13 m [] v j p e
theorem qcF (hw:WF ws) {n:Nat} {h:List qk} {i b:Nat} (hn:n < ws.length) (hb:h[b]? = some (.cells [.ptr i 0])) (hi:h[i]? = some (PB ws n)):Wd (.fn 22 [] [.ptr b 0]) [] h = some (.ret (.bool (qbC ws n)),h,false):=by
 rw [qu 22 c22]
 cases a1:isW ws n [97,116,111,109,105,99] <;> cases a2:isW ws n [99,111,117,112,108,101,100] <;> simp only [sB.1,c22,seval,hb,qcJ hw hn hi,a1,a2,qbC]
abbrev qB8 (i b:Nat):List qd:=[.ptr i 0,.int .i64 24,.fn 22 [] [.ptr b 0],.fn 26 [.ptr i 0] []]
theorem qmW (hw:WF ws) (hk:KOK ws) {n:Nat} (hn:n < ws.length) :
  (∃(ds:List qab) (m:Nat),n <= m/\m < ws.length/\ds.length <= 24/\Ch (qAA ws) n ds m/\qbC ws m = false/\(qbC ws n = true->ds ≠ [])/\∀(h:List qk) (i b:Nat),h[b]? = some (.cells [.ptr i 0])->i ≠ b->h[i]? = some (PB ws n)->Wd (.fn 25 [] []) (qB8 i b) h = some (.ret (lV (ds.map (qab.enc φP))),h.set i (PB ws m),false))\/
  ∃(p e:Int) (n':Nat) (ds:List qab) (m:Nat),n' < ws.length/\Flt ws p e/\(e == 0) = false/\m < ws.length/\ds.length <= 24/\Ch (qAA ws) n ds m/\qbC ws m = true/\((ds.length = 24/\p = (word ws m).pos/\e = 8)\/(ds.length < 24/\ErM ws m p e))/\∀(h:List qk) (i b:Nat),h[b]? = some (.cells [.ptr i 0])->i ≠ b->h[i]? = some (PB ws n)->Wd (.fn 25 [] []) (qB8 i b) h = some (.pan (qbK p e),h.set i (PB ws n'),false):=by
 obtain ⟨o,ho⟩:=qkd (ι:=Nat×Nat) (i:=λc=>c.1) (k:=14) (most:=24) (F:=25) (z:=[.str [],.bool false,.lst [] .full,.lst [] .full,.lst [] .full,.lst [] .full,.lst [] .full,.lst [] .full,.lst [] .full,.int .i64 0,.lst [] .full,.lst [] .full,.lst [] .full,.lst [] .full])
  (fb:=22) (fa:=λ_=>[]) (fc:=λc=>[.ptr c.2 0]) (oa:=26) (ob:=λc=>[.ptr c.1 0]) (oc:=λ_=>[]) (beg:=qbC ws) (J:=λc h=>h[c.2]? = some (.cells [.ptr c.1 0])/\c.1 ≠ c.2) (One:=λn v m=>∃d,v = qab.enc φP d/\qAA ws n d m) (Er:=ErM ws)
  hw rfl zk (by decide) rfl (by decide) (by decide) (λc h m hj=>⟨by rw [List.getElem?_set_ne hj.2];exact hj.1,hj.2⟩) (λm c h hm hj hi=>qcF hw hm hj.1 hi) (λm hm I=>by
   rcases qzl hw hk hm I with ⟨d,k,h1,h2,h3,h4,h5⟩ | ⟨p,e,k,j,v,h1,h2,h3,h4,h5,h6⟩
   ·exact ⟨.ok (_,k),h1,h2,⟨d,rfl,I,h1,h2,h3,h5⟩,qe9 φP d,λc h _ hi=>by rw [qep];exact h4 h c.1 hi⟩
   ·exact ⟨.error (p,e),⟨⟨h2,h3⟩,v,j,h4,h6⟩,k,h1,λc h _ hi=>by rw [qep];exact h5 h c.1 hi⟩) hn
 rcases o with ⟨p,e⟩ | ⟨vs,m⟩
 ·obtain ⟨⟨us,m,h1,h2,h3,h4⟩,n',h5,h6⟩:=ho
  obtain ⟨ds,rfl,hc⟩:=h1.data
  simp only [jQ,Nat.zero_add] at h4
  have hf:Flt ws p e/\(e == 0) = false:=by
   rcases h4 with ⟨_,rfl,rfl⟩ | ⟨_,h⟩
   ·exact ⟨⟨⟨m,h2,rfl⟩,by decide⟩,rfl⟩
   ·exact h.1
  exact .inr ⟨p,e,n',ds,m,h5,hf.1,hf.2,h2,zo,hc,h3,h4,λh i b hb E hi=>h6 (i,b) h ⟨hb,E⟩ hi⟩
 ·obtain ⟨h1,h2,h3,⟨h4,U⟩,h5,h6,h7,h8⟩:=ho
  obtain ⟨ds,rfl,hc⟩:=h4.data
  simp only [jQ] at h3
  exact .inl ⟨ds,m,h1,h2,h3,hc,h5,λhb hd=>h7 hb (by rw [hd];rfl),λh i b hb E hi=>h8 (i,b) h ⟨hb,E⟩ hi⟩
theorem qbZ (φ:Int->Nat->Bool) (k:Nat) (ds:List qab):qj k (ds.map (qab.enc φ)) = true:=qI (qad (qe9 φ) ds) k
abbrev zP:List qd:=[.lst [] .full,.str []]
structure DS (ws:List Tok) (h:List qk) (n:Nat) (xs tt:List qd) (H:List qk):Prop where
 len:tt.length = 125
 e2:lkp tt 2 = .ptr h.length 0
 e3:lkp tt 3 = .ptr (h.length + 1) 0
 e4:lkp tt 4 = .ptr (h.length + 2) 0
 e8:lkp tt 8 = Wv ws
 e9:lkp tt 9 = .ptr (h.length + 3) 0
 e10:lkp tt 10 = .int .i64 (n:Nat)
 b2:H[h.length]? = some (.cells zP)
 b3:H[h.length + 1]? = some zz
 b4:H[h.length + 2]? = some (.cells zP)
 b9:H[h.length + 3]? = some (.cells [.lst xs (ofl 14 xs),.str []])
 tk:H.take h.length = h
theorem qgj {n:Nat} (hn:n < ws.length) (hk:KOK ws) {b:Bool} (hb:qbC ws n = b):∃x y:Bool,(x || y) = b/\(∀h,Wd (.fn 12 [] []) [Wv ws,.int .i64 (n:Nat),.str [97,116,111,109,105,99]] h = some (.ret (.bool x),h,false))/\∀h,Wd (.fn 12 [] []) [Wv ws,.int .i64 (n:Nat),.str [99,111,117,112,108,101,100]] h = some (.ret (.bool y),h,false):=
 ⟨_,_,hb,λh=>qaO hn hk zk h,λh=>qaO hn hk zk h⟩
theorem qiz {h:List qk} {n m:Nat} {d:qab} {xs tt:List qd} {H:List qk} (hk:KOK ws) (h1:qAA ws n d m) (hl:xs.length < 24) (hx:∀u ∈ xs,Shp 14 u) (S:DS ws h n xs tt H) :
  ∃E H',qg h.length Wd qmQ ⟨tt,H,false⟩ = some (.nor,⟨E,H',false⟩)/\DS ws h m (xs ++ [d.enc φR]) E H':=by
 obtain ⟨hb,a6,hm,_,hr⟩:=h1
 rw [Nat.add_zero] at hr
 have hv:=qe9 φR d
 have a1:=qiW hv hx zo
 have c10:((xs.length:Int) == 24) = false:=qdH hl
 generalize d.enc φR = v at *
 obtain ⟨cs,rfl,s1,s2,s3,s4⟩:=hv
 obtain ⟨ht,e2,e3,e4,e8,e9,e10,b2,b3,b4,b9,tk⟩:=S
 have l2:=qc b2
 have l3:=qc b3
 have l4:=qc b4
 have l9:=qc b9
 have n3:∀k,Nat.ble h.length (h.length + k) = true:=λk=>qE zo
 have hc:Go.AE.cut cs 0 (some 14) = some (.agg cs):=by rw [qcI zo,List.drop_zero,List.take_of_length_le zo,s4]
 have U:=qbb (z:=[.str [],.bool false,.lst [] .full,.lst [] .full,.lst [] .full,.lst [] .full,.lst [] .full,.lst [] .full,.lst [] .full,.int .i64 0,.lst [] .full,.lst [] .full,.lst [] .full,.lst [] .full]) (k:=14) rfl zo s1 s2 zo
 have Y:n < ws.length:=zo
 generalize he:qg h.length Wd qmQ _ = R
 obtain ⟨x,y,xy,r0,r1⟩:=qgj Y hk hb
 by_cases I:xs = []
 all_goals
  first
  | (subst I;simp only [qgL] at b9;simp only [jz] at c10)
  | simp only [qhk I] at b9
  cases x <;> cases y <;> first
  | (cases xy;done)
  | (simp only [sA.1,qmQ,seval,ht,e2,e3,e4,e8,e9,e10,b2,b3,b4,b9,l2,l3,l4,l9,n3,qiL,r0,r1,hr,c10,s1,s2,s3,s4,hc,U,a1] at he
     subst he
     refine ⟨_,_,rfl,?_⟩
     exact ⟨Y0,Y2,y7,y9,y5,z8,Y4,qL (qf b2 zo _) _,qL (qf b3 zo _) _,qL (qf b4 zo _) _,qL (by rw [qkm];exact qU b9 _) _,qaz (qz tk zo _) (by simp;omega) _⟩)
theorem qtd {h:List qk} {n:Nat} {v:qd} {j p e:Int} {xs tt:List qd} {H:List qk} (hk:KOK ws) (hb:qbC ws n = true) (E:n < ws.length) (I:(e == 0) = false) (hv:Shp 14 v) (hr:RY ws 13 n [] v j p e) (hl:xs.length < 24) (S:DS ws h n xs tt H) :
  ∃s,qg h.length Wd qmQ ⟨tt,H,false⟩ = some (.ret,s)/\qbS c6.results h (some (.ret,s)) = some (.ret (.tup [.agg zP,.agg [.int .i64 p,.int .i64 e]]),h,false):=by
 have c10:((xs.length:Int) == 24) = false:=qdH hl
 obtain ⟨cs,rfl,s1,s2,s3,s4⟩:=hv
 obtain ⟨ht,e2,e3,e4,e8,e9,e10,b2,b3,b4,b9,tk⟩:=S
 have l2:=qc b2
 have l3:=qc b3
 have l4:=qc b4
 have l9:=qc b9
 have n3:∀k,Nat.ble h.length (h.length + k) = true:=λk=>qE zo
 generalize hx:qg h.length Wd qmQ _ = R
 obtain ⟨x,y,xy,r0,r1⟩:=qgj E hk hb
 cases x <;> cases y <;> first
 | (cases xy;done)
 | skip
 all_goals
  simp only [sB.1,qmQ,bne,seval,ht,e2,e3,e4,e8,e9,e10,b2,b3,b4,b9,l2,l3,l4,n3,qiL,qac,qp,r0,r1,hr,c10,I,s1,s2,s3,s4] at hx
  subst hx
  refine ⟨_,rfl,?_⟩
  simp only [sB.1,c6,seval,e2,e3,l2,l3,qg4]
  exact congrArg some (qhA rfl)
theorem qpv {h:List qk} {n:Nat} {xs tt:List qd} {H:List qk} (hk:KOK ws) (hb:qbC ws n = true) (E:n < ws.length) (hl:xs.length = 24) (S:DS ws h n xs tt H) :
  ∃s,qg h.length Wd qmQ ⟨tt,H,false⟩ = some (.ret,s)/\qbS c6.results h (some (.ret,s)) = some (.ret (.tup [.agg zP,.agg [.int .i64 (word ws n).pos,.int .i64 8]]),h,false):=by
 have c10:((xs.length:Int) == 24) = true:=by rw [hl];rfl
 have hT:=qae E
 obtain ⟨ht,e2,e3,e4,e8,e9,e10,b2,b3,b4,b9,tk⟩:=S
 have l2:=qc b2
 have l3:=qc b3
 have l4:=qc b4
 have l9:=qc b9
 have n3:∀k,Nat.ble h.length (h.length + k) = true:=λk=>qE zo
 generalize hx:qg h.length Wd qmQ _ = R
 obtain ⟨x,y,xy,r0,r1⟩:=qgj E hk hb
 cases x <;> cases y <;> first
 | (cases xy;done)
 | skip
 all_goals
  simp only [sB.1,qmQ,bne,seval,ht,e2,e3,e4,e8,e9,e10,b2,b3,b4,b9,n3,qiL,qr,qac,qp,r0,r1,hT,c10] at hx
  subst hx
  refine ⟨_,rfl,?_⟩
  simp only [sB.1,c6,seval,e2,e3,l2,l3,qg4]
  exact congrArg some (qhA rfl)
theorem qjv {h:List qk} {n:Nat} {xs tt:List qd} {H:List qk} (hk:KOK ws) (hb:qbC ws n = false) (I:n < ws.length) (S:DS ws h n xs tt H) :
  ∃E H',qg h.length Wd qmQ ⟨tt,H,false⟩ = some (.exit 0,⟨E,H',false⟩)/\DS ws h n xs E H':=by
 obtain ⟨ht,e2,e3,e4,e8,e9,e10,b2,b3,b4,b9,tk⟩:=S
 have l2:=qc b2
 have l3:=qc b3
 have l4:=qc b4
 have l9:=qc b9
 have n3:∀k,Nat.ble h.length (h.length + k) = true:=λk=>qE zo
 generalize hx:qg h.length Wd qmQ _ = R
 obtain ⟨x,y,xy,r0,r1⟩:=qgj I hk hb
 cases x <;> cases y <;> first
 | (cases xy;done)
 | skip
 all_goals
  simp only [sB.1,qmQ,seval,ht,e8,e10,r0,r1] at hx
  subst hx
  exact ⟨_,_,rfl,Y0,Y2,y7,y9,y5,z8,z12,b2,b3,b4,b9,tk⟩
end
end Go.Proofs.YtkehdpkcdnofaaaGreatDoor.AE
