/- A part of the proof: the abstract executor and what goes through it (part 10). No condition. -/
import Derived.Test.YtnibchoenjmmjaaGreatDoorMr8
import Derived.Test.YtnibchoenjmmjaaGreatDoorMr9
import Derived.Test.YtnibchoenjmmjaaGreatDoorMr7
import Derived.KernelRfl
import Derived.Laws.BitsLemmas
import Derived.Laws.Bits64
import Derived.Lib.Mul64
set_option maxRecDepth 100000
set_option maxHeartbeats 0
open List renaming getElem?_append_left→ja,getElem?_eq_some_iff→jd,take_append_of_le_length→jU,drop_eq_getElem_cons→jV,length_map→jW,length_cons→jA,mem_map→jR
open Bool renaming and_eq_true→jk,true_and→jX,false_and→jN,and_true→jx,not_true→j3,not_false→j4,true_or→jY
namespace Go.Proofs.YtnibchoenjmmjaaGreatDoor.AE
open Go.AE
theorem qlj (n:Int) (s:Str) (z:Bool):((((s == []) && z) && ile 0 n) && ile n 1) = (((n == 0 || n == 1) && (s == [])) && z):=by
 have h:(ile 0 n && ile n 1) = (n == 0 || n == 1):=by
  rw [Bool.eq_iff_iff]
  simp only [jk,Bool.or_eq_true,qaI,decide_eq_true_eq,beq_iff_eq]
  omega
 rw [<-h]
 cases (s == []) <;> cases z <;> cases ile 0 n <;> cases ile n 1 <;> rfl
def Rr (H:Nat->Option qb) (d:Nat) (v:Val):Prop:=∀cs g,At H v cs->Cov H g->Wd (.fn 36 [] []) [.agg cs,.int .i64 (d:Nat)] g = some (.ret (.bool (qr d v)),g,false)
theorem qEL:∀d,d <= 3->∀{H:Nat->Option qb} (v:Val),Rr H d v:=by
 have a3:∀x:Int,(x == 3) = true->((x == 0) = false/\(x == 1) = false/\(x == 2) = false):=λx h=>by
  simp only [beq_iff_eq,beq_eq_false_iff_ne] at *
  omega
 intro d
 induction d with
 | zero=>
  rintro _ H ⟨k,n,s,l⟩ cs g hv hg
  obtain ⟨L,rfl,hL⟩:=hv.lp
  obtain ⟨I,J,B,E⟩:=hL.facts
  have S:=λg=>q8 s g
  have z0:(((0:Nat):Int) == 0) = true:=xk
  have l1:=qlj n s ((l.length:Int) == 0)
  rw [qr]
  unfold qfa
  rw [qm 36 c36]
  cases h0:(k == 0) with
  | true=>simp only [sB.1,c36,seval,I,J,B,E,h0,cond_true]
  | false=>
   cases h1:(k == 1) with
   | true=>simp only [sB.1,c36,seval,I,J,B,E,h0,h1,l1,cond_true,cond_false]
   | false=>
    cases h2:(k == 2) with
    | true=>simp only [sB.1,c36,seval,I,J,B,E,h0,h1,h2,S,cond_true,cond_false]
    | false=>simp only [sB.1,c36,seval,I,J,B,E,h0,h1,h2,z0,cond_false,Bool.or_true,jY]
 | succ d ih=>
  rintro hd H ⟨k,n,s,l⟩ cs h hv hg
  obtain ⟨L,rfl,hL⟩:=hv.lp
  obtain ⟨I,J,B,E⟩:=hL.facts
  have S:=λg=>q8 s g
  have z0:(((d + 1:Nat):Int) == 0) = false:=by rw [beq_eq_false_iff_ne];omega
  have l1:=qlj n s ((l.length:Int) == 0)
  rw [qr]
  unfold qfa
  generalize hw:Wd _ _ h = w
  rw [qm 36 c36] at hw
  cases h3:(k == 3) with
  | false=>
   cases h0:(k == 0) with
   | true=>
    simp only [sB.1,c36,seval,I,J,B,E,h0] at hw
    simp only [cond_true,cond_false]
    exact hw.symm
   | false=>
    cases h1:(k == 1) with
    | true=>
     simp only [sB.1,c36,seval,I,J,B,E,h0,h1,l1] at hw
     simp only [cond_true,cond_false]
     exact hw.symm
    | false=>
     cases h2:(k == 2) with
     | true=>
      simp only [sB.1,c36,seval,I,J,B,E,h0,h1,h2,S] at hw
      simp only [cond_true,cond_false]
      exact hw.symm
     | false=>
      simp only [sB.1,c36,seval,I,J,B,E,h0,h1,h2,h3,j4,jY] at hw
      simp only [cond_false]
      exact hw.symm
  | true=>
   obtain ⟨h0,h1,h2⟩:=a3 k h3
   cases hc:(!(n == 0) || !(s == []) || ilt (l.length:Int) 1 || ilt 4 (l.length:Int)) with
   | true=>
    have e:(((n == 0) && (s == [])) && (decide (1 <= l.length) && decide (l.length <= 4))) = false:=by
     simp only [Bool.or_eq_true,Bool.not_eq_true',qe,decide_eq_true_eq] at hc
     rcases hc with ((hc | hc) | hc) | hc
     ·rw [hc];simp
     ·rw [hc];simp
     ·rw [decide_eq_false (show ¬ 1 <= l.length by omega)];simp
     ·rw [decide_eq_false (show ¬ l.length <= 4 by omega)];simp
    have a7:(!true || !(n == 0) || !(s == []) || false || ilt (l.length:Int) 1 || ilt 4 (l.length:Int)) = true:=by simpa using hc
    simp only [sB.1,c36,seval,I,J,B,E,h0,h1,h2,h3,z0,a7] at hw
    rw [cond_true,e,jN]
    first | exact hw.symm | (simp only [sB.1,Bool.or_false,Bool.false_or,j3,hc,seval] at hw;exact hw.symm)
   | false=>
    have a7:(!true || !(n == 0) || !(s == []) || false || ilt (l.length:Int) 1 || ilt 4 (l.length:Int)) = false:=by simpa using hc
    simp only [Bool.or_eq_false_iff,Bool.not_eq_false',qe,decide_eq_false_iff_not] at hc
    obtain ⟨⟨⟨hn,hs⟩,g1⟩,g2⟩:=hc
    obtain ⟨G,hG⟩ :∃G,G = h ++ [qb.cells [.int .i64 k,.int .i64 n,.str s,L]]:=⟨_,rfl⟩
    have U:G[h.length]? = some (.cells [.int .i64 k,.int .i64 n,.str s,L]):=by rw [hG,qY];rfl
    have a6:Cov H G:=by rw [hG];exact hg.more _
    have a1:G.take h.length = h:=by rw [hG];simp
    have loop:∀m st,(∃(tt:List qa) (i:Nat),st = ⟨tt,G,false⟩/\tt.length = 102/\lkp tt 1 = .int .i64 (d + 1:Nat)/\lkp tt 2 = .ptr h.length 0/\lkp tt 5 = .int .i64 (i:Nat)/\i + m = l.length/\l.all (qr d) = (l.drop i).all (qr d))->
      ∃x O,qj h.length Wd (.loop qj7) st = some (x,O)/\(∃tt:List qa,O = ⟨tt,G,false⟩/\tt.length = 102/\((x = .exit 0/\l.all (qr d) = true)\/(x = .ret/\lkp tt 4 = .bool false/\l.all (qr d) = false))):=by
     refine qx _ _ ?_
     rintro m st ⟨tt,i,rfl,ht,e1,e2,e5,a8,M⟩
     generalize he:qj h.length Wd qj7 _ = r
     rcases Nat.lt_or_ge i l.length with hi | hi
     ·have c1:ilt (i:Int) (l.length:Int) = true:=by rw [qe];simp;omega
      have w:=qaf (n:=i) zo
      have w1:IntKind.i64.wrap (((d + 1:Nat):Int) - 1) = ((d:Nat):Int):=by rw [qbj zo zo];omega
      obtain ⟨pp,cs,x1,x2,_,x3,x4⟩:=hL.item hi a6
      have x5:∀i t,qz pp i t = t:=λi t=>by rw [<-x2];exact qad _ _ _
      have hq:=ih zo l[i] cs G x4 a6
      rw [jV hi,List.all_cons] at M
      cases hb:qr d l[i] with
      | true=>
       rw [hb] at hq M
       simp only [sB.1,qj7,seval,ht,e1,e2,e5,c1,w,w1,U,I,B,E,x1,x2,x3,x5,hq] at he
       subst he
       refine .inl ⟨_,m - 1,rfl,zo,_,i + 1,rfl,Y0,?_,?_,?_,zo,by rw [M,jX]⟩
       ·simp only [sB.1,seval,ht,e1]
       ·simp only [sB.1,seval,ht,e2]
       ·simp only [sB.1,seval,ht]
      | false=>
       rw [hb] at hq M
       simp only [sB.1,qj7,seval,ht,e1,e2,e5,c1,w,w1,U,I,B,E,x1,x2,x3,x5,hq] at he
       subst he
       refine .inr ⟨_,_,rfl,by simp,_,rfl,Y0,.inr ⟨rfl,?_,by rw [M,jN]⟩⟩
       simp only [sB.1,seval,ht]
     ·have c1:ilt (i:Int) (l.length:Int) = false:=by rw [qe];simp;omega
      simp only [sB.1,qj7,seval,ht,e1,e2,e5,c1,U,I,B,E] at he
      subst he
      rw [List.drop_eq_nil_of_le hi] at M
      exact .inr ⟨_,_,rfl,by simp,_,rfl,Y0,.inl ⟨rfl,M⟩⟩
    have y1:ilt (l.length:Int) 1 = false:=by rw [qe];simpa using g1
    have y2:ilt 4 (l.length:Int) = false:=by rw [qe];simpa using g2
    simp only [sB.1,c36,seval,I,J,B,E,h0,h1,h2,h3,hn,hs,y1,y2,z0] at hw
    generalize hr:qj h.length Wd (.loop qj7) _ = r at hw
    obtain ⟨x,O,rfl,tt,rfl,ht,⟨rfl,ha⟩ | ⟨rfl,e4,ha⟩⟩:=qaH hr (loop l.length _ ⟨_,0,by rw [hG],Y1,Y1,Y1,u4,zo,rfl⟩)
    ·simp only [sB.1,seval,ht] at hw
     subst hw
     rw [cond_true,ha,hn,hs,decide_eq_true (show 1 <= l.length by omega),decide_eq_true (show l.length <= 4 by omega)]
     exact congrArg some (qS a1 rfl)
    ·simp only [sB.1,seval,ht,e4] at hw
     subst hw
     rw [cond_true,ha,Bool.and_false]
     exact congrArg some (qS a1 rfl)
section
variable {base:Nat} {call:AE.Call} {dsts:List Nat} {s:St} {pend:List (Nat×Chk)}
theorem qo8 {d:Option Nat} {o:AOp} {ix cl j:Nat} {b c:Bool} {ds:List qH} (h:lkp s.t j = .bool c) (hc:(c == b) = false):qw base call dsts (⟨⟨d,o,some (j,b)⟩,ix,cl⟩ :: ds) pend s = qw base call dsts ds pend { s with t:=put d (.tup []) s.t}:=by
 have e:s.t.getD j .undef = .bool c:=h
 simp only [qw,wanted,e,hc]
theorem qCm {d:Option Nat} {o:AOp} {ix cl j:Nat} {ds:List qH} (h:lkp s.t j = .bool false):qw base call dsts (⟨⟨d,o,some (j,true)⟩,ix,cl⟩ :: ds) pend s = qw base call dsts ds pend { s with t:=put d (.tup []) s.t}:=qo8 h rfl
theorem qCl {d:Option Nat} {o:AOp} {ix cl j:Nat} {ds:List qH} (h:lkp s.t j = .bool true):qw base call dsts (⟨⟨d,o,some (j,false)⟩,ix,cl⟩ :: ds) pend s = qw base call dsts ds pend { s with t:=put d (.tup []) s.t}:=qo8 h rfl
end
def qec (v:Val) (t:Tp):Bool:=match v with
 | .mk _ _ s l=>((ilt (s.length:Int) 100 && ilt (l.length:Int) 20) && qr 3 v) && qaO (qa2 v) t
theorem qhF {v:Val} {t:Tp} (h:qec v t = true):qr 3 v = true/\qa2 v = t:=by
 obtain ⟨k,n,s,l⟩:=v
 simp only [qec,jk] at h
 exact ⟨h.1.2,qfV h.2⟩
theorem qlH:∀(d:Nat) (v:Val),qr d v = true->tpS d (qa2 v)
 | 0,.mk k n s l,h=>by
  have:=qaM h
  subst this
  rw [qa2]
  rfl
 | d + 1,.mk k n s l,h=>by
  rw [qr] at h
  rw [qa2,qbN]
  cases h3:(k == 3) with
  | true=>
   rw [h3,cond_true] at h
   simp only [jk,decide_eq_true_eq,List.all_eq_true] at h
   refine ⟨by simp;omega,λx hx=>?_⟩
   obtain ⟨y,hy,rfl⟩:=jR.1 hx
   exact qlH d y (h.2 y hy)
  | false=>
   rw [h3,cond_false] at h
   have:=qaM h
   subst this
   exact ⟨by simp,λx hx=>by cases hx⟩
theorem qpv {H:Nat->Option qb} (v:Val) (t:Tp) (cs ds:List qa) (h:List qb) (hv:At H v cs) (ht:Ta H t ds) (hg:Cov H h):Wd (.fn 17 [] []) [.agg cs,.agg ds] h = some (.ret (.bool (qec v t)),h,false):=by
 obtain ⟨G,hG⟩ :∃G,G = h ++ [qb.cells cs,.cells ds]:=⟨_,rfl⟩
 have E:Cov H G:=by rw [hG];exact hg.more _
 have a6:G.take h.length = h:=by rw [hG];simp
 have r1:=qEL 3 zo v cs G hv E
 have c3:((3:Nat):Int) = 3:=xk
 rw [c3] at r1
 have r2:=λ(hr:qr 3 v = true)=>qsA 3 v hr H cs G hv E
 have r3:=λ(hr:qr 3 v = true) (m:List qb)=>qfW 3 (H:=ext H G m) (qlH 3 v hr)
 have b1:G[h.length]? = some (.cells cs):=by rw [hG,qY];rfl
 have b2:G[h.length + 1]? = some (.cells ds):=by rw [hG,qbb];rfl
 have a8:G.length = h.length + 2:=by rw [hG];simp
 obtain ⟨kk,LL,rfl,ld,B,lw⟩:=ht.two
 obtain ⟨k,n,s,l⟩:=v
 obtain ⟨L,rfl,hL⟩:=hv.lp
 obtain ⟨d1,s1,w1,n1⟩:=hL.facts
 generalize hw:Wd _ _ h = w
 rw [qm 17 c17] at hw
 rw [hG] at r1 b1 b2
 unfold qec
 cases f1:ilt (s.length:Int) 100 with
 | false=>
  simp only [sA.1,c17,seval,d1,s1,w1,n1,ld,B,lw,f1] at hw
  simp only [f1,jN]
  exact hw.symm
 | true=>
  cases f2:ilt (l.length:Int) 20 with
  | false=>
   simp only [sA.1,c17,seval,d1,s1,w1,n1,ld,B,lw,f1,f2] at hw
   simp only [f1,f2,jN,Bool.and_false]
   exact hw.symm
  | true=>
   cases f3:qr 3 (.mk k n s l) with
   | false=>
    rw [f3] at r1
    simp only [sA.1,c17,seval,d1,s1,w1,n1,ld,B,lw,f1,f2,r1] at hw
    simp only [f1,f2,f3,jN,Bool.and_false]
    exact hw.symm
   | true=>
    rw [f3] at r1
    obtain ⟨ts,m,M,J⟩:=r2 f3
    have O:=r3 f3 m t ts [.int .i64 kk,LL] (G ++ m) (J.mono qk8) (ht.mono (qe6 E)) (qpr E)
    obtain ⟨kt,LT,rfl,a1,S,U⟩:=J.two
    have B2:(G ++ m)[h.length + 1]? = some (.cells [.int .i64 kk,LL]):=by rw [ja zo,hG];exact b2
    have I:(G ++ m).take h.length = h:=by rw [jU zo,a6]
    rw [hG] at M
    rw [hG] at O B2 I
    generalize hq:qaO (qa2 (.mk k n s l)) t = q at *
    generalize a7:h ++ [qb.cells [.int .i64 k,.int .i64 n,.str s,L],.cells [.int .i64 kk,LL]] ++ m = GM at *
    simp only [sA.1,c17,seval,d1,s1,w1,n1,ld,B,lw,a1,S,U,f1,f2,r1,M,O,B2] at hw
    subst hw
    simp only [f1,f2,f3,hq,jX]
    exact congrArg some (qS I rfl)
theorem btf:(true != false) = true:=Eq.trans rfl rfl
theorem bff:(false != false) = false:=Eq.trans rfl rfl
theorem c2E:((2:Nat):Int) = 2:=Eq.trans rfl rfl
theorem c1E:((1:Nat):Int) = 1:=Eq.trans rfl rfl
theorem k02:ilt 0 2 = true:=Eq.trans rfl rfl
theorem k12:ilt 1 2 = true:=Eq.trans rfl rfl
theorem k22:ilt 2 2 = false:=Eq.trans rfl rfl
theorem w1E:IntKind.i64.wrap 1 = 1:=xk
theorem w2E:IntKind.i64.wrap 2 = 2:=xk
def rI (n e:Int):qa:=.agg [.int .i64 0,.int .i64 n,.str [],.lst [] .full,.int .i64 e]
section
variable {h:List qb}
theorem qaR (n:Int):Wd (.fn 50 [] []) [.int .i64 n] h = some (.ret (rI n 0),h,false):=by
 rw [qm 50 c50]
 simp only [sB.1,c50,seval,qbd,rI]
theorem qay (e:Int):Wd (.fn 55 [] []) [.int .i64 e] h = some (.ret (rI 0 e),h,false):=by
 rw [qm 55 c55]
 simp only [sB.1,c55,seval,qbd,rI]
theorem qs0 (x:Nat):qbG .and (.int .u64 (x:Int)) (.int .u64 4294967295) = some (.int .u64 ((x % 4294967296:Nat):Int)):=by
 have h:(BitVec.ofInt 64 (x:Int) &&& BitVec.ofInt 64 4294967295).toNat = x % 4294967296:=by
  have e:(BitVec.ofInt 64 4294967295).toNat = 2 ^ 32 - 1:=by decide
  rw [BitVec.toNat_and,e,Nat.and_two_pow_sub_one_eq_mod]
  simp [BitVec.toNat_ofInt]
 have h2:IntKind.u64.wrap ((x % 4294967296:Nat):Int) = ((x % 4294967296:Nat):Int):=by
  rw [IntKind.wrap_u64];omega
 have e:qbG .and (.int .u64 (x:Int)) (.int .u64 4294967295) = some (.int .u64 (IntKind.u64.wrap (((BitVec.ofInt 64 (x:Int) &&& BitVec.ofInt 64 4294967295).toNat:Nat):Int))):=by
  simp only [qbG,qbD,if_true,IntKind.bits]
  rfl
 rw [e,h,h2]
theorem qs2 (x:Nat):qbG .shr (.int .u64 (x:Int)) (.int .u64 32) = some (.int .u64 ((x / 4294967296:Nat):Int)):=by
 have h:((x:Int)).fdiv (2 ^ (min 32 64)) = ((x / 4294967296:Nat):Int):=by
  rw [Int.fdiv_eq_ediv_of_nonneg _ (by decide)]
  simp
 simp only [qbG,qbD,IntKind.bits]
 rw [if_neg (by decide)]
 exact congrArg (λz=>some (qa.int .u64 z)) h
theorem qCt {a b:Nat} (h:a * b < 18446744073709551616):IntKind.u64.wrap ((a:Int) * (b:Int)) = ((a * b:Nat):Int):=by
 rw [IntKind.wrap_u64,<-Int.natCast_mul];omega
theorem qCs {a b:Nat} (h:a + b < 18446744073709551616):IntKind.u64.wrap ((a:Int) + (b:Int)) = ((a + b:Nat):Int):=by
 rw [IntKind.wrap_u64];omega
theorem quR {x y:Nat} (hx:x < 18446744073709551616) (hy:y < 18446744073709551616):Wd (.fn 112 [] []) [.int .u64 (x:Int),.int .u64 (y:Int)] h = some (.ret (.tup [.int .u64 ((x * y / 18446744073709551616:Nat):Int),.int .u64 (IntKind.u64.wrap ((x:Int) * (y:Int)))]),h,false):=by
 obtain ⟨h1,h2,h3,h4⟩:=Lib.mul64_hi x y hx hy
 have ha:=Lib.half_mul_le (a:=x / 4294967296) (b:=y % 4294967296) zo zo
 have hb:=Lib.half_mul_le (a:=x % 4294967296) (b:=y / 4294967296) zo zo
 have hc:=Lib.half_mul_le (a:=x / 4294967296) (b:=y / 4294967296) zo zo
 have m2:x / 4294967296 * (y % 4294967296) < 18446744073709551616:=zo
 have m3:x % 4294967296 * (y / 4294967296) < 18446744073709551616:=zo
 have m4:x / 4294967296 * (y / 4294967296) < 18446744073709551616:=zo
 have m5:x / 4294967296 * (y / 4294967296) + (x / 4294967296 * (y % 4294967296) + x % 4294967296 * (y % 4294967296) / 4294967296) / 4294967296 < 18446744073709551616:=zo
 have m6:x * y / 18446744073709551616 < 18446744073709551616:=by
  rw [<-h4];omega
 rw [<-h4] at m6
 rw [qm 112 qCf,<-h4]
 simp only [sB.1,qCf,seval,qs0,qs2,qCt h1,qCt m2,qCt m3,qCt m4,qCs h2,qCs h3,qCs m5,qCs m6]
theorem qs1 (n:Int):qbG .shr (.int .i64 n) (.int .u64 63) = some (.int .i64 (n.fdiv 9223372036854775808)):=by
 simp [qbG,qbD,IntKind.bits]
def hiV (sa sb:Bool) (H x y:Int):Int:=bif sb then IntKind.u64.wrap ((bif sa then IntKind.u64.wrap (H - y) else H) - x) else (bif sa then IntKind.u64.wrap (H - y) else H)
theorem qi7 {a b:Int} {x y:Nat} {sa sb q:Bool} (hx:IntKind.u64.wrap a = (x:Int)) (hy:IntKind.u64.wrap b = (y:Int)) (E:x < 18446744073709551616) (B:y < 18446744073709551616) (J:ilt a 0 = sa) (I:ilt b 0 = sb)
  (hq:(hiV sa sb ((x * y / 18446744073709551616:Nat):Int) x y == IntKind.u64.wrap ((IntKind.i64.wrap (IntKind.u64.wrap ((x:Int) * (y:Int)))).fdiv 9223372036854775808)) = q) :
  Wd (.fn 82 [] []) [.int .i64 a,.int .i64 b] h = some (.ret (bif q then rI (IntKind.i64.wrap (IntKind.u64.wrap ((x:Int) * (y:Int)))) 0 else rI 0 2),h,false):=by
 rw [qm 82 c82]
 cases sa <;> cases sb <;> simp only [hiV,cond_true,cond_false] at hq <;> cases q <;> simp only [sB.1,c82,seval,qbd,hx,hy,J,I,hq,qs1,quR E B,qaR,qay,rI]
theorem qnw {a b:Int} {q:Bool} (hq:((ilt 0 b && ilt (IntKind.i64.wrap (9223372036854775807 - b)) a) || (ilt b 0 && ilt a (IntKind.i64.wrap (-9223372036854775808 - b)))) = q):Wd (.fn 31 [] []) [.int .i64 15,.int .i64 a,.int .i64 b] h = some (.ret (.tup [.int .i64 (bif q then 0 else IntKind.i64.wrap (a + b)),.int .i64 (bif q then 2 else 0)]),h,false):=by
 rw [qm 31 c31]
 cases q <;> simp only [sB.1,c31,seval,hq,btf,bff]
theorem qnA {a b:Int} {q:Bool} (hq:((ilt b 0 && ilt (IntKind.i64.wrap (9223372036854775807 + b)) a) || (ilt 0 b && ilt a (IntKind.i64.wrap (-9223372036854775808 + b)))) = q):Wd (.fn 31 [] []) [.int .i64 16,.int .i64 a,.int .i64 b] h = some (.ret (.tup [.int .i64 (bif q then 0 else IntKind.i64.wrap (a - b)),.int .i64 (bif q then 2 else 0)]),h,false):=by
 rw [qm 31 c31]
 cases q <;> simp only [sB.1,c31,seval,hq,btf,bff]
theorem qEu {a b:Int} (hq:((a == 0) || (b == 0)) = true):Wd (.fn 59 [] []) [.int .i64 a,.int .i64 b] h = some (.ret (.tup [.int .i64 0,.bool true]),h,false):=by
 rw [qm 59 c59]
 simp only [sB.1,c59,seval,hq,btf,bff]
theorem qEv {a b:Int} (h0:((a == 0) || (b == 0)) = false) (hq:(((a == -9223372036854775808) && (b == -1)) || ((b == -9223372036854775808) && (a == -1))) = true):Wd (.fn 59 [] []) [.int .i64 a,.int .i64 b] h = some (.ret (.tup [.int .i64 0,.bool false]),h,false):=by
 rw [qm 59 c59]
 simp only [sB.1,c59,seval,h0,hq,btf,bff]
theorem qBp {a b:Int} (h0:((a == 0) || (b == 0)) = false) (B:(b = 0) = False) (hq:(((a == -9223372036854775808) && (b == -1)) || ((b == -9223372036854775808) && (a == -1))) = false) {z:Bool} (hz:(IntKind.i64.wrap ((IntKind.i64.wrap (a * b)).tdiv b) == a) = z):Wd (.fn 59 [] []) [.int .i64 a,.int .i64 b] h = some (.ret (.tup [.int .i64 (bif z then IntKind.i64.wrap (a * b) else 0),.bool z]),h,false):=by
 rw [qm 59 c59]
 cases z <;> simp only [sB.1,c59,seval,h0,B,hq,hz,btf,bff]
theorem qnz {a b:Int} {n:Int} {z:Bool} (hm:Wd (.fn 59 [] []) [.int .i64 a,.int .i64 b] h = some (.ret (.tup [.int .i64 n,.bool z]),h,false)):Wd (.fn 31 [] []) [.int .i64 17,.int .i64 a,.int .i64 b] h = some (.ret (.tup [.int .i64 (bif z then n else 0),.int .i64 (bif z then 0 else 2)]),h,false):=by
 rw [qm 31 c31]
 cases z <;> simp only [sB.1,c31,seval,hm,btf,bff]
theorem qky {a b:Int} (hb:(b == 0) = true):Wd (.fn 31 [] []) [.int .i64 18,.int .i64 a,.int .i64 b] h = some (.ret (.tup [.int .i64 0,.int .i64 3]),h,false):=by
 rw [qm 31 c31]
 simp only [sB.1,c31,seval,hb,btf,bff]
theorem qkz {a b:Int} (hb:(b == 0) = true):Wd (.fn 31 [] []) [.int .i64 19,.int .i64 a,.int .i64 b] h = some (.ret (.tup [.int .i64 0,.int .i64 3]),h,false):=by
 rw [qm 31 c31]
 simp only [sB.1,c31,seval,hb,btf,bff]
theorem qnx {a b:Int} (hb:(b == 0) = false) (B:(b = 0) = False) {q:Bool} (hq:((a == -9223372036854775808) && (b == -1)) = q):Wd (.fn 31 [] []) [.int .i64 18,.int .i64 a,.int .i64 b] h = some (.ret (.tup [.int .i64 (bif q then 0 else IntKind.i64.wrap (a.tdiv b)),.int .i64 (bif q then 2 else 0)]),h,false):=by
 rw [qm 31 c31]
 cases q <;> simp only [sB.1,c31,seval,hb,B,hq,btf,bff]
theorem qny {a b:Int} (hb:(b == 0) = false) (B:(b = 0) = False) {q:Bool} (hq:((a == -9223372036854775808) && (b == -1)) = q):Wd (.fn 31 [] []) [.int .i64 19,.int .i64 a,.int .i64 b] h = some (.ret (.tup [.int .i64 (bif q then 0 else IntKind.i64.wrap (a - IntKind.i64.wrap (IntKind.i64.wrap (a.tdiv b) * b))),.int .i64 0]),h,false):=by
 rw [qm 31 c31]
 cases q <;> simp only [sB.1,c31,seval,hb,B,hq,btf,bff]
end
def I64 (a:Int):Prop:=-9223372036854775808 <= a/\a <= 9223372036854775807
def qdR (r:Int):Bool:=ile (-9223372036854775808) r && ile r 9223372036854775807
theorem qas {r:Int}:qdR r = true↔I64 r:=by simp [qdR,qaI,I64]
def qgT (r:Int):Int:=bif qdR r then r else 0
def qi2 (r:Int):Int:=bif qdR r then 0 else 2
def qbH (op a b:Int):Int×Int:=
 if op = 15 then (qgT (a + b),qi2 (a + b)) else if op = 16 then (qgT (a - b),qi2 (a - b)) else if op = 17 then (qgT (a * b),qi2 (a * b))
 else if b = 0 then (0,3) else if op = 18 then (qgT (a.tdiv b),qi2 (a.tdiv b)) else (a.tmod b,0)
theorem qbm {r:Int} (h:I64 r):IntKind.i64.wrap r = r:=by
 obtain ⟨h1,h2⟩:=h
 rw [IntKind.wrap_i64]
 omega
theorem qi3 {r w:Int} {q:Bool} (hq:q = qdR r) (hw:q = true->w = r):(bif q then rI w 0 else rI 0 2) = rI (qgT r) (qi2 r):=by
 subst hq
 cases h:qdR r with
 | true=>rw [hw h];simp [qgT,qi2,h]
 | false=>simp [qgT,qi2,h]
theorem qsx {r w:Int} {q:Bool} (hq:(!q) = qdR r) (hw:q = false->w = r):(qa.tup [.int .i64 (bif q then 0 else w),.int .i64 (bif q then 2 else 0)]) = .tup [.int .i64 (qgT r),.int .i64 (qi2 r)]:=by
 cases q with
 | true=>simp only [j3] at hq;simp [qgT,qi2,<-hq]
 | false=>simp only [j4] at hq;rw [hw rfl];simp [qgT,qi2,<-hq]
section
variable {h:List qb} {a b:Int}
theorem qCA (ha:I64 a) (hb:I64 b):(ilt a (IntKind.i64.wrap (a + b)) == ilt 0 b) = qdR (a + b):=by
 obtain ⟨a1,a2⟩:=ha
 obtain ⟨b1,b2⟩:=hb
 rw [Bool.eq_iff_iff,beq_iff_eq,qas,IntKind.wrap_i64,qe,qe,decide_eq_decide,I64]
 omega
theorem qBX (ha:I64 a) (hb:I64 b):(ilt (IntKind.i64.wrap (a - b)) a == ilt 0 b) = qdR (a - b):=by
 obtain ⟨a1,a2⟩:=ha
 obtain ⟨b1,b2⟩:=hb
 rw [Bool.eq_iff_iff,beq_iff_eq,qas,IntKind.wrap_i64,qe,qe,decide_eq_decide,I64]
 omega
theorem qwo (ha:I64 a) (hb:I64 b):(!((ilt 0 b && ilt (IntKind.i64.wrap (9223372036854775807 - b)) a) || (ilt b 0 && ilt a (IntKind.i64.wrap (-9223372036854775808 - b))))) = qdR (a + b):=by
 obtain ⟨a1,a2⟩:=ha
 obtain ⟨b1,b2⟩:=hb
 rw [Bool.eq_iff_iff,qas,I64]
 simp only [Bool.not_eq_true',Bool.or_eq_false_iff,Bool.and_eq_false_iff,qe,decide_eq_false_iff_not,IntKind.wrap_i64]
 omega
theorem qwp (ha:I64 a) (hb:I64 b):(!((ilt b 0 && ilt (IntKind.i64.wrap (9223372036854775807 + b)) a) || (ilt 0 b && ilt a (IntKind.i64.wrap (-9223372036854775808 + b))))) = qdR (a - b):=by
 obtain ⟨a1,a2⟩:=ha
 obtain ⟨b1,b2⟩:=hb
 rw [Bool.eq_iff_iff,qas,I64]
 simp only [Bool.not_eq_true',Bool.or_eq_false_iff,Bool.and_eq_false_iff,qe,decide_eq_false_iff_not,IntKind.wrap_i64]
 omega
theorem qod (ha:I64 a) (hb:I64 b):-85070591730234615865843651857942052864 <= a * b/\a * b <= 85070591730234615865843651857942052864:=by
 obtain ⟨a1,a2⟩:=ha
 obtain ⟨b1,b2⟩:=hb
 have:(a * b).natAbs <= 9223372036854775808 * 9223372036854775808:=by
  rw [Int.natAbs_mul]
  exact Nat.mul_le_mul zo zo
 omega
theorem qrL {x y:Nat} (ha:I64 a) (hb:I64 b) (hx:IntKind.u64.wrap a = (x:Int)) (hy:IntKind.u64.wrap b = (y:Int)) :
  ((x * y:Nat):Int) = a * b + (bif ilt a 0 then 18446744073709551616 * b else 0) + (bif ilt b 0 then 18446744073709551616 * a else 0) + (bif ilt a 0 && ilt b 0 then 18446744073709551616 * 18446744073709551616 else 0):=by
 obtain ⟨a1,a2⟩:=ha
 obtain ⟨b1,b2⟩:=hb
 rw [IntKind.wrap_u64] at hx hy
 rw [Int.natCast_mul,<-hx,<-hy,qe,qe]
 rcases Int.lt_or_le a 0 with la | la <;> rcases Int.lt_or_le b 0 with lb | lb
 ·have e1:a % 18446744073709551616 = a + 18446744073709551616:=zo
  have e2:b % 18446744073709551616 = b + 18446744073709551616:=zo
  rw [e1,e2,decide_eq_true la,decide_eq_true lb,Int.add_mul,Int.mul_add,Int.mul_add]
  simp only [jx,cond_true]
  omega
 ·have e1:a % 18446744073709551616 = a + 18446744073709551616:=zo
  have e2:b % 18446744073709551616 = b:=zo
  rw [e1,e2,decide_eq_true la,decide_eq_false zo,Int.add_mul]
  simp
 ·have e1:a % 18446744073709551616 = a:=zo
  have e2:b % 18446744073709551616 = b + 18446744073709551616:=zo
  rw [e1,e2,decide_eq_false zo,decide_eq_true lb,Int.mul_add]
  simp only [jN,cond_true,cond_false]
  omega
 ·have e1:a % 18446744073709551616 = a:=zo
  have e2:b % 18446744073709551616 = b:=zo
  rw [e1,e2,decide_eq_false zo,decide_eq_false zo]
  simp
theorem qzd {x y:Nat} (ha:I64 a) (hb:I64 b) (hx:IntKind.u64.wrap a = (x:Int)) (hy:IntKind.u64.wrap b = (y:Int)) :
  hiV (ilt a 0) (ilt b 0) ((x * y / 18446744073709551616:Nat):Int) x y = IntKind.u64.wrap (a * b / 18446744073709551616):=by
 have e:=qrL ha hb hx hy
 have hm:=qod ha hb
 obtain ⟨a1,a2⟩:=ha
 obtain ⟨b1,b2⟩:=hb
 rw [IntKind.wrap_u64] at hx hy
 generalize a * b = p at *
 generalize x * y = n at *
 have key:((n / 18446744073709551616:Nat):Int) = (n:Int) / 18446744073709551616:=zo
 rw [key]
 rw [qe,qe] at e ⊢
 rcases Int.lt_or_le a 0 with la | la <;> rcases Int.lt_or_le b 0 with lb | lb
 ·rw [decide_eq_true la,decide_eq_true lb] at e ⊢
  simp only [hiV,jx,cond_true,IntKind.wrap_u64] at e ⊢
  have E:(x:Int) = a + 18446744073709551616:=zo
  have B:(y:Int) = b + 18446744073709551616:=zo
  have hd:(n:Int) / 18446744073709551616 = p / 18446744073709551616 + b + a + 18446744073709551616:=zo
  rw [hd,E,B]
  omega
 ·rw [decide_eq_true la,decide_eq_false (p:=b < 0) zo] at e ⊢
  simp only [hiV,Bool.and_false,cond_true,cond_false,IntKind.wrap_u64] at e ⊢
  have B:(y:Int) = b:=zo
  have hd:(n:Int) / 18446744073709551616 = p / 18446744073709551616 + b:=zo
  rw [hd,B]
  omega
 ·rw [decide_eq_false (p:=a < 0) zo,decide_eq_true lb] at e ⊢
  simp only [hiV,jN,cond_true,cond_false,IntKind.wrap_u64] at e ⊢
  have E:(x:Int) = a:=zo
  have hd:(n:Int) / 18446744073709551616 = p / 18446744073709551616 + a:=zo
  rw [hd,E]
  omega
 ·have l1:0 <= p:=by
   rw [decide_eq_false (p:=a < 0) zo,decide_eq_false (p:=b < 0) zo] at e
   simp only [jN,cond_false] at e
   omega
  rw [decide_eq_false (p:=a < 0) zo,decide_eq_false (p:=b < 0) zo] at e ⊢
  simp only [hiV,jN,cond_false,IntKind.wrap_u64] at e ⊢
  have hd:(n:Int) = p:=zo
  rw [hd]
  omega
theorem qze {x y:Nat} (ha:I64 a) (hb:I64 b) (hx:IntKind.u64.wrap a = (x:Int)) (hy:IntKind.u64.wrap b = (y:Int)) :
  IntKind.i64.wrap (IntKind.u64.wrap ((x:Int) * (y:Int))) = IntKind.i64.wrap (a * b):=by
 have e:=qrL ha hb hx hy
 rw [<-Int.natCast_mul]
 generalize a * b = p at *
 generalize x * y = n at *
 rw [IntKind.wrap_u64,IntKind.wrap_i64,IntKind.wrap_i64]
 generalize ilt a 0 = sa at e
 generalize ilt b 0 = sb at e
 cases sa <;> cases sb <;> simp only [jx,Bool.and_false,jN,cond_true,cond_false] at e <;> omega
theorem qnt (ha:I64 a) (hb:I64 b):Wd (.fn 82 [] []) [.int .i64 a,.int .i64 b] h = some (.ret (rI (qgT (a * b)) (qi2 (a * b))),h,false):=by
 have hx:IntKind.u64.wrap a = ((IntKind.u64.wrap a).toNat:Int):=by rw [IntKind.wrap_u64];omega
 have hy:IntKind.u64.wrap b = ((IntKind.u64.wrap b).toNat:Int):=by rw [IntKind.wrap_u64];omega
 have E:(IntKind.u64.wrap a).toNat < 18446744073709551616:=by rw [IntKind.wrap_u64];omega
 have B:(IntKind.u64.wrap b).toNat < 18446744073709551616:=by rw [IntKind.wrap_u64];omega
 have hm:=qod ha hb
 rw [qi7 hx hy E B rfl rfl rfl,qzd ha hb hx hy,qze ha hb hx hy]
 have hq:(IntKind.u64.wrap (a * b / 18446744073709551616) == IntKind.u64.wrap ((IntKind.i64.wrap (a * b)).fdiv 9223372036854775808)) = qdR (a * b):=by
  generalize a * b = p at *
  rw [Bool.eq_iff_iff,beq_iff_eq,qas,Int.fdiv_eq_ediv_of_nonneg _ (by decide),IntKind.wrap_u64,IntKind.wrap_u64,IntKind.wrap_i64,I64]
  omega
 rw [qi3 hq λhf=>qbm (qas.1 (hq▸hf))]
theorem qti (ha:I64 a) (hb:I64 b) (h0:b ≠ 0):(!(a == -9223372036854775808) || !(b == -1)) = qdR (a.tdiv b):=by
 obtain ⟨a1,a2⟩:=ha
 have B:=Int.natAbs_tdiv a b
 rw [Bool.eq_iff_iff,qas,I64]
 simp only [Bool.or_eq_true,Bool.not_eq_true',beq_eq_false_iff_ne,ne_eq]
 by_cases h1:b = -1
 ·subst h1
  rw [Int.tdiv_neg,Int.tdiv_one]
  omega
 ·by_cases h2:b = 1
  ·subst h2
   rw [Int.tdiv_one]
   omega
  ·have h3:a.natAbs / b.natAbs <= a.natAbs / 2:=Nat.div_le_div_left zo zo
   generalize a.tdiv b = t at *
   have h4:t.natAbs <= a.natAbs / 2:=by rw [B];exact h3
   omega
theorem qdX (h0:b ≠ 0):(b == 0) = false/\(b = 0) = False:=⟨by simpa using h0,by simp [h0]⟩
theorem quS (b:Int):(a.tdiv b * b).natAbs <= a.natAbs:=by
 rw [Int.natAbs_mul,Int.natAbs_tdiv]
 exact Nat.div_mul_le_self _ _
theorem qzo (ha:I64 a) (hb:I64 b):∃z n,Wd (.fn 59 [] []) [.int .i64 a,.int .i64 b] h = some (.ret (.tup [.int .i64 n,.bool z]),h,false)/\z = qdR (a * b)/\(z = true->n = a * b):=by
 cases h0:(a == 0) || (b == 0) with
 | true=>
  refine ⟨true,0,qEu h0,?_,λ_=>?_⟩
  all_goals
   simp only [Bool.or_eq_true,beq_iff_eq] at h0
   rcases h0 with rfl | rfl <;> simp <;> decide
 | false=>
  have hz:a ≠ 0/\b ≠ 0:=by simpa using h0
  cases hq:((a == -9223372036854775808) && (b == -1)) || ((b == -9223372036854775808) && (a == -1)) with
  | true=>
   refine ⟨false,0,qEv h0 hq,?_,λh=>by cases h⟩
   simp only [Bool.or_eq_true,jk,beq_iff_eq] at hq
   rcases hq with ⟨rfl,rfl⟩ | ⟨rfl,rfl⟩ <;> decide
  | false=>
   have I:=(qdX hz.2).2
   have hw:IntKind.i64.wrap ((IntKind.i64.wrap (a * b)).tdiv b) = a↔I64 (a * b):=by
    constructor
    ·intro hh
     have hp:I64 (IntKind.i64.wrap (a * b)):=by rw [IntKind.wrap_i64,I64];omega
     have hf:=qti hp hb hz.2
     have hmul:=Int.tmod_add_mul_tdiv (IntKind.i64.wrap (a * b)) b
     have J:=Int.natAbs_tmod (IntKind.i64.wrap (a * b)) b
     have hlt:(IntKind.i64.wrap (a * b)).natAbs % b.natAbs < b.natAbs:=Nat.mod_lt _ (by have:=hz.2;omega)
     obtain ⟨a1,a2⟩:=ha
     obtain ⟨b1,b2⟩:=hb
     cases E:qdR ((IntKind.i64.wrap (a * b)).tdiv b) with
     | false=>
      exfalso
      rw [E] at hf
      simp only [Bool.or_eq_false_iff,Bool.not_eq_false',beq_iff_eq] at hf
      obtain ⟨e1,rfl⟩:=hf
      rw [e1] at hh
      have:IntKind.i64.wrap ((-9223372036854775808:Int).tdiv (-1)) = -9223372036854775808:=by decide
      rw [this] at hh
      simp [<-hh] at hq
     | true=>
      rw [qbm (qas.1 E)] at hh
      rw [hh] at hmul
      have hr:IntKind.i64.wrap (a * b) = (a * b + 9223372036854775808) % 18446744073709551616 - 9223372036854775808:=IntKind.wrap_i64 _
      rw [Int.mul_comm b a] at hmul
      generalize a * b = p at *
      rw [hr] at hmul J hlt
      rw [I64]
      generalize ((p + 9223372036854775808) % 18446744073709551616 - 9223372036854775808).tmod b = m at *
      omega
    ·intro hh
     rw [qbm hh,Int.mul_tdiv_cancel _ hz.2,qbm ha]
   cases B:(IntKind.i64.wrap ((IntKind.i64.wrap (a * b)).tdiv b) == a) with
   | true=>
    have:=hw.1 (by simpa using B)
    exact ⟨true,_,qBp h0 I hq B,(qas.2 this).symm,λ_=>by rw [cond_true,qbm this]⟩
   | false=>
    refine ⟨false,_,qBp h0 I hq B,?_,λh=>by cases h⟩
    cases hf:qdR (a * b) with
    | false=>rfl
    | true=>exact absurd (hw.2 (qas.1 hf)) (by simpa using B)
theorem qcT (ha:I64 a) (hb:I64 b) {op:Int} (hop:op = 15\/op = 16\/op = 17\/op = 18\/op = 19):Wd (.fn 31 [] []) [.int .i64 op,.int .i64 a,.int .i64 b] h = some (.ret (.tup [.int .i64 (qbH op a b).1,.int .i64 (qbH op a b).2]),h,false):=by
 rcases hop with rfl | rfl | rfl | rfl | rfl
 ·rw [qnw rfl,qsx (qwo ha hb) λhf=>qbm (qas.1 (by rw [<-qwo ha hb,hf];rfl))]
  rfl
 ·rw [qnA rfl,qsx (qwp ha hb) λhf=>qbm (qas.1 (by rw [<-qwp ha hb,hf];rfl))]
  rfl
 ·obtain ⟨z,n,h1,h2,h3⟩:=qzo (h:=h) ha hb
  rw [qnz h1]
  cases z with
  | true=>rw [h3 rfl];simp [qbH,qgT,qi2,<-h2]
  | false=>simp [qbH,qgT,qi2,<-h2]
 ·by_cases h0:b = 0
  ·subst h0;exact qky rfl
  ·have hd:=qti ha hb h0
   have B:(!((a == -9223372036854775808) && (b == -1))) = qdR (a.tdiv b):=by rw [<-hd];cases (a == -9223372036854775808) <;> cases (b == -1) <;> rfl
   rw [qnx (qdX h0).1 (qdX h0).2 rfl,qsx B λhf=>qbm (qas.1 (by rw [<-B,hf];rfl))]
   simp [qbH,h0]
 ·by_cases h0:b = 0
  ·subst h0;exact qkz rfl
  ·rw [qny (qdX h0).1 (qdX h0).2 rfl]
   have hd:=qti ha hb h0
   have e:(bif (a == -9223372036854775808) && (b == -1) then 0 else IntKind.i64.wrap (a - IntKind.i64.wrap (IntKind.i64.wrap (a.tdiv b) * b))) = a.tmod b:=by
    cases hq:(a == -9223372036854775808) && (b == -1) with
    | true=>
     simp only [jk,beq_iff_eq] at hq
     obtain ⟨rfl,rfl⟩:=hq
     decide
    | false=>
     have hf:qdR (a.tdiv b) = true:=by rw [<-hd];cases h1:(a == -9223372036854775808) <;> cases h2:(b == -1) <;> simp_all
     have h1:=Int.tmod_add_mul_tdiv a b
     have h2:=quS (a:=a) b
     have h3:=Int.natAbs_tmod a b
     have h4:a.natAbs % b.natAbs <= a.natAbs:=Nat.mod_le _ _
     obtain ⟨a1,a2⟩:=ha
     rw [cond_false,qbm (qas.1 hf)]
     rw [Int.mul_comm b] at h1
     generalize a.tdiv b * b = t at *
     have ht:t = a - a.tmod b:=zo
     have E:b.natAbs ≠ 0:=zo
     have hlt:a.natAbs % b.natAbs < b.natAbs:=Nat.mod_lt _ zo
     obtain ⟨b1,b2⟩:=hb
     generalize a.tmod b = m at *
     rw [IntKind.wrap_i64,IntKind.wrap_i64]
     omega
   rw [e]
   simp [qbH,h0]
end
theorem qbS {n:Int} (h1:-9223372036854775808 <= n) (h2:n <= 9223372036854775807):IntKind.i64.wrap n = n:=by
 rw [IntKind.wrap_i64]
 omega
theorem qU {n:Nat} (h:n < 9223372036854775807):IntKind.i64.wrap ((n:Int) + 1) = ((n + 1:Nat):Int):=by
 rw [qbS zo zo]
 rfl
section
variable {h:List qb}
def cy (S n:Int):Int:=(S % 18446744073709551616 + n % 18446744073709551616) / 18446744073709551616
def loS (S:Int):Int:=S % 18446744073709551616
def hiS (S:Int):Int:=(S / 18446744073709551616) % 18446744073709551616
theorem qsR (x y c:Int):Wd (.fn 107 [] []) [.int .u64 x,.int .u64 y,.int .u64 c] h = qeo Wd [.int .u64 x,.int .u64 y,.int .u64 c] h:=by
 rw [show Wd = W T.get X from rfl,qwy qsG (show X 107 = some qeo from rfl)]
 rfl
theorem qkW {x y c:Int} (h1:0 <= x) (h2:0 <= y) (h3:0 <= c) (h4:c <= 1):Wd (.fn 107 [] []) [.int .u64 x,.int .u64 y,.int .u64 c] h = some (.ret (.tup [.int .u64 ((x + y + c) % 18446744073709551616),.int .u64 ((x + y + c) / 18446744073709551616)]),h,false):=by
 rw [qsR]
 unfold qeo
 simp only [qaI,decide_eq_true h1,decide_eq_true h2,decide_eq_true h3,decide_eq_true h4,jx,cond_true]
theorem qyo (S n:Int):Wd (.fn 107 [] []) [.int .u64 (loS S),.int .u64 (IntKind.u64.wrap n),.int .u64 0] h = some (.ret (.tup [.int .u64 (loS (S + n)),.int .u64 (cy S n)]),h,false):=by
 rw [IntKind.wrap_u64,qkW (by unfold loS;omega) zo zo zo]
 unfold loS cy
 have e:(S % 18446744073709551616 + n % 18446744073709551616 + 0) % 18446744073709551616 = (S + n) % 18446744073709551616:=zo
 rw [e,Int.add_zero]
theorem qxW (S:Int) {n:Int} (hn:I64 n):∃c,Wd (.fn 107 [] []) [.int .u64 (hiS S),.int .u64 (IntKind.u64.wrap (n / 9223372036854775808)),.int .u64 (cy S n)] h = some (.ret (.tup [.int .u64 (hiS (S + n)),.int .u64 c]),h,false):=by
 obtain ⟨n1,n2⟩:=hn
 refine ⟨(hiS S + n / 9223372036854775808 % 18446744073709551616 + cy S n) / 18446744073709551616,?_⟩
 rw [IntKind.wrap_u64,qkW (by unfold hiS;omega) zo (by unfold cy;omega) (by unfold cy;omega)]
 have e:(hiS S + n / 9223372036854775808 % 18446744073709551616 + cy S n) % 18446744073709551616 = hiS (S + n):=by
  have e1:(S + n) / 18446744073709551616 = S / 18446744073709551616 + n / 9223372036854775808 + cy S n:=by
   unfold cy
   omega
  unfold hiS
  rw [e1]
  generalize S / 18446744073709551616 = a
  generalize n / 9223372036854775808 = b
  generalize cy S n = c
  omega
 rw [e]
theorem qjx (n:Int):qbG .shr (.int .i64 n) (.int .u64 63) = some (.int .i64 (n / 9223372036854775808)):=by
 have h:n.fdiv (2 ^ (min 63 64)) = n / 9223372036854775808:=by
  rw [Int.fdiv_eq_ediv_of_nonneg _ (by decide)]
  simp
 simp only [qbG,qbD,IntKind.bits]
 rw [if_neg (by decide)]
 exact congrArg (λz=>some (qa.int .i64 z)) h
def qcm:List Int->Int
 | []=>0
 | n :: l=>n + qcm l
def qhZ (l:List Int):Prop:=∀n ∈ l,I64 n
theorem qgM:∀{l:List Int},qhZ l→-9223372036854775808 * (l.length:Int) <= qcm l/\qcm l <= 9223372036854775808 * (l.length:Int)
 | [],_=>by simp [qcm]
 | n :: l,hs=>by
  obtain ⟨h1,h2⟩:=qgM (l:=l) (λx hx=>hs x (by simp [hx]))
  obtain ⟨n1,n2⟩:=hs n (by simp)
  simp only [qcm,jA,Int.natCast_add]
  omega
theorem qvu {T:Int} (hT:-9223372036854775808 * 200 <= T/\T <= 9223372036854775808 * 200):(hiS T == IntKind.u64.wrap (IntKind.i64.wrap (loS T) / 9223372036854775808)) = qdR T/\(qdR T = true->IntKind.i64.wrap (loS T) = T):=by
 obtain ⟨q,o,e,o1,o2⟩ :∃q o:Int,T = 18446744073709551616 * q + o/\0 <= o/\o < 18446744073709551616:=⟨T / 18446744073709551616,T % 18446744073709551616,zo,zo,zo⟩
 have eL:loS T = o:=by unfold loS;omega
 have eH:T / 18446744073709551616 = q:=zo
 have q1:-200 <= q/\q <= 200:=zo
 unfold hiS
 rw [eL,eH]
 rcases Int.lt_or_le o 9223372036854775808 with ho | ho
 ·have ew:IntKind.i64.wrap o = o:=by rw [IntKind.wrap_i64];omega
  rw [ew,show o / 9223372036854775808 = 0 by omega,show IntKind.u64.wrap 0 = 0 by kernel_rfl,Bool.eq_iff_iff,beq_iff_eq,qas,I64]
  omega
 ·have ew:IntKind.i64.wrap o = o - 18446744073709551616:=by rw [IntKind.wrap_i64];omega
  rw [ew,show (o - 18446744073709551616) / 9223372036854775808 = -1 by omega,show IntKind.u64.wrap (-1) = 18446744073709551615 by kernel_rfl,Bool.eq_iff_iff,beq_iff_eq,qas,I64]
  omega
end
section
variable (h:List qb)
def sLo:List Int->Int
 | []=>0
 | n :: l=>n % 4294967296 + sLo l
def sHi:List Int->Int
 | []=>0
 | n :: l=>n / 4294967296 + sHi l
theorem qv4:∀l,qcm l = 4294967296 * sHi l + sLo l
 | []=>rfl
 | n :: l=>by simp only [qcm,sHi,sLo,qv4 l];omega
theorem qws:∀l,0 <= sLo l/\sLo l <= 4294967296 * (l.length:Int)
 | []=>by simp [sLo]
 | n :: l=>by
  have:=qws l
  simp only [sLo,jA,Int.natCast_add]
  omega
theorem qwr:∀{l},qhZ l→-2147483648 * (l.length:Int) <= sHi l/\sHi l <= 2147483648 * (l.length:Int)
 | [],_=>by simp [sHi]
 | n :: l,hs=>by
  obtain ⟨h1,h2⟩:=qwr (l:=l) (λx hx=>hs x (by simp [hx]))
  obtain ⟨n1,n2⟩:=hs n (by simp)
  simp only [sHi,jA,Int.natCast_add]
  omega
theorem tm (n:Int):(n.tmod 4294967296 < 0->n.tmod 4294967296 + 4294967296 = n % 4294967296)/\(0 <= n.tmod 4294967296->n.tmod 4294967296 = n % 4294967296)∧-4294967296 < n.tmod 4294967296:=by
 rcases Int.le_total 0 n with h | h
 ·rw [Int.tmod_eq_emod_of_nonneg h]
  omega
 ·have e:n.tmod 4294967296 = -((-n) % 4294967296):=by rw [<-Int.tmod_eq_emod_of_nonneg zo,Int.neg_tmod,Int.neg_neg]
  omega
theorem td (n:Int):(n - n % 4294967296).tdiv 4294967296 = n / 4294967296:=by
 rw [show n - n % 4294967296 = n / 4294967296 * 4294967296 by omega,Int.mul_tdiv_cancel _ (by decide)]
end
structure Vr where
 ta:Str
 nm:Str
 k:Int
 L:List qa
structure Pt where
 nm:Str
 k:Int
 L:List qa
def vrR (v:Vr):List qa:=[.str v.ta,.str v.nm,.int .i64 v.k,.lst v.L .no]
def ptV (p:Pt):qa:=.agg [.str p.nm,.int .i64 p.k,.lst p.L .no]
def pos:List Str->Str->Nat->Int
 | [],_,_=>-1
 | x :: l,s,i=>bif x == s then (i:Int) else pos l s (i + 1)
theorem qcZ (v:Vr):qb0 (vrR v):=by
 intro c hc
 simp only [vrR,List.mem_cons,List.not_mem_nil,or_false] at hc
 rcases hc with rfl | rfl | rfl | rfl <;> exact ⟨rfl,rfl⟩
theorem qnF:∀vs:List Vr,qb0 (vs.map vrR).flatten:=by
 intro vs c hc
 obtain ⟨l,hl,hc⟩:=List.mem_flatten.1 hc
 obtain ⟨v,_,rfl⟩:=jR.1 hl
 exact qcZ v c hc
theorem qi9 (vs:List Vr):∀v ∈ vs.map vrR,v.length = 4:=λv hv=>by
 obtain ⟨x,_,rfl⟩:=jR.1 hv
 rfl
def qh9 (h:List qb) (vs:List Vr) (V:qa):Prop:=(vs = []/\V = .lst [] .full)\/∃id,V = .sl id 0 vs.length vs.length 4/\h[id]? = some (.cells (vs.map vrR).flatten)
section
variable {h:List qb}
theorem qln (t:List qa) (f:FuncId) (a b:List qo):pureV t (.mkF f a b) = some (.fn f (a.map (ev t)) (b.map (ev t))):=rfl
theorem qjl (y:Vr) {b:Nat} {s:Str} {H:List qb} (hb:H[b]? = some (.cells [.str s])):Wd (.fn 102 [] [.ptr b 0]) [.agg [.str y.ta,.str y.nm,.int .i64 y.k,.lst y.L .no]] H = some (.ret (.bool (y.nm == s)),H,false):=by
 have B:∀X,(H ++ X)[b]? = some (.cells [.str s]):=λX=>by rw [ja (jd.1 hb).1];exact hb
 rw [qm 102 qB8]
 simp only [sB.1,qB8,seval,B]
theorem qjk (vs:List Vr) (V:qa) (hV:qh9 h vs V) (s:Str) (hl:vs.length <= 100000) {b:Nat} (hb:h[b]? = some (.cells [.str s])):Wd (.fn 101 [] []) [V,.fn 102 [] [.ptr b 0]] h = some (.ret (.int .i64 (pos (vs.map (·.nm)) s 0)),h,false):=by
 have O:V.dim = V:=by rcases hV with ⟨_,rfl⟩ | ⟨id,rfl,_⟩ <;> rfl
 have J:∀i t,qz V i t = t:=by rcases hV with ⟨_,rfl⟩ | ⟨id,rfl,_⟩ <;> exact λ_ _=>rfl
 have M:qbB false V = some (.int .i64 (vs.length:Nat)):=by rcases hV with ⟨rfl,rfl⟩ | ⟨id,rfl,_⟩ <;> rfl
 have loop:∀q st,(∃(tt:List qa) (G:List qb) (i:Nat),st = ⟨tt,G,false⟩/\tt.length = 19/\G.take h.length = h/\h.length <= G.length/\lkp tt 1 = .fn 102 [] [.ptr b 0]/\lkp tt 7 = V/\lkp tt 8 = .int .i64 (vs.length:Nat)/\lkp tt 9 = .int .i64 (i:Nat)/\i + q = vs.length/\pos ((vs.map (·.nm)).drop i) s i = pos (vs.map (·.nm)) s 0)->
   ∃x S,qj h.length Wd (.loop qgo) st = some (x,S)/\(∃(tt:List qa) (G:List qb),S = ⟨tt,G,false⟩/\tt.length = 19/\G.take h.length = h/\((x = .exit 0/\pos (vs.map (·.nm)) s 0 = -1)\/(x = .ret/\lkp tt 4 = .int .i64 (pos (vs.map (·.nm)) s 0)))):=by
  refine qx _ _ ?_
  rintro q st ⟨tt,G,i,rfl,ht,E,U,e1,e7,e8,e9,a8,hR⟩
  generalize he:qj h.length Wd qgo _ = r
  rcases Nat.lt_or_ge i vs.length with hi | hi
  ·have c1:ilt (i:Int) (vs.length:Int) = true:=qzX zo
   have w:=qaf (n:=i) zo
   have a7:i < (vs.map (·.nm)).length:=by simpa using hi
   obtain ⟨id,ho,hx,B⟩ :∃id,G[id]? = some (.cells (vs.map vrR).flatten)/\qar 4 V (.int .i64 (i:Nat)) = some (.ptr id (i * 4))/\Go.AE.cut (vs.map vrR).flatten (i * 4) (some 4) = some (.agg (vrR vs[i])):=by
    rcases hV with ⟨rfl,_⟩ | ⟨id,rfl,hid⟩
    ·simp at hi
    ·refine ⟨id,?_,qck hi,?_⟩
     ·rw [<-E,List.getElem?_take] at hid
      split at hid
      ·exact hid
      ·cases hid
     ·rw [qdD (qi9 vs) (by simpa using hi) (by rw [List.getElem_map];exact λc hc=>(qcZ _ c hc).1),List.getElem_map]
   have a6:G[b]? = some (.cells [.str s]):=by
    rw [<-E,List.getElem?_take] at hb
    split at hb
    ·exact hb
    ·cases hb
   rw [jV a7,pos,List.getElem_map] at hR
   generalize vs[i] = y at hx hR B
   have hp:=qjl y (H:=G ++ [.cells [.str y.ta,.str y.nm,.int .i64 y.k,.lst y.L .no]]) (b:=b) (s:=s) (by rw [ja (jd.1 a6).1];exact a6)
   have a1:Nat.ble h.length G.length = true:=qf U
   rw [vrR] at B
   cases I:(y.nm == s) with
   | true=>
    rw [I,cond_true] at hR
    rw [I] at hp
    simp only [sB.1,qgo,seval,ht,e1,e7,e8,e9,c1,hx,w,hp,a1,O,J,M,ho,B] at he
    subst he
    refine .inr ⟨_,_,rfl,by simp,_,_,rfl,?_,?_,.inr ⟨rfl,?_⟩⟩
    ·simp only [qaX,ht]
    ·rw [jU U,E]
    ·rw [<-hR]
     simp only [sB.1,seval,ht]
   | false=>
    rw [I,cond_false] at hR
    rw [I] at hp
    simp only [sB.1,qgo,seval,ht,e1,e7,e8,e9,c1,hx,w,hp,a1,O,J,M,ho,B] at he
    subst he
    refine .inl ⟨_,q - 1,rfl,zo,_,_,i + 1,rfl,?_,?_,?_,?_,?_,?_,?_,zo,hR⟩
    ·simp only [qaX,ht]
    ·rw [jU U,E]
    ·simp;omega
    ·simp only [sB.1,seval,ht,e1]
    ·simp only [sB.1,seval,ht,e7]
    ·simp only [sB.1,seval,ht,e8]
    ·simp only [sB.1,seval,ht]
  ·have c1:ilt (i:Int) (vs.length:Int) = false:=qzW zo
   rw [List.drop_eq_nil_of_le (by simpa using hi),pos] at hR
   simp only [sB.1,qgo,seval,ht,e1,e7,e8,e9,c1] at he
   subst he
   exact .inr ⟨_,_,rfl,by simp,_,_,rfl,Y0,E,.inl ⟨rfl,hR.symm⟩⟩
 generalize hw:Wd _ _ h = w
 rw [qm 101 qB7] at hw
 simp only [sB.1,qB7,seval,O,J,M] at hw
 generalize hr:qj h.length Wd (.loop qgo) _ = r at hw
 obtain ⟨x,S,rfl,tt,G,rfl,ht,hG,hq⟩:=qaH hr (loop vs.length _ ⟨_,_,0,rfl,Y1,by simp,by simp,Y1,by simp only [sB.1,seval,O,J,M],Y1,u4,zo,rfl⟩)
 rcases hq with ⟨rfl,hp⟩ | ⟨rfl,e4⟩
 ·simp only [sB.1,seval,ht] at hw
  subst hw
  rw [hp]
  exact congrArg some (qS hG rfl)
 ·simp only [sB.1,seval,ht,e4] at hw
  subst hw
  exact congrArg some (qS hG rfl)
theorem qkQ (vs:List Vr) (V:qa) (hV:qh9 h vs V) (s:Str) (hl:vs.length <= 100000):Wd (.fn 74 [] []) [V,.str s] h = some (.ret (.int .i64 (pos (vs.map (·.nm)) s 0)),h,false):=by
 have E:V.dim = V:=by rcases hV with ⟨_,rfl⟩ | ⟨id,rfl,_⟩ <;> rfl
 have B:∀i t,qz V i t = t:=by rcases hV with ⟨_,rfl⟩ | ⟨id,rfl,_⟩ <;> exact λ_ _=>rfl
 have I:qbB false V = some (.int .i64 (vs.length:Nat)):=by rcases hV with ⟨rfl,rfl⟩ | ⟨id,rfl,_⟩ <;> rfl
 have hp:=qjk vs V (h:=h ++ [.cells [.str s]]) (by rcases hV with hV | ⟨id,e,hid⟩;exact .inl hV;exact .inr ⟨id,e,by rw [ja (jd.1 hid).1];exact hid⟩) s hl (b:=h.length) (by rw [qY];rfl)
 rw [qm 74 c74]
 simp only [sB.1,c74,seval,qln,hp,E,B]
theorem qhW (y:Pt) {b:Nat} {s:Str} {H:List qb} (hb:H[b]? = some (.cells [.str s])):Wd (.fn 104 [] [.ptr b 0]) [.agg [.str y.nm,.int .i64 y.k,.lst y.L .no]] H = some (.ret (.bool (y.nm == s)),H,false):=by
 have B:∀X,(H ++ X)[b]? = some (.cells [.str s]):=λX=>by rw [ja (jd.1 hb).1];exact hb
 rw [qm 104 qCa]
 simp only [sB.1,qCa,seval,B]
theorem qhV (vs:List Pt) (s:Str) (hl:vs.length <= 100000) {b:Nat} (hb:h[b]? = some (.cells [.str s])):Wd (.fn 103 [] []) [(.lst (vs.map ptV) .no),.fn 104 [] [.ptr b 0]] h = some (.ret (.int .i64 (pos (vs.map (·.nm)) s 0)),h,false):=by
 have loop:∀q st,(∃(tt:List qa) (G:List qb) (i:Nat),st = ⟨tt,G,false⟩/\tt.length = 19/\G.take h.length = h/\h.length <= G.length/\lkp tt 1 = .fn 104 [] [.ptr b 0]/\lkp tt 7 = (.lst (vs.map ptV) .no)/\lkp tt 8 = .int .i64 (vs.length:Nat)/\lkp tt 9 = .int .i64 (i:Nat)/\i + q = vs.length/\pos ((vs.map (·.nm)).drop i) s i = pos (vs.map (·.nm)) s 0)->
   ∃x I,qj h.length Wd (.loop qgp) st = some (x,I)/\(∃(tt:List qa) (G:List qb),I = ⟨tt,G,false⟩/\tt.length = 19/\G.take h.length = h/\((x = .exit 0/\pos (vs.map (·.nm)) s 0 = -1)\/(x = .ret/\lkp tt 4 = .int .i64 (pos (vs.map (·.nm)) s 0)))):=by
  refine qx _ _ ?_
  rintro q st ⟨tt,G,i,rfl,ht,E,J,e1,e7,e8,e9,U,hR⟩
  generalize he:qj h.length Wd qgp _ = r
  rcases Nat.lt_or_ge i vs.length with hi | hi
  ·have c1:ilt (i:Int) (vs.length:Int) = true:=qzX zo
   have w:=qaf (n:=i) zo
   have S:i < (vs.map (·.nm)).length:=by simpa using hi
   have hg:(vs.map ptV)[i]? = some (ptV vs[i]):=by rw [List.getElem?_map,List.getElem?_eq_getElem hi];rfl
   have hx:qar 3 (.lst (vs.map ptV) .no) (.int .i64 (i:Nat)) = some (.iptr [.str vs[i].nm,.int .i64 vs[i].k,.lst vs[i].L .no] 0):=qa4 hg rfl
   have O:G[b]? = some (.cells [.str s]):=by
    rw [<-E,List.getElem?_take] at hb
    split at hb
    ·exact hb
    ·cases hb
   rw [jV S,pos,List.getElem_map] at hR
   generalize vs[i] = y at hx hR hg
   have hp:=qhW y (H:=G ++ [.cells [.str y.nm,.int .i64 y.k,.lst y.L .no]]) (b:=b) (s:=s) (by rw [ja (jd.1 O).1];exact O)
   have M:Nat.ble h.length G.length = true:=qf J
   skip
   cases B:(y.nm == s) with
   | true=>
    rw [B,cond_true] at hR
    rw [B] at hp
    simp only [sB.1,qgp,seval,ht,e1,e7,e8,e9,c1,hx,w,hp,M,jW] at he
    subst he
    refine .inr ⟨_,_,rfl,by simp,_,_,rfl,?_,?_,.inr ⟨rfl,?_⟩⟩
    ·simp only [qaX,ht]
    ·rw [jU J,E]
    ·rw [<-hR]
     simp only [sB.1,seval,ht]
   | false=>
    rw [B,cond_false] at hR
    rw [B] at hp
    simp only [sB.1,qgp,seval,ht,e1,e7,e8,e9,c1,hx,w,hp,M,jW] at he
    subst he
    refine .inl ⟨_,q - 1,rfl,zo,_,_,i + 1,rfl,?_,?_,?_,?_,?_,?_,?_,zo,hR⟩
    ·simp only [qaX,ht]
    ·rw [jU J,E]
    ·simp;omega
    ·simp only [sB.1,seval,ht,e1]
    ·simp only [sB.1,seval,ht,e7]
    ·simp only [sB.1,seval,ht,e8]
    ·simp only [sB.1,seval,ht]
  ·have c1:ilt (i:Int) (vs.length:Int) = false:=qzW zo
   rw [List.drop_eq_nil_of_le (by simpa using hi),pos] at hR
   simp only [sB.1,qgp,seval,ht,e1,e7,e8,e9,c1] at he
   subst he
   exact .inr ⟨_,_,rfl,by simp,_,_,rfl,Y0,E,.inl ⟨rfl,hR.symm⟩⟩
 generalize hw:Wd _ _ h = w
 rw [qm 103 qB9] at hw
 simp only [sB.1,qB9,seval,jW] at hw
 generalize hr:qj h.length Wd (.loop qgp) _ = r at hw
 obtain ⟨x,I,rfl,tt,G,rfl,ht,hG,hq⟩:=qaH hr (loop vs.length _ ⟨_,_,0,rfl,Y1,by simp,by simp,Y1,by simp only [sB.1,seval,jW],Y1,u4,zo,rfl⟩)
 rcases hq with ⟨rfl,hp⟩ | ⟨rfl,e4⟩
 ·simp only [sB.1,seval,ht] at hw
  subst hw
  rw [hp]
  exact congrArg some (qS hG rfl)
 ·simp only [sB.1,seval,ht,e4] at hw
  subst hw
  exact congrArg some (qS hG rfl)
theorem qi5 (vs:List Pt) (s:Str) (hl:vs.length <= 100000):Wd (.fn 75 [] []) [(.lst (vs.map ptV) .no),.str s] h = some (.ret (.int .i64 (pos (vs.map (·.nm)) s 0)),h,false):=by
 have hp:=qhV vs (h:=h ++ [.cells [.str s]]) s hl (b:=h.length) (by rw [qY];rfl)
 rw [qm 75 c75]
 simp only [sB.1,c75,seval,qln,hp]
end
theorem qa9 (t z:List qa) (ps:List (Nat×Nat×qo)):pureV t (.build z ps) = (qbd z (ps.map λ(o,s,x)=>(o,s,ev t x))).map .agg:=rfl
def VS (h:List qb) (b:Nat) (vs:List Vr) (n:Nat) (V:qa):Prop:=(n = 0/\V = .lst [] .full)\/∃id,V = .sl id 0 n n 4/\b <= id/\0 < n/\h[id]? = some (.cells ((vs.take n).map vrR).flatten)
theorem VS.facts {h:List qb} {b n:Nat} {vs:List Vr} {V:qa} (hV:VS h b vs n V):V.dim = V/\∀i t,qz V i t = t:=by
 rcases hV with ⟨_,rfl⟩ | ⟨id,rfl,_⟩ <;> exact ⟨rfl,λ_ _=>rfl⟩
theorem VS.next {h:List qb} {b n base:Nat} {vs:List Vr} {V:qa} (hV:VS h b vs n V) (hb:b <= h.length) (hn:n < vs.length) (hl:vs.length <= 100000) :
  ∃V' h',hop base (.app 4) [V,.sl h.length 0 1 1 0] (h ++ [.cells (vrR vs[n])]) = some (V',h',false)/\VS h' b vs (n + 1) V'/\h'.take b = h.take b/\b <= h'.length:=by
 have h2:(h ++ [qb.cells (vrR vs[n])])[h.length]? = some (.cells (vrR vs[n])):=by rw [qY];rfl
 have ht:((vs.take (n + 1)).map vrR).flatten = ((vs.take n).map vrR).flatten ++ vrR vs[n]:=by
  rw [List.take_succ_eq_append_getElem hn,List.map_append,List.flatten_append]
  simp only [List.map_cons,List.map_nil,List.flatten_cons,List.flatten_nil,List.append_nil]
 rcases hV with ⟨rfl,rfl⟩ | ⟨id,rfl,hid,h0,hi⟩
 ·refine ⟨_,_,qcb h2 rfl (qcZ _),.inr ⟨_,rfl,by simp;omega,zo,?_⟩,?_,by simp;omega⟩
  ·rw [qY,ht]
   simp
  ·rw [List.append_assoc,jU hb]
 ·have hlt:id < h.length:=(jd.1 hi).1
  have B:(h ++ [qb.cells (vrR vs[n])])[id]? = some (.cells ((vs.take n).map vrR).flatten):=by rw [ja hlt];exact hi
  have hc:(((vs.take n).map vrR).flatten).length = n * 4:=by rw [qc5 (qi9 _),jW,List.length_take,Nat.min_eq_left zo]
  refine ⟨_,_,qc2 B h2 rfl hc (qcZ _) (qnF _) zo zo,.inr ⟨_,rfl,by simp;omega,zo,?_⟩,?_,by simp;omega⟩
  ·rw [show (h ++ [qb.cells (vrR vs[n])]).length = ((h ++ [qb.cells (vrR vs[n])]).set id .dead).length by simp,qY,ht]
   rfl
  ·rw [jU (by simp;omega),List.take_set_of_le zo,jU hb]
end Go.Proofs.YtnibchoenjmmjaaGreatDoor.AE
