/- A part of the proof. No condition. -/
import Derived.Test.YtcbfifamliijlaaGreatDoorMb16
import Derived.Test.YtcbfifamliijlaaGreatDoorMb7
import Derived.Test.YtcbfifamliijlaaGreatDoorMb2
open Int renaming reduceNatCast'→rN
set_option maxRecDepth 100000
set_option maxHeartbeats 0
open List renaming getElem?_append_left→ja,getElem?_eq_some_iff→jd,take_append_of_le_length→jS,getElem?_set_ne→jf,getElem?_set_self→jg,drop_eq_getElem_cons→jU,getElem?_eq_getElem→jh,length_map→jQ,getElem?_map→jr,length_cons→jy
open Int renaming natCast_zero→j6
open Bool renaming and_eq_true→jk,true_and→jZ
open Option renaming map_none→j7
namespace Go.Proofs.YtcbfifamliijlaaGreatDoor.AE
open Go.AE
structure qEE (m:qm):Prop where
 ins:qe9 m.ins
 outs:qe9 m.outs
 vars:qe9 m.vars
 ta:qe9 m.ta
 emits:qe9 m.emits/\∀x ∈ m.emits,qe9 x.ifs
 int:qe9 m.int
 ext:qe9 m.ext
 own:qe9 m.own
 rules:qe9 m.rules
def MG (m:qm):Prop:=qxN m/\qff Go1 m
section
variable {h:List qh}
theorem qpT {l:List qm} (hl:l.length <= 60) (hN:∀m ∈ l,qEE m) {root:Str} :
  ∀q st,(∃(tt:List qd) (i:Nat) (rm:Int) (E:List qh),st = ⟨tt,h ++ .cells [.lst (l.map qm.enc) .no,.str root] :: E,false⟩/\tt.length = 171/\lkp tt 1 = .ptr h.length 0/\lkp tt 3 = .int .i64 rm/\lkp tt 4 = .int .i64 (i:Nat)/\i + q = l.length∧-1 <= rm/\rm <= 600/\(0 <= rm->∀m ∈ l.take i,MG m))->
   ∃x I,qp h.length Wd (.loop qyi) st = some (x,I)/\(∃(tt:List qd) (E:List qh),I = ⟨tt,h ++ .cells [.lst (l.map qm.enc) .no,.str root] :: E,false⟩/\tt.length = 171/\((x = .exit 0/\∃rm:Int,lkp tt 3 = .int .i64 rm/\(0 <= rm->∀m ∈ l,MG m))\/(x = .ret/\lkp tt 2 = .int .i64 0))):=by
 refine qao _ (λx I=>∃(tt:List qd) (E:List qh),I = ⟨tt,h ++ .cells [.lst (l.map qm.enc) .no,.str root] :: E,false⟩/\tt.length = 171/\((x = .exit 0/\∃rm:Int,lkp tt 3 = .int .i64 rm/\(0 <= rm->∀m ∈ l,MG m))\/(x = .ret/\lkp tt 2 = .int .i64 0))) ?_
 rintro q st ⟨tt,i,rm,E,rfl,ht,e1,e3,e4,am,aj,ai,Y⟩
 generalize he:qp h.length Wd qyi _ = r
 obtain ⟨pb,ak⟩ :∃pb,pb = qh.cells [.lst (l.map qm.enc) .no,.str root]:=⟨_,rfl⟩
 rcases Nat.lt_or_ge i l.length with hi | hi
 ·have c1:ilt (i:Int) (l.length:Int) = true:=qiK zo
  by_cases a7:0 <= rm
  ·have c2:ile 0 rm = true:=qv1 a7
   have w:=qC (n:=i) zo
   have wr:IntKind.i64.wrap (rm - 1) = rm - 1:=qbi zo zo
   have hM:=hN l[i] (List.getElem_mem hi)
   have hg:(l.map qm.enc)[i]? = some l[i].enc:=by rw [jr,jh hi];rfl
   have a6:MG l[i]->∀m ∈ l.take (i + 1),MG m:=λh0=>by
    rw [List.take_succ_eq_append_getElem hi]
    intro s hs
    rcases List.mem_append.1 hs with hs | hs
    ·exact Y a7 s hs
    ·rw [List.mem_singleton] at hs
     subst hs
     exact h0
   generalize l[i] = m at hM hg a6
   obtain ⟨G,hG⟩ :∃G,G = h ++ .cells [.lst (l.map qm.enc) .no,.str root] :: (E ++ [.cells m.cs]):=⟨_,rfl⟩
   have hA:G[h.length + (E.length + 1)]? = some (.cells m.cs):=by rw [hG,qbm];simp
   obtain ⟨r1,x1,y1,z1,f1⟩:=qnO hM.ins (show -1 <= rm - 1 by omega) zo G
   obtain ⟨r2,x2,y2,z2,f2⟩:=qnO hM.outs y1 z1 G
   obtain ⟨r3,x3,y3,z3,f3⟩:=qj2 hM.vars y2 z2 G
   obtain ⟨r4,x4,y4,z4,f4⟩:=qj2 hM.int y3 z3 G
   obtain ⟨r5,x5,y5,z5,f5⟩:=qj2 hM.ext y4 z4 G
   obtain ⟨r6,x6,y6,z6,f6⟩:=qj2 hM.own y5 z5 G
   have L0:=qxk (P:=h.length) (A:=h.length + (E.length + 1)) (j:=i) hA hM.ta (room:=r6)
   have L2:=λr7 (z:r7 <= 600)=>qmG (P:=h.length) (A:=h.length + (E.length + 1)) (j:=i) hA hM.emits.1 hM.emits.2 (room:=r7) z
   have L3:=λr8=>qmH (P:=h.length) (A:=h.length + (E.length + 1)) (j:=i) hA hM.rules (room:=r8)
   have ad:Nat.ble h.length (h.length + (E.length + 1)) = true:=qj zo
   have al:∀b:qh,(h ++ b :: E).length = h.length + (E.length + 1):=λb=>by simp
   obtain ⟨nm,cp,ins,outs,vars,ta,a8,int,ext,ap,own,parts,aa,a1⟩:=m
   rw [qm.enc] at hg
   simp only [qm.cs] at hg hA hG L0 L2 L3
   have hx:=qar (k:=14) (f:=.no) (j:=.i64) hg rfl
   change qfH 14 (.lst (l.map qm.enc) .no) _ = _ at hx
   simp only [qd.cells] at hx
   simp only at x1 x2 x3 x4 x5 x6 f1 f2 f3 f4 f5 f6
   rw [hG] at x1 x2 x3 x4 x5 x6 L0 L2 L3
   cases c5:(ilt 100 (parts.length:Nat) || (ilt 300 (aa.length:Nat) || (ilt 100 (a1.length:Nat) || (ilt 100 (a8.length:Nat) || ilt 100 (ta.length:Nat))))) with
   | true=>
    simp only [qyi,sT.1,sC.1,qe,qw,seval,-rN,ht,e1,e3,e4,c1,c2,hx,ad,c5,Bool.or_assoc,jQ] at he
    subst he
    exact .inr ⟨_,_,rfl,by simp,_,_,rfl,Y1,.inr ⟨rfl,x9⟩⟩
   | false=>
    simp only [qyi,sT.1,sC.1,qe,qw,Nat.testBit,bne,seval,-rN,ht,e1,e3,e4,c1,c2,wr,hx,ad,c5,x1,x2,x3,x4,x5,x6,Bool.or_assoc,jQ] at he
    generalize hq:qp h.length Wd (.loop qz7) _ = q1 at he
    obtain ⟨x,I,rfl,rfl,t1,r7,rfl,⟨ac,g1,g4,g5⟩,g3,y7,z7,f7⟩:=qc0 hq (L0 ta.length _ ⟨_,0,r6,rfl,⟨Y1,v6,v7,z10⟩,z10,by simp only [sT.1,seval,-rN,ht,j6],zo,y6,z6,λ_=>⟨by simp,zo⟩⟩)
    simp only [sT.1,sC.1,qe,seval,-rN] at he
    generalize af:qp h.length Wd (.loop qz9) _ = q2 at he
    obtain ⟨x,I,rfl,rfl,t2,r8,rfl,⟨ab,k1,k4,k5⟩,k3,y8,z8,f8⟩:=qc0 af (L2 r7 z7 a8.length _ ⟨_,0,r7,rfl,⟨by simp only [qcq,ac],by simp only [sT.1,sC.1,seval,-rN,g1],by simp only [sT.1,sC.1,seval,-rN,g4],by simp only [sT.1,sC.1,seval,-rN,g5]⟩,by simp only [sT.1,sC.1,seval,-rN,g3],by simp only [sT.1,seval,-rN,ac,j6],zo,y7,z7,λ_=>⟨by simp,zo⟩⟩)
    simp only [sT.1,sC.1,qe,seval,-rN] at he
    generalize ae:qp h.length Wd (.loop qyh) _ = q3 at he
    obtain ⟨x,I,rfl,hR⟩:=qc0 ae (L3 r8 a1.length _ ⟨_,0,r8,rfl,⟨by simp only [qcq,ab],by simp only [sT.1,sC.1,seval,-rN,k1],by simp only [sT.1,sC.1,seval,-rN,k4],by simp only [sT.1,sC.1,seval,-rN,k5]⟩,by simp only [sT.1,sC.1,seval,-rN,k3],by simp only [sT.1,seval,-rN,ab,j6],zo,y8,z8,λ_=>⟨by simp,zo⟩⟩)
    rcases hR with ⟨rfl,t3,r9,rfl,⟨U,n1,n4,n5⟩,n3,y9,z9,f9⟩ | ⟨rfl,t3,rfl,U,n2⟩
    ·simp only [sT.1,sC.1,qe,seval,-rN,U,n4,w] at he
     subst he
     refine .inl ⟨_,q - 1,rfl,zo,_,i + 1,r9,_,rfl,by simp only [qcq,U],?_,?_,?_,zo,y9,z9,λh0=>a6 ?_⟩
     ·simp only [sT.1,sC.1,seval,-rN,n1]
     ·simp only [sT.1,sC.1,seval,-rN,n3]
     ·simp only [sT.1,seval,-rN,U]
     ·have f9:=f9 h0
      have f8:=f8 zo
      have f7:=f7 zo
      have f6:=f6 zo
      have f5:=f5 zo
      have f4:=f4 zo
      have f3:=f3 zo
      have f2:=f2 zo
      have f1:=f1 zo
      simp only [Bool.or_eq_false_iff] at c5
      have p1:=qf0 c5.1
      have p2:=qf0 c5.2.1
      exact ⟨⟨by simp only;omega,by simp only;omega,by simp only;omega,by simp only;omega,⟨by simp only;omega,λx hx=>(f8.1 x hx).2.2⟩,by simp only;omega,by simp only;omega,by simp only;omega,by simp only;omega,by simp only;omega,⟨by simp only;omega,λr hr=>by have:=(f9.1 r hr).2;omega⟩⟩,⟨f3.1,f7.1,λx hx=>⟨(f8.1 x hx).1,(f8.1 x hx).2.1⟩,f4.1,f5.1,f6.1,λr hr=>(f9.1 r hr).1⟩⟩
    ·simp only [sT.1,seval,-rN] at he
     subst he
     exact .inr ⟨_,_,rfl,by simp,_,_,rfl,U,.inr ⟨rfl,n2⟩⟩
  ·have c2:ile 0 rm = false:=quQ a7
   simp only [qyi,sT.1,sC.1,qe,qw,seval,-rN,ht,e1,e3,e4,c1,c2,jQ] at he
   subst he
   exact .inr ⟨_,_,rfl,by simp,_,E,rfl,Y1,.inl ⟨rfl,rm,Y2,λh0=>absurd h0 a7⟩⟩
 ·have c1:ilt (i:Int) (l.length:Int) = false:=qis zo
  rw [List.take_of_length_le hi] at Y
  simp only [qyi,sT.1,sC.1,qe,qw,seval,-rN,ht,e1,e3,e4,c1,jQ] at he
  subst he
  exact .inr ⟨_,_,rfl,by simp,_,E,rfl,Y1,.inl ⟨rfl,rm,Y2,Y⟩⟩
end
theorem quY {p:qap} (hN:∀m ∈ p.models,qEE m) (h:List qh):∃r:Int,Wd (.fn 6 [] []) [p.enc] h = some (.ret (.int .i64 r),h,false)/\(r ≠ 0->p.models.length <= 60/\∀m ∈ p.models,MG m):=by
 obtain ⟨l,root⟩:=p
 simp only at hN
 rw [qap.enc,qap.cs]
 simp only
 generalize hw:Wd _ _ h = w
 rw [ql 6 c6] at hw
 cases c1:ilt 60 (l.length:Nat) with
 | true=>
  simp only [c6,sT.1,sC.1,qe,seval,-rN,jQ,c1] at hw
  subst hw
  exact ⟨0,rfl,λe=>absurd rfl e⟩
 | false=>
  have U:=qf0 c1
  simp only [c6,sT.1,sC.1,qe,seval,-rN,jQ,c1] at hw
  generalize hr:qp h.length Wd (.loop qyi) _ = r at hw
  obtain ⟨x,I,rfl,tt,E,rfl,ht,⟨rfl,rm,e3,hf⟩ | ⟨rfl,e2⟩⟩:=qc0 hr (qpT (h:=h) (root:=root) zo hN l.length _ ⟨_,0,600,[],rfl,Y0,Y0,Y0,v5,zo,zo,zo,λ_=>by simp⟩)
  ·cases c2:ilt rm 0 with
   | true=>
    simp only [sT.1,sC.1,qe,seval,-rN,ht,e3,c2] at hw
    subst hw
    exact ⟨0,rfl,λe=>absurd rfl e⟩
   | false=>
    simp only [sT.1,sC.1,qe,seval,-rN,ht,e3,c2] at hw
    subst hw
    exact ⟨1,rfl,λ_=>⟨zo,hf (qf0 c2)⟩⟩
  ·simp only [sT.1,seval,-rN,e2] at hw
   subst hw
   exact ⟨0,rfl,λe=>absurd rfl e⟩
structure qBJ (m:qm):Prop where
 num:qEE m
 ints:qff OkN m
 acts:qBH m
theorem exG {m:qm} (h1:qff Go1 m) (h2:qff OkN m):qff ExG m:=
 ⟨λs h=>⟨h1.vars s h,h2.vars s h⟩,λs h=>⟨h1.ta s h,h2.ta s h⟩,λs h=>⟨⟨(h1.emits s h).1,(h2.emits s h).1⟩,λe he=>⟨(h1.emits s h).2 e he,(h2.emits s h).2 e he⟩⟩,λs h=>⟨h1.int s h,h2.int s h⟩,λs h=>⟨h1.ext s h,h2.ext s h⟩,λs h=>⟨h1.own s h,h2.own s h⟩,λs h=>⟨h1.rules s h,h2.rules s h⟩⟩
section
variable {h:List qh}
theorem qd1 (c:UInt8) (h:List qh):Wd (.fn 157 [] []) [.int .u8 (c.toNat:Nat)] h = some (.ret (.bool (qaZ c)),h,false):=by
 rw [ql 157 qEk]
 simp only [qEk,sT.1,sC.1,qe,qw,seval,-rN,qaZ]
theorem qjd (c:UInt8) (h:List qh):Wd (.fn 159 [] []) [.int .u8 (c.toNat:Nat)] h = some (.ret (.bool (qag c)),h,false):=by
 rw [ql 159 qEl]
 simp only [qEl,sT.1,sC.1,qe,qw,seval,-rN,qag]
def qan (p:UInt8->Bool) (s:Str) (i:Nat):Nat:=i + ((s.drop i).takeWhile p).length
theorem qhn {p:UInt8->Bool} {s:Str} {i:Nat} (hi:i < s.length) (hp:p s[i] = true):qan p s i = qan p s (i + 1):=by
 rw [qan,qan,jU hi,List.takeWhile_cons_of_pos hp,jy]
 omega
theorem qi9 {p:UInt8->Bool} {s:Str} {i:Nat} (hi:i < s.length) (hp:p s[i] = false):qan p s i = i:=by
 rw [qan,jU hi,List.takeWhile_cons_of_neg (by simp [hp])]
 rfl
theorem qlg {p:UInt8->Bool} {s:Str} {i:Nat} (hi:s.length <= i):qan p s i = i:=by
 rw [qan,List.drop_eq_nil_of_le hi]
 rfl
theorem qcI (p:UInt8->Bool) (s:Str) {i:Nat} (hi:i <= s.length):qan p s i <= s.length:=by
 have h1:=(List.takeWhile_sublist (l:=s.drop i) p).length_le
 rw [List.length_drop] at h1
 rw [qan]
 omega
theorem qdd (p:UInt8->Bool) (s:Str) (i:Nat):i <= qan p s i:=by rw [qan];omega
def qaO (c:UInt8):Bool:=qaZ c || qag c
theorem qtf {b:Nat} (s:Str) (hs:s.length <= 100000):∀(k i:Nat) (tt:List qd),i + k = s.length->tt.length = 60->lkp tt 0 = .str s->lkp tt 11 = .int .i64 (i:Nat)->
  ∃E,qp b Wd (.loop qgV) ⟨tt,h,false⟩ = some (.exit 0,⟨E,h,false⟩)/\E.length = 60/\lkp E 0 = .str s/\lkp E 11 = .int .i64 (qan qaO s i:Nat)/\lkp E 1 = lkp tt 1/\lkp E 2 = lkp tt 2/\lkp E 3 = lkp tt 3/\lkp E 8 = lkp tt 8:=by
 intro k
 induction k with
 | zero=>
  intro i tt hk ht e0 e11
  have c1:ilt (i:Int) (s.length:Int) = false:=by rw [qX];simp;omega
  rw [qlg zo,qr]
  simp only [qgV,sT.1,sC.1,qe,qw,seval,-rN,ht,e0,e11,c1]
  exact ⟨_,rfl,Y1,u4,z11,Y0,Y0,Y0,Y0⟩
 | succ k ih=>
  intro i tt hk ht e0 e11
  have hi:i < s.length:=zo
  have c1:ilt (i:Int) (s.length:Int) = true:=by rw [qX];simp;omega
  have hx:qgT (.str s) (.int .i64 (i:Nat)) = some (.int .u8 (s[i].toNat:Nat)):=qaY (jh hi)
  have w:=qC (n:=i) zo
  rw [qr]
  generalize he:qp b Wd qgV _ = r
  cases hb:qaZ s[i] with
  | true=>
   rw [qhn hi (by rw [qaO,hb];rfl)]
   simp only [qgV,sT.1,sC.1,qe,qw,seval,-rN,ht,e0,e11,c1,hx,w,qd1,hb] at he
   subst he
   refine (ih (i + 1) _ zo ?_ ?_ ?_).imp λE g=>⟨g.1,g.2.1,g.2.2.1,g.2.2.2.1,g.2.2.2.2.1.trans ?_,g.2.2.2.2.2.1.trans ?_,g.2.2.2.2.2.2.1.trans ?_,g.2.2.2.2.2.2.2.trans ?_⟩
   all_goals simp only [sT.1,sC.1,seval,-rN,ht,e0]
  | false=>
   cases hd:qag s[i] with
   | true=>
    rw [qhn hi (by rw [qaO,hb,hd];rfl)]
    simp only [qgV,sT.1,sC.1,qe,qw,seval,-rN,ht,e0,e11,c1,hx,w,qd1,qjd,hb,hd] at he
    subst he
    refine (ih (i + 1) _ zo ?_ ?_ ?_).imp λE g=>⟨g.1,g.2.1,g.2.2.1,g.2.2.2.1,g.2.2.2.2.1.trans ?_,g.2.2.2.2.2.1.trans ?_,g.2.2.2.2.2.2.1.trans ?_,g.2.2.2.2.2.2.2.trans ?_⟩
    all_goals simp only [sT.1,sC.1,seval,-rN,ht,e0]
   | false=>
    rw [qi9 hi (by rw [qaO,hb,hd];rfl)]
    simp only [qgV,sT.1,sC.1,qe,qw,seval,-rN,ht,e0,e11,c1,hx,qd1,qjd,hb,hd] at he
    subst he
    exact ⟨_,rfl,Y1,u4,z11,Y0,Y0,Y0,Y0⟩
theorem qcW {b:Nat} (s:Str) (hs:s.length <= 100000):∀(k i:Nat) (tt:List qd),i + k = s.length->tt.length = 53->lkp tt 0 = .str s->lkp tt 7 = .int .i64 (i:Nat)->
  ∃E,qp b Wd (.loop qew) ⟨tt,h,false⟩ = some (.exit 0,⟨E,h,false⟩)/\E.length = 53/\lkp E 0 = .str s/\lkp E 7 = .int .i64 (qan qag s i:Nat)/\lkp E 1 = lkp tt 1/\lkp E 4 = lkp tt 4:=by
 intro k
 induction k with
 | zero=>
  intro i tt hk ht e0 e11
  have c1:ilt (i:Int) (s.length:Int) = false:=by rw [qX];simp;omega
  rw [qlg zo,qr]
  simp only [qew,sT.1,sC.1,qe,qw,seval,-rN,ht,e0,e11,c1]
  exact ⟨_,rfl,Y1,u4,z11,Y0,Y0⟩
 | succ k ih=>
  intro i tt hk ht e0 e11
  have hi:i < s.length:=zo
  have c1:ilt (i:Int) (s.length:Int) = true:=by rw [qX];simp;omega
  have hx:qgT (.str s) (.int .i64 (i:Nat)) = some (.int .u8 (s[i].toNat:Nat)):=qaY (jh hi)
  have w:=qC (n:=i) zo
  rw [qr]
  generalize he:qp b Wd qew _ = r
  cases hd:qag s[i] with
  | true=>
   rw [qhn hi hd]
   simp only [qew,sT.1,sC.1,qe,qw,seval,-rN,ht,e0,e11,c1,hx,w,qjd,hd] at he
   subst he
   refine (ih (i + 1) _ zo ?_ ?_ ?_).imp λE g=>⟨g.1,g.2.1,g.2.2.1,g.2.2.2.1,g.2.2.2.2.1.trans ?_,g.2.2.2.2.2.trans ?_⟩
   all_goals simp only [sT.1,sC.1,seval,-rN,ht,e0]
  | false=>
   rw [qi9 hi hd]
   simp only [qew,sT.1,sC.1,qe,qw,seval,-rN,ht,e0,e11,c1,hx,qjd,hd] at he
   subst he
   exact ⟨_,rfl,Y1,u4,z11,Y0,Y0⟩
def qbL (kind:Int) (s:Str) (n pos:Int):qd:=.agg [.int .i64 kind,.str s,.int .i64 n,.int .i64 pos]
theorem qnZ (s:Str) (kind at_:Int) (i:Nat) (hi:i <= s.length) (hb:∀h:i < s.length,qaZ s[i] = false):Wd (.fn 158 [] []) [.str s,.int .i64 kind,.int .i64 at_,.int .i64 (i:Nat)] h = some (.ret (.tup [qbL 0 [] 0 at_,.int .i64 at_,.int .i64 5]),h,false):=by
 rw [ql 158 qzc]
 rcases Nat.lt_or_ge i s.length with h1 | h1
 ·have hx:qgT (.str s) (.int .i64 (i:Nat)) = some (.int .u8 (s[i].toNat:Nat)):=qaY (jh h1)
  have c1:((i:Int) == (s.length:Int)) = false:=by simp;omega
  simp only [qzc,sT.1,sC.1,qe,qw,seval,-rN,c1,hx,qd1,hb h1,qJ]
  rfl
 ·have c1:((i:Int) == (s.length:Int)) = true:=by simp;omega
  simp only [qzc,sT.1,sC.1,qe,qw,seval,-rN,c1,qJ]
  rfl
end
section
variable {h:List qh}
theorem quv (s:Str) (hs:s.length <= 100000) (kind at_:Int) (i:Nat) (hi:i < s.length) (hb:qaZ s[i] = true):Wd (.fn 158 [] []) [.str s,.int .i64 kind,.int .i64 at_,.int .i64 (i:Nat)] h =
  if qan qaO s i - i <= 16 then some (.ret (.tup [qbL kind ((s.drop i).take (qan qaO s i - i)) 0 at_,.int .i64 (qan qaO s i:Nat),.int .i64 0]),h,false) else some (.ret (.tup [qbL 0 [] 0 at_,.int .i64 at_,.int .i64 9]),h,false):=by
 have hx:qgT (.str s) (.int .i64 (i:Nat)) = some (.int .u8 (s[i].toNat:Nat)):=qaY (jh hi)
 have c1:((i:Int) == (s.length:Int)) = false:=by simp;omega
 have Y:=qdd qaO s i
 have U:=qcI qaO s (Nat.le_of_lt hi)
 have w:IntKind.i64.wrap ((qan qaO s i:Nat) - (i:Int)) = ((qan qaO s i - i:Nat):Int):=by
  rw [qbi zo zo];omega
 have I:=qdz Y U
 rw [ql 158 qzc]
 generalize hR:qfG _ h _ = R
 simp only [qzc,sT.1,sC.1,qe,qw,seval,-rN,c1,hx,qd1,hb] at hR
 generalize hr:qp h.length Wd (.loop qgV) _ = r at hR
 obtain ⟨tt,rfl,ht,e0,e11,e1,e2,e3,e8⟩ :∃tt,r = some (.exit 0,⟨tt,h ++ [.cells [.int .i64 0,.str [],.int .i64 0,.int .i64 0]],false⟩)/\tt.length = 60/\lkp tt 0 = .str s/\lkp tt 11 = .int .i64 (qan qaO s i:Nat)/\lkp tt 1 = .int .i64 kind/\lkp tt 2 = .int .i64 at_/\lkp tt 3 = .int .i64 (i:Nat)/\lkp tt 8 = .ptr h.length 0:=by
  rw [<-hr]
  refine (qtf s hs (s.length - i) i _ zo ?_ ?_ ?_).imp λa1 g=>⟨g.1,g.2.1,g.2.2.1,g.2.2.2.1,g.2.2.2.2.1.trans ?_,g.2.2.2.2.2.1.trans ?_,g.2.2.2.2.2.2.1.trans ?_,g.2.2.2.2.2.2.2.trans ?_⟩
  all_goals simp only [sT.1,sC.1,seval,-rN]
 by_cases E:qan qaO s i - i <= 16
 ·have c2:ilt 16 ((qan qaO s i - i:Nat):Int) = false:=by rw [qX];simp;omega
  rw [if_pos E,<-hR]
  simp only [sT.1,sC.1,qe,seval,-rN,ht,e0,e1,e2,e3,e8,e11,w,c2,qdX,I,qJ]
  rfl
 ·have c2:ilt 16 ((qan qaO s i - i:Nat):Int) = true:=by rw [qX];simp;omega
  rw [if_neg E,<-hR]
  simp only [sT.1,sC.1,qe,seval,-rN,ht,e2,e3,e8,e11,w,c2,qJ]
  rfl
theorem qkI (s m:Str):Wd (.fn 161 [] []) [.str s,.str m] h = some (.ret (.bool (s.take m.length == m)),h,false):=by
 have inner:Wd (.fn 188 [] []) [.str s,.str m] h = some (.ret (.bool (s.take m.length == m)),h,false):=by
  rw [ql 188 qB4]
  rcases Nat.lt_or_ge s.length m.length with h1 | h1
  ·have c1:ile (m.length:Int) (s.length:Int) = false:=by rw [qav];simp;omega
   have c2:(s.take m.length == m) = false:=by
    rw [beq_eq_false_iff_ne]
    intro e
    have:=congrArg List.length e
    rw [List.length_take] at this
    omega
   simp only [qB4,sT.1,sC.1,qe,qw,seval,-rN,c1,c2]
  ·have c1:ile (m.length:Int) (s.length:Int) = true:=by rw [qav];simp;omega
   simp only [qB4,sT.1,sC.1,qe,qw,seval,-rN,c1,qtI,j7,qBk h1]
 rw [ql 161 qEm]
 simp only [qEm,sT.1,sC.1,qe,seval,-rN,inner]
def qiA (s:Str) (n:Int):Prop:=∀h,Wd (.fn 187 [] []) [.str s] h = some (.ret (.tup [.int .i64 n,.niliface]),h,false)
def qmQ (s:Str):Prop:=∀h,∃n t v more,Wd (.fn 187 [] []) [.str s] h = some (.ret (.tup [.int .i64 n,.iface t v]),h ++ more,false)
def qsD (s:Str) (i:Nat) (hi:i < s.length):Bool:=s[i] == 48 && decide (1 < qan qag s i - i)
theorem qCj (c:UInt8):((c.toNat:Int) == 48) = (c == 48):=by
 rw [Bool.eq_iff_iff,beq_iff_eq,beq_iff_eq]
 constructor
 ·intro h
  apply UInt8.toNat_inj.1
  show c.toNat = 48
  omega
 ·intro h
  subst h
  rfl
theorem qfj (j:Nat) (t:List qd):qbH .niliface j t = t:=Eq.trans rfl rfl
theorem qx7:qEs 1 true .niliface .niliface = some (.bool false):=Eq.trans rfl rfl
theorem qx6 (t:TypeId) (v:qd):qEs 1 true (.iface t v) .niliface = some (.bool true):=Eq.trans rfl rfl
theorem qmq (s:Str) (hs:s.length <= 100000) (i:Nat) (hi:i < s.length) (hb:qsD s i hi = true):Wd (.fn 160 [] []) [.str s,.int .i64 (i:Nat)] h = some (.ret (.tup [qbL 0 [] 0 i,.int .i64 (i:Nat),.int .i64 6]),h,false):=by
 rw [qsD,jk,decide_eq_true_eq] at hb
 have c2:ilt 1 ((qan qag s i - i:Nat):Int) = true:=by rw [qX];simp;omega
 have hx:qgT (.str s) (.int .i64 (i:Nat)) = some (.int .u8 (s[i].toNat:Nat)):=qaY (jh hi)
 have I:=qdd qag s i
 have E:=qcI qag s (Nat.le_of_lt hi)
 have w:IntKind.i64.wrap ((qan qag s i:Nat) - (i:Int)) = ((qan qag s i - i:Nat):Int):=by
  rw [qbi zo zo];omega
 have U:=qdz I E
 rw [ql 160 qp9]
 generalize hR:qfG _ h _ = R
 simp only [qp9,sT.1,sC.1,qe,seval,-rN] at hR
 generalize hr:qp h.length Wd (.loop qew) _ = r at hR
 obtain ⟨tt,rfl,ht,e0,e7,e1,e4⟩ :∃tt,r = some (.exit 0,⟨tt,h ++ [.cells [.int .i64 0,.str [],.int .i64 0,.int .i64 0]],false⟩)/\tt.length = 53/\lkp tt 0 = .str s/\lkp tt 7 = .int .i64 (qan qag s i:Nat)/\lkp tt 1 = .int .i64 (i:Nat)/\lkp tt 4 = .ptr h.length 0:=by
  rw [<-hr]
  refine (qcW s hs (s.length - i) i _ zo ?_ ?_ ?_).imp λY g=>⟨g.1,g.2.1,g.2.2.1,g.2.2.2.1,g.2.2.2.2.1.trans ?_,g.2.2.2.2.2.trans ?_⟩
  all_goals simp only [sT.1,sC.1,seval,-rN]
 rw [<-hR]
 simp only [sT.1,sC.1,qe,qw,seval,-rN,ht,e0,e1,e4,e7,w,hx,qCj,hb.1,c2,qJ]
 rfl
theorem qpw (s:Str) (hs:s.length <= 100000) (i:Nat) (hi:i < s.length) (h0:(s[i] == 48) = false) {n:Int} (hn:qiA ((s.drop i).take (qan qag s i - i)) n):Wd (.fn 160 [] []) [.str s,.int .i64 (i:Nat)] h = some (.ret (.tup [qbL 1 [] n i,.int .i64 (qan qag s i:Nat),.int .i64 0]),h,false):=by
 rw [qiA] at hn
 have hx:qgT (.str s) (.int .i64 (i:Nat)) = some (.int .u8 (s[i].toNat:Nat)):=qaY (jh hi)
 have U:=qdd qag s i
 have I:=qcI qag s (Nat.le_of_lt hi)
 have w:IntKind.i64.wrap ((qan qag s i:Nat) - (i:Int)) = ((qan qag s i - i:Nat):Int):=by
  rw [qbi zo zo];omega
 have E:=qdz U I
 rw [ql 160 qp9]
 generalize hR:qfG _ h _ = R
 simp only [qp9,sT.1,sC.1,qe,seval,-rN] at hR
 generalize hr:qp h.length Wd (.loop qew) _ = r at hR
 obtain ⟨tt,rfl,ht,e0,e7,e1,e4⟩ :∃tt,r = some (.exit 0,⟨tt,h ++ [.cells [.int .i64 0,.str [],.int .i64 0,.int .i64 0]],false⟩)/\tt.length = 53/\lkp tt 0 = .str s/\lkp tt 7 = .int .i64 (qan qag s i:Nat)/\lkp tt 1 = .int .i64 (i:Nat)/\lkp tt 4 = .ptr h.length 0:=by
  rw [<-hr]
  refine (qcW s hs (s.length - i) i _ zo ?_ ?_ ?_).imp λY g=>⟨g.1,g.2.1,g.2.2.1,g.2.2.2.1,g.2.2.2.2.1.trans ?_,g.2.2.2.2.2.trans ?_⟩
  all_goals simp only [sT.1,sC.1,seval,-rN]
 rw [<-hR]
 simp only [sT.1,sC.1,qe,qw,seval,-rN,ht,e0,e1,e4,e7,hx,qCj,h0,qdX,E,hn,qJ,qx7,qfj]
 simp only [qbL]
theorem qpx (s:Str) (hs:s.length <= 100000) (i:Nat) (hi:i < s.length) (hb:qsD s i hi = false) (h0:(s[i] == 48) = true) {n:Int} (hn:qiA ((s.drop i).take (qan qag s i - i)) n):Wd (.fn 160 [] []) [.str s,.int .i64 (i:Nat)] h = some (.ret (.tup [qbL 1 [] n i,.int .i64 (qan qag s i:Nat),.int .i64 0]),h,false):=by
 rw [qiA] at hn
 rw [qsD] at hb
 have hx:qgT (.str s) (.int .i64 (i:Nat)) = some (.int .u8 (s[i].toNat:Nat)):=qaY (jh hi)
 have U:=qdd qag s i
 have I:=qcI qag s (Nat.le_of_lt hi)
 have w:IntKind.i64.wrap ((qan qag s i:Nat) - (i:Int)) = ((qan qag s i - i:Nat):Int):=by
  rw [qbi zo zo];omega
 have E:=qdz U I
 rw [ql 160 qp9]
 generalize hR:qfG _ h _ = R
 simp only [qp9,sT.1,sC.1,qe,seval,-rN] at hR
 generalize hr:qp h.length Wd (.loop qew) _ = r at hR
 obtain ⟨tt,rfl,ht,e0,e7,e1,e4⟩ :∃tt,r = some (.exit 0,⟨tt,h ++ [.cells [.int .i64 0,.str [],.int .i64 0,.int .i64 0]],false⟩)/\tt.length = 53/\lkp tt 0 = .str s/\lkp tt 7 = .int .i64 (qan qag s i:Nat)/\lkp tt 1 = .int .i64 (i:Nat)/\lkp tt 4 = .ptr h.length 0:=by
  rw [<-hr]
  refine (qcW s hs (s.length - i) i _ zo ?_ ?_ ?_).imp λY g=>⟨g.1,g.2.1,g.2.2.1,g.2.2.2.1,g.2.2.2.2.1.trans ?_,g.2.2.2.2.2.trans ?_⟩
  all_goals simp only [sT.1,sC.1,seval,-rN]
 rw [<-hR]
 rw [h0,jZ,decide_eq_false_iff_not] at hb
 have c2:ilt 1 ((qan qag s i - i:Nat):Int) = false:=by rw [qX];simp;omega
 simp only [sT.1,sC.1,qe,qw,seval,-rN,ht,e0,e1,e4,e7,w,hx,qCj,h0,c2,qdX,E,hn,qJ,qx7,qfj]
 simp only [qbL]
theorem qtj (s:Str) (hs:s.length <= 100000) (i:Nat) (hi:i < s.length) (hb:qsD s i hi = false) {n:Int} (hn:qiA ((s.drop i).take (qan qag s i - i)) n):Wd (.fn 160 [] []) [.str s,.int .i64 (i:Nat)] h = some (.ret (.tup [qbL 1 [] n i,.int .i64 (qan qag s i:Nat),.int .i64 0]),h,false):=by
 cases h0:s[i] == 48 with
 | false=>exact qpw s hs i hi h0 hn
 | true=>exact qpx s hs i hi hb h0 hn
theorem qjP (s:Str) (hs:s.length <= 100000) (i:Nat) (hi:i < s.length) (h0:(s[i] == 48) = false) (hn:qmQ ((s.drop i).take (qan qag s i - i))):Wd (.fn 160 [] []) [.str s,.int .i64 (i:Nat)] h = some (.ret (.tup [qbL 0 [] 0 i,.int .i64 (i:Nat),.int .i64 2]),h,false):=by
 obtain ⟨n,t,v,more,hn⟩:=hn (h ++ [.cells [.int .i64 0,.str [],.int .i64 0,.int .i64 0]])
 have hx:qgT (.str s) (.int .i64 (i:Nat)) = some (.int .u8 (s[i].toNat:Nat)):=qaY (jh hi)
 have U:=qdd qag s i
 have I:=qcI qag s (Nat.le_of_lt hi)
 have w:IntKind.i64.wrap ((qan qag s i:Nat) - (i:Int)) = ((qan qag s i - i:Nat):Int):=by
  rw [qbi zo zo];omega
 have E:=qdz U I
 rw [ql 160 qp9]
 generalize hR:qfG _ h _ = R
 simp only [qp9,sT.1,sC.1,qe,seval,-rN] at hR
 generalize hr:qp h.length Wd (.loop qew) _ = r at hR
 obtain ⟨tt,rfl,ht,e0,e7,e1,e4⟩ :∃tt,r = some (.exit 0,⟨tt,h ++ [.cells [.int .i64 0,.str [],.int .i64 0,.int .i64 0]],false⟩)/\tt.length = 53/\lkp tt 0 = .str s/\lkp tt 7 = .int .i64 (qan qag s i:Nat)/\lkp tt 1 = .int .i64 (i:Nat)/\lkp tt 4 = .ptr h.length 0:=by
  rw [<-hr]
  refine (qcW s hs (s.length - i) i _ zo ?_ ?_ ?_).imp λY g=>⟨g.1,g.2.1,g.2.2.1,g.2.2.2.1,g.2.2.2.2.1.trans ?_,g.2.2.2.2.2.trans ?_⟩
  all_goals simp only [sT.1,sC.1,seval,-rN]
 rw [<-hR]
 simp only [sT.1,sC.1,qe,qw,seval,-rN,ht,e0,e1,e4,e7,hx,qCj,h0,qdX,E,hn,qJ,qx6]
 simp only [qbL]
theorem qjQ (s:Str) (hs:s.length <= 100000) (i:Nat) (hi:i < s.length) (hb:qsD s i hi = false) (h0:(s[i] == 48) = true) (hn:qmQ ((s.drop i).take (qan qag s i - i))):Wd (.fn 160 [] []) [.str s,.int .i64 (i:Nat)] h = some (.ret (.tup [qbL 0 [] 0 i,.int .i64 (i:Nat),.int .i64 2]),h,false):=by
 obtain ⟨n,t,v,more,hn⟩:=hn (h ++ [.cells [.int .i64 0,.str [],.int .i64 0,.int .i64 0]])
 rw [qsD] at hb
 have hx:qgT (.str s) (.int .i64 (i:Nat)) = some (.int .u8 (s[i].toNat:Nat)):=qaY (jh hi)
 have U:=qdd qag s i
 have I:=qcI qag s (Nat.le_of_lt hi)
 have w:IntKind.i64.wrap ((qan qag s i:Nat) - (i:Int)) = ((qan qag s i - i:Nat):Int):=by
  rw [qbi zo zo];omega
 have E:=qdz U I
 rw [ql 160 qp9]
 generalize hR:qfG _ h _ = R
 simp only [qp9,sT.1,sC.1,qe,seval,-rN] at hR
 generalize hr:qp h.length Wd (.loop qew) _ = r at hR
 obtain ⟨tt,rfl,ht,e0,e7,e1,e4⟩ :∃tt,r = some (.exit 0,⟨tt,h ++ [.cells [.int .i64 0,.str [],.int .i64 0,.int .i64 0]],false⟩)/\tt.length = 53/\lkp tt 0 = .str s/\lkp tt 7 = .int .i64 (qan qag s i:Nat)/\lkp tt 1 = .int .i64 (i:Nat)/\lkp tt 4 = .ptr h.length 0:=by
  rw [<-hr]
  refine (qcW s hs (s.length - i) i _ zo ?_ ?_ ?_).imp λY g=>⟨g.1,g.2.1,g.2.2.1,g.2.2.2.1,g.2.2.2.2.1.trans ?_,g.2.2.2.2.2.trans ?_⟩
  all_goals simp only [sT.1,sC.1,seval,-rN]
 rw [<-hR]
 rw [h0,jZ,decide_eq_false_iff_not] at hb
 have c2:ilt 1 ((qan qag s i - i:Nat):Int) = false:=by rw [qX];simp;omega
 simp only [sT.1,sC.1,qe,qw,seval,-rN,ht,e0,e1,e4,e7,w,hx,qCj,h0,c2,qdX,E,hn,qJ,qx6]
 simp only [qbL]
theorem qkZ (s:Str) (hs:s.length <= 100000) (i:Nat) (hi:i < s.length) (hb:qsD s i hi = false) (hn:qmQ ((s.drop i).take (qan qag s i - i))):Wd (.fn 160 [] []) [.str s,.int .i64 (i:Nat)] h = some (.ret (.tup [qbL 0 [] 0 i,.int .i64 (i:Nat),.int .i64 2]),h,false):=by
 cases h0:s[i] == 48 with
 | false=>exact qjP s hs i hi h0 hn
 | true=>exact qjQ s hs i hi hb h0 hn
end
section
variable {h:List qh}
def marks:List Str:=g2.map qDU
theorem qwv:g2 = marks.map qd.str:=zk
theorem qs6:marks.length = 17:=zk
def qkJ (r m:Str):Bool:=r.take m.length == m
def qeB (r:Str):Option Str:=marks.find? (qkJ r)
theorem qpq:∀m ∈ marks,m.length <= 2:=by
 have:marks.all (λm=>decide (m.length <= 2)) = true:=zk
 intro m hm
 simpa using List.all_eq_true.1 this m hm
def qIb:qh:=.cells [.int .i64 0,.str [],.int .i64 0,.int .i64 0]
theorem qDL:qIb = .cells [.int .i64 0,.str [],.int .i64 0,.int .i64 0]:=Eq.trans rfl rfl
def qqe (h:List qh) (s:Str) (i:Nat) (r:Option (Ex×St)):Option Str->Prop
 | some m=>∃tt',r = some (.ret,⟨tt',h ++ [.cells [.int .i64 3,.str m,.int .i64 0,.int .i64 (i:Nat)]],false⟩)/\tt'.length = 72/\lkp tt' 4 = .ptr h.length 0/\lkp tt' 5 = .int .i64 (i + m.length:Nat)/\lkp tt' 6 = .int .i64 0
 | none=>∃tt',r = some (.exit 1,⟨tt',h ++ [qIb],false⟩)/\tt'.length = 72/\lkp tt' 0 = .str s/\lkp tt' 1 = .int .i64 (i:Nat)/\lkp tt' 4 = .ptr h.length 0
theorem qs4 (s:Str) (hs:s.length <= 100000) (i:Nat) (hi:i <= s.length):∀(k j:Nat) (tt:List qd),j + k = 17->tt.length = 72->lkp tt 0 = .str s->lkp tt 1 = .int .i64 (i:Nat)->lkp tt 4 = .ptr h.length 0->lkp tt 52 = .agg g2->lkp tt 53 = .int .i64 (j:Nat)->
  qqe h s i (qp h.length Wd (.loop qhR) ⟨tt,h ++ [qIb],false⟩) ((marks.drop j).find? (qkJ (s.drop i))):=by
 intro k
 have a1:=qs6
 induction k with
 | zero=>
  intro j tt hj ht e0 e1 e4 I E
  have c1:ilt (j:Int) 17 = false:=by rw [qX];simp;omega
  rw [List.drop_eq_nil_of_le («as»:=marks) zo,List.find?_nil,qr]
  simp only [qhR,sT.1,sC.1,qe,seval,-rN,ht,E,c1]
  exact ⟨_,rfl,Y1,u4,v6,v7⟩
 | succ k ih=>
  intro j tt hj ht e0 e1 e4 I E
  have Y:j < marks.length:=zo
  have c1:ilt (j:Int) 17 = true:=by rw [qX];simp;omega
  have hx:qBC 17 none (.agg g2) (.int .i64 (j:Nat)) = some (.str marks[j]):=by
   rw [qno (v:=.str marks[j]) zo (by rw [qwv,jr,jh Y];rfl)]
   rfl
  have a6:=qpq _ (List.getElem_mem Y)
  have w:=qC (n:=j) zo
  have U:=qih hi
  have w2:IntKind.i64.wrap ((i:Int) + (marks[j].length:Int)) = ((i + marks[j].length:Nat):Int):=by
   rw [qbi zo zo];omega
  rw [jU Y,qr]
  generalize he:qp h.length Wd qhR _ = r
  cases hb:((s.drop i).take marks[j].length == marks[j]) with
  | true=>
   rw [List.find?_cons_of_pos (p:=qkJ (s.drop i)) hb]
   simp only [qhR,sT.1,sC.1,qe,seval,-rN,ht,e0,e1,e4,I,E,c1,hx,qdX,j7,U,qkI,hb,qJ,w2,qDL] at he
   subst he
   exact ⟨_,rfl,Y1,v7,z10,x9⟩
  | false=>
   rw [List.find?_cons_of_neg (p:=qkJ (s.drop i)) (by rw [qkJ,hb];exact Bool.false_ne_true)]
   simp only [qhR,sT.1,sC.1,qe,seval,-rN,ht,e0,e1,I,E,c1,hx,qdX,j7,U,qkI,hb,w] at he
   subst he
   refine ih (j + 1) _ zo ?_ ?_ ?_ ?_ ?_ ?_
   all_goals simp only [sT.1,sC.1,seval,-rN,ht,e0,e1,e4,I]
theorem qs5:cut g2 0 (some 17) = some (.agg g2):=zk
theorem qE4 (c:UInt8):((c.toNat:Int) == 39) = (c == 39):=by
 rw [Bool.eq_iff_iff,beq_iff_eq,beq_iff_eq]
 constructor
 ·intro h
  apply UInt8.toNat_inj.1
  show c.toNat = 39
  omega
 ·intro h
  subst h
  rfl
theorem qxF (s:Str):Wd (.fn 130 [] []) [.str s,.int .i64 (s.length:Nat)] h = some (.ret (.tup [qbL 4 [] 0 s.length,.int .i64 (s.length:Nat),.int .i64 0]),h,false):=by
 rw [ql 130 qp8]
 simp only [qp8,sT.1,sC.1,qe,seval,-rN,qJ,qbL]
section
variable {s:Str} {i:Nat} (hi:i < s.length)
include hi
theorem quL {k n p to e:Int} {w:Str} (h1:qaZ s[i] = true) (hn:∀h,Wd (.fn 158 [] []) [.str s,.int .i64 0,.int .i64 (i:Nat),.int .i64 (i:Nat)] h = some (.ret (.tup [qbL k w n p,.int .i64 to,.int .i64 e]),h,false)):Wd (.fn 130 [] []) [.str s,.int .i64 (i:Nat)] h = some (.ret (.tup [qbL k w n p,.int .i64 to,.int .i64 e]),h,false):=by
 have hx:qgT (.str s) (.int .i64 (i:Nat)) = some (.int .u8 (s[i].toNat:Nat)):=qaY (jh hi)
 have c1:((i:Int) == (s.length:Int)) = false:=by simp;omega
 simp only [qbL] at hn
 rw [ql 130 qp8]
 simp only [qp8,sT.1,sC.1,qe,seval,-rN,c1,hx,qd1,h1,hn,qbL]
theorem qxH {k n p to e:Int} {w:Str} (h1:qaZ s[i] = false) (h2:(s[i] == 39) = true) (hl:s.length <= 100000) (hn:∀h,Wd (.fn 158 [] []) [.str s,.int .i64 2,.int .i64 (i:Nat),.int .i64 (i + 1:Nat)] h = some (.ret (.tup [qbL k w n p,.int .i64 to,.int .i64 e]),h,false)):Wd (.fn 130 [] []) [.str s,.int .i64 (i:Nat)] h = some (.ret (.tup [qbL k w n p,.int .i64 to,.int .i64 e]),h,false):=by
 have hx:qgT (.str s) (.int .i64 (i:Nat)) = some (.int .u8 (s[i].toNat:Nat)):=qaY (jh hi)
 have c1:((i:Int) == (s.length:Int)) = false:=by simp;omega
 have w:=qC (n:=i) zo
 simp only [qbL] at hn
 rw [ql 130 qp8]
 simp only [qp8,sT.1,sC.1,qe,seval,-rN,c1,hx,qd1,h1,qE4,h2,w,hn,qbL]
theorem qxG {k n p to e:Int} {w:Str} (h1:qaZ s[i] = false) (h2:(s[i] == 39) = false) (h3:qag s[i] = true) (hn:∀h,Wd (.fn 160 [] []) [.str s,.int .i64 (i:Nat)] h = some (.ret (.tup [qbL k w n p,.int .i64 to,.int .i64 e]),h,false)):Wd (.fn 130 [] []) [.str s,.int .i64 (i:Nat)] h = some (.ret (.tup [qbL k w n p,.int .i64 to,.int .i64 e]),h,false):=by
 have hx:qgT (.str s) (.int .i64 (i:Nat)) = some (.int .u8 (s[i].toNat:Nat)):=qaY (jh hi)
 have c1:((i:Int) == (s.length:Int)) = false:=by simp;omega
 simp only [qbL] at hn
 rw [ql 130 qp8]
 simp only [qp8,sT.1,sC.1,qe,seval,-rN,c1,hx,qd1,qjd,h1,qE4,h2,h3,hn,qbL]
def qAg (s:Str) (i:Nat):Option Str->List qd
 | some m=>[qbL 3 m 0 i,.int .i64 (i + m.length:Nat),.int .i64 0]
 | none=>[qbL 0 [] 0 i,.int .i64 (i:Nat),.int .i64 5]
theorem quK (h1:qaZ s[i] = false) (h2:(s[i] == 39) = false) (h3:qag s[i] = false) (hl:s.length <= 100000):Wd (.fn 130 [] []) [.str s,.int .i64 (i:Nat)] h = some (.ret (.tup (qAg s i (qeB (s.drop i)))),h,false):=by
 have hx:qgT (.str s) (.int .i64 (i:Nat)) = some (.int .u8 (s[i].toNat:Nat)):=qaY (jh hi)
 have c1:((i:Int) == (s.length:Int)) = false:=by simp;omega
 rw [ql 130 qp8]
 generalize hR:qfG _ h _ = R
 simp only [qp8,sT.1,sC.1,qe,seval,-rN,c1,hx,qd1,qjd,h1,qE4,h2,h3,qs5] at hR
 generalize hr:qp h.length Wd (.loop qhR) _ = r at hR
 have q:qqe h s i r (qeB (s.drop i)):=by
  rw [<-hr]
  refine qs4 s hl i zo 17 0 _ zo ?_ ?_ ?_ ?_ ?_ ?_
  all_goals simp only [sT.1,sC.1,seval,-rN,j6]
 rw [<-hR]
 cases hm:qeB (s.drop i) with
 | some m=>
  rw [hm] at q
  obtain ⟨tt,rfl,ht,e4,e5,e6⟩:=q
  simp only [sT.1,sC.1,seval,-rN,e4,e5,e6,qAg,qbL]
 | none=>
  rw [hm] at q
  obtain ⟨tt,rfl,ht,e0,e1,e4⟩:=q
  rw [qDL]
  simp only [sT.1,sC.1,qe,seval,-rN,ht,e1,e4,qJ,qAg,qbL]
end
end
section
variable {h:List qh}
def blank (c:UInt8):Bool:=(c.toNat:Int) == 32 || (c.toNat:Int) == 9 || (c.toNat:Int) == 10
def sharp (c:UInt8):Bool:=(c.toNat:Int) == 35
def qcw (s:Str):Option Nat:=s.findIdx? (· == 10)
def qdP (s:Str):Int:=match qcw s with
 | some k=>k
 | none=>-1
def qdh:Prop:=∀(s:Str) (h:List qh),Wd (.fn 162 [] []) [.str s,.int .u8 10] h = some (.ret (.int .i64 (qdP s)),h,false)
inductive qin (s:Str):Nat->Nat->Prop
 | done:qin s s.length s.length
 | blank {i j} (hi:i < s.length):blank s[i] = true->qin s (i + 1) j->qin s i j
 | line {i j k} (hi:i < s.length):blank s[i] = false->sharp s[i] = true->qcw (s.drop i) = some k->qin s (i + k + 1) j->qin s i j
 | last {i} (hi:i < s.length):blank s[i] = false->sharp s[i] = true->qcw (s.drop i) = none->qin s i s.length
 | word {i} (hi:i < s.length):blank s[i] = false->sharp s[i] = false->qin s i i
theorem qiT {s:Str} {k:Nat} (h:qcw s = some k):k < s.length:=by
 rw [qcw,List.findIdx?_eq_some_iff_getElem] at h
 exact h.1
theorem qin.le {s:Str} {i j:Nat} (h:qin s i j):i <= j/\j <= s.length:=by
 induction h with
 | done=>omega
 | blank hi _ _ ih=>omega
 | line hi _ _ _ _ ih=>omega
 | last hi _ _ _=>omega
 | word hi _ _=>omega
theorem qin.ex (s:Str):∀(n i:Nat),s.length - i <= n->i <= s.length->∃j,qin s i j:=by
 intro n
 induction n with
 | zero=>
  intro i h1 h2
  have:i = s.length:=zo
  subst this
  exact ⟨_,.done⟩
 | succ n ih=>
  intro i h1 h2
  rcases Nat.lt_or_ge i s.length with hi | hi
  ·cases hb:AE.blank s[i] with
   | true=>
    obtain ⟨j,hj⟩:=ih (i + 1) zo zo
    exact ⟨j,.blank hi hb hj⟩
   | false=>
    cases hs:sharp s[i] with
    | false=>exact ⟨i,.word hi hb hs⟩
    | true=>
     cases hl:qcw (s.drop i) with
     | none=>exact ⟨_,.last hi hb hs hl⟩
     | some k=>
      have:=qiT hl
      rw [List.length_drop] at this
      obtain ⟨j,hj⟩:=ih (i + k + 1) zo zo
      exact ⟨j,.line hi hb hs hl hj⟩
  ·have:i = s.length:=zo
   subst this
   exact ⟨_,.done⟩
def qqi (h:List qh) (j:Nat) (r:Option (Ex×St)):Prop:=
 (∃tt,r = some (.exit 0,⟨tt,h,false⟩)/\tt.length = 34/\lkp tt 1 = .int .i64 (j:Nat))\/(∃tt,r = some (.ret,⟨tt,h,false⟩)/\tt.length = 34/\lkp tt 4 = .int .i64 (j:Nat))
theorem qud (hx:qdh) {s:Str} (hs:s.length <= 100000) {i j:Nat} (hk:qin s i j):∀tt:List qd,tt.length = 34->lkp tt 0 = .str s->lkp tt 1 = .int .i64 (i:Nat)->qqi h j (qp h.length Wd (.loop qc6) ⟨tt,h,false⟩):=by
 rw [qdh] at hx
 induction hk with
 | done=>
  intro tt ht e0 e1
  have c1:ilt (s.length:Int) (s.length:Int) = false:=by rw [qX];simp
  rw [qr]
  simp only [qc6,sT.1,sC.1,qe,seval,-rN,ht,e0,e1,c1]
  exact .inl ⟨_,rfl,Y1,v6⟩
 | @blank i j hi hb _ ih=>
  intro tt ht e0 e1
  have c1:ilt (i:Int) (s.length:Int) = true:=by rw [qX];simp;omega
  have hg:qgT (.str s) (.int .i64 (i:Nat)) = some (.int .u8 (s[i].toNat:Nat)):=qaY (jh hi)
  have w:=qC (n:=i) zo
  rw [qr]
  generalize he:qp h.length Wd qc6 _ = r
  rw [AE.blank] at hb
  cases q1:((s[i].toNat:Int) == 32) with
  | true=>
   simp only [qc6,sT.1,sC.1,qe,seval,-rN,ht,e0,e1,c1,hg,w,q1] at he
   subst he
   refine ih _ ?_ ?_ ?_
   all_goals simp only [sT.1,sC.1,seval,-rN,ht,e0]
  | false=>
   cases q2:((s[i].toNat:Int) == 9) with
   | true=>
    simp only [qc6,sT.1,sC.1,qe,seval,-rN,ht,e0,e1,c1,hg,w,q1,q2] at he
    subst he
    refine ih _ ?_ ?_ ?_
    all_goals simp only [sT.1,sC.1,seval,-rN,ht,e0]
   | false=>
    have q3:((s[i].toNat:Int) == 10) = true:=by simpa [q1,q2] using hb
    simp only [qc6,sT.1,sC.1,qe,seval,-rN,ht,e0,e1,c1,hg,w,q1,q2,q3] at he
    subst he
    refine ih _ ?_ ?_ ?_
    all_goals simp only [sT.1,sC.1,seval,-rN,ht,e0]
 | @line i j k hi hb hh hl _ ih=>
  intro tt ht e0 e1
  have c1:ilt (i:Int) (s.length:Int) = true:=by rw [qX];simp;omega
  have hg:qgT (.str s) (.int .i64 (i:Nat)) = some (.int .u8 (s[i].toNat:Nat)):=qaY (jh hi)
  have I:=qiT hl
  rw [List.length_drop] at I
  have w:=qC (n:=i + k) zo
  have w2:IntKind.i64.wrap ((i:Int) + (k:Int)) = ((i + k:Nat):Int):=by rw [qbi zo zo];omega
  have hI:qdP (s.drop i) = (k:Int):=by rw [qdP,hl]
  have c2:ilt (k:Int) 0 = false:=by rw [qX];simp
  have E:=qih (Nat.le_of_lt hi)
  rw [qr]
  generalize he:qp h.length Wd qc6 _ = r
  simp only [AE.blank,Bool.or_eq_false_iff] at hb
  rw [sharp] at hh
  simp only [qc6,sT.1,sC.1,qe,seval,-rN,ht,e0,e1,c1,hg,hb.1.1,hb.1.2,hb.2,hh,qdX,j7,E,hx,hI,c2,w2,w] at he
  subst he
  refine ih _ ?_ ?_ ?_
  all_goals simp only [sT.1,sC.1,seval,-rN,ht,e0]
 | @last i hi hb hh hl=>
  intro tt ht e0 e1
  have c1:ilt (i:Int) (s.length:Int) = true:=by rw [qX];simp;omega
  have hg:qgT (.str s) (.int .i64 (i:Nat)) = some (.int .u8 (s[i].toNat:Nat)):=qaY (jh hi)
  have hI:qdP (s.drop i) = -1:=by rw [qdP,hl]
  have c2:ilt (-1) 0 = true:=zk
  have E:=qih (Nat.le_of_lt hi)
  rw [qr]
  generalize he:qp h.length Wd qc6 _ = r
  simp only [AE.blank,Bool.or_eq_false_iff] at hb
  rw [sharp] at hh
  simp only [qc6,sT.1,sC.1,qe,seval,-rN,ht,e0,e1,c1,hg,hb.1.1,hb.1.2,hb.2,hh,qdX,j7,E,hx,hI,c2] at he
  subst he
  exact .inr ⟨_,rfl,Y1,x9⟩
 | @word i hi hb hh=>
  intro tt ht e0 e1
  have c1:ilt (i:Int) (s.length:Int) = true:=by rw [qX];simp;omega
  have hg:qgT (.str s) (.int .i64 (i:Nat)) = some (.int .u8 (s[i].toNat:Nat)):=qaY (jh hi)
  rw [qr]
  generalize he:qp h.length Wd qc6 _ = r
  simp only [AE.blank,Bool.or_eq_false_iff] at hb
  rw [sharp] at hh
  simp only [qc6,sT.1,sC.1,qe,seval,-rN,ht,e0,e1,c1,hg,hb.1.1,hb.1.2,hb.2,hh] at he
  subst he
  exact .inr ⟨_,rfl,Y1,x9⟩
theorem qmF (hx:qdh) {s:Str} (hs:s.length <= 100000) {i j:Nat} (hk:qin s i j):Wd (.fn 131 [] []) [.str s,.int .i64 (i:Nat)] h = some (.ret (.int .i64 (j:Nat)),h,false):=by
 rw [ql 131 qEb]
 generalize hR:qfG _ h _ = R
 simp only [qEb,sT.1,sC.1,qe,seval,-rN] at hR
 generalize hr:qp h.length Wd (.loop qc6) _ = r at hR
 have q:qqi h j r:=by
  rw [<-hr]
  refine qud hx hs hk _ ?_ ?_ ?_
  all_goals simp only [sT.1,sC.1,seval,-rN]
 rw [<-hR]
 rcases q with ⟨tt,rfl,ht,e1⟩ | ⟨tt,rfl,ht,e4⟩
 ·simp only [sT.1,sC.1,qe,seval,-rN,ht,e1]
 ·simp only [sT.1,seval,-rN,e4]
end
section
variable {h:List qh}
def qbs:qD:=(.seq (.reg [ao 6 (.new [(.int .i64 0),(.str []),(.int .i64 0),(.int .i64 0)]),an (.st (some 4) (.t 6) (.t 10))]) (.reg [ao 7 (.asg (.t 11))]))
theorem qDW (t:List qd) (p:Nat) (ps:List Nat) (a:qd) (aS:List qd):qkb t (p :: ps) (a :: aS) = qkb (up t p a) ps aS:=Eq.trans rfl rfl
theorem qDV (t aS:List qd):qkb t [] aS = t:=by cases aS <;> exact Eq.trans rfl rfl
theorem qu7 (xs:List qd) (hx:∀x ∈ xs,x.cells.length = 4) (hl:xs.length <= 100000) (k:Int) (w:Str) (n p:Int):qdr 4 xs [.agg [.int .i64 k,.str w,.int .i64 n,.int .i64 p]] = true:=by
 simp only [qdr,jk,decide_eq_true_eq]
 refine ⟨⟨?_,?_⟩,?_⟩
 ·simp only [jy,List.length_nil,qi];omega
 ·simp [qd.cells,qd.storable]
 ·cases xs with
  | nil=>rfl
  | cons x xs=>simp [hx x (by simp)]
theorem qiU (m:Nat):∀xs ys:List qd,qv m xs = true->qv m ys = true->qv m (xs ++ ys) = true
 | [],ys,_,h=>h
 | x :: xs,ys,h1,h2=>by
  rw [qdS,jk] at h1
  rw [List.cons_append,qdS,h1.1,qiU m xs ys h1.2 h2]
  rfl
theorem qCX (k:Int) (w:Str) (n p:Int):qfz 4 [.int .i64 0,.str [],.int .i64 0,.int .i64 0] 1 [(0,.agg [.int .i64 k,.str w,.int .i64 n,.int .i64 p])] = some (.lst [.agg [.int .i64 k,.str w,.int .i64 n,.int .i64 p]] .full):=qdv (Eq.trans rfl rfl) zo (Eq.trans rfl rfl) (Eq.trans rfl rfl) zo
theorem qja {H:List qh} {tab:List qd} {xs:List qd} {f:qgH} (hf:(f = .full/\xs = [])\/f = .own 4) {q l:Nat} (ht:tab.length = 22) (e5:lkp tab 5 = .ptr q 0) (hq:H[q]? = some (.cells [.lst xs f])) (hl:H[l]? = some (.loop tab [10,11] qbs qdM .ready none)) (Y:q ≠ l) (hx:∀x ∈ xs,x.cells.length = 4) (hn:xs.length <= 100000) (a8:∀m,qv m xs = true) (k:Int) (w:Str) (n p:Int) :
  Wd (.yld l) [qbL k w n p,.int .i64 0] H = some (.ret (.bool true),H.set q (.cells [.lst (xs ++ [qbL k w n p]) (.own 4)]),false):=by
 have a1:q < H.length:=(jd.1 hq).1
 have I:l < H.length:=(jd.1 hl).1
 have a7:=qu7 xs hx hn k w n p
 have aa:∀m,qv m (xs ++ [.agg [.int .i64 k,.str w,.int .i64 n,.int .i64 p]]) = true:=λm=>qiU m _ _ (a8 m) (Eq.trans rfl rfl)
 have ac:Nat.ble H.length q = false:=by rw [Bool.eq_false_iff];intro h;have:=Nat.le_of_ble_eq_true h;omega
 let busy:qh:=.loop tab [10,11] qbs qdM .busy none
 have A:qp H.length Wd qbs ⟨qkb tab [10,11] ([qbL k w n p,.int .i64 0].map qd.dim),H,false⟩ = some (.nor,⟨up (up (up (up tab 10 (qbL k w n p)) 11 (.int .i64 0)) 6 (.ptr H.length 0)) 7 (.int .i64 0),H ++ [.cells [.int .i64 k,.str w,.int .i64 n,.int .i64 p]],false⟩):=by
  simp only [qbs,qDW,qDV,qbL,sT.1,sC.1,qe,seval,-rN,ht]
 have E:(H.set l busy).length = H.length:=by simp
 have U:(H.set l busy)[q]? = some (.cells [.lst xs f]):=by rw [jf zo];exact hq
 have B:∃tt,qp H.length Wd qdM ⟨up (up (up (up tab 10 (qbL k w n p)) 11 (.int .i64 0)) 6 (.ptr H.length 0)) 7 (.int .i64 0),(H ++ [qh.cells [.int .i64 k,.str w,.int .i64 n,.int .i64 p]]).set l busy,false⟩ = some (Ex.nor,⟨tt,(H.set l busy).set q (.cells [.lst (xs ++ [qbL k w n p]) (.own 4)]) ++ [qh.cells [.int .i64 k,.str w,.int .i64 n,.int .i64 p]],false⟩):=by
  rw [List.set_append_left _ _ I]
  revert U E
  generalize H.set l busy = Hb
  intro E U
  have ab:q < Hb.length:=zo
  generalize he:qp H.length Wd _ _ = r
  rcases hf with ⟨rfl,rfl⟩ | rfl
  ·simp only [qdM,sT.1,sC.1,sTA.1,sCA.1,qe,qef,qeg,Src.isTmp,qb0,Src.hangs,qB.isT,qeI,Nat.testBit,bne,seval,-rN,qbL,ht,e5,U,a1,E,a7,qCX] at he
   subst he
   exact ⟨_,by simp only [qbL,List.nil_append];rfl⟩
  ·simp only [qdM,sT.1,sC.1,sTA.1,sCA.1,qe,qef,qeg,Src.isTmp,qb0,Src.hangs,qB.isT,qeI,Nat.testBit,bne,seval,-rN,qbL,ht,e5,U,a1,E,a7,qCX,aa] at he
   subst he
   exact ⟨_,by simp only [qbL];rfl⟩
 obtain ⟨tt,B⟩:=B
 have a6:l < ((H.set l busy).set q (qh.cells [.lst (xs ++ [qbL k w n p]) (.own 4)])).length:=by simpa using I
 rw [show Wd (.yld l) [qbL k w n p,.int .i64 0] H = qla Wd l [qbL k w n p,.int .i64 0] H from qBN qei]
 refine qlb (call:=Wd) hl rfl A (t1:=tab) (ps1:=[10,11]) (asg1:=qbs) (body1:=qdM) (pend1:=none) ?_ B (t2:=tab) (ps2:=[10,11]) (asg2:=qbs) (body2:=qdM) (st2:=.busy) (pend2:=none) ?_ ?_
 ·rw [ja I]
  exact hl
 ·rw [ja a6,jf Y,jg I]
 ·rw [qjX]
  refine congrArg some (qbb ?_ rfl)
  rw [List.set_append_left _ _ a6,jS (by simp),List.take_of_length_le (by simp),List.set_comm _ _ (Ne.symm Y),List.set_set]
  apply List.ext_getElem?
  intro j
  by_cases hj:l = j
  ·subst hj
   rw [jg (by simpa using I),jf Y,hl]
  ·rw [jf hj]
theorem qt0 {H:List qh} {tab:List qd} {a l:Nat} {x0 x1:Int} (ht:tab.length = 22) (e2:lkp tab 2 = .ptr a 0) (e3:lkp tab 3 = .ptr (a + 1) 0) (e4:lkp tab 4 = .ptr (a + 1 + 1) 0) (h0:H[a]? = some (.cells [.lst [] .full])) (h1:H[a + 1]? = some (.cells [.int .i64 x0])) (h2:H[a + 1 + 1]? = some (.cells [.int .i64 x1])) (hl:H[l]? = some (.loop tab [10,11] qbs qdM .ready none)) (a7:a + 1 + 1 < l) (k:Int) (w:Str) (n p e:Int) (a6:(e == 0) = false) :
  Wd (.yld l) [qbL k w n p,.int .i64 e] H = some (.ret (.bool false),(((H.set a (.cells [.lst [] .full])).set (a + 1) (.cells [.int .i64 p])).set (a + 1 + 1) (.cells [.int .i64 e])).set l (.loop tab [10,11] qbs qdM .done (some .ret)),false):=by
 have I:l < H.length:=(jd.1 hl).1
 let busy:qh:=.loop tab [10,11] qbs qdM .busy none
 have A:qp H.length Wd qbs ⟨qkb tab [10,11] ([qbL k w n p,.int .i64 e].map qd.dim),H,false⟩ = some (.nor,⟨up (up (up (up tab 10 (qbL k w n p)) 11 (.int .i64 e)) 6 (.ptr H.length 0)) 7 (.int .i64 e),H ++ [.cells [.int .i64 k,.str w,.int .i64 n,.int .i64 p]],false⟩):=by
  simp only [qbs,qDW,qDV,qbL,sT.1,sC.1,qe,seval,-rN,ht]
 have E:(H.set l busy).length = H.length:=by simp
 have g0:(H.set l busy)[a]? = some (.cells [.lst [] .full]):=by rw [jf zo];exact h0
 have Y:(H.set l busy)[a + 1]? = some (.cells [.int .i64 x0]):=by rw [jf zo];exact h1
 have U:(H.set l busy)[a + 1 + 1]? = some (.cells [.int .i64 x1]):=by rw [jf zo];exact h2
 have B:∃tt,qp H.length Wd qdM ⟨up (up (up (up tab 10 (qbL k w n p)) 11 (.int .i64 e)) 6 (.ptr H.length 0)) 7 (.int .i64 e),(H ++ [qh.cells [.int .i64 k,.str w,.int .i64 n,.int .i64 p]]).set l busy,false⟩ = some (Ex.ret,⟨tt,(((H.set l busy).set a (.cells [.lst [] .full])).set (a + 1) (.cells [.int .i64 p])).set (a + 1 + 1) (.cells [.int .i64 e]) ++ [qh.cells [.int .i64 k,.str w,.int .i64 n,.int .i64 p]],false⟩):=by
  rw [List.set_append_left _ _ I]
  revert g0 Y U E
  generalize H.set l busy = Hb
  intro E g0 Y U
  have q0:a < H.length:=zo
  have q1:a + 1 < H.length:=zo
  have q2:a + 1 + 1 < H.length:=zo
  have n1:a ≠ a + 1:=zo
  have n2:a ≠ a + 1 + 1:=zo
  have n3:a + 1 ≠ a + 1 + 1:=zo
  generalize he:qp H.length Wd _ _ = r
  simp only [qdM,sT.1,sC.1,qe,Nat.testBit,bne,seval,-rN,qbL,ht,e2,e3,e4,a6,g0,Y,U,q0,q1,q2,n1,n2,n3,E] at he
  subst he
  exact ⟨_,rfl⟩
 obtain ⟨tt,B⟩:=B
 have a1:l < ((((H.set l busy).set a (.cells [.lst [] .full])).set (a + 1) (.cells [.int .i64 p])).set (a + 1 + 1) (.cells [.int .i64 e])).length:=by simpa using I
 rw [show Wd (.yld l) [qbL k w n p,.int .i64 e] H = qla Wd l [qbL k w n p,.int .i64 e] H from qBN qei]
 refine qlb (call:=Wd) hl rfl A (t1:=tab) (ps1:=[10,11]) (asg1:=qbs) (body1:=qdM) (pend1:=none) ?_ B (t2:=tab) (ps2:=[10,11]) (asg2:=qbs) (body2:=qdM) (st2:=.busy) (pend2:=none) ?_ ?_
 ·rw [ja I]
  exact hl
 ·rw [ja a1,jf zo,jf zo,jf zo,jg I]
 ·rw [qjX]
  refine congrArg some (qbb ?_ rfl)
  rw [List.set_append_left _ _ a1,jS (by simp),List.take_of_length_le (by simp),List.set_comm (l:=H) _ _ (show l ≠ a by omega),List.set_comm _ _ (show l ≠ a + 1 by omega),List.set_comm _ _ (show l ≠ a + 1 + 1 by omega),List.set_set]
end
section
variable {s:Str} {H H2:List qh} {base b l i j:Nat} {tt:List qd} {k n p to e:Int} {w:Str} {yb:Bool}
theorem qBQ (hx:qdh) (hs:s.length <= 100000) (hk:qin s i j) (ht:tt.length = 37) (e0:lkp tt 0 = .yld l) (e1:lkp tt 1 = .ptr b 0) (e3:lkp tt 3 = .int .i64 (i:Nat)) (hb:H[b]? = some (.cells [.str s])) (a1:base <= H.length)
  (hw:∀h,Wd (.fn 130 [] []) [.str s,.int .i64 (j:Nat)] h = some (.ret (.tup [qbL k w n p,.int .i64 to,.int .i64 0]),h,false))
  (hy:Wd (.yld l) [qbL k w n p,.int .i64 0] (H ++ [.cells [.int .i64 k,.str w,.int .i64 n,.int .i64 p]]) = some (.ret (.bool true),H2,false)) (h2:H2[H.length]? = some (.cells [.int .i64 k,.str w,.int .i64 n,.int .i64 p])) (U:(k == 4) = false) :
  ∃E,qp base Wd qf3 ⟨tt,H,false⟩ = some (.nor,⟨E,H2,false⟩)/\E.length = 37/\lkp E 0 = .yld l/\lkp E 1 = .ptr b 0/\lkp E 3 = .int .i64 to:=by
 have Y:b < H.length:=(jd.1 hb).1
 have I:=λh=>qmF (h:=h) hx hs hk
 simp only [qbL] at hw hy
 generalize he:qp base Wd _ _ = r
 simp only [qf3,sT.1,sC.1,qe,qw,Nat.testBit,seval,-rN,ht,e0,e1,e3,hb,Y,I,hw,hy,h2,U] at he
 subst he
 refine ⟨_,rfl,?_,?_,?_,?_⟩
 all_goals simp only [sT.1,sC.1,seval,-rN,ht,e0,e1]
theorem qyT (hx:qdh) (hs:s.length <= 100000) (hk:qin s i j) (ht:tt.length = 37) (e0:lkp tt 0 = .yld l) (e1:lkp tt 1 = .ptr b 0) (e3:lkp tt 3 = .int .i64 (i:Nat)) (hb:H[b]? = some (.cells [.str s])) (a1:base <= H.length)
  (hw:∀h,Wd (.fn 130 [] []) [.str s,.int .i64 (j:Nat)] h = some (.ret (.tup [qbL k w n p,.int .i64 to,.int .i64 0]),h,false))
  (hy:Wd (.yld l) [qbL k w n p,.int .i64 0] (H ++ [.cells [.int .i64 k,.str w,.int .i64 n,.int .i64 p]]) = some (.ret (.bool true),H2,false)) (h2:H2[H.length]? = some (.cells [.int .i64 k,.str w,.int .i64 n,.int .i64 p])) (U:(k == 4) = true) :
  ∃E,qp base Wd qf3 ⟨tt,H,false⟩ = some (.ret,⟨E,H2,false⟩):=by
 have Y:b < H.length:=(jd.1 hb).1
 have I:=λh=>qmF (h:=h) hx hs hk
 simp only [qbL] at hw hy
 generalize he:qp base Wd _ _ = r
 simp only [qf3,sT.1,sC.1,qe,qw,Nat.testBit,seval,-rN,ht,e0,e1,e3,hb,Y,I,hw,hy,h2,U] at he
 subst he
 exact ⟨_,rfl⟩
theorem qu3 (hx:qdh) (hs:s.length <= 100000) (hk:qin s i j) (ht:tt.length = 37) (e0:lkp tt 0 = .yld l) (e1:lkp tt 1 = .ptr b 0) (e3:lkp tt 3 = .int .i64 (i:Nat)) (hb:H[b]? = some (.cells [.str s])) (Y:base <= H.length)
  (hw:∀h,Wd (.fn 130 [] []) [.str s,.int .i64 (j:Nat)] h = some (.ret (.tup [qbL k w n p,.int .i64 to,.int .i64 e]),h,false))
  (hy:Wd (.yld l) [qbL k w n p,.int .i64 e] (H ++ [.cells [.int .i64 k,.str w,.int .i64 n,.int .i64 p]]) = some (.ret (.bool false),H2,false)) (h2:H2[H.length]? = some (.cells [.int .i64 k,.str w,.int .i64 n,.int .i64 p])) :
  ∃E,qp base Wd qf3 ⟨tt,H,false⟩ = some (.ret,⟨E,H2,false⟩):=by
 have U:b < H.length:=(jd.1 hb).1
 have I:=λh=>qmF (h:=h) hx hs hk
 simp only [qbL] at hw hy
 generalize he:qp base Wd _ _ = r
 simp only [qf3,sT.1,sC.1,qe,qw,Nat.testBit,seval,-rN,ht,e0,e1,e3,hb,U,I,hw,hy] at he
 subst he
 exact ⟨_,rfl⟩
end
end Go.Proofs.YtcbfifamliijlaaGreatDoor.AE
