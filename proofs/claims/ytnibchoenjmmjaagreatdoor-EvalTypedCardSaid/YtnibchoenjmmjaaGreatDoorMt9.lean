/- Proved: part 9. No condition. -/
import Derived.Test.YtnibchoenjmmjaaGreatDoorMt7
import Derived.Test.YtnibchoenjmmjaaGreatDoorMt8
import Derived.Test.YtnibchoenjmmjaaGreatDoorMt2
set_option maxRecDepth 100000
set_option maxHeartbeats 0
open List renaming take_append_of_le_length→j5,drop_eq_getElem_cons→jX,getElem?_eq_getElem→ji,length_map→j6,append_assoc→jr,getElem?_map→ju,all_cons→jH,all_nil→jI
open Bool renaming true_and→jY,false_and→jQ,or_false→jR,or_true→j7,true_or→jZ
namespace Go.Proofs.YtnibchoenjmmjaaGreatDoor.AE
open Go.AE
def Yt (H:Nat->Option qb) (d:Nat) (v:Tp):Prop:=∀cs g,Ta H v cs->Cov H g->Wd (.fn 119 [] []) [.agg cs,.int .i64 (d:Nat)] g = some (.ret (.bool (tyB d v)),g,false)
theorem qB0 {H:Nat->Option qb} {d:Nat} (hd:d <= 3) {v:Tp} {cs:List qa} (hv:Ta H v cs) (hy:Yt H d v) (g:List qb) (hg:Cov H g) (R:Nat) (hR:R < g.length) (hr:g[R]? = some (.cells [.int .i64 (d + 1:Nat)])) :
  Wd (.fn 132 [] [.ptr R 0]) [.agg cs] g = some (.ret (.bool (tyB d v)),g,false):=by
 have B:=hy cs (g ++ [.cells cs]) hv (hg.more _)
 obtain ⟨k,l,L,rfl,rfl,J,I,E,M⟩:=hv.cells
 generalize tyB d _ = b at *
 have w1:IntKind.i64.wrap (((d + 1:Nat):Int) - 1) = ((d:Nat):Int):=by rw [qbt zo zo];omega
 rw [qi 132 qCo]
 simp only [sB.1,qCo,seval,J,I,E,hR,hr,w1,B]
theorem qn7 {H:Nat->Option qb} {d:Nat} (hd:d <= 3) {l:List Tp} {L:qa} (hL:TL H l L) (hy:∀x ∈ l,Yt H d x) (h:List qb) (hg:Cov H h) (R:Nat) (hR:R < h.length) (hr:h[R]? = some (.cells [.int .i64 (d + 1:Nat)])) :
  Wd (.fn 131 [] []) [L,.fn 132 [] [.ptr R 0]] h = some (.ret (.bool ((decide (1 <= l.length) && decide (l.length <= 4)) && l.all (tyB d))),h,false):=by
 obtain ⟨I,aj,J,ak⟩:=hL.facts
 have loop:l.length <= 4->∀k st,(∃(tt:List qa) (i:Nat) (B:List qb),st = ⟨tt,h ++ B,false⟩/\tt.length = 26/\lkp tt 1 = .fn 132 [] [.ptr R 0]/\lkp tt 15 = L/\lkp tt 16 = .int .i64 (l.length:Nat)/\lkp tt 17 = .int .i64 (i:Nat)/\i + k = l.length/\l.all (tyB d) = (l.drop i).all (tyB d))->
   ∃x U,qm h.length Wd (.loop qgO) st = some (x,U)/\(∃(tt:List qa) (B:List qb),U = ⟨tt,h ++ B,false⟩/\tt.length = 26/\((x = .exit 0/\l.all (tyB d) = true)\/(x = .ret/\lkp tt 4 = .bool false/\l.all (tyB d) = false))):=by
  intro h4
  refine qy _ _ ?_
  rintro k st ⟨tt,i,B,rfl,ht,e1,aa,S,a8,ap,E⟩
  generalize he:qm h.length Wd qgO _ = r
  rcases Nat.lt_or_ge i l.length with hi | hi
  ·have c1:ilt (i:Int) (l.length:Int) = true:=by rw [qf];simp;omega
   have w:=qag (n:=i) zo
   obtain ⟨pp,cs,hx,a1,_,ad,ab⟩:=hL.item hi (hg.more B)
   have al:=hy _ (List.getElem_mem hi)
   have a6:(h ++ B).length = h.length + B.length:=by simp
   have M:=qB0 hd ab al (h ++ (B ++ [.cells cs])) (hg.more _) R (by simp;omega) (by rw [List.getElem?_append_left hR,hr])
   rw [jX hi,jH] at E
   obtain ⟨K,zs,Z,ar,am,ai,ah,af,_⟩:=ab.cells
   subst am
   have ae:Nat.ble h.length (h.length + B.length) = true:=qe zo
   have ac:∀i t,qo pp i t = t:=λi t=>by rw [<-a1];exact qH _ _ _
   cases hb:tyB d l[i] with
   | true=>
    rw [hb,jY] at E
    rw [hb] at M
    simp only [sB.1,qgO,seval,ht,e1,aa,S,a8,c1,w,hx,a1,ac,ad,a6,ae,I,aj,J,ai,ah,af,M,q9,qz,jZ,jr] at he
    subst he
    refine .inl ⟨_,k - 1,rfl,zo,_,i + 1,B ++ [.cells [.int .i64 K,Z]],rfl,Y0,?_,?_,?_,?_,zo,E⟩
    ·simp only [sB.1,seval,ht,e1]
    ·simp only [sB.1,seval,ht,aa]
    ·simp only [sB.1,seval,ht,S]
    ·simp only [sB.1,seval,ht]
   | false=>
    rw [hb,jQ] at E
    rw [hb] at M
    simp only [sB.1,qgO,seval,ht,e1,aa,S,a8,c1,w,hx,a1,ac,ad,a6,ae,I,aj,J,ai,ah,af,M,q9,qz,jZ,jr] at he
    subst he
    refine .inr ⟨_,_,rfl,by simp,_,B ++ [.cells [.int .i64 K,Z]],rfl,Y0,.inr ⟨rfl,?_,E⟩⟩
    simp only [sB.1,seval,ht]
  ·have c1:ilt (i:Int) (l.length:Int) = false:=by rw [qf];simp;omega
   simp only [sB.1,qgO,seval,ht,S,a8,c1] at he
   subst he
   rw [List.drop_eq_nil_of_le hi] at E
   exact .inr ⟨_,_,rfl,by simp,_,B,rfl,Y0,.inl ⟨rfl,E⟩⟩
 generalize hw:Wd _ _ h = w
 rw [qi 131 qAp] at hw
 by_cases a7:1 <= l.length/\l.length <= 4
 ·have d1:ilt (l.length:Int) 1 = false:=by rw [qf];simp;omega
  have d2:ilt 4 (l.length:Int) = false:=by rw [qf];simp;omega
  simp only [sB.1,qAp,seval,I,J,ak,d1,d2] at hw
  generalize hr:qm h.length Wd (.loop qgO) _ = r at hw
  obtain ⟨x,U,rfl,tt,B,rfl,ht,⟨rfl,ha⟩ | ⟨rfl,e4,ha⟩⟩:=known hr (loop a7.2 l.length _ ⟨_,0,[],by rw [List.append_nil],X1,X1,by simp only [sB.1,seval,I],X1,X2,zo,rfl⟩)
  ·simp only [sB.1,seval,ht] at hw
   rw [ha,decide_eq_true a7.1,decide_eq_true a7.2]
   exact hw.symm
  ·simp only [sB.1,seval,ht,e4] at hw
   rw [ha,Bool.and_false]
   exact hw.symm
 ·have d1:(ilt (l.length:Int) 1 || ilt 4 (l.length:Int)) = true:=by rw [qf,qf];simp;omega
  have d2:(decide (1 <= l.length) && decide (l.length <= 4)) = false:=by
   rw [Bool.and_eq_false_iff,decide_eq_false_iff_not,decide_eq_false_iff_not]
   omega
  simp only [sB.1,qAp,seval,I,J,ak,d1] at hw
  rw [d2,jQ]
  exact hw.symm
theorem qF3 (k:Int):(ile 0 k && ile k 2) = (k == 0 || (k == 1 || k == 2)):=by
 by_cases h0:k = 0
 ·subst h0;rfl
 ·by_cases h1:k = 1
  ·subst h1;rfl
  ·by_cases h2:k = 2
   ·subst h2;rfl
   ·have e0:(k == 0) = false:=beq_eq_false_iff_ne.2 h0
    have e1:(k == 1) = false:=beq_eq_false_iff_ne.2 h1
    have e2:(k == 2) = false:=beq_eq_false_iff_ne.2 h2
    rw [e0,e1,e2,qaT,qaT]
    simp
    omega
theorem qFw:∀d,d <= 3->∀{H:Nat->Option qb} (v:Tp),Yt H d v:=by
 have a3:∀x:Int,(x == 3) = true->((x == 0) = false/\(x == 1) = false/\(x == 2) = false):=λx h=>by
  simp only [beq_iff_eq,beq_eq_false_iff_ne] at *
  omega
 intro d
 induction d with
 | zero=>
  rintro _ H ⟨k,l⟩ cs g hv hg
  obtain ⟨L,rfl,hL⟩:=hv.lp
  obtain ⟨J,E,B,I⟩:=hL.facts
  have d1:ilt 0 ((0:Nat):Int) = false:=Eq.trans rfl rfl
  rw [tyB,qF3]
  rw [qi 119 qw6]
  cases h0:(k == 0) <;> cases h1:(k == 1) <;> cases h2:(k == 2) <;> cases h3:(k == 3) <;> simp only [sB.1,qw6,seval,-Int.reduceNatCast',J,E,B,I,h0,h1,h2,h3,d1,cond_true,cond_false,j7,jR,jZ]
 | succ d ih=>
  rintro hd H ⟨k,l⟩ cs g hv hg
  obtain ⟨L,rfl,hL⟩:=hv.lp
  obtain ⟨J,E,B,I⟩:=hL.facts
  have d1:ilt 0 ((d + 1:Nat):Int) = true:=by rw [qf];simp
  have hit:=qn7 (d:=d) zo hL (λx _=>ih zo x) (g ++ [.cells [.int .i64 k,L],.cells [.int .i64 (d + 1:Nat)]]) (hg.more _) (g.length + 1) (by simp) (by rw [qQ];rfl)
  rw [tyB,qF3]
  rw [qi 119 qw6]
  cases h3:(k == 3) with
  | true=>
   obtain ⟨h0,h1,h2⟩:=a3 k h3
   simp only [sB.1,qw6,seval,J,E,B,I,h0,h1,h2,h3,hit,d1,qdJ,qes,qQ,cond_true,cond_false,jR,jY]
  | false=>
   cases h0:(k == 0) <;> cases h1:(k == 1) <;> cases h2:(k == 2) <;> simp only [sB.1,qw6,seval,J,E,B,I,h0,h1,h2,h3,d1,cond_true,cond_false,j7,jR,jZ,jQ]
theorem qfA {H:Nat->Option qb} {v:Tp} {cs:List qa} (hv:Ta H v cs) (g:List qb) (hg:Cov H g):Wd (.fn 91 [] []) [.agg cs] g = some (.ret (.bool (tyB 3 v)),g,false):=by
 have h:=qFw 3 zo v cs (g ++ [.cells cs]) hv (hg.more _)
 have c3:((3:Nat):Int) = 3:=xk
 rw [c3] at h
 generalize tyB 3 v = b at *
 obtain ⟨k,l,L,rfl,rfl,I,E,B,J⟩:=hv.cells
 rw [qi 91 c91]
 simp only [sB.1,c91,seval,I,E,B,h]
def St3 (H:Nat->Option qb) (a:Tp):Prop:=∀b cs ds g,Ta H a cs->Ta H b ds->Cov H g->Wd (.fn 90 [] []) [.agg cs,.agg ds] g = some (.ret (.bool (qaX a b)),g,false)
theorem qiu {H:Nat->Option qb} {l l':List Tp} {L L':qa} (hL:TL H l L) (S:TL H l' L') (hl:l.length <= 20) (ho:∀x ∈ l,St3 H x) (h:List qb) (hg:Cov H h):Wd (.fn 118 [] []) [L,L',.fn 90 [] []] h = some (.ret (.bool (qbC l l')),h,false):=by
 obtain ⟨d1,s1,w1,n1⟩:=hL.facts
 obtain ⟨d2,s2,w2,n2⟩:=S.facts
 generalize hw:Wd _ _ h = w
 rw [qi 118 qAn] at hw
 cases hn:((l.length:Int) == (l'.length:Int)) with
 | false=>
  have J:l.length ≠ l'.length:=λe=>by rw [e,beq_self_eq_true] at hn;cases hn
  simp only [sB.1,qAn,seval,d1,d2,s1,s2,w1,w2,n1,n2,hn,Bool.not_false] at hw
  rw [qfx J]
  exact hw.symm
 | true=>
  have J:l.length = l'.length:=by have:=of_decide_eq_true hn;omega
  have loop:∀q st,(∃(tt:List qa) (i:Nat),st = ⟨tt,h,false⟩/\tt.length = 30/\lkp tt 0 = L/\lkp tt 1 = L'/\lkp tt 2 = .fn 90 [] []/\lkp tt 14 = .int .i64 (l.length:Nat)/\lkp tt 15 = .int .i64 (i:Nat)/\i + q = l.length/\qbC l l' = qbC (l.drop i) (l'.drop i))->
    ∃x E,qm h.length Wd (.loop qgL) st = some (x,E)/\(∃tt:List qa,E = ⟨tt,h,false⟩/\tt.length = 30/\((x = .exit 0/\qbC l l' = true)\/(x = .ret/\lkp tt 6 = .bool false/\qbC l l' = false))):=by
   refine qy _ _ ?_
   rintro q st ⟨tt,i,rfl,ht,e0,e1,e2,B,I,U,hf⟩
   generalize he:qm h.length Wd qgL _ = r
   rcases Nat.lt_or_ge i l.length with hi | hi
   ·have q1:ilt (i:Int) (l.length:Int) = true:=by rw [qf];simp;omega
    have w:=qag (n:=i) zo
    have M:i < l'.length:=zo
    obtain ⟨pp,cs,x1,x2,_,x3,x4⟩:=hL.item hi hg
    obtain ⟨qq,ds,y1,y2,_,y3,y4⟩:=S.item M hg
    have x5:∀i t,qo pp i t = t:=λi t=>by rw [<-x2];exact qH _ _ _
    have y5:∀i t,qo qq i t = t:=λi t=>by rw [<-y2];exact qH _ _ _
    have hs:=ho _ (List.getElem_mem hi) _ cs ds h x4 y4 hg
    rw [qg4 hi M] at hf
    cases hb:qaX l[i] l'[i] with
    | true=>
     rw [hb] at hs hf
     simp only [sA.1,qgL,seval,ht,e0,e1,e2,B,I,q1,w,d1,d2,s1,s2,w1,w2,x1,x2,x3,x5,y1,y2,y3,y5,hs] at he
     subst he
     refine .inl ⟨_,q - 1,rfl,zo,_,i + 1,rfl,Y0,?_,?_,?_,?_,?_,zo,by rw [hf,jY]⟩
     ·simp only [sA.1,seval,ht,e0]
     ·simp only [sA.1,seval,ht,e1]
     ·simp only [sA.1,seval,ht,e2]
     ·simp only [sA.1,seval,ht,B]
     ·simp only [sA.1,seval,ht]
    | false=>
     rw [hb] at hs hf
     simp only [sA.1,qgL,seval,ht,e0,e1,e2,B,I,q1,w,d1,d2,s1,s2,w1,w2,x1,x2,x3,x5,y1,y2,y3,y5,hs] at he
     subst he
     refine .inr ⟨_,_,rfl,by simp,_,rfl,Y0,.inr ⟨rfl,?_,by rw [hf,jQ]⟩⟩
     simp only [sA.1,seval,ht]
   ·have q1:ilt (i:Int) (l.length:Int) = false:=by rw [qf];simp;omega
    simp only [sA.1,qgL,seval,ht,B,I,q1] at he
    subst he
    rw [List.drop_eq_nil_of_le hi,List.drop_eq_nil_of_le zo] at hf
    exact .inr ⟨_,_,rfl,by simp,_,rfl,Y0,.inl ⟨rfl,hf⟩⟩
  simp only [sB.1,qAn,seval,d1,d2,s1,s2,w1,w2,n1,n2,hn,Bool.not_true] at hw
  generalize hr:qm h.length Wd (.loop qgL) _ = r at hw
  obtain ⟨x,E,rfl,tt,rfl,ht,⟨rfl,ha⟩ | ⟨rfl,e4,ha⟩⟩:=known hr (loop l.length _ ⟨_,0,rfl,X1,by simp only [sB.1,seval,d1],by simp only [sB.1,seval,d2],X1,X1,X2,zo,rfl⟩)
  ·simp only [sB.1,seval,ht] at hw
   subst hw
   rw [ha]
  ·simp only [sB.1,seval,ht,e4] at hw
   subst hw
   rw [ha]
theorem qeA:∀d,∀{H:Nat->Option qb} {a:Tp},tpS d a->St3 H a:=by
 intro d
 induction d with
 | zero=>
  rintro H ⟨k,l⟩ h0 ⟨k',l'⟩ cs ds h hv E hg
  have hl:l = []:=h0
  subst hl
  obtain ⟨L,rfl,hL⟩:=hv.lp
  obtain ⟨L',rfl,B⟩:=E.lp
  obtain ⟨d1,s1,w1,n1⟩:=hL.facts
  obtain ⟨d2,s2,w2,n2⟩:=B.facts
  have ha:=qiu hL B (by simp) (λx hx=>by cases hx) (h ++ [qb.cells [.int .i64 k,L],.cells [.int .i64 k',L']]) (hg.more _)
  rw [qaX]
  rw [qi 90 c90]
  cases hk:(k == k') <;> simp only [sB.1,c90,seval,d1,d2,s1,s2,w1,w2,n1,n2,hk,ha,jY,jQ]
 | succ d ih=>
  rintro H ⟨k,l⟩ h0 ⟨k',l'⟩ cs ds h hv E hg
  obtain ⟨L,rfl,hL⟩:=hv.lp
  obtain ⟨L',rfl,B⟩:=E.lp
  obtain ⟨d1,s1,w1,n1⟩:=hL.facts
  obtain ⟨d2,s2,w2,n2⟩:=B.facts
  have ha:=qiu hL B h0.1 (λx hx=>ih (h0.2 x hx)) (h ++ [qb.cells [.int .i64 k,L],.cells [.int .i64 k',L']]) (hg.more _)
  rw [qaX]
  rw [qi 90 c90]
  cases hk:(k == k') <;> simp only [sB.1,c90,seval,d1,d2,s1,s2,w1,w2,n1,n2,hk,ha,jY,jQ]
section
variable {base:Nat} {call:AE.Call} {dsts:List Nat} {s:St} {pend:List (Nat×Chk)}
theorem qav {d:Option Nat} {o:AOp} {ix cl j:Nat} {b:Bool} {ds:List qN} (h:lkp s.t j = .bool b):qx base call dsts (⟨⟨d,o,some (j,b)⟩,ix,cl⟩ :: ds) pend s = qx base call dsts (⟨⟨d,o,none⟩,ix,cl⟩ :: ds) pend s:=by
 have e:s.t.getD j .undef = .bool b:=h
 simp only [qx,wanted,e,beq_self_eq_true]
end
inductive Exl where
 | mk (op n:Int) (nm sb:Str) (aS:List Exl)
def Exl.enc:Exl->List qa
 | .mk op n nm sb aS=>[.int .i64 op,.int .i64 n,.str nm,.str sb,.lst (aS.map λe=>.agg e.enc) .no]
def exV (e:Exl):qa:=.agg e.enc
theorem qcK (op n:Int) (nm sb:Str) (aS:List Exl):(Exl.mk op n nm sb aS).enc = [.int .i64 op,.int .i64 n,.str nm,.str sb,.lst (aS.map exV) .no]:=by rw [Exl.enc];rfl
theorem qI (op n:Int) (nm sb:Str) (aS:List Exl):exV (.mk op n nm sb aS) = .agg [.int .i64 op,.int .i64 n,.str nm,.str sb,.lst (aS.map exV) .no]:=by rw [exV,qcK]
def Fit:Nat->Exl->Prop
 | 0,_=>False
 | d + 1,.mk _ _ _ _ aS=>aS.length <= 20/\∀a ∈ aS,Fit d a
theorem z00:ilt 0 0 = false:=Eq.trans rfl rfl
theorem z01:ilt 0 1 = true:=Eq.trans rfl rfl
theorem z11:ilt 1 1 = false:=Eq.trans rfl rfl
theorem cc1:((1:Nat):Int) = 1:=Eq.trans rfl rfl
theorem cc0:((0:Nat):Int) = 0:=Eq.trans rfl rfl
theorem w01:IntKind.i64.wrap (0 + 1) = 1:=xk
theorem w1:IntKind.i64.wrap 1 = 1:=xk
theorem qBe:([]:List qa).length = 0:=rfl
theorem qrQ (r:Int) (h:List qb):Wd (.fn 42 [] []) [.lst [] .full,.int .i64 r] h = some (.ret (.int .i64 r),h,false):=by
 rw [qi 42 c42]
 simp only [sB.1,c42,qBc,qaG,seval,qBe,cc0,z00]
theorem qvl (r:Int) (h:List qb):Wd (.fn 43 [] []) [.lst [] .full,.int .i64 r] h = some (.ret (.int .i64 r),h,false):=by
 rw [qi 43 c43]
 simp only [sB.1,c43,qBd,qaG,seval,qBe,cc0,z00]
def qEA (e:Exl):qa:=.agg [.str [],.bool false,.lst [] .full,.lst [] .full,.lst [] .full,.lst [exV e] .full,.lst [] .full,.lst [] .full,.lst [] .full,.int .i64 0,.lst [] .full,.lst [] .full,.lst [] .full,.lst [] .full]
def fB (nb mb sb:Bool) (lo hi n:Int) (nm sub:Str) (k:Nat):Bool:=(nb || n == 0) && ((mb || nm == []) && ((sb || sub == []) && (ile lo (k:Int) && ile (k:Int) hi)))
section
variable {h:List qb}
theorem qaz (op n:Int) (nm sub:Str) (aS:List qa) (nb mb sb:Bool) (lo hi:Int) :
  Wd (.fn 113 [] []) [.agg [.int .i64 op,.int .i64 n,.str nm,.str sub,.lst aS .no],.bool nb,.bool mb,.bool sb,.int .i64 lo,.int .i64 hi] h = some (.ret (.bool (fB nb mb sb lo hi n nm sub aS.length)),h,false):=by
 rw [qi 113 qw5]
 by_cases a1:nb = true\/(nb = false/\(n == 0) = true)
 ·by_cases a2:mb = true\/(mb = false/\(nm == []) = true)
  ·by_cases a3:sb = true\/(sb = false/\(sub == []) = true)
   ·cases B:ile lo (aS.length:Int) <;>
    rcases a1 with rfl | ⟨rfl,b1⟩ <;> rcases a2 with rfl | ⟨rfl,b2⟩ <;> rcases a3 with rfl | ⟨rfl,b3⟩ <;> simp only [sB.1,qw5,seval,fB, *]
   ·have e3:sb = false:=by cases sb <;> simp_all
    subst e3
    have b3:(sub == []) = false:=by cases hq:(sub == []) <;> simp_all
    rcases a1 with rfl | ⟨rfl,b1⟩ <;> rcases a2 with rfl | ⟨rfl,b2⟩ <;> simp only [sB.1,qw5,seval,fB, *]
  ·have e3:mb = false:=by cases mb <;> simp_all
   subst e3
   have b3:(nm == []) = false:=by cases hq:(nm == []) <;> simp_all
   rcases a1 with rfl | ⟨rfl,b1⟩ <;> simp only [sB.1,qw5,seval,fB, *]
 ·have e3:nb = false:=by cases nb <;> simp_all
  subst e3
  have b3:(n == 0) = false:=by cases hq:(n == 0) <;> simp_all
  simp only [sB.1,qw5,seval,fB, *]
def nB0 (n:Int) (nm sub:Str) (k:Nat):Bool:=fB true false false 0 0 n nm sub k && ile 0 n
def nB1 (n:Int) (nm sub:Str) (k:Nat):Bool:=fB false false false 0 0 n nm sub k
def nB2 (n:Int) (nm sub:Str) (k:Nat):Bool:=fB false false false 0 0 n nm sub k
def nB3 (n:Int) (nm sub:Str) (k:Nat):Bool:=fB false true false 0 0 n nm sub k && qc2 nm
def nB4 (n:Int) (nm sub:Str) (k:Nat):Bool:=fB false true false 0 0 n nm sub k && qbF nm
def nB5 (n:Int) (nm sub:Str) (k:Nat):Bool:=fB false true true 0 0 n nm sub k && (qbF nm && qbF sub)
def nB6 (n:Int) (nm sub:Str) (k:Nat):Bool:=fB false false false 1 4 n nm sub k
def nB7 (n:Int) (nm sub:Str) (k:Nat):Bool:=fB false true false 0 0 n nm sub k && qbF nm
def nB8 (n:Int) (nm sub:Str) (k:Nat):Bool:=fB false true false 0 0 n nm sub k && qbF nm
def nB9 (n:Int) (nm sub:Str) (k:Nat):Bool:=fB false true false 0 0 n nm sub k && qbF nm
def qyv (n:Int) (nm sub:Str) (k:Nat):Bool:=fB false true false 1 1 n nm sub k && qbF nm
def qyw (n:Int) (nm sub:Str) (k:Nat):Bool:=fB false false false 0 0 n nm sub k
def qyx (n:Int) (nm sub:Str) (k:Nat):Bool:=fB true false false 1 1 n nm sub k && (ile 0 n && ilt n 4)
def qyy (n:Int) (nm sub:Str) (k:Nat):Bool:=fB false false false 1 1 n nm sub k
def qyz (n:Int) (nm sub:Str) (k:Nat):Bool:=fB false false false 1 1 n nm sub k
def qyA (n:Int) (nm sub:Str) (k:Nat):Bool:=fB false false false 2 2 n nm sub k
def qyB (n:Int) (nm sub:Str) (k:Nat):Bool:=fB false false false 2 2 n nm sub k
def qyC (n:Int) (nm sub:Str) (k:Nat):Bool:=fB false false false 2 2 n nm sub k
def qyD (n:Int) (nm sub:Str) (k:Nat):Bool:=fB false false false 2 2 n nm sub k
def qyE (n:Int) (nm sub:Str) (k:Nat):Bool:=fB false false false 2 2 n nm sub k
def qyF (n:Int) (nm sub:Str) (k:Nat):Bool:=fB false false false 2 2 n nm sub k
def qyG (n:Int) (nm sub:Str) (k:Nat):Bool:=fB false false false 2 2 n nm sub k
def qyH (n:Int) (nm sub:Str) (k:Nat):Bool:=fB false false false 2 2 n nm sub k
def qyI (n:Int) (nm sub:Str) (k:Nat):Bool:=fB false false false 2 2 n nm sub k
def qyJ (n:Int) (nm sub:Str) (k:Nat):Bool:=fB false false false 2 2 n nm sub k
def qyK (n:Int) (nm sub:Str) (k:Nat):Bool:=fB false false false 3 3 n nm sub k
def qfT (op n:Int) (nm sub:Str) (k:Nat):Bool:=
 bif op == 0 then nB0 n nm sub k else 
 bif op == 1 then nB1 n nm sub k else 
 bif op == 2 then nB2 n nm sub k else 
 bif op == 3 then nB3 n nm sub k else 
 bif op == 4 then nB4 n nm sub k else 
 bif op == 5 then nB5 n nm sub k else 
 bif op == 6 then nB6 n nm sub k else 
 bif op == 7 then nB7 n nm sub k else 
 bif op == 8 then nB8 n nm sub k else 
 bif op == 9 then nB9 n nm sub k else 
 bif op == 10 then qyv n nm sub k else 
 bif op == 11 then qyw n nm sub k else 
 bif op == 12 then qyx n nm sub k else 
 bif op == 13 then qyy n nm sub k else 
 bif op == 14 then qyz n nm sub k else 
 bif op == 15 then qyA n nm sub k else 
 bif op == 16 then qyB n nm sub k else 
 bif op == 17 then qyC n nm sub k else 
 bif op == 18 then qyD n nm sub k else 
 bif op == 19 then qyE n nm sub k else 
 bif op == 20 then qyF n nm sub k else 
 bif op == 21 then qyG n nm sub k else 
 bif op == 22 then qyH n nm sub k else 
 bif op == 23 then qyI n nm sub k else 
 bif op == 24 then qyJ n nm sub k else 
 bif op == 25 then qyK n nm sub k else false
def ND (h:List qb) (op:Int) (B:Int->Str->Str->Nat->Bool):Prop:=∀(n:Int) (nm sub:Str) (aS:List qa),Wd (.fn 83 [] []) [.agg [.int .i64 op,.int .i64 n,.str nm,.str sub,.lst aS .no]] h = some (.ret (.bool (B n nm sub aS.length)),h,false)
theorem qBn:ND h 0 nB0:=by
 intro n nm sub aS
 have hf:=λ(h:List qb)=>qaz (h:=h) 0 n nm sub aS true false false 0 0
 rw [qi 83 c83]
 cases hF:fB true false false 0 0 n nm sub aS.length <;> simp only [sB.1,c83,seval,hf,hF,nB0,qau,qan]
theorem qBo:ND h 1 nB1:=by
 intro n nm sub aS
 have hf:=λ(h:List qb)=>qaz (h:=h) 1 n nm sub aS false false false 0 0
 rw [qi 83 c83]
 cases hF:fB false false false 0 0 n nm sub aS.length <;> simp only [sB.1,c83,seval,hf,hF,nB1,qau,qan]
theorem qBp:ND h 2 nB2:=by
 intro n nm sub aS
 have hf:=λ(h:List qb)=>qaz (h:=h) 2 n nm sub aS false false false 0 0
 rw [qi 83 c83]
 cases hF:fB false false false 0 0 n nm sub aS.length <;> simp only [sB.1,c83,seval,hf,hF,nB2,qau,qan]
theorem qBq:ND h 3 nB3:=by
 intro n nm sub aS
 have hf:=λ(h:List qb)=>qaz (h:=h) 3 n nm sub aS false true false 0 0
 rw [qi 83 c83]
 cases hF:fB false true false 0 0 n nm sub aS.length <;> simp only [sB.1,c83,seval,hf,hF,nB3,qau,qan]
theorem qBr:ND h 4 nB4:=by
 intro n nm sub aS
 have hf:=λ(h:List qb)=>qaz (h:=h) 4 n nm sub aS false true false 0 0
 rw [qi 83 c83]
 cases hF:fB false true false 0 0 n nm sub aS.length <;> simp only [sB.1,c83,seval,hf,hF,nB4,qau,qan]
theorem qBs:ND h 5 nB5:=by
 intro n nm sub aS
 have hf:=λ(h:List qb)=>qaz (h:=h) 5 n nm sub aS false true true 0 0
 rw [qi 83 c83]
 cases hF:fB false true true 0 0 n nm sub aS.length <;> cases h1:qbF nm <;> simp only [sB.1,c83,seval,hf,hF,nB5,qau,qan,h1]
theorem qBt:ND h 6 nB6:=by
 intro n nm sub aS
 have hf:=λ(h:List qb)=>qaz (h:=h) 6 n nm sub aS false false false 1 4
 rw [qi 83 c83]
 cases hF:fB false false false 1 4 n nm sub aS.length <;> simp only [sB.1,c83,seval,hf,hF,nB6,qau,qan]
theorem qBu:ND h 7 nB7:=by
 intro n nm sub aS
 have hf:=λ(h:List qb)=>qaz (h:=h) 7 n nm sub aS false true false 0 0
 rw [qi 83 c83]
 cases hF:fB false true false 0 0 n nm sub aS.length <;> simp only [sB.1,c83,seval,hf,hF,nB7,qau,qan]
theorem qBv:ND h 8 nB8:=by
 intro n nm sub aS
 have hf:=λ(h:List qb)=>qaz (h:=h) 8 n nm sub aS false true false 0 0
 rw [qi 83 c83]
 cases hF:fB false true false 0 0 n nm sub aS.length <;> simp only [sB.1,c83,seval,hf,hF,nB8,qau,qan]
theorem qBw:ND h 9 nB9:=by
 intro n nm sub aS
 have hf:=λ(h:List qb)=>qaz (h:=h) 9 n nm sub aS false true false 0 0
 rw [qi 83 c83]
 cases hF:fB false true false 0 0 n nm sub aS.length <;> simp only [sB.1,c83,seval,hf,hF,nB9,qau,qan]
theorem qyP:ND h 10 qyv:=by
 intro n nm sub aS
 have hf:=λ(h:List qb)=>qaz (h:=h) 10 n nm sub aS false true false 1 1
 rw [qi 83 c83]
 cases hF:fB false true false 1 1 n nm sub aS.length <;> simp only [sB.1,c83,seval,hf,hF,qyv,qau,qan]
theorem qyQ:ND h 11 qyw:=by
 intro n nm sub aS
 have hf:=λ(h:List qb)=>qaz (h:=h) 11 n nm sub aS false false false 0 0
 rw [qi 83 c83]
 cases hF:fB false false false 0 0 n nm sub aS.length <;> simp only [sB.1,c83,seval,hf,hF,qyw,qau,qan]
theorem qyR:ND h 12 qyx:=by
 intro n nm sub aS
 have hf:=λ(h:List qb)=>qaz (h:=h) 12 n nm sub aS true false false 1 1
 rw [qi 83 c83]
 cases hF:fB true false false 1 1 n nm sub aS.length <;> cases h1:ile 0 n <;> simp only [sB.1,c83,seval,hf,hF,qyx,qau,qan,h1]
theorem qyS:ND h 13 qyy:=by
 intro n nm sub aS
 have hf:=λ(h:List qb)=>qaz (h:=h) 13 n nm sub aS false false false 1 1
 rw [qi 83 c83]
 cases hF:fB false false false 1 1 n nm sub aS.length <;> simp only [sB.1,c83,seval,hf,hF,qyy,qau,qan]
theorem qyT:ND h 14 qyz:=by
 intro n nm sub aS
 have hf:=λ(h:List qb)=>qaz (h:=h) 14 n nm sub aS false false false 1 1
 rw [qi 83 c83]
 cases hF:fB false false false 1 1 n nm sub aS.length <;> simp only [sB.1,c83,seval,hf,hF,qyz,qau,qan]
theorem qyU:ND h 15 qyA:=by
 intro n nm sub aS
 have hf:=λ(h:List qb)=>qaz (h:=h) 15 n nm sub aS false false false 2 2
 rw [qi 83 c83]
 cases hF:fB false false false 2 2 n nm sub aS.length <;> simp only [sB.1,c83,seval,hf,hF,qyA,qau,qan]
theorem qyV:ND h 16 qyB:=by
 intro n nm sub aS
 have hf:=λ(h:List qb)=>qaz (h:=h) 16 n nm sub aS false false false 2 2
 rw [qi 83 c83]
 cases hF:fB false false false 2 2 n nm sub aS.length <;> simp only [sB.1,c83,seval,hf,hF,qyB,qau,qan]
theorem qyW:ND h 17 qyC:=by
 intro n nm sub aS
 have hf:=λ(h:List qb)=>qaz (h:=h) 17 n nm sub aS false false false 2 2
 rw [qi 83 c83]
 cases hF:fB false false false 2 2 n nm sub aS.length <;> simp only [sB.1,c83,seval,hf,hF,qyC,qau,qan]
theorem qyX:ND h 18 qyD:=by
 intro n nm sub aS
 have hf:=λ(h:List qb)=>qaz (h:=h) 18 n nm sub aS false false false 2 2
 rw [qi 83 c83]
 cases hF:fB false false false 2 2 n nm sub aS.length <;> simp only [sB.1,c83,seval,hf,hF,qyD,qau,qan]
theorem qyY:ND h 19 qyE:=by
 intro n nm sub aS
 have hf:=λ(h:List qb)=>qaz (h:=h) 19 n nm sub aS false false false 2 2
 rw [qi 83 c83]
 cases hF:fB false false false 2 2 n nm sub aS.length <;> simp only [sB.1,c83,seval,hf,hF,qyE,qau,qan]
theorem qyZ:ND h 20 qyF:=by
 intro n nm sub aS
 have hf:=λ(h:List qb)=>qaz (h:=h) 20 n nm sub aS false false false 2 2
 rw [qi 83 c83]
 cases hF:fB false false false 2 2 n nm sub aS.length <;> simp only [sB.1,c83,seval,hf,hF,qyF,qau,qan]
theorem qy0:ND h 21 qyG:=by
 intro n nm sub aS
 have hf:=λ(h:List qb)=>qaz (h:=h) 21 n nm sub aS false false false 2 2
 rw [qi 83 c83]
 cases hF:fB false false false 2 2 n nm sub aS.length <;> simp only [sB.1,c83,seval,hf,hF,qyG,qau,qan]
theorem qy1:ND h 22 qyH:=by
 intro n nm sub aS
 have hf:=λ(h:List qb)=>qaz (h:=h) 22 n nm sub aS false false false 2 2
 rw [qi 83 c83]
 cases hF:fB false false false 2 2 n nm sub aS.length <;> simp only [sB.1,c83,seval,hf,hF,qyH,qau,qan]
theorem qy2:ND h 23 qyI:=by
 intro n nm sub aS
 have hf:=λ(h:List qb)=>qaz (h:=h) 23 n nm sub aS false false false 2 2
 rw [qi 83 c83]
 cases hF:fB false false false 2 2 n nm sub aS.length <;> simp only [sB.1,c83,seval,hf,hF,qyI,qau,qan]
theorem qy3:ND h 24 qyJ:=by
 intro n nm sub aS
 have hf:=λ(h:List qb)=>qaz (h:=h) 24 n nm sub aS false false false 2 2
 rw [qi 83 c83]
 cases hF:fB false false false 2 2 n nm sub aS.length <;> simp only [sB.1,c83,seval,hf,hF,qyJ,qau,qan]
theorem qy4:ND h 25 qyK:=by
 intro n nm sub aS
 have hf:=λ(h:List qb)=>qaz (h:=h) 25 n nm sub aS false false false 3 3
 rw [qi 83 c83]
 cases hF:fB false false false 3 3 n nm sub aS.length <;> simp only [sB.1,c83,seval,hf,hF,qyK,qau,qan]
theorem qF6 {op:Int} (ho:¬ (0 <= op/\op <= 25)):(op == 0) = false/\(op == 1) = false/\(op == 2) = false/\(op == 3) = false/\(op == 4) = false/\(op == 5) = false/\(op == 6) = false/\(op == 7) = false/\(op == 8) = false/\(op == 9) = false/\(op == 10) = false/\(op == 11) = false/\(op == 12) = false/\(op == 13) = false/\(op == 14) = false/\(op == 15) = false/\(op == 16) = false/\(op == 17) = false/\(op == 18) = false/\(op == 19) = false/\(op == 20) = false/\(op == 21) = false/\(op == 22) = false/\(op == 23) = false/\(op == 24) = false/\(op == 25) = false:=by
 refine ⟨?_,?_,?_,?_,?_,?_,?_,?_,?_,?_,?_,?_,?_,?_,?_,?_,?_,?_,?_,?_,?_,?_,?_,?_,?_,?_⟩ <;> rw [beq_eq_false_iff_ne] <;> omega
theorem qie {op:Int} (ho:¬ (0 <= op/\op <= 25)) (n:Int) (nm sub:Str) (k:Nat):qfT op n nm sub k = false:=by
 simp only [qfT,qF6 ho,cond_false]
theorem qy5 {op:Int} (ho:¬ (0 <= op/\op <= 25)) (n:Int) (nm sub:Str) (aS:List qa):Wd (.fn 83 [] []) [.agg [.int .i64 op,.int .i64 n,.str nm,.str sub,.lst aS .no]] h = some (.ret (.bool false),h,false):=by
 rw [qi 83 c83]
 simp only [sB.1,c83,seval,qF6 ho]
theorem qBy (op n:Int) (nm sub:Str) (aS:List qa):Wd (.fn 83 [] []) [.agg [.int .i64 op,.int .i64 n,.str nm,.str sub,.lst aS .no]] h = some (.ret (.bool (qfT op n nm sub aS.length)),h,false):=by
 by_cases ho:0 <= op/\op <= 25
 ·have:op = 0\/op = 1\/op = 2\/op = 3\/op = 4\/op = 5\/op = 6\/op = 7\/op = 8\/op = 9\/op = 10\/op = 11\/op = 12\/op = 13\/op = 14\/op = 15\/op = 16\/op = 17\/op = 18\/op = 19\/op = 20\/op = 21\/op = 22\/op = 23\/op = 24\/op = 25:=zo
  rcases this with rfl | rfl | rfl | rfl | rfl | rfl | rfl | rfl | rfl | rfl | rfl | rfl | rfl | rfl | rfl | rfl | rfl | rfl | rfl | rfl | rfl | rfl | rfl | rfl | rfl | rfl
  ·exact qBn n nm sub aS
  ·exact qBo n nm sub aS
  ·exact qBp n nm sub aS
  ·exact qBq n nm sub aS
  ·exact qBr n nm sub aS
  ·exact qBs n nm sub aS
  ·exact qBt n nm sub aS
  ·exact qBu n nm sub aS
  ·exact qBv n nm sub aS
  ·exact qBw n nm sub aS
  ·exact qyP n nm sub aS
  ·exact qyQ n nm sub aS
  ·exact qyR n nm sub aS
  ·exact qyS n nm sub aS
  ·exact qyT n nm sub aS
  ·exact qyU n nm sub aS
  ·exact qyV n nm sub aS
  ·exact qyW n nm sub aS
  ·exact qyX n nm sub aS
  ·exact qyY n nm sub aS
  ·exact qyZ n nm sub aS
  ·exact qy0 n nm sub aS
  ·exact qy1 n nm sub aS
  ·exact qy2 n nm sub aS
  ·exact qy3 n nm sub aS
  ·exact qy4 n nm sub aS
 ·rw [qie ho]
  exact qy5 ho n nm sub aS
end
def right:Nat->Exl->Bool
 | 0,_=>false
 | d + 1,.mk op n nm sub aS=>qfT op n nm sub aS.length && aS.all (right d)
theorem qp4 (a b:Int):ilt a b = !(ile b a):=by
 rw [qf,qaT]
 by_cases h:a < b
 ·rw [decide_eq_true h,decide_eq_false zo];rfl
 ·rw [decide_eq_false h,decide_eq_true zo];rfl
theorem qGx (n:Int):ilt n 4 = ile n 3:=by
 rw [qf,qaT]
 by_cases h:n < 4
 ·rw [decide_eq_true h,decide_eq_true zo]
 ·rw [decide_eq_false h,decide_eq_false zo]
def qeC (d:Nat):Prop:=∀(e:Exl) (h:List qb),(∃k,Fit k e)->Wd (.fn 45 [] []) [exV e,.int .i64 (d:Nat)] h = some (.ret (.bool (right d e)),h,false)
section
variable {d:Nat} {h:List qb}
theorem qxH (hd:d < 100) (ih:qeC d) {n:Int} {op:Int} {nm sub:Str} {aS:List Exl} (hl:aS.length < 1000000000) (hf:∀a ∈ aS,∃k,Fit k a):∀k st,(∃tt i,st = ⟨tt,h ++ [.cells [.int .i64 op,.int .i64 n,.str nm,.str sub,.lst (aS.map exV) .no]],false⟩/\tt.length = 126/\lkp tt 1 = .int .i64 (d + 1:Nat)/\lkp tt 2 = .ptr h.length 0/\lkp tt 10 = .int .i64 (i:Nat)/\i + k = aS.length/\(aS.drop i).all (right d) = aS.all (right d))->
  ∃x M,qm h.length Wd (.loop qi7) st = some (x,M)/\(∃tt,M = ⟨tt,h ++ [.cells [.int .i64 op,.int .i64 n,.str nm,.str sub,.lst (aS.map exV) .no]],false⟩/\tt.length = 126/\((x = .exit 1/\aS.all (right d) = true)\/(x = .ret/\aS.all (right d) = false/\lkp tt 4 = .bool false))):=by
 obtain ⟨G,hG⟩ :∃G,G = h ++ [qb.cells [.int .i64 op,.int .i64 n,.str nm,.str sub,.lst (aS.map exV) .no]]:=⟨_,rfl⟩
 have I:G[h.length]? = some (.cells [.int .i64 op,.int .i64 n,.str nm,.str sub,.lst (aS.map exV) .no]):=by rw [hG,qF];rfl
 rw [<-hG]
 refine qy _ _ ?_
 rintro k st ⟨tt,i,rfl,ht,e1,e2,J,a7,hR⟩
 generalize he:qm h.length Wd qi7 _ = r
 rcases Nat.lt_or_ge i aS.length with hi | hi
 ·have E:ilt (i:Int) (aS.length:Int) = true:=by rw [qf];simp;omega
  have w:=qag (n:=i) zo
  have wd:IntKind.i64.wrap (((d + 1:Nat):Int) - 1) = ((d:Nat):Int):=by rw [qbt zo zo];omega
  have B:=ih aS[i] G (hf _ (List.getElem_mem hi))
  have hg:(aS.map exV)[i]? = some (exV aS[i]):=by rw [ju,ji hi];rfl
  rw [jX hi,jH] at hR
  generalize aS[i] = y at B hg hR
  obtain ⟨U,n',a1,S,a6⟩:=y
  rw [qI] at B hg
  have hx:qaW 5 (.lst (aS.map exV) .no) (.int .i64 (i:Nat)) = some (.iptr [.int .i64 U,.int .i64 n',.str a1,.str S,.lst (a6.map exV) .no] 0):=qbl hg rfl
  cases hb:right d (.mk U n' a1 S a6) with
  | true=>
   rw [hb,jY] at hR
   rw [hb] at B
   simp only [sB.1,qi7,seval,ht,e1,e2,J,E,w,wd,hx,I,B,j6] at he
   subst he
   refine .inl ⟨_,k - 1,rfl,zo,_,i + 1,rfl,Y0,?_,?_,?_,zo,hR⟩
   ·simp only [sB.1,seval,ht,e1]
   ·simp only [sB.1,seval,ht,e2]
   ·simp only [sB.1,seval,ht]
  | false=>
   rw [hb,jQ] at hR
   rw [hb] at B
   simp only [sB.1,qi7,seval,ht,e1,e2,J,E,w,wd,hx,I,B,j6] at he
   subst he
   exact .inr ⟨_,_,rfl,by simp,_,rfl,Y0,.inr ⟨rfl,hR.symm,x8⟩⟩
 ·have E:ilt (i:Int) (aS.length:Int) = false:=by rw [qf];simp;omega
  rw [List.drop_eq_nil_of_le hi,jI] at hR
  simp only [sB.1,qi7,seval,ht,e1,e2,J,E,I,j6] at he
  subst he
  exact .inr ⟨_,_,rfl,by simp,_,rfl,Y0,.inl ⟨rfl,hR.symm⟩⟩
end
theorem qzW {a b:Int} (h:a < b):ilt a b = true:=by rw [qf];exact decide_eq_true h
theorem qzV {a b:Int} (h:¬ a < b):ilt a b = false:=by rw [qf];exact decide_eq_false h
theorem qGy {a b:Int} (h:a <= b):ile a b = true:=by rw [qaT];exact decide_eq_true h
theorem qF2 {a b:Int} (h:¬ a <= b):ile a b = false:=by rw [qaT];exact decide_eq_false h
def dOK:Nat->Exl->Bool
 | 0,_=>false
 | m + 1,.mk _ _ _ _ aS=>aS.all (dOK m)
theorem qfw:∀(d:Nat) (e:Exl),right d e = true->dOK d e = true
 | 0,_,h=>by rw [right] at h;cases h
 | d + 1,.mk op n nm sub aS,h=>by
  rw [right,Bool.and_eq_true,List.all_eq_true] at h
  rw [dOK,List.all_eq_true]
  exact λa ha=>qfw d a (h.2 a ha)
theorem qHY:∀(m:Nat),m <= 100->∀(e:Exl) (h:List qb),(∃k,Fit k e)->∃v:Nat,Wd (.fn 60 [] []) [exV e,.int .i64 (m:Nat)] h = some (.ret (.int .i64 (v:Nat)),h,false)/\1 <= v/\v <= m + 1/\decide (v <= m) = dOK m e:=by
 intro m
 induction m with
 | zero=>
  rintro _ ⟨op,n,nm,sub,aS⟩ h _
  have z0:ile ((0:Nat):Int) 0 = true:=xk
  have w0:IntKind.i64.wrap (((0:Nat):Int) + 1) = ((1:Nat):Int):=xk
  refine ⟨1,?_,zo,zo,by rw [dOK];rfl⟩
  rw [qI,qi 60 c60]
  simp only [sB.1,c60,seval,-Int.reduceNatCast',z0,w0]
 | succ m ih=>
  rintro hm ⟨op,n,nm,sub,aS⟩ h ⟨k,hk⟩
  have ih:=ih zo
  obtain ⟨k,rfl⟩ :∃k',k = k' + 1:=by cases k with | zero=>exact hk.elim | succ k=>exact ⟨k,rfl⟩
  have hl:aS.length <= 20:=hk.1
  have hf:∀a ∈ aS,∃k,Fit k a:=λa ha=>⟨k,hk.2 a ha⟩
  have z0:ile ((m + 1:Nat):Int) 0 = false:=qF2 zo
  have z1:IntKind.i64.wrap (((m + 1:Nat):Int) - 1) = ((m:Nat):Int):=by rw [qbt zo zo];omega
  rw [dOK,qI]
  have loop:∀q st,(∃(tt:List qa) (G:List qb) (i qhW:Nat),st = ⟨tt,G,false⟩/\tt.length = 32/\G.take h.length = h/\h.length <= G.length/\lkp tt 1 = .int .i64 (m + 1:Nat)/\lkp tt 5 = .int .i64 (qhW:Nat)/\lkp tt 13 = .lst (aS.map exV) .no/\lkp tt 14 = .int .i64 (aS.length:Nat)/\lkp tt 15 = .int .i64 (i:Nat)/\i + q = aS.length/\1 <= qhW/\qhW <= m + 1/\(aS.drop i).all (dOK m) = aS.all (dOK m))->
    ∃x J,qm h.length Wd (.loop qkw) st = some (x,J)/\(∃(tt:List qa) (G:List qb),J = ⟨tt,G,false⟩/\tt.length = 32/\G.take h.length = h/\((x = .exit 0/\aS.all (dOK m) = true/\∃qhW:Nat,lkp tt 5 = .int .i64 (qhW:Nat)/\1 <= qhW/\qhW <= m + 1)\/(x = .ret/\aS.all (dOK m) = false/\lkp tt 4 = .int .i64 (m + 2:Nat)))):=by
   refine qy _ _ ?_
   rintro q st ⟨tt,G,i,qhW,rfl,ht,S,M,e1,e5,I,E,U,af,ad,ac,hR⟩
   generalize he:qm h.length Wd qkw _ = r
   rcases Nat.lt_or_ge i aS.length with hi | hi
   ·have c1:ilt (i:Int) (aS.length:Int) = true:=qzW zo
    have w:=qag (n:=i) zo
    obtain ⟨v,hv,v1,v2,v3⟩:=ih aS[i] (G ++ [.cells (aS[i]).enc]) (hf _ (List.getElem_mem hi))
    have hg:(aS.map exV)[i]? = some (exV aS[i]):=by rw [ju,ji hi];rfl
    rw [jX hi,jH,<-v3] at hR
    generalize aS[i] = y at hv hg
    obtain ⟨a7,n',a8,a6,ae⟩:=y
    rw [qI] at hg
    rw [qI,qcK] at hv
    have hx:qaW 5 (.lst (aS.map exV) .no) (.int .i64 (i:Nat)) = some (.iptr [.int .i64 a7,.int .i64 n',.str a8,.str a6,.lst (ae.map exV) .no] 0):=qbl hg rfl
    have a1:Nat.ble h.length G.length = true:=qe M
    have w1:IntKind.i64.wrap (1 + (v:Int)) = ((v + 1:Nat):Int):=by rw [qbt zo zo];omega
    have mx:(if ((v + 1:Nat):Int) > (qhW:Int) then ((v + 1:Nat):Int) else (qhW:Int)) = ((max qhW (v + 1):Nat):Int):=by split <;> omega
    cases hb:decide (v <= m) with
    | true=>
     have aa:v <= m:=of_decide_eq_true hb
     rw [hb,jY] at hR
     have c2:ilt ((m + 1:Nat):Int) ((max qhW (v + 1):Nat):Int) = false:=qzV zo
     simp only [sB.1,qkw,seval,ht,e1,e5,I,E,U,c1,hx,a1,hv,z1,w1,mx,qrg,c2,w] at he
     subst he
     refine .inl ⟨_,q - 1,rfl,zo,_,_,i + 1,max qhW (v + 1),rfl,Y0,by rw [j5 M,S],by simp;omega,?_,?_,?_,?_,?_,zo,zo,zo,hR⟩
     ·simp only [sB.1,seval,ht,e1]
     ·simp only [sB.1,seval,ht]
     ·simp only [sB.1,seval,ht,I]
     ·simp only [sB.1,seval,ht,E]
     ·simp only [sB.1,seval,ht]
    | false=>
     have aa:¬ v <= m:=of_decide_eq_false hb
     rw [hb,jQ] at hR
     have ab:max qhW (v + 1) = m + 2:=zo
     have c2:ilt ((m + 1:Nat):Int) ((max qhW (v + 1):Nat):Int) = true:=qzW zo
     simp only [sB.1,qkw,seval,ht,e1,e5,I,E,U,c1,hx,a1,hv,z1,w1,mx,qrg,c2,w] at he
     subst he
     refine .inr ⟨_,_,rfl,by simp,_,_,rfl,?_,?_,.inr ⟨rfl,hR.symm,?_⟩⟩
     ·simp only [qbf,ht]
     ·rw [j5 M,S]
     ·simp only [sB.1,seval,ht,ab]
   ·have c1:ilt (i:Int) (aS.length:Int) = false:=qzV zo
    rw [List.drop_eq_nil_of_le hi,jI] at hR
    simp only [sB.1,qkw,seval,ht,e1,e5,I,E,U,c1] at he
    subst he
    exact .inr ⟨_,_,rfl,by simp,_,_,rfl,Y0,S,.inl ⟨rfl,hR.symm,qhW,by simp only [sB.1,seval,ht,e5],ad,ac⟩⟩
  generalize hw:Wd _ _ h = w
  rw [qi 60 c60] at hw
  simp only [sB.1,c60,seval,z0,j6] at hw
  generalize hr:qm h.length Wd (.loop qkw) _ = r at hw
  obtain ⟨x,J,rfl,tt,G,rfl,ht,hG,hq⟩:=known hr (loop aS.length _ ⟨_,_,0,1,rfl,X1,by simp,by simp,X1,X1,X1,X1,X2,zo,zo,zo,rfl⟩)
  rcases hq with ⟨rfl,B,qhW,e5,b1,b2⟩ | ⟨rfl,B,e4⟩
  ·simp only [sB.1,seval,ht,e5] at hw
   subst hw
   refine ⟨qhW,congrArg some (q6 hG rfl),b1,zo,?_⟩
   rw [B]
   exact decide_eq_true zo
  ·simp only [sB.1,seval,ht,e4] at hw
   subst hw
   refine ⟨m + 2,congrArg some (q6 hG rfl),zo,zo,?_⟩
   rw [B]
   exact decide_eq_false zo
def qz4 (d:Nat):Prop:=∀(e:Exl) (h:List qb),(∃k,Fit k e)->dOK d e = true->Wd (.fn 61 [] []) [exV e] h = some (.ret (.bool (right d e)),h,false)
theorem qGc {d:Nat} (hn:qz4 d) (aS:List Exl) (hl:aS.length <= 20) (hf:∀a ∈ aS,∃k,Fit k a) (hD:∀a ∈ aS,dOK d a = true) (h:List qb) :
  Wd (.fn 84 [] []) [.lst (aS.map exV) .no,.fn 61 [] []] h = some (.ret (.bool (aS.all (right d))),h,false):=by
 have loop:∀q st,(∃(tt:List qa) (G:List qb) (i:Nat),st = ⟨tt,G,false⟩/\tt.length = 18/\G.take h.length = h/\h.length <= G.length/\lkp tt 1 = .fn 61 [] []/\lkp tt 7 = .lst (aS.map exV) .no/\lkp tt 8 = .int .i64 (aS.length:Nat)/\lkp tt 9 = .int .i64 (i:Nat)/\i + q = aS.length/\(aS.drop i).all (right d) = aS.all (right d))->
   ∃x E,qm h.length Wd (.loop qkz) st = some (x,E)/\(∃(tt:List qa) (G:List qb),E = ⟨tt,G,false⟩/\tt.length = 18/\G.take h.length = h/\((x = .exit 0/\aS.all (right d) = true)\/(x = .ret/\aS.all (right d) = false/\lkp tt 4 = .bool false))):=by
  refine qy _ _ ?_
  rintro q st ⟨tt,G,i,rfl,ht,J,I,e1,e7,e8,e9,a7,hR⟩
  generalize he:qm h.length Wd qkz _ = r
  rcases Nat.lt_or_ge i aS.length with hi | hi
  ·have c1:ilt (i:Int) (aS.length:Int) = true:=qzW zo
   have w:=qag (n:=i) zo
   have hv:=hn aS[i] (G ++ [.cells (aS[i]).enc]) (hf _ (List.getElem_mem hi)) (hD _ (List.getElem_mem hi))
   have hg:(aS.map exV)[i]? = some (exV aS[i]):=by rw [ju,ji hi];rfl
   rw [jX hi,jH] at hR
   generalize aS[i] = y at hv hg hR
   obtain ⟨S,n',U,M,a6⟩:=y
   rw [qI] at hg
   rw [qI,qcK] at hv
   have hx:qaW 5 (.lst (aS.map exV) .no) (.int .i64 (i:Nat)) = some (.iptr [.int .i64 S,.int .i64 n',.str U,.str M,.lst (a6.map exV) .no] 0):=qbl hg rfl
   have a1:Nat.ble h.length G.length = true:=qe I
   cases hb:right d (.mk S n' U M a6) with
   | true=>
    rw [hb,jY] at hR
    rw [hb] at hv
    simp only [sB.1,qkz,seval,ht,e1,e7,e8,e9,c1,hx,a1,hv,w] at he
    subst he
    refine .inl ⟨_,q - 1,rfl,zo,_,_,i + 1,rfl,Y0,by rw [j5 I,J],by simp;omega,?_,?_,?_,?_,zo,hR⟩
    ·simp only [sB.1,seval,ht,e1]
    ·simp only [sB.1,seval,ht,e7]
    ·simp only [sB.1,seval,ht,e8]
    ·simp only [sB.1,seval,ht]
   | false=>
    rw [hb,jQ] at hR
    rw [hb] at hv
    simp only [sB.1,qkz,seval,ht,e1,e7,e8,e9,c1,hx,a1,hv,w] at he
    subst he
    refine .inr ⟨_,_,rfl,by simp,_,_,rfl,?_,?_,.inr ⟨rfl,hR.symm,?_⟩⟩
    ·simp only [qbf,ht]
    ·rw [j5 I,J]
    ·simp only [sB.1,seval,ht]
  ·have c1:ilt (i:Int) (aS.length:Int) = false:=qzV zo
   rw [List.drop_eq_nil_of_le hi,jI] at hR
   simp only [sB.1,qkz,seval,ht,e1,e7,e8,e9,c1] at he
   subst he
   exact .inr ⟨_,_,rfl,by simp,_,_,rfl,Y0,J,.inl ⟨rfl,hR.symm⟩⟩
 generalize hw:Wd _ _ h = w
 rw [qi 84 c84] at hw
 simp only [sB.1,c84,seval,j6] at hw
 generalize hr:qm h.length Wd (.loop qkz) _ = r at hw
 obtain ⟨x,E,rfl,tt,G,rfl,ht,hG,hq⟩:=known hr (loop aS.length _ ⟨_,_,0,rfl,X1,by simp,by simp,X1,X1,X1,X2,zo,rfl⟩)
 rcases hq with ⟨rfl,B⟩ | ⟨rfl,B,e4⟩
 ·simp only [sB.1,seval,ht] at hw
  subst hw
  rw [B]
  exact congrArg some (q6 hG rfl)
 ·simp only [sB.1,seval,ht,e4] at hw
  subst hw
  rw [B]
  exact congrArg some (q6 hG rfl)
theorem qED:∀d,qz4 d:=by
 intro d
 induction d with
 | zero=>
  rintro e h _ hd
  rw [dOK] at hd
  cases hd
 | succ d ih=>
  rintro ⟨op,n,nm,sub,aS⟩ h ⟨k,hk⟩ hd
  obtain ⟨k,rfl⟩ :∃k',k = k' + 1:=by cases k with | zero=>exact hk.elim | succ k=>exact ⟨k,rfl⟩
  have hf:∀a ∈ aS,∃k,Fit k a:=λa ha=>⟨k,hk.2 a ha⟩
  rw [dOK,List.all_eq_true] at hd
  have ha:=λg=>qGc ih aS hk.1 hf hd g
  have hn:=λg=>qBy (h:=g) op n nm sub (aS.map exV)
  rw [j6] at hn
  rw [qI,right,qi 61 c61]
  cases hb:qfT op n nm sub aS.length with
  | false=>simp only [sB.1,c61,seval,hn,hb]
  | true=>simp only [sB.1,c61,seval,hn,hb,ha]
theorem qAB (e:Exl) (h:List qb) (hk:∃k,Fit k e):Wd (.fn 33 [] []) [exV e] h = some (.ret (.bool (right 20 e)),h,false):=by
 obtain ⟨v,hv,v1,v2,v3⟩:=qHY 20 zo e (h ++ [.cells e.enc]) hk
 have hn:=λhd g=>qED 20 e g hk hd
 have c20:((20:Nat):Int) = 20:=Eq.trans rfl rfl
 rw [c20] at hv
 cases hd:dOK 20 e with
 | false=>
  rw [hd] at v3
  have hr:right 20 e = false:=by
   cases hr:right 20 e with
   | false=>rfl
   | true=>rw [qfw _ _ hr] at hd;cases hd
  have c1:ile (v:Int) 20 = false:=by have:=of_decide_eq_false v3;exact qF2 zo
  rw [hr]
  obtain ⟨op,n,nm,sub,aS⟩:=e
  rw [qI,qcK] at hv
  rw [qI,qi 33 c33]
  simp only [sB.1,c33,seval,hv,c1]
 | true=>
  have hn:=hn hd
  rw [hd] at v3
  have c1:ile (v:Int) 20 = true:=by have:=of_decide_eq_true v3;exact qGy zo
  obtain ⟨op,n,nm,sub,aS⟩:=e
  rw [qI,qcK] at hv
  rw [qI] at hn
  rw [qI,qi 33 c33]
  simp only [sB.1,c33,seval,hv,c1,hn]
end Go.Proofs.YtnibchoenjmmjaaGreatDoor.AE
