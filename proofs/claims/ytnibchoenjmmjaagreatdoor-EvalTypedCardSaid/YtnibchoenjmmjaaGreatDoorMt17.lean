/- Proved: part 17. No condition. -/
import Derived.Test.YtnibchoenjmmjaaGreatDoorMt8
import Derived.Test.YtnibchoenjmmjaaGreatDoorMt16
import Derived.Test.YtnibchoenjmmjaaGreatDoorMt12
set_option maxRecDepth 100000
set_option maxHeartbeats 0
open List renaming drop_eq_getElem_cons→jX
open Int renaming natCast_zero→jV
namespace Go.Proofs.YtnibchoenjmmjaaGreatDoor.AE
open Go.AE
theorem qta (a b:Int):qeB b a = -qeB a b:=by
 unfold qeB
 split <;> split <;> omega
theorem qiB {a b:Int} (h:qeB a b = 0):a = b:=by
 unfold qeB at h
 split at h
 ·omega
 ·split at h <;> omega
theorem qza {x y x' y':Int} (h1:x' = -x) (h2:y' = -y):orI x' y' = -orI x y:=by
 subst h1;subst h2
 unfold orI
 by_cases h:x = 0
 ·rw [if_pos h,if_pos zo]
 ·rw [if_neg h,if_neg zo]
theorem qu0 {x y:Int} (h:orI x y = 0):x = 0/\y = 0:=by
 unfold orI at h
 by_cases hx:x = 0
 ·rw [if_pos hx] at h
  exact ⟨hx,h⟩
 ·rw [if_neg hx] at h
  exact absurd h hx
theorem qgn (a b:UInt8) (x y:Str):qgm (a :: x) (b :: y) = orI (qeB a.toNat b.toNat) (qgm x y):=by
 rw [qgm,Lib.compareBytes]
 unfold orI qeB
 rcases Nat.lt_trichotomy a.toNat b.toNat with h | h | h
 ·rw [if_pos (UInt8.lt_iff_toNat_lt.2 h)]
  have:((a.toNat:Int) < b.toNat):=zo
  simp [this]
 ·have e1:¬ a < b:=by rw [UInt8.lt_iff_toNat_lt];omega
  have e2:¬ b < a:=by rw [UInt8.lt_iff_toNat_lt];omega
  have i1:¬ (a.toNat:Int) < b.toNat:=zo
  have i2:¬ (b.toNat:Int) < a.toNat:=zo
  rw [if_neg e1,if_neg e2,if_neg i1,if_neg i2]
  rfl
 ·have e1:¬ a < b:=by rw [UInt8.lt_iff_toNat_lt];omega
  have e2:b < a:=by rw [UInt8.lt_iff_toNat_lt];omega
  have i1:¬ (a.toNat:Int) < b.toNat:=zo
  have i2:(b.toNat:Int) < a.toNat:=zo
  rw [if_neg e1,if_pos e2,if_neg i1,if_pos i2]
  rfl
theorem qlr:∀a b:Str,qgm b a = -qgm a b
 | [],[]=>rfl
 | [],_ :: _=>rfl
 | _ :: _,[]=>rfl
 | a :: x,b :: y=>by
  rw [qgn,qgn]
  exact qza (qta _ _) (qlr x y)
theorem qiE:∀{a b:Str},qgm a b = 0->a = b
 | [],[],_=>rfl
 | [],_ :: _,h=>by simp [qgm,Lib.compareBytes] at h
 | _ :: _,[],h=>by simp [qgm,Lib.compareBytes] at h
 | a :: x,b :: y,h=>by
  rw [qgn] at h
  obtain ⟨h1,h2⟩:=qu0 h
  have:=qiB h1
  have e:a = b:=UInt8.toNat_inj.1 zo
  rw [e,qiE h2]
theorem qAk:∀a b:Str,Op.bytesLess a b = decide (qgm a b < 0)
 | [],[]=>rfl
 | _ :: _,[]=>by simp [Op.bytesLess,qgm,Lib.compareBytes]
 | [],_ :: _=>by simp [Op.bytesLess,qgm,Lib.compareBytes]
 | a :: x,b :: y=>by
  have ih:=qAk x y
  rw [Op.bytesLess,ih,qgm,Lib.compareBytes]
  by_cases h1:a < b
  ·simp [h1]
  ·by_cases h2:b < a
   ·have:¬ a = b:=λe=>by subst e;exact h1 h2
    simp [h1,h2,this]
   ·have:a = b:=UInt8.toNat_inj.1 (by rw [UInt8.lt_iff_toNat_lt] at h1 h2;omega)
    simp [h1,h2,this]
theorem qCO (a b:Str):(a == b) = decide (qgm a b = 0):=by
 rw [Bool.eq_iff_iff]
 simp only [beq_iff_eq,decide_eq_true_eq]
 exact ⟨λh=>by subst h;have:=qlr a a;omega,qiE⟩
theorem qiD:∀a b:Str,qgm a b = -1\/qgm a b = 0\/qgm a b = 1
 | [],[]=>.inr (.inl rfl)
 | [],_ :: _=>.inl rfl
 | _ :: _,[]=>.inr (.inr rfl)
 | a :: x,b :: y=>by
  rw [qgm,Lib.compareBytes]
  split
  ·exact .inl rfl
  ·split
   ·exact .inr (.inr rfl)
   ·exact qiD x y
def qB7 (H:Nat->Option qb) (v:Val):Prop:=∀w cs ds g,(∃d,qu d w = true)->At H v cs->At H w ds->Cov H g->Wd (.fn 22 [] []) [.agg cs,.agg ds] g = some (.ret (.int .i64 (qgo v w)),g,false)
theorem qoO {l l':List Val} {i:Nat} (h1:l.length <= i) (h2:i < l'.length):qfg (l.drop i) (l'.drop i) = -1:=by
 rw [List.drop_eq_nil_of_le h1,jX h2,qfg]
theorem qmc {l l':List Val} {i:Nat} (h1:i < l.length) (h2:l'.length <= i):qfg (l.drop i) (l'.drop i) = 1:=by
 rw [List.drop_eq_nil_of_le h2,jX h1,qfg]
theorem qoN {l l':List Val} {i:Nat} (h1:l.length <= i) (h2:l'.length <= i):qfg (l.drop i) (l'.drop i) = 0:=by
 rw [List.drop_eq_nil_of_le h1,List.drop_eq_nil_of_le h2,qfg]
def qws (k n:Int) (s:Str) (L:qa) (k' n':Int) (s':Str) (L':qa):List qb:=[.cells [.int .i64 k,.int .i64 n,.str s,L],.cells [.int .i64 k',.int .i64 n',.str s',L']]
theorem qzi {H:Nat->Option qb} {k n k' n':Int} {s s':Str} {l l':List Val} {L L':qa} (hl:l.length <= 4) (ah:l'.length <= 4) (hL:LP H l L) (ab:LP H l' L') (ho:∀x ∈ l,qB7 H x) (ac:∀x ∈ l',∃d,qu d x = true) (h:List qb) (hg:Cov H h) :
  ∀q st,(∃(tt:List qa) (i:Nat),st = ⟨tt,h ++ qws k n s L k' n' s' L',false⟩/\tt.length = 75/\lkp tt 2 = .ptr h.length 0/\lkp tt 3 = .ptr (h.length + 1) 0/\lkp tt 5 = .int .i64 (i:Nat)/\i + q = max l.length l'.length/\qfg l l' = qfg (l.drop i) (l'.drop i))->
   ∃x aa,qm h.length Wd (.loop qh8) st = some (x,aa)/\(∃tt:List qa,aa = ⟨tt,h ++ qws k n s L k' n' s' L',false⟩/\tt.length = 75/\((x = .exit 0/\qfg l l' = 0)\/(x = .ret/\lkp tt 4 = .int .i64 (qfg l l')))):=by
 refine qy _ _ ?_
 rintro q st ⟨tt,i,rfl,ht,e2,e3,e5,ai,hf⟩
 generalize he:qm h.length Wd qh8 _ = r
 obtain ⟨a1,af,E,J⟩:=hL.facts
 obtain ⟨U,ae,B,I⟩:=ab.facts
 have a8:Cov H (h ++ qws k n s L k' n' s' L'):=hg.more _
 have S:(h ++ qws k n s L k' n' s' L')[h.length]? = some (.cells [.int .i64 k,.int .i64 n,.str s,L]):=by rw [qF];rfl
 have M:(h ++ qws k n s L k' n' s' L')[h.length + 1]? = some (.cells [.int .i64 k',.int .i64 n',.str s',L']):=by rw [qQ];rfl
 generalize hG:h ++ qws k n s L k' n' s' L' = G at *
 rcases Nat.lt_or_ge i l.length with h1 | h1
 ·have c1:ilt (i:Int) (l.length:Int) = true:=by rw [qf];simp;omega
  have d1:ile (l.length:Int) (i:Int) = false:=by rw [qaT];simp;omega
  rcases Nat.lt_or_ge i l'.length with h2 | h2
  ·have d2:ile (l'.length:Int) (i:Int) = false:=by rw [qaT];simp;omega
   have w:=qag (n:=i) zo
   obtain ⟨pp,cs,x1,x2,_,x3,x4⟩:=hL.item h1 a8
   obtain ⟨qq,ds,y1,y2,_,y3,y4⟩:=ab.item h2 a8
   have x5:∀i t,qo pp i t = t:=λi t=>by rw [<-x2];exact qH _ _ _
   have y5:∀i t,qo qq i t = t:=λi t=>by rw [<-y2];exact qH _ _ _
   have a7:=ho _ (List.getElem_mem h1) l'[i] cs ds G (ac _ (List.getElem_mem h2)) x4 y4 a8
   rw [qiC h1 h2] at hf
   generalize l[i] = a at *
   generalize l'[i] = b at *
   cases hz:(qgo a b == 0) with
   | true=>
    have a6:qgo a b = 0:=by simpa using hz
    rw [a6] at hf a7
    have z0:(((0:Int)) == 0) = true:=xk
    simp only [sB.1,qh8,seval,ht,e2,e3,e5,S,M,c1,d1,d2,w,x1,x2,x3,x5,y1,y2,y3,y5,a7,z0,a1,U,E,B,J,I] at he
    subst he
    refine .inl ⟨_,q - 1,rfl,zo,_,i + 1,rfl,Y0,?_,?_,?_,zo,?_⟩
    ·simp only [sB.1,seval,ht,e2]
    ·simp only [sB.1,seval,ht,e3]
    ·simp only [sB.1,seval,ht]
    ·rw [hf];rfl
   | false=>
    have a6:¬ qgo a b = 0:=by simpa using hz
    have ad:qfg l l' = qgo a b:=by rw [hf,orI,if_neg a6]
    simp only [sB.1,qh8,seval,ht,e2,e3,e5,S,M,c1,d1,d2,w,x1,x2,x3,x5,y1,y2,y3,y5,a7,hz,a1,U,E,B,J,I] at he
    subst he
    refine .inr ⟨_,_,rfl,by simp,_,rfl,Y0,.inr ⟨rfl,?_⟩⟩
    simp only [sB.1,seval,ht,ad]
  ·have d2:ile (l'.length:Int) (i:Int) = true:=by rw [qaT];simp;omega
   rw [qmc h1 h2] at hf
   simp only [sB.1,qh8,seval,ht,e2,e3,e5,S,M,c1,d1,d2,a1,U,E,B,J,I] at he
   subst he
   refine .inr ⟨_,_,rfl,by simp,_,rfl,Y0,.inr ⟨rfl,?_⟩⟩
   simp only [sB.1,seval,ht,hf]
 ·have c1:ilt (i:Int) (l.length:Int) = false:=by rw [qf];simp;omega
  have d1:ile (l.length:Int) (i:Int) = true:=by rw [qaT];simp;omega
  rcases Nat.lt_or_ge i l'.length with h2 | h2
  ·have c2:ilt (i:Int) (l'.length:Int) = true:=by rw [qf];simp;omega
   rw [qoO h1 h2] at hf
   simp only [sB.1,qh8,seval,ht,e2,e3,e5,S,M,c1,c2,d1,a1,U,E,B,J,I,Bool.or_true] at he
   subst he
   refine .inr ⟨_,_,rfl,by simp,_,rfl,Y0,.inr ⟨rfl,?_⟩⟩
   simp only [sB.1,seval,ht,hf]
  ·have c2:ilt (i:Int) (l'.length:Int) = false:=by rw [qf];simp;omega
   rw [qoN h1 h2] at hf
   simp only [sB.1,qh8,seval,ht,e2,e3,e5,S,M,c1,c2,a1,U,E,B,J,I] at he
   subst he
   exact .inr ⟨_,_,rfl,by simp,_,rfl,Y0,.inl ⟨rfl,hf⟩⟩
theorem qgY {H:Nat->Option qb} {k n:Int} {s:Str} {l:List Val} (hl:l.length <= 4) (ho:∀x ∈ l,qB7 H x):qB7 H (.mk k n s l):=by
 rintro ⟨k',n',s',l'⟩ cs ds h ⟨d,aa⟩ hv a8 hg
 obtain ⟨ab,hit⟩:=qdN aa
 obtain ⟨L,rfl,hL⟩:=hv.lp
 obtain ⟨L',rfl,a7⟩:=a8.lp
 obtain ⟨a6,J,E,S⟩:=hL.facts
 obtain ⟨a1,I,B,M⟩:=a7.facts
 have hS:=qzi (k:=k) (n:=n) (s:=s) (k':=k') (n':=n') (s':=s') hl ab hL a7 ho hit h hg
 have ac:h ++ qws k n s L k' n' s' L' = h ++ [.cells [.int .i64 k,.int .i64 n,.str s,L],.cells [.int .i64 k',.int .i64 n',.str s',L']]:=rfl
 have ae:(h ++ qws k n s L k' n' s' L').take h.length = h:=by simp
 generalize U:(qG.loop qh8) = L0 at hS
 generalize hw:Wd _ _ h = w
 rw [qi 22 c22] at hw
 have e1:=qAk s s'
 have e2:=qCO s s'
 rw [qgo]
 have kk:qeB k k' = 0\/k ≠ k':=by
  by_cases h:k = k'
  ·exact .inl (by rw [h];simp [qeB])
  ·exact .inr h
 rcases kk with kz | kz
 ·have kq:(k == k') = true:=by rw [qiB kz];simp
  rcases Int.lt_trichotomy n n' with hn | hn | hn
  ·have c1:ilt n n' = true:=by rw [qf];simpa using hn
   have hv:qeB n n' = -1:=by unfold qeB;rw [if_pos hn]
   simp only [sB.1,c22,U,seval,a6,a1,J,I,E,B,S,M,kq,c1] at hw
   subst hw
   rw [kz,hv];rfl
  ·have c1:ilt n n' = false:=by rw [qf];simp;omega
   have c2:ilt n' n = false:=by rw [qf];simp;omega
   have hv:qeB n n' = 0:=by unfold qeB;rw [if_neg zo,if_neg zo]
   rcases qiD s s' with hs | hs | hs
   ·have c3:Op.bytesLess s s' = true:=by rw [e1,hs];rfl
    simp only [sB.1,c22,U,seval,a6,a1,J,I,E,B,S,M,kq,c1,c2,c3] at hw
    subst hw
    rw [kz,hv,hs];rfl
   ·have c3:Op.bytesLess s s' = false:=by rw [e1,hs];rfl
    have c4:(s == s') = true:=by rw [e2,hs];rfl
    rw [kz,hv,hs]
    simp only [sB.1,c22,U,seval,a6,a1,J,I,E,B,S,M,kq,c1,c2,c3,c4] at hw
    generalize hr:qm h.length Wd L0 _ = r at hw
    obtain ⟨x,ad,rfl,tt,rfl,ht,⟨rfl,hf⟩ | ⟨rfl,e4⟩⟩:=known hr (hS (max l.length l'.length) _ ⟨_,0,by rw [ac],X1,X1,X1,X2,zo,rfl⟩)
    ·simp only [sB.1,seval,ht] at hw
     subst hw
     rw [hf]
     rfl
    ·simp only [sB.1,seval,ht,e4] at hw
     subst hw
     rfl
   ·have c3:Op.bytesLess s s' = false:=by rw [e1,hs];rfl
    have c4:(s == s') = false:=by rw [e2,hs];rfl
    simp only [sB.1,c22,U,seval,a6,a1,J,I,E,B,S,M,kq,c1,c2,c3,c4] at hw
    subst hw
    rw [kz,hv,hs];rfl
  ·have c1:ilt n n' = false:=by rw [qf];simp;omega
   have c2:ilt n' n = true:=by rw [qf];simpa using hn
   have hv:qeB n n' = 1:=by unfold qeB;rw [if_neg zo,if_pos hn]
   simp only [sB.1,c22,U,seval,a6,a1,J,I,E,B,S,M,kq,c1,c2] at hw
   subst hw
   rw [kz,hv];rfl
 ·have kq:(k == k') = false:=by simpa using kz
  rcases Int.lt_or_gt_of_ne kz with hk | hk
  ·have c1:ilt k k' = true:=by rw [qf];simpa using hk
   have hv:qeB k k' = -1:=by unfold qeB;rw [if_pos hk]
   simp only [sB.1,c22,U,seval,a6,a1,J,I,E,B,S,M,kq,c1] at hw
   subst hw
   rw [hv];rfl
  ·have c1:ilt k k' = false:=by rw [qf];simp;omega
   have hv:qeB k k' = 1:=by unfold qeB;rw [if_neg zo,if_pos hk]
   simp only [sB.1,c22,U,seval,a6,a1,J,I,E,B,S,M,kq,c1] at hw
   subst hw
   rw [hv];rfl
theorem qrZ:∀d,∀{H:Nat->Option qb} {v:Val},qu d v = true->qB7 H v:=by
 intro d
 induction d with
 | zero=>
  rintro H ⟨k,n,s,l⟩ h0
  have hl:=qa5 h0
  subst hl
  exact qgY (by simp) λx hx=>by cases hx
 | succ d ih=>
  rintro H ⟨k,n,s,l⟩ h0
  rw [qu] at h0
  cases h3:(k == 3) with
  | true=>
   rw [h3,cond_true] at h0
   simp only [Bool.and_eq_true,decide_eq_true_eq,List.all_eq_true] at h0
   exact qgY h0.1.2.2 λx hx=>ih (h0.2 x hx)
  | false=>
   rw [h3,cond_false] at h0
   have hl:=qa5 h0
   subst hl
   exact qgY (by simp) λx hx=>by cases hx
theorem qad {base:Nat} {call:AE.Call} {dsts:List Nat} {s:St} {pend:List (Nat×Chk)} {d:Option Nat} {o:AOp} {ix cl j:Nat} {b:Bool} {ds:List qN} (h:lkp s.t j = .tup []):qx base call dsts (⟨⟨d,o,some (j,b)⟩,ix,cl⟩ :: ds) pend s = qx base call dsts ds pend { s with t:=put d (.tup []) s.t}:=by
 have e:s.t.getD j .undef = .tup []:=h
 simp only [qx,wanted,e]
structure Wl where
 e:Exl
 N:Nms
 vals:List Val
 bag:List (List Val)
 en:Int
 ed:Int
 ofv:List Val
def wC (W:Wl):List qa:=W.e.enc ++ (qfr W.N ++ [.lst (W.vals.map qbX) .no,qbh W.bag,.int .i64 W.en,.int .i64 W.ed,.lst (W.ofv.map qbX) .no])
def wV (W:Wl):qa:=.agg (wC W)
theorem qfV (op n:Int) (nm sb:Str) (aS:List Exl) (N:Nms) (B:List Val) (I:List (List Val)) (en ed:Int) (E:List Val):wC ⟨.mk op n nm sb aS,N,B,I,en,ed,E⟩ = [.int .i64 op,.int .i64 n,.str nm,.str sb,.lst (aS.map exV) .no,.lst (N.vars.map nvV) .no,.lst (N.ports.map npV) .no,.bool N.bagq,.lst (N.oth.map nvV) .no,.lst (B.map qbX) .no,qbh I,.int .i64 en,.int .i64 ed,.lst (E.map qbX) .no]:=by rw [wC,qcK,qfr];rfl
theorem qAX {l:List Val} {i:Nat} (hi:i < l.length):qaW 4 (.lst (l.map qbX) .no) (.int .i64 (i:Nat)) = some (.iptr l[i].enc 0):=
 qbl (k:=4) (x:=qbX l[i]) (by rw [List.getElem?_map,List.getElem?_eq_getElem hi];rfl) (by obtain ⟨k,n,s,l'⟩:=l[i];rw [qzL];rfl)
def noH:Nat->Option qb:=λ_=>none
theorem qew (g:List qb):Cov noH g:=λi x h=>by cases h
section
variable {h:List qb}
theorem qnO (op n:Int) (nm sb:Str) (aS:List Exl) (N:Nms) (B:List Val) (U:List (List Val)) (en ed:Int) (M:List Val) (hl:B.length = N.vars.length) (hs:B.length <= 50) (G:List qb) (hG:G = h ++ [.cells [.int .i64 op,.int .i64 n,.str nm,.str sb,.lst (aS.map exV) .no,.lst (N.vars.map nvV) .no,.lst (N.ports.map npV) .no,.bool N.bagq,.lst (N.oth.map nvV) .no,.lst (B.map qbX) .no,qbh U,.int .i64 en,.int .i64 ed,.lst (M.map qbX) .no]]) :
  ∀k st,(∃(tt:List qa) (i:Nat),st = ⟨tt,G,false⟩/\tt.length = 231/\lkp tt 1 = .ptr h.length 0/\lkp tt 3 = .int .i64 (i:Nat)/\i + k = B.length/\(∀j (hj:j < B.length) (E:j < N.vars.length),j < i->tyB 3 N.vars[j].2.2 = true/\qd6 B[j] N.vars[j].2.2 = true))->
   ∃x J,qm h.length Wd (.loop qv4) st = some (x,J)/\(∃(tt:List qa),J = ⟨tt,G,false⟩/\tt.length = 231/\lkp tt 1 = .ptr h.length 0/\((x = .exit 0/\(∀j (hj:j < B.length) (E:j < N.vars.length),tyB 3 N.vars[j].2.2 = true/\qd6 B[j] N.vars[j].2.2 = true))\/(x = .ret/\lkp tt 2 = .bool false))):=by
 refine qy _ _ ?_
 rintro k st ⟨tt,i,rfl,ht,e1,ei,aa,S⟩
 generalize he:qm h.length Wd qv4 _ = r
 have b0:G[h.length]? = some (.cells [.int .i64 op,.int .i64 n,.str nm,.str sb,.lst (aS.map exV) .no,.lst (N.vars.map nvV) .no,.lst (N.ports.map npV) .no,.bool N.bagq,.lst (N.oth.map nvV) .no,.lst (B.map qbX) .no,qbh U,.int .i64 en,.int .i64 ed,.lst (M.map qbX) .no]):=by rw [hG,qF];rfl
 have l0:h.length < G.length:=by rw [hG];simp
 rcases Nat.lt_or_ge i B.length with hi | hi
 ·have I:ilt (i:Int) (B.length:Int) = true:=by rw [qf];simp;omega
  have w:=qaH (n:=i) zo
  have a6:i < N.vars.length:=zo
  have x1:=qkm a6
  have x2:=qAX hi
  have t1:=qzK 3 zo (H:=noH) N.vars[i].2.2 _ G (Ta.arg _) (qew _)
  have t2:=qlw (H:=noH) B[i] N.vars[i].2.2 _ _ G (At.arg _) (Ta.arg _) (qew _)
  have a7:((3:Nat):Int) = 3:=xk
  rw [a7] at t1
  have next:tyB 3 N.vars[i].2.2 = true->qd6 B[i] N.vars[i].2.2 = true->(∀j (hj:j < B.length) (E:j < N.vars.length),j < i + 1->tyB 3 N.vars[j].2.2 = true/\qd6 B[j] N.vars[j].2.2 = true):=λh1 h2 j hj E a8=>by
   by_cases a1:j = i
   ·subst a1;exact ⟨h1,h2⟩
   ·exact S j hj E zo
  generalize B[i] = v at *
  generalize N.vars[i] = q at *
  obtain ⟨qp,qn,qk,ql⟩:=q
  obtain ⟨vk,vn,vz,vl⟩:=v
  simp only [qaf,qc3] at x1 x2 t1 t2 next
  cases q1:tyB 3 (.mk qk ql) with
  | false=>
   rw [q1] at t1
   simp only [sA.1,qv4,seval,ht,e1,ei,I,b0,l0,x1,x2,t1] at he
   subst he
   exact .inr ⟨_,_,rfl,by simp,_,rfl,Y0,w5,.inr ⟨rfl,w6⟩⟩
  | true=>
   rw [q1] at t1
   cases q2:qd6 (.mk vk vn vz vl) (.mk qk ql) with
   | false=>
    rw [q2] at t2
    simp only [sA.1,qv4,seval,ht,e1,ei,I,b0,l0,x1,x2,t1,t2] at he
    subst he
    exact .inr ⟨_,_,rfl,by simp,_,rfl,Y0,w5,.inr ⟨rfl,w6⟩⟩
   | true=>
    rw [q2] at t2
    simp only [sA.1,qv4,seval,ht,e1,ei,I,b0,l0,x1,x2,t1,t2,w] at he
    subst he
    refine .inl ⟨_,k - 1,rfl,zo,_,i + 1,rfl,Y0,w5,w6,zo,next q1 q2⟩
 ·have I:ilt (i:Int) (B.length:Int) = false:=by rw [qf];simp;omega
  simp only [sA.1,qv4,seval,ht,e1,ei,I,b0,l0] at he
  subst he
  exact .inr ⟨_,_,rfl,by simp,_,rfl,Y0,w5,.inl ⟨rfl,λj hj E=>S j hj E zo⟩⟩
theorem qr3 (op n:Int) (nm sb:Str) (aS:List Exl) (N:Nms) (J:List Val) (U:List (List Val)) (en ed:Int) (B:List Val) (hl:B.length = N.oth.length) (hs:B.length <= 50) (G:List qb) (hG:G = h ++ [.cells [.int .i64 op,.int .i64 n,.str nm,.str sb,.lst (aS.map exV) .no,.lst (N.vars.map nvV) .no,.lst (N.ports.map npV) .no,.bool N.bagq,.lst (N.oth.map nvV) .no,.lst (J.map qbX) .no,qbh U,.int .i64 en,.int .i64 ed,.lst (B.map qbX) .no]]) :
  ∀k st,(∃(tt:List qa) (i:Nat),st = ⟨tt,G,false⟩/\tt.length = 231/\lkp tt 1 = .ptr h.length 0/\lkp tt 4 = .int .i64 (i:Nat)/\i + k = B.length/\(∀j (hj:j < B.length) (E:j < N.oth.length),j < i->tyB 3 N.oth[j].2.2 = true/\qd6 B[j] N.oth[j].2.2 = true))->
   ∃x M,qm h.length Wd (.loop qv5) st = some (x,M)/\(∃(tt:List qa),M = ⟨tt,G,false⟩/\tt.length = 231/\lkp tt 1 = .ptr h.length 0/\((x = .exit 2/\(∀j (hj:j < B.length) (E:j < N.oth.length),tyB 3 N.oth[j].2.2 = true/\qd6 B[j] N.oth[j].2.2 = true))\/(x = .ret/\lkp tt 2 = .bool false))):=by
 refine qy _ _ ?_
 rintro k st ⟨tt,i,rfl,ht,e1,ei,aa,S⟩
 generalize he:qm h.length Wd qv5 _ = r
 have b0:G[h.length]? = some (.cells [.int .i64 op,.int .i64 n,.str nm,.str sb,.lst (aS.map exV) .no,.lst (N.vars.map nvV) .no,.lst (N.ports.map npV) .no,.bool N.bagq,.lst (N.oth.map nvV) .no,.lst (J.map qbX) .no,qbh U,.int .i64 en,.int .i64 ed,.lst (B.map qbX) .no]):=by rw [hG,qF];rfl
 have l0:h.length < G.length:=by rw [hG];simp
 rcases Nat.lt_or_ge i B.length with hi | hi
 ·have I:ilt (i:Int) (B.length:Int) = true:=by rw [qf];simp;omega
  have w:=qaH (n:=i) zo
  have a6:i < N.oth.length:=zo
  have x1:=qkm a6
  have x2:=qAX hi
  have t1:=qzK 3 zo (H:=noH) N.oth[i].2.2 _ G (Ta.arg _) (qew _)
  have t2:=qlw (H:=noH) B[i] N.oth[i].2.2 _ _ G (At.arg _) (Ta.arg _) (qew _)
  have a7:((3:Nat):Int) = 3:=xk
  rw [a7] at t1
  have next:tyB 3 N.oth[i].2.2 = true->qd6 B[i] N.oth[i].2.2 = true->(∀j (hj:j < B.length) (E:j < N.oth.length),j < i + 1->tyB 3 N.oth[j].2.2 = true/\qd6 B[j] N.oth[j].2.2 = true):=λh1 h2 j hj E a8=>by
   by_cases a1:j = i
   ·subst a1;exact ⟨h1,h2⟩
   ·exact S j hj E zo
  generalize B[i] = v at *
  generalize N.oth[i] = q at *
  obtain ⟨qp,qn,qk,ql⟩:=q
  obtain ⟨vk,vn,vz,vl⟩:=v
  simp only [qaf,qc3] at x1 x2 t1 t2 next
  cases q1:tyB 3 (.mk qk ql) with
  | false=>
   rw [q1] at t1
   simp only [sA.1,qv5,seval,ht,e1,ei,I,b0,l0,x1,x2,t1] at he
   subst he
   exact .inr ⟨_,_,rfl,by simp,_,rfl,Y0,w5,.inr ⟨rfl,w6⟩⟩
  | true=>
   rw [q1] at t1
   cases q2:qd6 (.mk vk vn vz vl) (.mk qk ql) with
   | false=>
    rw [q2] at t2
    simp only [sA.1,qv5,seval,ht,e1,ei,I,b0,l0,x1,x2,t1,t2] at he
    subst he
    exact .inr ⟨_,_,rfl,by simp,_,rfl,Y0,w5,.inr ⟨rfl,w6⟩⟩
   | true=>
    rw [q2] at t2
    simp only [sA.1,qv5,seval,ht,e1,ei,I,b0,l0,x1,x2,t1,t2,w] at he
    subst he
    refine .inl ⟨_,k - 1,rfl,zo,_,i + 1,rfl,Y0,w5,w6,zo,next q1 q2⟩
 ·have I:ilt (i:Int) (B.length:Int) = false:=by rw [qf];simp;omega
  simp only [sA.1,qv5,seval,ht,e1,ei,I,b0,l0] at he
  subst he
  exact .inr ⟨_,_,rfl,by simp,_,rfl,Y0,w5,.inl ⟨rfl,λj hj E=>S j hj E zo⟩⟩
theorem qvi (op n:Int) (nm sb:Str) (aS:List Exl) (N:Nms) (S:List Val) (B:List (List Val)) (en ed:Int) (a1:List Val) (G:List qb) (hG:G = h ++ [.cells [.int .i64 op,.int .i64 n,.str nm,.str sb,.lst (aS.map exV) .no,.lst (N.vars.map nvV) .no,.lst (N.ports.map npV) .no,.bool N.bagq,.lst (N.oth.map nvV) .no,.lst (S.map qbX) .no,qbh B,.int .i64 en,.int .i64 ed,.lst (a1.map qbX) .no]]) (a:Nat) (ha:a < B.length) (a8:a < N.ports.length) (aa:B[a].length <= 100) :
  ∀k st,(∃(tt:List qa) (i:Nat),st = ⟨tt,G,false⟩/\tt.length = 231/\lkp tt 1 = .ptr h.length 0/\lkp tt 5 = .int .i64 (a:Nat)/\lkp tt 6 = .int .i64 (i:Nat)/\i + k = B[a].length/\∀v ∈ B[a].take i,qd6 v N.ports[a].2 = true)->
   ∃x U,qm h.length Wd (.loop quC) st = some (x,U)/\(∃(tt:List qa),U = ⟨tt,G,false⟩/\tt.length = 231/\lkp tt 1 = .ptr h.length 0/\lkp tt 5 = .int .i64 (a:Nat)/\((x = .exit 6/\∀v ∈ B[a],qd6 v N.ports[a].2 = true)\/(x = .ret/\lkp tt 2 = .bool false))):=by
 refine qy _ _ ?_
 rintro k st ⟨tt,i,rfl,ht,e1,e5,e6,ab,I⟩
 generalize he:qm h.length Wd quC _ = r
 have b0:G[h.length]? = some (.cells [.int .i64 op,.int .i64 n,.str nm,.str sb,.lst (aS.map exV) .no,.lst (N.vars.map nvV) .no,.lst (N.ports.map npV) .no,.bool N.bagq,.lst (N.oth.map nvV) .no,.lst (S.map qbX) .no,qbh B,.int .i64 en,.int .i64 ed,.lst (a1.map qbX) .no]):=by rw [hG,qF];rfl
 have l0:h.length < G.length:=by rw [hG];simp
 have x0:=qjT ha
 have bd:(qbh B).dim = qbh B:=rfl
 have bw:∀i t,qo (qbh B) i t = t:=λi t=>by rw [qbh];rfl
 rcases Nat.lt_or_ge i B[a].length with hi | hi
 ·have E:ilt (i:Int) (B[a].length:Int) = true:=by rw [qf];simp;omega
  have w:=qaH (n:=i) zo
  have x1:=qx9 a8
  have x2:=qAX hi
  have t2:=qlw (H:=noH) B[a][i] N.ports[a].2 _ _ G (At.arg _) (Ta.arg _) (qew _)
  have next:qd6 B[a][i] N.ports[a].2 = true->∀v ∈ B[a].take (i + 1),qd6 v N.ports[a].2 = true:=λh2 v hv=>by
   rw [List.take_succ_eq_append_getElem hi] at hv
   rcases List.mem_append.1 hv with hv | hv
   ·exact I v hv
   ·rw [List.mem_singleton.1 hv];exact h2
  have prev:0 < i->∃u,∃hu:i - 1 < B[a].length,B[a][i - 1] = u/\qd6 u N.ports[a].2 = true:=λh0=>⟨_,zo,rfl,I _ (by
   rw [List.mem_take_iff_getElem]
   exact ⟨i - 1,zo,rfl⟩)⟩
  generalize hv:B[a][i] = v at *
  generalize N.ports[a] = q at *
  obtain ⟨qn,qk,ql⟩:=q
  obtain ⟨vk,vn,vz,vl⟩:=v
  simp only [qaf,qc3] at x1 x2 t2 next prev
  cases q2:qd6 (.mk vk vn vz vl) (.mk qk ql) with
  | false=>
   rw [q2] at t2
   simp only [sA.1,quC,seval,ht,e1,e5,e6,E,b0,l0,bd,bw,x0,x1,x2,t2] at he
   subst he
   exact .inr ⟨_,_,rfl,by simp,_,rfl,Y0,w5,x10,.inr ⟨rfl,w6⟩⟩
  | true=>
   rw [q2] at t2
   cases i with
   | zero=>
    have M:ilt 0 ((0:Nat):Int) = false:=xk
    simp only [sA.1,quC,seval,-Int.reduceNatCast',ht,e1,e5,e6,E,b0,l0,bd,bw,x0,x1,x2,t2,M,w] at he
    subst he
    refine .inl ⟨_,k - 1,rfl,zo,_,0 + 1,rfl,Y0,w5,x10,w6,zo,next q2⟩
   | succ i=>
    have M:ilt 0 ((i + 1:Nat):Int) = true:=by rw [qf];simp
    have w1:IntKind.i64.wrap (((i + 1:Nat):Int) - 1) = (i:Nat):=by rw [IntKind.wrap_i64];omega
    obtain ⟨u,hu,a6,a7⟩:=prev zo
    simp only [Nat.add_sub_cancel] at hu a6
    have x3:=qAX hu
    rw [a6] at x3
    have J:=qrZ 3 (H:=noH) (qh1 a7).1 (.mk vk vn vz vl) _ _ G ⟨3,(qh1 q2).1⟩ (At.arg _) (At.arg _) (qew _)
    generalize qgo u (.mk vk vn vz vl) = cc at J
    obtain ⟨uk,un,uz,ul⟩:=u
    simp only [qc3] at x3 J
    cases q3:ilt 0 cc with
    | true=>
     simp only [sA.1,quC,seval,ht,e1,e5,e6,E,b0,l0,bd,bw,x0,x1,x2,x3,t2,M,w1,J,q3] at he
     subst he
     exact .inr ⟨_,_,rfl,by simp,_,rfl,Y0,w5,x10,.inr ⟨rfl,w6⟩⟩
    | false=>
     simp only [sA.1,quC,seval,ht,e1,e5,e6,E,b0,l0,bd,bw,x0,x1,x2,x3,t2,M,w1,J,q3,w] at he
     subst he
     refine .inl ⟨_,k - 1,rfl,zo,_,i + 1 + 1,rfl,Y0,w5,x10,w6,zo,next q2⟩
 ·have E:ilt (i:Int) (B[a].length:Int) = false:=by rw [qf];simp;omega
  rw [List.take_of_length_le hi] at I
  simp only [sA.1,quC,seval,ht,e1,e5,e6,E,b0,l0,bd,bw,x0] at he
  subst he
  exact .inr ⟨_,_,rfl,by simp,_,rfl,Y0,w5,x10,.inl ⟨rfl,I⟩⟩
theorem qr2 (op n:Int) (nm sb:Str) (aS:List Exl) (N:Nms) (S:List Val) (B:List (List Val)) (en ed:Int) (a1:List Val) (hl:B.length = N.ports.length) (hs:B.length <= 50) (G:List qb) (hG:G = h ++ [.cells [.int .i64 op,.int .i64 n,.str nm,.str sb,.lst (aS.map exV) .no,.lst (N.vars.map nvV) .no,.lst (N.ports.map npV) .no,.bool N.bagq,.lst (N.oth.map nvV) .no,.lst (S.map qbX) .no,qbh B,.int .i64 en,.int .i64 ed,.lst (a1.map qbX) .no]]) :
  ∀k st,(∃(tt:List qa) (i:Nat),st = ⟨tt,G,false⟩/\tt.length = 231/\lkp tt 1 = .ptr h.length 0/\lkp tt 5 = .int .i64 (i:Nat)/\i + k = B.length/\(∀j (hj:j < B.length) (I:j < N.ports.length),j < i->B[j].length <= 100/\tyB 3 N.ports[j].2 = true/\∀v ∈ B[j],qd6 v N.ports[j].2 = true))->
   ∃x U,qm h.length Wd (.loop qv6) st = some (x,U)/\(∃(tt:List qa),U = ⟨tt,G,false⟩/\tt.length = 231/\lkp tt 1 = .ptr h.length 0/\((x = .exit 4/\(∀j (hj:j < B.length) (I:j < N.ports.length),B[j].length <= 100/\tyB 3 N.ports[j].2 = true/\∀v ∈ B[j],qd6 v N.ports[j].2 = true))\/(x = .ret/\lkp tt 2 = .bool false))):=by
 refine qy _ _ ?_
 rintro k st ⟨tt,i,rfl,ht,e1,e5,ah,a7⟩
 generalize he:qm h.length Wd qv6 _ = r
 have b0:G[h.length]? = some (.cells [.int .i64 op,.int .i64 n,.str nm,.str sb,.lst (aS.map exV) .no,.lst (N.vars.map nvV) .no,.lst (N.ports.map npV) .no,.bool N.bagq,.lst (N.oth.map nvV) .no,.lst (S.map qbX) .no,qbh B,.int .i64 en,.int .i64 ed,.lst (a1.map qbX) .no]):=by rw [hG,qF];rfl
 have l0:h.length < G.length:=by rw [hG];simp
 have bl:qbG false (qbh B) = some (.int .i64 (B.length:Nat)):=by rw [qbh,qbG];simp
 have bd:(qbh B).dim = qbh B:=rfl
 have bw:∀i t,qo (qbh B) i t = t:=λi t=>by rw [qbh];rfl
 rcases Nat.lt_or_ge i B.length with hi | hi
 ·have M:ilt (i:Int) (B.length:Int) = true:=by rw [qf];simp;omega
  have w:=qaH (n:=i) zo
  have a6:i < N.ports.length:=zo
  have x0:=qjT hi
  have x1:=qx9 a6
  have t1:=qzK 3 zo (H:=noH) N.ports[i].2 _ G (Ta.arg _) (qew _)
  have ac:((3:Nat):Int) = 3:=xk
  rw [ac] at t1
  have aa:=λJ=>qvi (h:=h) op n nm sb aS N S B en ed a1 G hG i hi a6 J B[i].length
  have next:B[i].length <= 100->tyB 3 N.ports[i].2 = true->(∀v ∈ B[i],qd6 v N.ports[i].2 = true)->(∀j (hj:j < B.length) (I:j < N.ports.length),j < i + 1->B[j].length <= 100/\tyB 3 N.ports[j].2 = true/\∀v ∈ B[j],qd6 v N.ports[j].2 = true):=λh0 h1 h2 j hj I af=>by
   by_cases ab:j = i
   ·subst ab;exact ⟨h0,h1,h2⟩
   ·exact a7 j hj I zo
  generalize ai:B[i] = bl0 at *
  generalize ae:N.ports[i] = q at *
  obtain ⟨qn,qk,ql⟩:=q
  simp only [qaf] at x1 t1 next
  cases q0:ilt 100 (bl0.length:Int) with
  | true=>
   simp only [sA.1,qv6,seval,ht,e1,e5,M,b0,l0,bl,bd,bw,x0,x1,q0] at he
   subst he
   exact .inr ⟨_,_,rfl,by simp,_,rfl,Y0,w5,.inr ⟨rfl,w6⟩⟩
  | false=>
   have J:bl0.length <= 100:=by rw [qf] at q0;simp at q0;omega
   cases q1:tyB 3 (.mk qk ql) with
   | false=>
    rw [q1] at t1
    simp only [sA.1,qv6,seval,ht,e1,e5,M,b0,l0,bl,bd,bw,x0,x1,q0,t1] at he
    subst he
    exact .inr ⟨_,_,rfl,by simp,_,rfl,Y0,w5,.inr ⟨rfl,w6⟩⟩
   | true=>
    rw [q1] at t1
    simp only [sA.1,qv6,seval,ht,e1,e5,M,b0,l0,bl,bd,bw,x0,x1,q0,t1] at he
    generalize hr:qm h.length Wd (.loop quC) _ = r2 at he
    obtain ⟨x,U,rfl,ad,rfl,E,f1,f5,⟨rfl,a8⟩ | ⟨rfl,f2⟩⟩:=known hr (aa J _ ⟨_,0,rfl,Y0,w5,x10,by simp only [sA.1,seval,ht,jV],zo,λv hv=>by simp at hv⟩)
    ·simp only [sA.1,seval,E,f5,w] at he
     subst he
     exact .inl ⟨_,k - 1,rfl,zo,_,i + 1,rfl,by simp only [qbf,E],by simp only [sA.1,seval,E,f1],by simp only [sA.1,seval,E],zo,next J q1 a8⟩
    ·simp only [sA.1,seval,E,f2] at he
     subst he
     exact .inr ⟨_,_,rfl,by simp,_,rfl,by simp only [qbf,E],by simp only [sA.1,seval,E,f1],.inr ⟨rfl,by simp only [sA.1,seval,E,f2]⟩⟩
 ·have M:ilt (i:Int) (B.length:Int) = false:=by rw [qf];simp;omega
  simp only [sA.1,qv6,seval,ht,e1,e5,M,b0,l0,bl,bd,bw] at he
  subst he
  exact .inr ⟨_,_,rfl,by simp,_,rfl,Y0,w5,.inl ⟨rfl,λj hj I=>a7 j hj I zo⟩⟩
end
structure qaN (W:Wl):Prop where
 fit:Fit 40 W.e
 siz:sz 40 W.e <= 600
 vl:W.N.vars.length <= 50
 pl:W.N.ports.length <= 50
 ol:W.N.oth.length <= 50
 ve:W.vals.length = W.N.vars.length
 be:W.bag.length = W.N.ports.length
 oe:W.ofv.length = W.N.oth.length
 ed:1 <= W.ed
 en:0 <= W.en
 vs:∀j (hj:j < W.vals.length) (hj':j < W.N.vars.length),tyB 3 W.N.vars[j].2.2 = true/\qd6 W.vals[j] W.N.vars[j].2.2 = true
 os:∀j (hj:j < W.ofv.length) (hj':j < W.N.oth.length),tyB 3 W.N.oth[j].2.2 = true/\qd6 W.ofv[j] W.N.oth[j].2.2 = true
 bs:∀j (hj:j < W.bag.length) (hj':j < W.N.ports.length),W.bag[j].length <= 100/\tyB 3 W.N.ports[j].2 = true/\∀v ∈ W.bag[j],qd6 v W.N.ports[j].2 = true
 ty:(qfb W.N W.e).2 = 0
theorem qBm {W:Wl} (ve:W.vals.length = W.N.vars.length) (be:W.bag.length = W.N.ports.length) (oe:W.ofv.length = W.N.oth.length) (vl:W.N.vars.length <= 50) (pl:W.N.ports.length <= 50) (ol:W.N.oth.length <= 50)
  (vs:∀j (hj:j < W.vals.length) (B:j < W.N.vars.length),tyB 3 W.N.vars[j].2.2 = true/\qd6 W.vals[j] W.N.vars[j].2.2 = true)
  (os:∀j (hj:j < W.ofv.length) (B:j < W.N.oth.length),tyB 3 W.N.oth[j].2.2 = true/\qd6 W.ofv[j] W.N.oth[j].2.2 = true)
  (bs:∀j (hj:j < W.bag.length) (B:j < W.N.ports.length),W.bag[j].length <= 100/\tyB 3 W.N.ports[j].2 = true/\∀v ∈ W.bag[j],qd6 v W.N.ports[j].2 = true):qlh W.N:=by
 refine ⟨λx hx=>?_,λx hx=>?_,λx hx=>?_,zo,zo,zo⟩
 ·obtain ⟨j,hj,rfl⟩:=List.getElem_of_mem hx
  exact qhb (vs j zo hj).1
 ·obtain ⟨j,hj,rfl⟩:=List.getElem_of_mem hx
  exact qhb (bs j zo hj).2.1
 ·obtain ⟨j,hj,rfl⟩:=List.getElem_of_mem hx
  exact qhb (os j zo hj).1
theorem qhl (op n:Int) (nm sb:Str) (L:List qa):quL 5 [.int .i64 0,.int .i64 0,.str [],.str [],.lst [] .full] 1 [(0,.agg [.int .i64 op,.int .i64 n,.str nm,.str sb,.lst L .no])] = some (.lst [.agg [.int .i64 op,.int .i64 n,.str nm,.str sb,.lst L .no]] .full):=xk
theorem qeh (L:List qa):quL 14 [.str [],.bool false,.lst [] .full,.lst [] .full,.lst [] .full,.lst [] .full,.lst [] .full,.lst [] .full,.lst [] .full,.int .i64 0,.lst [] .full,.lst [] .full,.lst [] .full,.lst [] .full] 1 [(0,.agg [.str [],.bool false,.lst [] .full,.lst [] .full,.lst [] .full,.lst L .full,.lst [] .full,.lst [] .full,.lst [] .full,.int .i64 0,.lst [] .full,.lst [] .full,.lst [] .full,.lst [] .full])] = some (.lst [.agg [.str [],.bool false,.lst [] .full,.lst [] .full,.lst [] .full,.lst L .full,.lst [] .full,.lst [] .full,.lst [] .full,.int .i64 0,.lst [] .full,.lst [] .full,.lst [] .full,.lst [] .full]] .full):=xk
section
variable {h:List qb}
theorem qnN (W:Wl):∃b,Wd (.fn 7 [] []) [wV W] h = some (.ret (.bool b),h,false)/\(b = true->qaN W):=by
 obtain ⟨⟨op,n,nm,sb,aS⟩,N,E,B,en,ed,J⟩:=W
 obtain ⟨r,I,a1⟩:=qvm (.mk op n nm sb aS) (h ++ [.cells [.int .i64 op,.int .i64 n,.str nm,.str sb,.lst (aS.map exV) .no,.lst (N.vars.map nvV) .no,.lst (N.ports.map npV) .no,.bool N.bagq,.lst (N.oth.map nvV) .no,.lst (E.map qbX) .no,qbh B,.int .i64 en,.int .i64 ed,.lst (J.map qbX) .no]])
 have bl:qbG false (qbh B) = some (.int .i64 (B.length:Nat)):=by rw [qbh,qbG];simp
 have bd:(qbh B).dim = qbh B:=rfl
 have bw:∀i t,qo (qbh B) i t = t:=λi t=>by rw [qbh];rfl
 have bs:(qbh B).storable = true:=by rw [qbh];kernel_rfl
 rw [qEA,qI] at I
 generalize hw:Wd _ _ h = w
 rw [wV,qfV] at hw
 rw [qi 7 c7] at hw
 cases y0:(r == 0) with
 | true=>
  simp only [sA.1,c7,seval,qhl,qeh,I,bl,bd,bw,bs,y0] at hw
  subst hw
  exact ⟨false,rfl,λh=>by cases h⟩
 | false=>
 cases y1:(ilt 50 (N.vars.length:Int)) with
 | true=>
  simp only [sA.1,c7,seval,qhl,qeh,I,bl,bd,bw,bs,y0,y1] at hw
  subst hw
  exact ⟨false,rfl,λh=>by cases h⟩
 | false=>
 cases y2:(ilt 50 (N.ports.length:Int)) with
 | true=>
  simp only [sA.1,c7,seval,qhl,qeh,I,bl,bd,bw,bs,y0,y1,y2] at hw
  subst hw
  exact ⟨false,rfl,λh=>by cases h⟩
 | false=>
 cases y3:(ilt 50 (N.oth.length:Int)) with
 | true=>
  simp only [sA.1,c7,seval,qhl,qeh,I,bl,bd,bw,bs,y0,y1,y2,y3] at hw
  subst hw
  exact ⟨false,rfl,λh=>by cases h⟩
 | false=>
 cases y4:((E.length:Int) == (N.vars.length:Int)) with
 | false=>
  simp only [sA.1,c7,seval,qhl,qeh,I,bl,bd,bw,bs,y0,y1,y2,y3,y4] at hw
  subst hw
  exact ⟨false,rfl,λh=>by cases h⟩
 | true=>
 cases y5:((B.length:Int) == (N.ports.length:Int)) with
 | false=>
  simp only [sA.1,c7,seval,qhl,qeh,I,bl,bd,bw,bs,y0,y1,y2,y3,y4,y5] at hw
  subst hw
  exact ⟨false,rfl,λh=>by cases h⟩
 | true=>
 cases y6:((J.length:Int) == (N.oth.length:Int)) with
 | false=>
  simp only [sA.1,c7,seval,qhl,qeh,I,bl,bd,bw,bs,y0,y1,y2,y3,y4,y5,y6] at hw
  subst hw
  exact ⟨false,rfl,λh=>by cases h⟩
 | true=>
 cases y7:(ilt ed 1) with
 | true=>
  simp only [sA.1,c7,seval,qhl,qeh,I,bl,bd,bw,bs,y0,y1,y2,y3,y4,y5,y6,y7] at hw
  subst hw
  exact ⟨false,rfl,λh=>by cases h⟩
 | false=>
 cases y8:(ilt en 0) with
 | true=>
  simp only [sA.1,c7,seval,qhl,qeh,I,bl,bd,bw,bs,y0,y1,y2,y3,y4,y5,y6,y7,y8] at hw
  subst hw
  exact ⟨false,rfl,λh=>by cases h⟩
 | false=>
 have M:Fit 40 (.mk op n nm sb aS)/\sz 40 (.mk op n nm sb aS) <= 600:=by
  rcases a1 with rfl | ⟨_,h1,h2⟩
  ·cases y0
  ·exact ⟨h1,h2⟩
 have d1:N.vars.length <= 50:=by rw [qf] at y1;simp at y1;omega
 have d2:N.ports.length <= 50:=by rw [qf] at y2;simp at y2;omega
 have d3:N.oth.length <= 50:=by rw [qf] at y3;simp at y3;omega
 have d4:E.length = N.vars.length:=by have:=beq_iff_eq.1 y4;omega
 have d5:B.length = N.ports.length:=by have:=beq_iff_eq.1 y5;omega
 have d6:J.length = N.oth.length:=by have:=beq_iff_eq.1 y6;omega
 have d7:1 <= ed:=by rw [qf] at y7;simpa using y7
 have d8:0 <= en:=by rw [qf] at y8;simpa using y8
 simp only [sA.1,c7,seval,qhl,qeh,I,bl,bd,bw,bs,y0,y1,y2,y3,y4,y5,y6,y7,y8] at hw
 generalize hr:qm h.length Wd (.loop qv4) _ = r at hw
 obtain ⟨x,S,rfl,tt,rfl,ht,e1,⟨rfl,hv⟩ | ⟨rfl,e2⟩⟩:=known hr (qnO (h:=h) op n nm sb aS N E B en ed J d4 zo _ rfl E.length _ ⟨_,0,rfl,u3,u3,z13,zo,λj _ _ h=>zo⟩)
 ·simp only [sA.1,seval,ht,e1] at hw
  generalize hr:qm h.length Wd (.loop qv5) _ = r at hw
  obtain ⟨x,S,rfl,tt,rfl,ht,e1,⟨rfl,ho⟩ | ⟨rfl,e2⟩⟩:=known hr (qr3 (h:=h) op n nm sb aS N E B en ed J d6 zo _ rfl J.length _ ⟨_,0,rfl,w6,w5,by simp only [sA.1,seval,ht,jV],zo,λj _ _ h=>zo⟩)
  ·simp only [sA.1,seval,ht,e1] at hw
   generalize hr:qm h.length Wd (.loop qv6) _ = r at hw
   obtain ⟨x,S,rfl,tt,rfl,ht,e1,⟨rfl,hb⟩ | ⟨rfl,e2⟩⟩:=known hr (qr2 (h:=h) op n nm sb aS N E B en ed J d5 zo _ rfl B.length _ ⟨_,0,rfl,w6,w5,by simp only [sA.1,seval,ht,jV],zo,λj _ _ h=>zo⟩)
   ·have hN:qlh N:=qBm (W:=⟨.mk op n nm sb aS,N,E,B,en,ed,J⟩) d4 d5 d6 d1 d2 d3 hv ho hb
    obtain ⟨rs,m,U,a7⟩:=qwv N hN (.mk op n nm sb aS) ⟨40,M.1⟩ (h ++ [.cells [.int .i64 op,.int .i64 n,.str nm,.str sb,.lst (aS.map exV) .no,.lst (N.vars.map nvV) .no,.lst (N.ports.map npV) .no,.bool N.bagq,.lst (N.oth.map nvV) .no,.lst (E.map qbX) .no,qbh B,.int .i64 en,.int .i64 ed,.lst (J.map qbX) .no]])
    obtain ⟨kk,LL,rfl,ld,a6,lw⟩:=a7.two
    rw [qI,qfr] at U
    have hB:Nat.ble h.length (h.length + (m.length + 1)) = true:=qe zo
    have fin:(qfb N (.mk op n nm sb aS)).2 = 0->qaN ⟨.mk op n nm sb aS,N,E,B,en,ed,J⟩:=λhz=>⟨M.1,M.2,d1,d2,d3,d4,d5,d6,d7,d8,hv,ho,hb,hz⟩
    generalize (qfb N (.mk op n nm sb aS)).2 = f at *
    simp only [sA.1,seval,ht,e1,U,ld,a6,lw,hB] at hw
    subst hw
    exact ⟨f == 0,rfl,λhf=>fin (by simpa using hf)⟩
   ·simp only [sA.1,seval,ht,e2] at hw
    subst hw
    exact ⟨false,rfl,λh=>by cases h⟩
  ·simp only [sA.1,seval,ht,e2] at hw
   subst hw
   exact ⟨false,rfl,λh=>by cases h⟩
 ·simp only [sA.1,seval,ht,e2] at hw
  subst hw
  exact ⟨false,rfl,λh=>by cases h⟩
end
end Go.Proofs.YtnibchoenjmmjaaGreatDoor.AE
