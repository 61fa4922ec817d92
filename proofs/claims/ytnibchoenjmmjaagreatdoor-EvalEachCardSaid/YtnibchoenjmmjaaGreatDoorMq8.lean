/- A part of the proof: the abstract executor and what goes through it (part 8). No condition. -/
import Derived.Test.YtnibchoenjmmjaaGreatDoorMq7
import Derived.Test.YtnibchoenjmmjaaGreatDoorMq2
set_option maxRecDepth 100000
set_option maxHeartbeats 0
namespace Go.Proofs.YtnibchoenjmmjaaGreatDoor.AE
open Go.AE
def qdK (a b:Int):Int:=if a < b then -1 else if b < a then 1 else 0
def orI (a b:Int):Int:=if a = 0 then b else a
abbrev qfl:Str→Str→Int:=Lib.compareBytes
mutual
def qhA:Val→Val→Int
 | .mk k n s l,.mk k' n' s' l'=>orI (qdK k k') (orI (qdK n n') (orI (qfl s s') (qep l l')))
def qep:List Val→List Val→Int
 | [],[]=>0
 | [],_ :: _=>-1
 | _ :: _,[]=>1
 | a :: aS,b :: bs=>orI (qhA a b) (qep aS bs)
end
section
variable {g:List qb}
theorem qxs (a:Int):Wd (.fn 128 [] []) [.int .i64 a] g = some (.ret (.bool false),g,false):=by
 rw [qr rfl (show T.get 128 = some qAK by kernel_rfl)]
 simp only [sB.1,qAK,simprocAttr,-Int.reduceNatCast',beq_self_eq_true]
theorem qnx (a b:Int):Wd (.fn 109 [] []) [.int .i64 a,.int .i64 b] g = some (.ret (.int .i64 (qdK a b)),g,false):=by
 have h1:=fun a=>qxs (g:=g) a
 rw [qr rfl (show T.get 109 = some qyv by kernel_rfl)]
 unfold qdK
 by_cases l1:a < b
 ·have c1:ilt a b = true:=by rw [qf];simpa using l1
  simp only [sB.1,qyv,simprocAttr,-Int.reduceNatCast',h1,c1,l1,if_true]
 ·have c1:ilt a b = false:=by rw [qf];simpa using l1
  by_cases l2:b < a
  ·have c2:ilt b a = true:=by rw [qf];simpa using l2
   simp only [sB.1,qyv,simprocAttr,-Int.reduceNatCast',h1,c1,c2,l1,l2,if_true,if_false]
  ·have c2:ilt b a = false:=by rw [qf];simpa using l2
   simp only [sB.1,qyv,simprocAttr,-Int.reduceNatCast',h1,c1,c2,l1,l2,if_false]
theorem qvn (a b:Str):Wd (.fn 140 [] []) [.str a,.str b] g = some (.ret (.int .i64 (qfl a b)),g,false):=by
 rw [show Wd = W T.get X from rfl,qvi qj6 (show X 140 = some qvT from rfl)]
 rfl
theorem qyc (a b:Str):Wd (.fn 110 [] []) [.str a,.str b] g = some (.ret (.int .i64 (qfl a b)),g,false):=by
 have h1:=qvn (g:=g) a b
 have h2:Wd (.fn 129 [] []) [.str a,.str b] g = some (.ret (.int .i64 (qfl a b)),g,false):=by
  rw [qr rfl (show T.get 129 = some qAL by kernel_rfl)]
  simp only [sB.1,qAL,simprocAttr,-Int.reduceNatCast',h1]
 rw [qr rfl (show T.get 110 = some qAF by kernel_rfl)]
 simp only [sB.1,qAF,simprocAttr,-Int.reduceNatCast',h2]
def qcQ:List Int→Int
 | []=>0
 | x :: xs=>orI x (qcQ xs)
theorem qi8 {xs:List Int} {i:Nat} (hi:i < xs.length):qcQ (xs.drop i) = orI xs[i] (qcQ (xs.drop (i + 1))):=by
 rw [List.drop_eq_getElem_cons hi,qcQ]
theorem qC5 (xs:List Int) (hx:xs.length ≤ 100) (h:List qb) (R:Nat) (hr:h[R]? = some (.cells (xs.map (qa.int .i64)))):Wd (.fn 108 [] []) [.sl R 0 xs.length xs.length 0] h = some (.ret (.int .i64 (qcQ xs)),h,false):=by
 have loop:∀k st,(∃(tt:List qa) (i:Nat),st = ⟨tt,h,false⟩∧tt.length = 18∧lkp tt 3 = .int .i64 0∧lkp tt 6 = .sl R 0 xs.length xs.length 0∧lkp tt 7 = .int .i64 (xs.length:Nat)∧lkp tt 8 = .int .i64 (i:Nat)∧i + k = xs.length∧qcQ xs = qcQ (xs.drop i))→
   ∃x st',qm h.length Wd (.loop qfG) st = some (x,st')∧(∃tt:List qa,st' = ⟨tt,h,false⟩∧tt.length = 18∧lkp tt 3 = .int .i64 0∧((x = .exit 0∧qcQ xs = 0)∨(x = .ret∧lkp tt 2 = .int .i64 (qcQ xs)))):=by
  refine qD _ _ ?_
  rintro k st ⟨tt,i,rfl,ht,e3,e6,e7,e8,hik,hf⟩
  generalize he:qm h.length Wd qfG _ = r
  rcases Nat.lt_or_ge i xs.length with hi | hi
  ·have c1:ilt (i:Int) (xs.length:Int) = true:=by rw [qf];simp;omega
   have w:=qab (n:=i) (by omega)
   have hxs:qav 1 (.sl R 0 xs.length xs.length 0) (.int .i64 (i:Nat)) = some (.ptr R i):=by rw [qcf hi,Nat.mul_one]
   have hc:(xs.map (qa.int .i64))[i]? = some (.int .i64 xs[i]):=by rw [List.getElem?_map,List.getElem?_eq_getElem hi];rfl
   rw [qi8 hi] at hf
   cases hz:(xs[i] == 0) with
   | true=>
    have hz':xs[i] = 0:=by simpa using hz
    rw [hz'] at hf hc
    have z0:(((0:Int)) == 0) = true:=by kernel_rfl
    simp only [sB.1,qfG,simprocAttr,-Int.reduceNatCast',ht,e3,e6,e7,e8,c1,w,hxs,hr,hc,z0,qcP,qbZ,Option.map_some] at he
    subst he
    refine .inl ⟨_,k - 1,rfl,by omega,_,i + 1,rfl,by simp only [qc,ht],?_,?_,?_,?_,by omega,?_⟩
    ·simp only [sB.1,simprocAttr,-Int.reduceNatCast',ht,e3]
    ·simp only [sB.1,simprocAttr,-Int.reduceNatCast',ht,e6]
    ·simp only [sB.1,simprocAttr,-Int.reduceNatCast',ht,e7]
    ·simp only [sB.1,simprocAttr,-Int.reduceNatCast',ht]
    ·rw [hf];rfl
   | false=>
    have hz':¬ xs[i] = 0:=by simpa using hz
    have hf':qcQ xs = xs[i]:=by rw [hf,orI,if_neg hz']
    simp only [sB.1,qfG,simprocAttr,-Int.reduceNatCast',ht,e3,e6,e7,e8,c1,w,hxs,hr,hc,hz,qcP,qbZ,Option.map_some] at he
    subst he
    refine .inr ⟨_,_,rfl,by simp,_,rfl,by simp only [qc,ht],?_,.inr ⟨rfl,?_⟩⟩
    ·simp only [sB.1,simprocAttr,-Int.reduceNatCast',ht,e3]
    ·simp only [sB.1,simprocAttr,-Int.reduceNatCast',ht,hf']
  ·have c1:ilt (i:Int) (xs.length:Int) = false:=by rw [qf];simp;omega
   simp only [sB.1,qfG,simprocAttr,-Int.reduceNatCast',ht,e3,e6,e7,e8,c1] at he
   subst he
   refine .inr ⟨_,_,rfl,by simp,_,rfl,by simp only [qc,ht],?_,.inl ⟨rfl,?_⟩⟩
   ·simp only [sB.1,simprocAttr,-Int.reduceNatCast',ht,e3]
   ·rw [hf,List.drop_eq_nil_of_le (by omega)];rfl
 generalize hw:Wd _ _ h = w
 rw [qr rfl (show T.get 108 = some qAE by kernel_rfl)] at hw
 simp only [sB.1,qAE,simprocAttr,-Int.reduceNatCast',qcd,qcP,qbZ] at hw
 generalize hr':qm h.length Wd (.loop qfG) _ = r at hw
 obtain ⟨x,st',rfl,tt,rfl,ht,e3,⟨rfl,hf⟩ | ⟨rfl,e2⟩⟩:=qaB hr' (loop xs.length _ ⟨_,0,rfl,by simp only [sB.1,simprocAttr,-Int.reduceNatCast'],by simp only [sB.1,simprocAttr,-Int.reduceNatCast'],by simp only [sB.1,simprocAttr,-Int.reduceNatCast'],by simp only [sB.1,simprocAttr,-Int.reduceNatCast'],by simp only [sB.1,simprocAttr,-Int.reduceNatCast',Int.natCast_zero],by omega,rfl⟩)
 ·simp only [sB.1,simprocAttr,-Int.reduceNatCast',ht,e3] at hw
  rw [hf]
  exact hw.symm
 ·simp only [sB.1,simprocAttr,-Int.reduceNatCast',ht,e2] at hw
  exact hw.symm
end
def Ord (H:Nat→Option qb) (v:Val):Prop:=∀w cs ds g,(∃d,qE d w = true)→At H v cs→At H w ds→Cov H g→Wd (.fn 81 [] []) [.agg cs,.agg ds] g = some (.ret (.int .i64 (qhA v w)),g,false)
theorem qhx {l l':List Val} {i:Nat} (h1:i < l.length) (h2:i < l'.length):qep (l.drop i) (l'.drop i) = orI (qhA l[i] l'[i]) (qep (l.drop (i + 1)) (l'.drop (i + 1))):=by
 rw [List.drop_eq_getElem_cons h1,List.drop_eq_getElem_cons h2,qep]
theorem qrZ {l l':List Val} {i:Nat} (h:i = min l.length l'.length):qep (l.drop i) (l'.drop i) = qdK l.length l'.length:=by
 unfold qdK
 rcases Nat.lt_trichotomy l.length l'.length with hl | hl | hl
 ·have e:l.drop i = []:=List.drop_eq_nil_of_le (by omega)
  rw [e,List.drop_eq_getElem_cons (show i < l'.length by omega),qep,if_pos (by omega)]
 ·have e:l.drop i = []:=List.drop_eq_nil_of_le (by omega)
  have e':l'.drop i = []:=List.drop_eq_nil_of_le (by omega)
  rw [e,e',qep,if_neg (by omega),if_neg (by omega)]
 ·have e:l'.drop i = []:=List.drop_eq_nil_of_le (by omega)
  rw [e,List.drop_eq_getElem_cons (show i < l.length by omega),qep,if_neg (by omega),if_pos (by omega)]
theorem qqc {H:Nat→Option qb} {l l':List Val} {L L':qa} (hl:l.length ≤ 100) (hL:LP H l L) (hL':LP H l' L') (ho:∀x ∈ l,Ord H x) (hl':l'.length ≤ 100) (hok:∀x ∈ l',∃d,qE d x = true) (h:List qb) (hg:Cov H h) :
  Wd (.fn 111 [] []) [L,L',.fn 81 [] []] h = some (.ret (.int .i64 (qep l l')),h,false):=by
 obtain ⟨d1,s1,w1,n1⟩:=hL.facts
 obtain ⟨d2,s2,w2,n2⟩:=hL'.facts
 have hmin:(if ((l'.length:Nat):Int) < ((l.length:Nat):Int) then ((l'.length:Nat):Int) else ((l.length:Nat):Int)) = ((min l.length l'.length:Nat):Int):=by
  split <;> omega
 have loop:∀k st,(∃(tt:List qa) (i:Nat),st = ⟨tt,h,false⟩∧tt.length = 36∧lkp tt 0 = L∧lkp tt 1 = L'∧lkp tt 2 = .fn 81 [] []∧lkp tt 13 = .int .i64 (min l.length l'.length:Nat)∧lkp tt 14 = .int .i64 (i:Nat)∧i + k = min l.length l'.length∧qep l l' = qep (l.drop i) (l'.drop i))→
   ∃x st',qm h.length Wd (.loop qfH) st = some (x,st')∧(∃tt:List qa,st' = ⟨tt,h,false⟩∧tt.length = 36∧lkp tt 0 = L∧lkp tt 1 = L'∧((x = .exit 0∧qep l l' = qdK l.length l'.length)∨(x = .ret∧lkp tt 6 = .int .i64 (qep l l')))):=by
  refine qD _ _ ?_
  rintro k st ⟨tt,i,rfl,ht,e0,e1,e2,e13,e14,hik,hf⟩
  generalize he:qm h.length Wd qfH _ = r
  rcases Nat.lt_or_ge i (min l.length l'.length) with hi | hi
  ·have hi1:i < l.length:=by omega
   have hi2:i < l'.length:=by omega
   have c1:ilt (i:Int) ((min l.length l'.length:Nat):Int) = true:=by rw [qf];simp;omega
   have w:=qab (n:=i) (by omega)
   obtain ⟨pp,cs,x1,x2,_,x3,x4⟩:=hL.item hi1 hg
   have x5:∀i t,qx pp i t = t:=fun i t=>by rw [←x2];exact qaf _ _ _
   obtain ⟨qq,cs',y1,y2,_,y3,y4⟩:=hL'.item hi2 hg
   have y5:∀i t,qx qq i t = t:=fun i t=>by rw [←y2];exact qaf _ _ _
   have hor:=ho _ (List.getElem_mem hi1) _ _ _ h (hok _ (List.getElem_mem hi2)) x4 y4 hg
   rw [qhx hi1 hi2] at hf
   cases hz:(qhA l[i] l'[i] == 0) with
   | true=>
    have hz':qhA l[i] l'[i] = 0:=by simpa using hz
    rw [hz'] at hf hor
    have z0:(((0:Int)) == 0) = true:=by kernel_rfl
    simp only [sB.1,qfH,simprocAttr,-Int.reduceNatCast',ht,e0,e1,e2,e13,e14,c1,w,d1,d2,w1,w2,x1,x2,x3,x5,y1,y2,y3,y5,hor,z0] at he
    subst he
    refine .inl ⟨_,k - 1,rfl,by omega,_,i + 1,rfl,by simp only [qc,ht],?_,?_,?_,?_,?_,by omega,?_⟩
    ·simp only [sB.1,simprocAttr,-Int.reduceNatCast',ht,e0]
    ·simp only [sB.1,simprocAttr,-Int.reduceNatCast',ht,e1]
    ·simp only [sB.1,simprocAttr,-Int.reduceNatCast',ht,e2]
    ·simp only [sB.1,simprocAttr,-Int.reduceNatCast',ht,e13]
    ·simp only [sB.1,simprocAttr,-Int.reduceNatCast',ht]
    ·rw [hf];rfl
   | false=>
    have hz':¬ qhA l[i] l'[i] = 0:=by simpa using hz
    have hf':qep l l' = qhA l[i] l'[i]:=by rw [hf,orI,if_neg hz']
    simp only [sB.1,qfH,simprocAttr,-Int.reduceNatCast',ht,e0,e1,e2,e13,e14,c1,w,d1,d2,w1,w2,x1,x2,x3,x5,y1,y2,y3,y5,hor,hz] at he
    subst he
    refine .inr ⟨_,_,rfl,by simp,_,rfl,by simp only [qc,ht],?_,?_,.inr ⟨rfl,?_⟩⟩
    ·simp only [sB.1,simprocAttr,-Int.reduceNatCast',ht,e0]
    ·simp only [sB.1,simprocAttr,-Int.reduceNatCast',ht,e1]
    ·simp only [sB.1,simprocAttr,-Int.reduceNatCast',ht,hf']
  ·have c1:ilt (i:Int) ((min l.length l'.length:Nat):Int) = false:=by rw [qf];simp;omega
   simp only [sB.1,qfH,simprocAttr,-Int.reduceNatCast',ht,e13,e14,c1] at he
   subst he
   refine .inr ⟨_,_,rfl,by simp,_,rfl,by simp only [qc,ht],?_,?_,.inl ⟨rfl,?_⟩⟩
   ·simp only [sB.1,simprocAttr,-Int.reduceNatCast',ht,e0]
   ·simp only [sB.1,simprocAttr,-Int.reduceNatCast',ht,e1]
   ·rw [hf,qrZ (by omega)]
 have hci:=qnx (g:=h) (l.length:Nat) (l'.length:Nat)
 generalize hw:Wd _ _ h = w
 rw [qr rfl (show T.get 111 = some qAG by kernel_rfl)] at hw
 simp only [sB.1,qAG,simprocAttr,-Int.reduceNatCast',d1,d2,w1,w2,n1,n2,hmin] at hw
 generalize hr':qm h.length Wd (.loop qfH) _ = r at hw
 obtain ⟨x,st',rfl,tt,rfl,ht,e0,e1,⟨rfl,hf⟩ | ⟨rfl,e6⟩⟩:=qaB hr' (loop (min l.length l'.length) _ ⟨_,0,rfl,by simp only [sB.1,simprocAttr,-Int.reduceNatCast'],by simp only [sB.1,simprocAttr,-Int.reduceNatCast'],by simp only [sB.1,simprocAttr,-Int.reduceNatCast'],by simp only [sB.1,simprocAttr,-Int.reduceNatCast'],by simp only [sB.1,simprocAttr,-Int.reduceNatCast'],by simp only [sB.1,simprocAttr,-Int.reduceNatCast',Int.natCast_zero],by omega,rfl⟩)
 ·simp only [sB.1,simprocAttr,-Int.reduceNatCast',ht,e0,e1,d1,d2,n1,n2,hci] at hw
  rw [hf]
  exact hw.symm
 ·simp only [sB.1,simprocAttr,-Int.reduceNatCast',ht,e6] at hw
  exact hw.symm
theorem qCT (base:Nat) (a b c d:Int) (h:List qb):hop base (.lit 1 [.int .i64 0] 4 [0,1,2,3]) [.int .i64 a,.int .i64 b,.int .i64 c,.int .i64 d] h = some (.sl h.length 0 4 4 0,h ++ [.cells [.int .i64 a,.int .i64 b,.int .i64 c,.int .i64 d]],false):=by kernel_rfl
theorem qC4 (x:Int):orI x 0 = x:=by
 unfold orI
 split <;> omega
theorem or4 (a b c d:Int) (h:List qb) (R:Nat) (hr:h[R]? = some (.cells [.int .i64 a,.int .i64 b,.int .i64 c,.int .i64 d])):Wd (.fn 108 [] []) [.sl R 0 4 4 0] h = some (.ret (.int .i64 (orI a (orI b (orI c d)))),h,false):=by
 have:=qC5 [a,b,c,d] (by simp) h R hr
 simpa [qcQ,qC4] using this
theorem qhb {H:Nat→Option qb} {k n:Int} {s:Str} {l:List Val} (hl:l.length ≤ 4) (ho:∀x ∈ l,Ord H x):Ord H (.mk k n s l):=by
 rintro ⟨k',n',s',l'⟩ cs ds g ⟨d,hok⟩ hv hv' hg
 obtain ⟨hl',hit⟩:=qeZ hok
 obtain ⟨L,rfl,hL⟩:=hv.lp
 obtain ⟨L',rfl,hL'⟩:=hv'.lp
 obtain ⟨d1,s1,w1,n1⟩:=hL.facts
 obtain ⟨d2,s2,w2,n2⟩:=hL'.facts
 have hol:=qqc (by omega) hL hL' ho (by omega) hit (g ++ [.cells [.int .i64 k,.int .i64 n,.str s,L],.cells [.int .i64 k',.int .i64 n',.str s',L']]) (hg.more _)
 have h1:=fun (g:List qb) a b=>qnx (g:=g) a b
 have h2:=fun (g:List qb) a b=>qyc (g:=g) a b
 have h4:=or4 (qdK k k') (qdK n n') (qfl s s') (qep l l') (g ++ [.cells [.int .i64 k,.int .i64 n,.str s,L],.cells [.int .i64 k',.int .i64 n',.str s',L'],.cells [.int .i64 (qdK k k'),.int .i64 (qdK n n'),.int .i64 (qfl s s'),.int .i64 (qep l l')]]) (g.length + 2) (by rw [qaL];rfl)
 generalize hw:Wd _ _ g = w
 rw [qr rfl (show T.get 81 = some c81 by kernel_rfl)] at hw
 simp only [sA.1,c81,simprocAttr,-Int.reduceNatCast',d1,d2,s1,s2,w1,w2,h1,h2,hol,qCT,h4] at hw
 subst hw
 rw [qhA]
theorem qtM:∀d,∀{H:Nat→Option qb} {v:Val},qE d v = true→Ord H v:=by
 intro d
 induction d with
 | zero=>
  rintro H ⟨k,n,s,l⟩ h0
  have hl:=qaG h0
  subst hl
  exact qhb (by simp) fun x hx=>by cases hx
 | succ d ih=>
  rintro H ⟨k,n,s,l⟩ h0
  rw [qE] at h0
  cases h3:(k == 3) with
  | true=>
   rw [h3,cond_true] at h0
   simp only [Bool.and_eq_true,decide_eq_true_eq,List.all_eq_true] at h0
   exact qhb h0.1.2.2 fun x hx=>ih (h0.2 x hx)
  | false=>
   rw [h3,cond_false] at h0
   have hl:=qaG h0
   subst hl
   exact qhb (by simp) fun x hx=>by cases hx
def qy5 (v w:Val):Int:=bif qE 3 v && qE 3 w then qhA v w else 0
theorem qyG {H:Nat→Option qb} {v w:Val} {cs ds:List qa} (hv:At H v cs) (hw:At H w ds) (g:List qb) (hg:Cov H g):Wd (.fn 56 [] []) [.agg cs,.agg ds] g = some (.ret (.int .i64 (qy5 v w)),g,false):=by
 have r1:=qdQ hv (g ++ [.cells cs,.cells ds]) (hg.more _)
 have r2:=qdQ hw (g ++ [.cells cs,.cells ds]) (hg.more _)
 have r3:=fun (h0:qE 3 v = true) (h1:qE 3 w = true)=>qtM 3 h0 w cs ds (g ++ [.cells cs,.cells ds]) ⟨3,h1⟩ hv hw (hg.more _)
 unfold qy5
 generalize qhA v w = z at *
 generalize qE 3 v = a at *
 generalize qE 3 w = b at *
 obtain ⟨k,n,s,l,L,rfl,rfl,hLd,hLs,hLw,_⟩:=hv.cells
 obtain ⟨k',n',s',l',L',rfl,rfl,hLd',hLs',hLw',_⟩:=hw.cells
 rw [qr rfl (show T.get 56 = some c56 by kernel_rfl)]
 cases a with
 | false=>simp only [sB.1,c56,simprocAttr,-Int.reduceNatCast',hLd,hLs,hLw,hLd',hLs',hLw',r1,cond_false,Bool.false_and]
 | true=>
  cases b with
  | false=>simp only [sB.1,c56,simprocAttr,-Int.reduceNatCast',hLd,hLs,hLw,hLd',hLs',hLw',r1,r2,cond_false,Bool.and_false]
  | true=>
   have r3:=r3 rfl rfl
   simp only [sB.1,c56,simprocAttr,-Int.reduceNatCast',hLd,hLs,hLw,hLd',hLs',hLw',r1,r2,r3,cond_true,Bool.and_true]
end Go.Proofs.YtnibchoenjmmjaaGreatDoor.AE
namespace Go.AE
section
variable {k:Nat}
theorem qjU:∀{vs:List (List qa)} {i:Nat} {x:List qa},(∀v ∈ vs,v.length = k)→i < vs.length→x.length = k→splice vs.flatten (i * k) x = (vs.set i x).flatten:=by
 intro vs
 induction vs with
 | nil=>intro i x _ hi;simp at hi
 | cons v vs ih=>
  intro i x hk hi hx
  have hv:=hk v List.mem_cons_self
  cases i with
  | zero=>
   simp only [splice,Nat.zero_mul,List.take_zero,List.nil_append,Nat.zero_add,List.flatten_cons,List.set_cons_zero]
   rw [List.drop_left' (by rw [hv,hx])]
  | succ i=>
   have:=ih (i:=i) (x:=x) (fun y hy=>hk y (List.mem_cons_of_mem _ hy)) (by simp at hi;omega) hx
   simp only [splice] at this ⊢
   rw [List.set_cons_succ,List.flatten_cons,List.flatten_cons,←this,Nat.succ_mul,Nat.add_comm (i * k) k,←hv,List.take_length_add_append,show v.length + i * v.length + x.length = v.length + (i * v.length + x.length) by omega,List.drop_length_add_append]
   simp only [List.append_assoc]
end
end Go.AE
namespace Go.Proofs.YtnibchoenjmmjaaGreatDoor.AE
open Go.AE
inductive VR (H:Nat→Option qb):Val→List qa→Prop
 | leaf (k n:Int) (s:Str):VR H (.mk k n s []) [.int .i64 k,.int .i64 n,.str s,.lst [] .full]
 | node (k n:Int) (s:Str) (l:List Val) (id:Nat) (ess:List (List qa)):l ≠ []→H id = some (.cells ess.flatten)→ess.length = l.length→(∀(i:Nat) (h:i < l.length) (h':i < ess.length),VR H l[i] ess[i])→
   VR H (.mk k n s l) [.int .i64 k,.int .i64 n,.str s,.sl id 0 l.length l.length 0]
theorem VR.mono {H H':Nat→Option qb} (hle:∀i x,H i = some x→H' i = some x) {v:Val} {cs:List qa} (h:VR H v cs):VR H' v cs:=by
 induction h with
 | leaf k n s=>exact .leaf k n s
 | node k n s l id ess h1 h2 h3 _ ih=>exact .node k n s l id ess h1 (hle _ _ h2) h3 ih
theorem VR.cells {H:Nat→Option qb} {v:Val} {cs:List qa} (h:VR H v cs):∃k n s l L,v = .mk k n s l∧cs = [.int .i64 k,.int .i64 n,.str s,L]∧L.dim = L∧L.storable = true∧(∀i t,qx L i t = t)∧qbb false L = some (.int .i64 l.length):=by
 cases h with
 | leaf k n s=>exact ⟨k,n,s,[],_,rfl,rfl,rfl,rfl,fun _ _=>rfl,rfl⟩
 | node k n s l id ess=>exact ⟨k,n,s,l,_,rfl,rfl,rfl,rfl,fun _ _=>rfl,rfl⟩
theorem VR.length {H:Nat→Option qb} {v:Val} {cs:List qa} (h:VR H v cs):cs.length = 4:=by
 obtain ⟨k,n,s,l,L,rfl,rfl,_⟩:=h.cells
 rfl
theorem VR.dims {H:Nat→Option qb} {v:Val} {cs:List qa} (h:VR H v cs):∀c ∈ cs,c.dim = c:=by
 obtain ⟨k,n,s,l,L,rfl,rfl,hd,_⟩:=h.cells
 intro c hc
 simp only [List.mem_cons,List.not_mem_nil,or_false] at hc
 rcases hc with rfl | rfl | rfl | rfl <;> first | rfl | exact hd
theorem VR.stor {H:Nat→Option qb} {v:Val} {cs:List qa} (h:VR H v cs):cs.all qa.storable = true:=by
 obtain ⟨k,n,s,l,L,rfl,rfl,hd,hs,_⟩:=h.cells
 simp only [List.all_cons,List.all_nil,hs,qkQ,qkR,Bool.and_true]
theorem VR.elems {H:Nat→Option qb} {l:List Val} {ess:List (List qa)} (hl:ess.length = l.length) (hv:∀(i:Nat) (h:i < l.length) (h':i < ess.length),VR H l[i] ess[i]):(∀e ∈ ess,e.length = 4)∧∀(i:Nat) (h':i < ess.length),cut ess.flatten (i * 4) (some 4) = some (.agg ess[i]):=by
 have h1:∀e ∈ ess,e.length = 4:=fun e he=>by
  obtain ⟨i,hi,rfl⟩:=List.getElem_of_mem he
  exact (hv i (by omega) hi).length
 exact ⟨h1,fun i h'=>qc3 h1 h' (hv i (by omega) h').dims⟩
theorem VR.at {H:Nat→Option qb} {v:Val} {cs:List qa} (h:VR H v cs):At H v cs:=by
 induction h with
 | leaf k n s=>exact .lst k n s [] [] .full (.inr rfl) rfl fun i h=>by simp at h
 | node k n s l id ess h1 h2 h3 _ ih=>exact .sl k n s l ess id 0 h2 h3 ih
theorem qez (n:Nat) (v:qa) (H:List qb):qat n (.ret v) H false = bif v.lower n then (.ret v,H.take n,false) else (.ret v,H,false):=qw4 n v H
theorem qcN {a b:Nat} (h:b ≤ a):Nat.blt a b = false:=Bool.eq_false_iff.2 fun e=>by
 have:a + 1 ≤ b:=Nat.le_of_ble_eq_true e
 omega
def qbV (n:Nat) (h:List qb):Nat→Option qb:=fun i=>if n ≤ i then h[i]? else none
theorem qY {n i:Nat} {h:List qb} (hi:n ≤ i):qbV n h i = h[i]?:=if_pos hi
theorem qaq {n i:Nat} {h:List qb} (hi:¬ n ≤ i):qbV n h i = none:=if_neg hi
theorem qgX {h X:List qb} {a:qb} {i:Nat} (hi:h.length + 1 ≤ i):(h ++ a :: X)[i]? = X[i - (h.length + 1)]?:=by
 rw [List.getElem?_append_right (by omega),show i - h.length = (i - (h.length + 1)) + 1 by omega,List.getElem?_cons_succ]
theorem qih {h X Y:List qb} {a b:qb} {i:Nat} {x:qb} (hx:qbV (h.length + 1) (h ++ a :: X) i = some x):qbV (h.length + 1) (h ++ b :: (X ++ Y)) i = some x:=by
 by_cases hi:h.length + 1 ≤ i
 ·rw [qY hi,qgX hi] at hx ⊢
  have:=(List.getElem?_eq_some_iff.1 hx).1
  rw [List.getElem?_append_left this,hx]
 ·rw [qaq hi] at hx
  cases hx
theorem qqe {h X Y:List qb} {a b:qb} {n i:Nat} {x:qb} (hn:h.length + 1 ≤ n) (hx:qbV n (h ++ a :: (X ++ Y)) i = some x):qbV (h.length + 1) (h ++ b :: (X ++ Y)) i = some x:=by
 by_cases hi:n ≤ i
 ·rw [qY hi,qgX (by omega)] at hx
  rw [qY (by omega),qgX (by omega),hx]
 ·rw [qaq hi] at hx
  cases hx
def qen:List qa:=[.int .i64 0,.int .i64 0,.str [],.lst [] .full]
def quA (H:Nat→Option qb) (v:Val):Prop:=∀vs h,At H v vs→Cov H h→∃cs m,Wd (.fn 27 [] []) [.agg vs] h = some (.ret (.agg cs),h ++ m,false)∧VR (qbV h.length (h ++ m)) v cs
theorem mk4 {base n:Nat} {h:List qb} (hn:n ≤ 4):hop base (.mk 4 [.int .i64 0,.int .i64 0,.str [],.lst [] .full]) [.int .i64 (n:Nat),.int .i64 (n:Nat)] h = some (.sl h.length 0 n n 0,h ++ [.cells (List.replicate n qen).flatten],false):=by
 simp only [hop]
 rw [if_pos ⟨by omega,by omega,by omega,rfl⟩,Int.toNat_natCast]
 have e:((List.replicate n [qa.int .i64 0,.int .i64 0,.str [],.lst [] .full]).flatten).map qa.dim = (List.replicate n qen).flatten:=qdd fun c hc=>by
  obtain ⟨v,hv,hcv⟩:=List.mem_flatten.1 hc
  rw [List.eq_of_mem_replicate hv] at hcv
  simp only [List.mem_cons,List.not_mem_nil,or_false] at hcv
  rcases hcv with rfl | rfl | rfl | rfl <;> rfl
 rw [e]
theorem qry {n:Nat}:∀v ∈ List.replicate n qen,v.length = 4:=fun v hv=>by
 rw [List.eq_of_mem_replicate hv]
 rfl
theorem qwh {H:Nat→Option qb} {l:List Val} {Z:qa} (hZ:LP H l Z) (hl:l.length ≤ 4) (hne:l ≠ []) (hc:∀x ∈ l,quA H x) (h:List qb) (hg:Cov H h):∃(m:List qb) (ess:List (List qa)),Wd (.fn 58 [] []) [Z,.fn 27 [] []] h = some (.ret (.sl h.length 0 l.length l.length 0),h ++ .cells ess.flatten :: m,false)∧
  ess.length = l.length∧∀(i:Nat) (h1:i < l.length) (h2:i < ess.length),VR (qbV (h.length + 1) (h ++ .cells ess.flatten :: m)) l[i] ess[i]:=by
 obtain ⟨hZd,hZs,hZw,hZl⟩:=hZ.facts
 have loop:∀k st,(∃(tt:List qa) (i:Nat) (es:List (List qa)) (junk:List qb),st = ⟨tt,h ++ .cells (es ++ List.replicate k qen).flatten :: junk,false⟩∧tt.length = 29∧lkp tt 1 = .fn 27 [] []∧lkp tt 5 = .sl h.length 0 l.length l.length 0∧lkp tt 14 = Z∧lkp tt 15 = .int .i64 (l.length:Nat)∧lkp tt 16 = .int .i64 (i:Nat)∧i + k = l.length∧es.length = i∧(∀e ∈ es,e.length = 4)∧
    ∀(j:Nat) (h1:j < l.length) (h2:j < es.length),VR (qbV (h.length + 1) (h ++ .dead :: junk)) l[j] es[j])→
   ∃x st',qm h.length Wd (.loop ql2) st = some (x,st')∧(x = .exit 0∧∃(tt:List qa) (es:List (List qa)) (junk:List qb),st' = ⟨tt,h ++ .cells es.flatten :: junk,false⟩∧tt.length = 29∧lkp tt 5 = .sl h.length 0 l.length l.length 0∧es.length = l.length∧
    ∀(j:Nat) (h1:j < l.length) (h2:j < es.length),VR (qbV (h.length + 1) (h ++ .dead :: junk)) l[j] es[j]):=by
  refine qD _ (fun x st'=>x = .exit 0∧∃(tt:List qa) (es:List (List qa)) (junk:List qb),st' = ⟨tt,h ++ .cells es.flatten :: junk,false⟩∧tt.length = 29∧lkp tt 5 = .sl h.length 0 l.length l.length 0∧es.length = l.length∧
    ∀(j:Nat) (h1:j < l.length) (h2:j < es.length),VR (qbV (h.length + 1) (h ++ .dead :: junk)) l[j] es[j]) ?_
  rintro k st ⟨tt,i,es,junk,rfl,ht,e1,e5,e14,e15,e16,hik,hel,hes,hvr⟩
  generalize he:qm h.length Wd ql2 _ = r
  rcases Nat.lt_or_ge i l.length with hi | hi
  ·obtain ⟨k',rfl⟩ :∃k',k = k' + 1:=⟨k - 1,by omega⟩
   have c1:ilt (i:Int) (l.length:Int) = true:=by rw [qf];simp;omega
   have w:=qab (n:=i) (by omega)
   obtain ⟨row,hrow⟩ :∃row,row = (es ++ List.replicate (k' + 1) qen).flatten:=⟨_,rfl⟩
   rw [←hrow] at he
   obtain ⟨pp,vs,hx,hpd,hld,_,hvi⟩:=hZ.item hi hg
   have hpw:∀i t,qx pp i t = t:=fun i t=>by rw [←hpd];exact qaf _ _ _
   obtain ⟨cs,m,hcp,hvc⟩:=hc l[i] (List.getElem_mem hi) vs (h ++ (qb.cells row :: junk ++ [.cells vs])) hvi (hg.more _)
   obtain ⟨K',N',S',zs',L',hL',hvs,hLd',hLs',hLw',_⟩:=hvi.cells
   obtain ⟨K,N,S,zs,L,hL,hcs,hLd,hLs,hLw,_⟩:=hvc.cells
   have hk4:∀v ∈ es ++ List.replicate (k' + 1) qen,v.length = 4:=fun v hv=>by
    rcases List.mem_append.1 hv with hv | hv
    ·exact hes v hv
    ·exact qry v hv
   have hin:i < (es ++ List.replicate (k' + 1) qen).length:=by simp;omega
   have hle:i * 4 + 4 ≤ row.length:=by rw [hrow];exact qot hk4 hin
   have hsp:splice row (i * 4) cs = ((es ++ [cs]) ++ List.replicate k' qen).flatten:=by
    rw [hrow,qjU hk4 hin hvc.length,List.set_append_right _ _ (by omega),hel,Nat.sub_self]
    simp [List.replicate_succ]
   have hxs:qav 4 (.sl h.length 0 l.length l.length 0) (.int .i64 (i:Nat)) = some (.ptr h.length (i * 4)):=qcf hi
   subst hvs
   simp only [List.append_assoc,List.cons_append,List.nil_append] at hcp
   rw [hcs] at hcp hsp
   have hlen:∀q:List qb,(h ++ qb.cells row :: q).length = h.length + (q.length + 1):=fun q=>by simp
   have hb1:Nat.ble h.length (h.length + (junk.length + 1)) = true:=qi (by omega)
   have hb2:Nat.ble h.length h.length = true:=qi (Nat.le_refl _)
   simp only [sB.1,ql2,simprocAttr,-Int.reduceNatCast',ht,e1,e5,e14,e15,e16,c1,w,hx,hpd,hpw,hld,hZd,hZw,hLd',hLs',hLw',hxs,hlen,hb1,hb2,hLd,hLs,hLw,hcp,hle,qcP,Bool.true_or] at he
   have hsp2:List.take (i * 4) row ++ qa.int .i64 K :: qa.int .i64 N :: qa.str S :: L :: List.drop (i * 4 + 4) row = ((es ++ [[.int .i64 K,.int .i64 N,.str S,L]]) ++ List.replicate k' qen).flatten:=by
    rw [←hsp]
    simp [splice]
   rw [hsp2] at he
   subst he
   simp only [List.append_assoc,List.cons_append,List.nil_append] at hvc
   have hvr2:∀(j:Nat) (h1:j < l.length) (h2:j < (es ++ [[.int .i64 K,.int .i64 N,.str S,L]]).length),VR (qbV (h.length + 1) (h ++ .dead :: (junk ++ qb.cells [.int .i64 K',.int .i64 N',.str S',L'] :: m))) l[j] (es ++ [[.int .i64 K,.int .i64 N,.str S,L]])[j]:=fun j h1 h2=>by
    by_cases hj:j < es.length
    ·rw [List.getElem_append_left hj]
     exact (hvr j h1 hj).mono fun _ _ hx=>qih hx
    ·have hji:j = i:=by simp at h2;omega
     subst hji
     rw [List.getElem_append_right (by omega)]
     simp only [hel,Nat.sub_self,List.getElem_cons_zero]
     rw [←hcs]
     refine hvc.mono fun _ _ hx=>qqe (n:=(h ++ qb.cells row :: (junk ++ [qb.cells [qa.int .i64 K',.int .i64 N',.str S',L']])).length) (a:=.cells row) (by simp) ?_
     simpa using hx
   refine .inl ⟨_,k',rfl,by omega,_,i + 1,es ++ [[.int .i64 K,.int .i64 N,.str S,L]],junk ++ qb.cells [.int .i64 K',.int .i64 N',.str S',L'] :: m,rfl,by simp only [qc,ht],?_,?_,?_,?_,?_,by omega,by simp [hel],?_,hvr2⟩
   ·simp only [sB.1,simprocAttr,-Int.reduceNatCast',ht,e1]
   ·simp only [sB.1,simprocAttr,-Int.reduceNatCast',ht,e5]
   ·simp only [sB.1,simprocAttr,-Int.reduceNatCast',ht,e14]
   ·simp only [sB.1,simprocAttr,-Int.reduceNatCast',ht,e15]
   ·simp only [sB.1,simprocAttr,-Int.reduceNatCast',ht]
   ·intro e he
    rcases List.mem_append.1 he with he | he
    ·exact hes e he
    ·simp only [List.mem_singleton] at he
     rw [he]
     rfl
  ·have c1:ilt (i:Int) (l.length:Int) = false:=by rw [qf];simp;omega
   have hk0:k = 0:=by omega
   subst hk0
   simp only [sB.1,ql2,simprocAttr,-Int.reduceNatCast',ht,e15,e16,c1] at he
   subst he
   refine .inr ⟨_,_,rfl,by simp,rfl,_,es,junk,rfl,by simp only [qc,ht],?_,by omega,hvr⟩
   simp only [sB.1,simprocAttr,-Int.reduceNatCast',ht,e5]
 have d1:((l.length:Int) == 0) = false:=by
  have:=List.length_pos_iff.2 hne
  simp;omega
 generalize hw:Wd _ _ h = w
 have hmk:=fun b g=>mk4 (base:=b) (h:=g) hl
 rw [qr rfl (show T.get 58 = some c58 by kernel_rfl)] at hw
 simp only [sA.1,c58,simprocAttr,-Int.reduceNatCast',hZd,hZw,hZl,d1,hmk] at hw
 generalize hr:qm h.length Wd (.loop ql2) _ = r at hw
 obtain ⟨x,st',rfl,rfl,tt,es,junk,rfl,ht,e5,hel,hvr⟩:=qaB hr (loop l.length _ ⟨_,0,[],[],rfl,by simp only [sB.1,simprocAttr,-Int.reduceNatCast'],by simp only [sB.1,simprocAttr,-Int.reduceNatCast'],by simp only [sB.1,simprocAttr,-Int.reduceNatCast'],by simp only [sB.1,simprocAttr,-Int.reduceNatCast',hZd,hZw],by simp only [sB.1,simprocAttr,-Int.reduceNatCast',hZl],by simp only [sB.1,simprocAttr,-Int.reduceNatCast',Int.natCast_zero],by omega,rfl,by simp,fun j _ h2=>by simp at h2⟩)
 simp only [sB.1,simprocAttr,-Int.reduceNatCast',ht,e5,qcP,qbZ] at hw
 subst hw
 refine ⟨junk,es,?_,hel,fun i h1 h2=>(hvr i h1 h2).mono fun _ _ hx=>?_⟩
 ·rw [qez]
  simp [qfa,qcN (Nat.le_refl h.length)]
 ·have:=qih (b:=.cells es.flatten) (Y:=[]) hx
  simpa using this
theorem qsl {H:Nat→Option qb} {Z:qa} (hZ:LP H [] Z) (h:List qb) (f:qa):Wd (.fn 58 [] []) [Z,f] h = some (.ret (.lst [] .full),h,false):=by
 obtain ⟨hZd,hZs,hZw,hZl⟩:=hZ.facts
 rw [qr rfl (show T.get 58 = some c58 by kernel_rfl)]
 have z:(((0:Nat):Int) == 0) = true:=by kernel_rfl
 have zl:([]:List Val).length = 0:=rfl
 simp only [sA.1,c58,simprocAttr,-Int.reduceNatCast',hZd,hZw,hZl,zl,z]
theorem qhD {H:Nat→Option qb} {k n:Int} {s:Str} {Z:qa} (hZ:LP H [] Z) (h:List qb):Wd (.fn 27 [] []) [.agg [.int .i64 k,.int .i64 n,.str s,Z]] h = some (.ret (.agg [.int .i64 k,.int .i64 n,.str s,.lst [] .full]),h,false):=by
 obtain ⟨hZd,hZs,hZw,hZl⟩:=hZ.facts
 have he:=fun g f=>qsl hZ g f
 rw [qr rfl (show T.get 27 = some c27 by kernel_rfl)]
 have hb:∀j,Nat.ble h.length (h.length + j) = true:=fun j=>qi (by omega)
 simp only [sB.1,c27,simprocAttr,-Int.reduceNatCast',hZd,hZs,hZw,he,hb,Bool.true_or]
theorem quJ:∀d v,qE d v = true→∀{H:Nat→Option qb},quA H v:=by
 intro d
 induction d with
 | zero=>
  rintro ⟨k,n,s,l⟩ h0 H vs h hv hg
  have hl:=qaG h0
  subst hl
  obtain ⟨Z,rfl,hZ⟩:=hv.lp
  exact ⟨_,[],by rw [qhD hZ,List.append_nil],.leaf k n s⟩
 | succ d ih=>
  rintro ⟨k,n,s,l⟩ h0 H vs h hv hg
  obtain ⟨Z,rfl,hZ⟩:=hv.lp
  rw [qE] at h0
  cases h3:(k == 3) with
  | false=>
   rw [h3,cond_false] at h0
   have hl:=qaG h0
   subst hl
   exact ⟨_,[],by rw [qhD hZ,List.append_nil],.leaf k n s⟩
  | true=>
   rw [h3,cond_true] at h0
   simp only [Bool.and_eq_true,decide_eq_true_eq,List.all_eq_true] at h0
   obtain ⟨⟨_,h1,h4⟩,hall⟩:=h0
   have hne:l ≠ []:=fun e=>by rw [e] at h1;simp at h1
   obtain ⟨hZd,hZs,hZw,hZl⟩:=hZ.facts
   obtain ⟨m,ess,he,hel,hvr⟩:=qwh hZ h4 hne (fun x hx=>ih x (hall x hx)) (h ++ [.cells [.int .i64 k,.int .i64 n,.str s,Z],.cells [.int .i64 0,.int .i64 0,.str [],.lst [] .full]]) (hg.more _)
   generalize hw:Wd _ _ h = w
   rw [qr rfl (show T.get 27 = some c27 by kernel_rfl)] at hw
   have hb:∀j,Nat.ble h.length (h.length + j) = true:=fun j=>qi (by omega)
   have hbl:(h ++ [qb.cells [.int .i64 k,.int .i64 n,.str s,Z],.cells [.int .i64 0,.int .i64 0,.str [],.lst [] .full]]).length = h.length + 2:=by simp
   simp only [hbl,List.append_assoc,List.cons_append,List.nil_append] at he hvr
   simp only [sB.1,c27,simprocAttr,-Int.reduceNatCast',he,hb,hZd,hZs,hZw,qcP,qbZ,qq7,qke,qfa,Bool.true_or] at hw
   subst hw
   refine ⟨[.int .i64 k,.int .i64 n,.str s,.sl (h.length + 2) 0 l.length l.length 0],.cells [.int .i64 k,.int .i64 n,.str s,.sl (h.length + 2) 0 l.length l.length 0] :: .cells [.int .i64 k,.int .i64 n,.str s,.sl (h.length + 2) 0 l.length l.length 0] :: .cells ess.flatten :: m,?_,VR.node _ _ _ l (h.length + 2) ess hne ?_ hel fun i a b=>(hvr i a b).mono fun j x hx=>?_⟩
   ·rw [qez]
    simp only [qh5,qfM,qgs,qh6,qh8,qfa,qcN (show h.length ≤ h.length + 2 by omega),Bool.and_false,Bool.false_and,Bool.and_true,cond_false]
   ·rw [qY (by omega),List.getElem?_append_right (by omega),Nat.add_sub_cancel_left]
    rfl
   ·by_cases hj:h.length + 2 + 1 ≤ j
    ·rw [qY hj,List.getElem?_append_right (by omega),show j - h.length = (j - h.length - 3) + 3 by omega] at hx
     rw [qY (by omega),List.getElem?_append_right (by omega),show j - h.length = (j - h.length - 3) + 3 by omega]
     exact hx
    ·rw [qaq hj] at hx
     cases hx
def tpS:Nat→Tp→Prop
 | 0,.mk _ l=>l = []
 | d + 1,.mk _ l=>l.length ≤ 20∧∀x ∈ l,tpS d x
theorem qut:∀{d:Nat} {t:Tp},tyB d t = true→tpS d t
 | 0,.mk k l,h=>by
  rw [tyB] at h
  cases h3:(ile 0 k && ile k 2) with
  | true=>
   rw [h3,cond_true] at h
   exact List.length_eq_zero_iff.1 (by have:=of_decide_eq_true h;omega)
  | false=>rw [h3] at h;cases h
 | d + 1,.mk k l,h=>by
  rw [tyB] at h
  cases h3:(ile 0 k && ile k 2) with
  | true=>
   rw [h3,cond_true] at h
   have:l = []:=List.length_eq_zero_iff.1 (by have:=of_decide_eq_true h;omega)
   subst this
   exact ⟨by simp,fun x hx=>by cases hx⟩
  | false=>
   rw [h3,cond_false] at h
   simp only [Bool.and_eq_true,decide_eq_true_eq,List.all_eq_true] at h
   exact ⟨by omega,fun x hx=>qut (h.2 x hx)⟩
theorem qkT:∀{d:Nat} {t:Tp},tpS d t→tpS (d + 1) t
 | 0,.mk k l,h=>by
  have:l = []:=h
  subst this
  exact ⟨by simp,fun x hx=>by cases hx⟩
 | d + 1,.mk k l,h=>⟨h.1,fun x hx=>qkT (h.2 x hx)⟩
theorem qAt {d e:Nat} (h:d ≤ e) {t:Tp} (ht:tpS d t):tpS e t:=by
 induction h with
 | refl=>exact ht
 | step _ ih=>exact qkT ih
def Tr (H:Nat→Option qb) (d:Nat) (t:Tp):Prop:=∀cs g,Ta H t cs→Cov H g→Wd (.fn 21 [] []) [.agg cs,.int .i64 (d:Nat)] g = some (.ret (.bool (tyB d t)),g,false)
theorem qyo:∀d,d ≤ 3→∀{H:Nat→Option qb} (t:Tp),Tr H d t:=by
 intro d
 induction d with
 | zero=>
  rintro _ H ⟨k,l⟩ cs g hv hg
  obtain ⟨L,rfl,hL⟩:=hv.lp
  obtain ⟨hLd,hLs,hLw,hLl⟩:=hL.facts
  have z0:(((0:Nat):Int) == 0) = true:=by kernel_rfl
  rw [tyB,qr rfl (show T.get 21 = some c21 by kernel_rfl)]
  cases h0:(ile 0 k && ile k 2) with
  | true=>simp only [sB.1,c21,simprocAttr,-Int.reduceNatCast',hLd,hLs,hLw,hLl,h0,cond_true]
  | false=>simp only [sB.1,c21,simprocAttr,-Int.reduceNatCast',hLd,hLs,hLw,hLl,h0,z0,cond_false,Bool.or_true,Bool.true_or]
 | succ d ih=>
  rintro hd H ⟨k,l⟩ cs h hv hg
  obtain ⟨L,rfl,hL⟩:=hv.lp
  obtain ⟨hLd,hLs,hLw,hLl⟩:=hL.facts
  have z0:(((d + 1:Nat):Int) == 0) = false:=by rw [beq_eq_false_iff_ne];omega
  rw [tyB]
  generalize hw:Wd _ _ h = w
  rw [qr rfl (show T.get 21 = some c21 by kernel_rfl)] at hw
  cases h0:(ile 0 k && ile k 2) with
  | true=>
   simp only [sB.1,c21,simprocAttr,-Int.reduceNatCast',hLd,hLs,hLw,hLl,h0] at hw
   rw [cond_true]
   exact hw.symm
  | false=>
   cases h3:(k == 3) with
   | false=>
    simp only [sB.1,c21,simprocAttr,-Int.reduceNatCast',hLd,hLs,hLw,hLl,h0,h3,Bool.not_false,Bool.true_or] at hw
    simp only [cond_false,Bool.false_and]
    exact hw.symm
   | true=>
    cases hc:(ilt (l.length:Int) 1 || ilt 4 (l.length:Int)) with
    | true=>
     have e:(decide (1 ≤ l.length) && decide (l.length ≤ 4)) = false:=by
      simp only [Bool.or_eq_true,qf,decide_eq_true_eq] at hc
      rcases hc with hc | hc
      ·rw [decide_eq_false (show ¬ 1 ≤ l.length by omega)];simp
      ·rw [decide_eq_false (show ¬ l.length ≤ 4 by omega)];simp
     simp only [sB.1,c21,simprocAttr,-Int.reduceNatCast',hLd,hLs,hLw,hLl,h0,h3,z0,hc,Bool.false_or,Bool.not_true] at hw
     rw [cond_false,e,Bool.and_false,Bool.false_and]
     exact hw.symm
    | false=>
     simp only [Bool.or_eq_false_iff,qf,decide_eq_false_iff_not] at hc
     obtain ⟨g1,g2⟩:=hc
     obtain ⟨G,hG⟩ :∃G,G = h ++ [qb.cells [.int .i64 k,L]]:=⟨_,rfl⟩
     have hbx:G[h.length]? = some (.cells [.int .i64 k,L]):=by rw [hG,qQ];rfl
     have hgG:Cov H G:=by rw [hG];exact hg.more _
     have htk:G.take h.length = h:=by rw [hG];simp
     have loop:∀m st,(∃(tt:List qa) (i:Nat),st = ⟨tt,G,false⟩∧tt.length = 53∧lkp tt 1 = .int .i64 (d + 1:Nat)∧lkp tt 2 = .ptr h.length 0∧lkp tt 5 = .int .i64 (i:Nat)∧i + m = l.length∧l.all (tyB d) = (l.drop i).all (tyB d))→
       ∃x st',qm h.length Wd (.loop qjk) st = some (x,st')∧(∃tt:List qa,st' = ⟨tt,G,false⟩∧tt.length = 53∧((x = .exit 0∧l.all (tyB d) = true)∨(x = .ret∧lkp tt 4 = .bool false∧l.all (tyB d) = false))):=by
      refine qD _ _ ?_
      rintro m st ⟨tt,i,rfl,ht,e1,e2,e5,him,hall⟩
      generalize he:qm h.length Wd qjk _ = r
      rcases Nat.lt_or_ge i l.length with hi | hi
      ·have c1:ilt (i:Int) (l.length:Int) = true:=by rw [qf];simp;omega
       have w:=qab (n:=i) (by omega)
       have w1:IntKind.i64.wrap (((d + 1:Nat):Int) - 1) = ((d:Nat):Int):=by rw [qaX (by omega) (by omega)];omega
       obtain ⟨pp,cs,x1,x2,_,x3,x4⟩:=hL.item hi hgG
       have x5:∀i t,qx pp i t = t:=fun i t=>by rw [←x2];exact qaf _ _ _
       have hq:=ih (by omega) l[i] cs G x4 hgG
       rw [List.drop_eq_getElem_cons hi,List.all_cons] at hall
       cases hb:tyB d l[i] with
       | true=>
        rw [hb] at hq hall
        simp only [sB.1,qjk,simprocAttr,-Int.reduceNatCast',ht,e1,e2,e5,c1,w,w1,hbx,hLd,hLw,hLl,x1,x2,x3,x5,hq] at he
        subst he
        refine .inl ⟨_,m - 1,rfl,by omega,_,i + 1,rfl,by simp only [qc,ht],?_,?_,?_,by omega,by rw [hall,Bool.true_and]⟩
        ·simp only [sB.1,simprocAttr,-Int.reduceNatCast',ht,e1]
        ·simp only [sB.1,simprocAttr,-Int.reduceNatCast',ht,e2]
        ·simp only [sB.1,simprocAttr,-Int.reduceNatCast',ht]
       | false=>
        rw [hb] at hq hall
        simp only [sB.1,qjk,simprocAttr,-Int.reduceNatCast',ht,e1,e2,e5,c1,w,w1,hbx,hLd,hLw,hLl,x1,x2,x3,x5,hq] at he
        subst he
        refine .inr ⟨_,_,rfl,by simp,_,rfl,by simp only [qc,ht],.inr ⟨rfl,?_,by rw [hall,Bool.false_and]⟩⟩
        simp only [sB.1,simprocAttr,-Int.reduceNatCast',ht]
      ·have c1:ilt (i:Int) (l.length:Int) = false:=by rw [qf];simp;omega
       simp only [sB.1,qjk,simprocAttr,-Int.reduceNatCast',ht,e1,e2,e5,c1,hbx,hLd,hLw,hLl] at he
       subst he
       rw [List.drop_eq_nil_of_le hi] at hall
       exact .inr ⟨_,_,rfl,by simp,_,rfl,by simp only [qc,ht],.inl ⟨rfl,hall⟩⟩
     have y1:ilt (l.length:Int) 1 = false:=by rw [qf];simpa using g1
     have y2:ilt 4 (l.length:Int) = false:=by rw [qf];simpa using g2
     simp only [sB.1,c21,simprocAttr,-Int.reduceNatCast',hLd,hLs,hLw,hLl,h0,h3,y1,y2,z0] at hw
     generalize hr:qm h.length Wd (.loop qjk) _ = r at hw
     obtain ⟨x,st',rfl,tt,rfl,ht,⟨rfl,ha⟩ | ⟨rfl,e4,ha⟩⟩:=qaB hr (loop l.length _ ⟨_,0,by rw [hG],by simp only [sB.1,simprocAttr,-Int.reduceNatCast'],by simp only [sB.1,simprocAttr,-Int.reduceNatCast'],by simp only [sB.1,simprocAttr,-Int.reduceNatCast'],by simp only [sB.1,simprocAttr,-Int.reduceNatCast',Int.natCast_zero],by omega,rfl⟩)
     ·simp only [sB.1,simprocAttr,-Int.reduceNatCast',ht] at hw
      subst hw
      rw [cond_false,ha,decide_eq_true (show 1 ≤ l.length by omega),decide_eq_true (show l.length ≤ 4 by omega)]
      exact congrArg some (qH htk rfl)
     ·simp only [sB.1,simprocAttr,-Int.reduceNatCast',ht,e4] at hw
      subst hw
      rw [cond_false,ha,Bool.and_false]
      exact congrArg some (qH htk rfl)
def St2 (H:Nat→Option qb) (a:Tp):Prop:=∀b cs ds g,Ta H a cs→Ta H b ds→Cov H g→Wd (.fn 37 [] []) [.agg cs,.agg ds] g = some (.ret (.bool (qaV a b)),g,false)
theorem qjS {l l':List Tp} {i:Nat} (h1:i < l.length) (h2:i < l'.length):qbD (l.drop i) (l'.drop i) = (qaV l[i] l'[i] && qbD (l.drop (i + 1)) (l'.drop (i + 1))):=by
 rw [List.drop_eq_getElem_cons h1,List.drop_eq_getElem_cons h2,qbD]
theorem qkN {H:Nat→Option qb} {k:Int} {l:List Tp} (hl:l.length ≤ 20) (ho:∀x ∈ l,St2 H x):St2 H (.mk k l):=by
 rintro ⟨k',l'⟩ cs ds h hv hv' hg
 obtain ⟨L,rfl,hL⟩:=hv.lp
 obtain ⟨L',rfl,hL'⟩:=hv'.lp
 obtain ⟨d1,s1,w1,n1⟩:=hL.facts
 obtain ⟨d2,s2,w2,n2⟩:=hL'.facts
 obtain ⟨G,hG⟩ :∃G,G = h ++ [qb.cells [.int .i64 k,L],.cells [.int .i64 k',L']]:=⟨_,rfl⟩
 have hb1:G[h.length]? = some (.cells [.int .i64 k,L]):=by rw [hG,qQ];rfl
 have hb2:G[h.length + 1]? = some (.cells [.int .i64 k',L']):=by rw [hG,qaL];rfl
 have hgG:Cov H G:=by rw [hG];exact hg.more _
 have htk:G.take h.length = h:=by rw [hG];simp
 rw [qaV]
 generalize hw:Wd _ _ h = w
 rw [qr rfl (show T.get 37 = some c37 by kernel_rfl)] at hw
 cases hk:(k == k') with
 | false=>
  simp only [sB.1,c37,simprocAttr,-Int.reduceNatCast',d1,d2,s1,s2,w1,w2,n1,n2,hk,Bool.not_false,Bool.true_or] at hw
  rw [Bool.false_and]
  exact hw.symm
 | true=>
  cases hn:((l.length:Int) == (l'.length:Int)) with
  | false=>
   have hne:l.length ≠ l'.length:=fun e=>by rw [e,beq_self_eq_true] at hn;cases hn
   simp only [sB.1,c37,simprocAttr,-Int.reduceNatCast',d1,d2,s1,s2,w1,w2,n1,n2,hk,hn,Bool.not_false,Bool.not_true,Bool.false_or] at hw
   rw [qgD hne,Bool.and_false]
   exact hw.symm
  | true=>
   have hne:l.length = l'.length:=by have:=of_decide_eq_true hn;omega
   have loop:∀q st,(∃(tt:List qa) (i:Nat),st = ⟨tt,G,false⟩∧tt.length = 39∧lkp tt 2 = .ptr h.length 0∧lkp tt 3 = .ptr (h.length + 1) 0∧lkp tt 5 = .int .i64 (i:Nat)∧i + q = l.length∧qbD l l' = qbD (l.drop i) (l'.drop i))→
     ∃x st',qm h.length Wd (.loop qjn) st = some (x,st')∧(∃tt:List qa,st' = ⟨tt,G,false⟩∧tt.length = 39∧((x = .exit 0∧qbD l l' = true)∨(x = .ret∧lkp tt 4 = .bool false∧qbD l l' = false))):=by
    refine qD _ _ ?_
    rintro q st ⟨tt,i,rfl,ht,e2,e3,e5,hik,hf⟩
    generalize he:qm h.length Wd qjn _ = r
    rcases Nat.lt_or_ge i l.length with hi | hi
    ·have c1:ilt (i:Int) (l.length:Int) = true:=by rw [qf];simp;omega
     have w:=qab (n:=i) (by omega)
     have hi2:i < l'.length:=by omega
     obtain ⟨pp,cs,x1,x2,_,x3,x4⟩:=hL.item hi hgG
     obtain ⟨qq,ds,y1,y2,_,y3,y4⟩:=hL'.item hi2 hgG
     have x5:∀i t,qx pp i t = t:=fun i t=>by rw [←x2];exact qaf _ _ _
     have y5:∀i t,qx qq i t = t:=fun i t=>by rw [←y2];exact qaf _ _ _
     have hs:=ho _ (List.getElem_mem hi) _ cs ds G x4 y4 hgG
     rw [qjS hi hi2] at hf
     cases hb:qaV l[i] l'[i] with
     | true=>
      rw [hb] at hs hf
      simp only [sB.1,qjn,simprocAttr,-Int.reduceNatCast',ht,e2,e3,e5,c1,w,hb1,hb2,d1,d2,w1,w2,n1,n2,x1,x2,x3,x5,y1,y2,y3,y5,hs] at he
      subst he
      refine .inl ⟨_,q - 1,rfl,by omega,_,i + 1,rfl,by simp only [qc,ht],?_,?_,?_,by omega,by rw [hf,Bool.true_and]⟩
      ·simp only [sB.1,simprocAttr,-Int.reduceNatCast',ht,e2]
      ·simp only [sB.1,simprocAttr,-Int.reduceNatCast',ht,e3]
      ·simp only [sB.1,simprocAttr,-Int.reduceNatCast',ht]
     | false=>
      rw [hb] at hs hf
      simp only [sB.1,qjn,simprocAttr,-Int.reduceNatCast',ht,e2,e3,e5,c1,w,hb1,hb2,d1,d2,w1,w2,n1,n2,x1,x2,x3,x5,y1,y2,y3,y5,hs] at he
      subst he
      refine .inr ⟨_,_,rfl,by simp,_,rfl,by simp only [qc,ht],.inr ⟨rfl,?_,by rw [hf,Bool.false_and]⟩⟩
      simp only [sB.1,simprocAttr,-Int.reduceNatCast',ht]
    ·have c1:ilt (i:Int) (l.length:Int) = false:=by rw [qf];simp;omega
     simp only [sB.1,qjn,simprocAttr,-Int.reduceNatCast',ht,e2,e3,e5,c1,hb1,d1,w1,n1] at he
     subst he
     rw [List.drop_eq_nil_of_le hi,List.drop_eq_nil_of_le (by omega)] at hf
     exact .inr ⟨_,_,rfl,by simp,_,rfl,by simp only [qc,ht],.inl ⟨rfl,hf⟩⟩
   simp only [sB.1,c37,simprocAttr,-Int.reduceNatCast',d1,d2,s1,s2,w1,w2,n1,n2,hk,hn,Bool.not_true] at hw
   generalize hr:qm h.length Wd (.loop qjn) _ = r at hw
   obtain ⟨x,st',rfl,tt,rfl,ht,⟨rfl,ha⟩ | ⟨rfl,e4,ha⟩⟩:=qaB hr (loop l.length _ ⟨_,0,by rw [hG],by simp only [sB.1,simprocAttr,-Int.reduceNatCast'],by simp only [sB.1,simprocAttr,-Int.reduceNatCast'],by simp only [sB.1,simprocAttr,-Int.reduceNatCast'],by simp only [sB.1,simprocAttr,-Int.reduceNatCast',Int.natCast_zero],by omega,rfl⟩)
   ·simp only [sB.1,simprocAttr,-Int.reduceNatCast',ht] at hw
    subst hw
    rw [ha]
    exact congrArg some (qH htk rfl)
   ·simp only [sB.1,simprocAttr,-Int.reduceNatCast',ht,e4] at hw
    subst hw
    rw [ha]
    exact congrArg some (qH htk rfl)
theorem qfe:∀d,∀{H:Nat→Option qb} {a:Tp},tpS d a→St2 H a:=by
 intro d
 induction d with
 | zero=>
  rintro H ⟨k,l⟩ h0
  have hl:l = []:=h0
  subst hl
  exact qkN (by simp) fun x hx=>by cases hx
 | succ d ih=>
  rintro H ⟨k,l⟩ h0
  exact qkN h0.1 fun x hx=>ih (h0.2 x hx)
theorem qgT {n:Nat}:∀{l:List Tp},(∀x ∈ l,qdD x ≤ n)→qdC l ≤ n
 | [],_=>by rw [qdC];omega
 | a :: l,h=>by
  rw [qdC]
  have:=h a List.mem_cons_self
  have:=qgT (l:=l) fun x hx=>h x (List.mem_cons_of_mem _ hx)
  omega
theorem quK:∀{d:Nat} {t:Tp},tpS d t→qdD t ≤ d + 1
 | 0,.mk k l,h=>by
  have:l = []:=h
  subst this
  rw [qdD,qdC]
  cases k == 3 <;> simp
 | d + 1,.mk k l,h=>by
  have:=qgT (n:=d + 1) fun x hx=>quK (h.2 x hx)
  rw [qdD]
  cases k == 3 <;> simp only [cond_true,cond_false] <;> omega
def Dp (H:Nat→Option qb) (a:Tp):Prop:=∀cs g,Ta H a cs→Cov H g→Wd (.fn 78 [] []) [.agg cs] g = some (.ret (.int .i64 (qdD a:Nat)),g,false)
theorem qnI {H:Nat→Option qb} {k:Int} {l:List Tp} (hl:l.length ≤ 20) (hd:qdC l ≤ 1000) (ho:∀x ∈ l,Dp H x):Dp H (.mk k l):=by
 rintro cs h hv hg
 obtain ⟨L,rfl,hL⟩:=hv.lp
 obtain ⟨d1,s1,w1,n1⟩:=hL.facts
 obtain ⟨G,hG⟩ :∃G,G = h ++ [qb.cells [.int .i64 k,L]]:=⟨_,rfl⟩
 have hb1:G[h.length]? = some (.cells [.int .i64 k,L]):=by rw [hG,qQ];rfl
 have hgG:Cov H G:=by rw [hG];exact hg.more _
 have htk:G.take h.length = h:=by rw [hG];simp
 rw [qdD]
 generalize hw:Wd _ _ h = w
 rw [qr rfl (show T.get 78 = some c78 by kernel_rfl)] at hw
 have loop:∀q st,(∃(tt:List qa) (i n:Nat),st = ⟨tt,G,false⟩∧tt.length = 31∧lkp tt 1 = .ptr h.length 0∧lkp tt 3 = .int .i64 (n:Nat)∧lkp tt 4 = .int .i64 (i:Nat)∧i + q = l.length∧qdC l = max n (qdC (l.drop i)))→
   ∃x st',qm h.length Wd (.loop qjs) st = some (x,st')∧(x = .exit 0∧∃tt:List qa,st' = ⟨tt,G,false⟩∧tt.length = 31∧lkp tt 1 = .ptr h.length 0∧lkp tt 3 = .int .i64 (qdC l:Nat)):=by
  refine qD _ _ ?_
  rintro q st ⟨tt,i,n,rfl,ht,e1,e3,e4,hik,hf⟩
  generalize he:qm h.length Wd qjs _ = r
  rcases Nat.lt_or_ge i l.length with hi | hi
  ·have c1:ilt (i:Int) (l.length:Int) = true:=by rw [qf];simp;omega
   have w:=qab (n:=i) (by omega)
   obtain ⟨pp,cs,x1,x2,_,x3,x4⟩:=hL.item hi hgG
   have x5:∀i t,qx pp i t = t:=fun i t=>by rw [←x2];exact qaf _ _ _
   have hs:=ho _ (List.getElem_mem hi) cs G x4 hgG
   rw [List.drop_eq_getElem_cons hi,qdC] at hf
   cases hb:ilt (n:Int) ((qdD l[i]:Nat):Int) with
   | true=>
    have hb':n < qdD l[i]:=by rw [qf,decide_eq_true_eq] at hb;omega
    simp only [sB.1,qjs,simprocAttr,-Int.reduceNatCast',ht,e1,e3,e4,c1,w,hb,hb1,d1,w1,n1,x1,x2,x3,x5,hs] at he
    subst he
    refine .inl ⟨_,q - 1,rfl,by omega,_,i + 1,qdD l[i],rfl,by simp only [qc,ht],?_,?_,?_,by omega,by omega⟩
    ·simp only [sB.1,simprocAttr,-Int.reduceNatCast',ht,e1]
    ·simp only [sB.1,simprocAttr,-Int.reduceNatCast',ht]
    ·simp only [sB.1,simprocAttr,-Int.reduceNatCast',ht]
   | false=>
    have hb':¬ n < qdD l[i]:=by rw [qf,decide_eq_false_iff_not] at hb;omega
    simp only [sB.1,qjs,simprocAttr,-Int.reduceNatCast',ht,e1,e3,e4,c1,w,hb,hb1,d1,w1,n1,x1,x2,x3,x5,hs] at he
    subst he
    refine .inl ⟨_,q - 1,rfl,by omega,_,i + 1,n,rfl,by simp only [qc,ht],?_,?_,?_,by omega,by omega⟩
    ·simp only [sB.1,simprocAttr,-Int.reduceNatCast',ht,e1]
    ·simp only [sB.1,simprocAttr,-Int.reduceNatCast',ht,e3]
    ·simp only [sB.1,simprocAttr,-Int.reduceNatCast',ht]
  ·have c1:ilt (i:Int) (l.length:Int) = false:=by rw [qf];simp;omega
   simp only [sB.1,qjs,simprocAttr,-Int.reduceNatCast',ht,e1,e3,e4,c1,hb1,d1,w1,n1] at he
   subst he
   rw [List.drop_eq_nil_of_le hi,qdC] at hf
   have hn:qdC l = n:=by omega
   rw [hn]
   refine .inr ⟨_,_,rfl,by simp,rfl,_,rfl,by simp only [qc,ht],?_,?_⟩
   ·simp only [sB.1,simprocAttr,-Int.reduceNatCast',ht,e1]
   ·simp only [sB.1,simprocAttr,-Int.reduceNatCast',ht,e3]
 simp only [sB.1,c78,simprocAttr,-Int.reduceNatCast',d1,s1,w1] at hw
 generalize hr:qm h.length Wd (.loop qjs) _ = r at hw
 obtain ⟨x,st',rfl,rfl,tt,rfl,ht,e1,e3⟩:=qaB hr (loop l.length _ ⟨_,0,0,by rw [hG],by simp only [sB.1,simprocAttr,-Int.reduceNatCast'],by simp only [sB.1,simprocAttr,-Int.reduceNatCast'],by simp only [sB.1,simprocAttr,-Int.reduceNatCast',Int.natCast_zero],by simp only [sB.1,simprocAttr,-Int.reduceNatCast',Int.natCast_zero],by omega,by simp⟩)
 have w2:=qab (n:=qdC l) (by omega)
 cases hk:(k == 3) with
 | true=>
  simp only [sB.1,simprocAttr,-Int.reduceNatCast',ht,e1,e3,hb1,hk,w2] at hw
  subst hw
  exact congrArg some (qH htk rfl)
 | false=>
  simp only [sB.1,simprocAttr,-Int.reduceNatCast',ht,e1,e3,hb1,hk] at hw
  subst hw
  exact congrArg some (qH htk rfl)
theorem qvZ:∀d,d ≤ 900→∀{H:Nat→Option qb} {a:Tp},tpS d a→Dp H a:=by
 intro d
 induction d with
 | zero=>
  rintro _ H ⟨k,l⟩ h0
  have hl:l = []:=h0
  subst hl
  exact qnI (by simp) (by simp [qdC]) fun x hx=>by cases hx
 | succ d ih=>
  rintro hd H ⟨k,l⟩ h0
  have:=qgT (n:=d + 1) fun x hx=>quK (h0.2 x hx)
  exact qnI h0.1 (by omega) fun x hx=>ih (by omega) (h0.2 x hx)
section
variable {base:Nat} {call:AE.Call} {dsts:List Nat} {s:St} {pend:List (Nat×Chk)}
theorem qBk {d:Option Nat} {o:AOp} {ix cl j:Nat} {b:Bool} {ds:List qG} (h:lkp s.t j = .bool b):qw base call dsts (⟨⟨d,o,some (j,b)⟩,ix,cl⟩ :: ds) pend s = qw base call dsts (⟨⟨d,o,none⟩,ix,cl⟩ :: ds) pend s:=by
 have e:s.t.getD j .undef = .bool b:=h
 simp only [qw,wanted,e,beq_self_eq_true]
end
inductive Exl where
 | mk (op n:Int) (nm sb:Str) (aS:List Exl)
def Exl.enc:Exl→List qa
 | .mk op n nm sb aS=>[.int .i64 op,.int .i64 n,.str nm,.str sb,.lst (aS.map fun e=>.agg e.enc) .no]
def exV (e:Exl):qa:=.agg e.enc
theorem qci (op n:Int) (nm sb:Str) (aS:List Exl):(Exl.mk op n nm sb aS).enc = [.int .i64 op,.int .i64 n,.str nm,.str sb,.lst (aS.map exV) .no]:=by rw [Exl.enc];rfl
theorem qN (op n:Int) (nm sb:Str) (aS:List Exl):exV (.mk op n nm sb aS) = .agg [.int .i64 op,.int .i64 n,.str nm,.str sb,.lst (aS.map exV) .no]:=by rw [exV,qci]
def Fit:Nat→Exl→Prop
 | 0,_=>False
 | d + 1,.mk _ _ _ _ aS=>aS.length ≤ 20∧∀a ∈ aS,Fit d a
theorem z00:ilt 0 0 = false:=Eq.trans rfl rfl
theorem z01:ilt 0 1 = true:=Eq.trans rfl rfl
theorem z11:ilt 1 1 = false:=Eq.trans rfl rfl
theorem cc1:((1:Nat):Int) = 1:=Eq.trans rfl rfl
theorem cc0:((0:Nat):Int) = 0:=Eq.trans rfl rfl
theorem w01:IntKind.i64.wrap (0 + 1) = 1:=by kernel_rfl
theorem w1:IntKind.i64.wrap 1 = 1:=by kernel_rfl
theorem qzN:([]:List qa).length = 0:=rfl
theorem qqC (r:Int) (h:List qb):Wd (.fn 42 [] []) [.lst [] .full,.int .i64 r] h = some (.ret (.int .i64 r),h,false):=by
 rw [qr rfl (show T.get 42 = some c42 by kernel_rfl)]
 simp only [sB.1,c42,qzL,qZ,simprocAttr,-Int.reduceNatCast',qzN,cc0,z00]
theorem qt8 (r:Int) (h:List qb):Wd (.fn 43 [] []) [.lst [] .full,.int .i64 r] h = some (.ret (.int .i64 r),h,false):=by
 rw [qr rfl (show T.get 43 = some c43 by kernel_rfl)]
 simp only [sB.1,c43,qzM,qZ,simprocAttr,-Int.reduceNatCast',qzN,cc0,z00]
def qCX (e:Exl):qa:=.agg [.str [],.bool false,.lst [] .full,.lst [] .full,.lst [] .full,.lst [exV e] .full,.lst [] .full,.lst [] .full,.lst [] .full,.int .i64 0,.lst [] .full,.lst [] .full,.lst [] .full,.lst [] .full]
end Go.Proofs.YtnibchoenjmmjaaGreatDoor.AE
