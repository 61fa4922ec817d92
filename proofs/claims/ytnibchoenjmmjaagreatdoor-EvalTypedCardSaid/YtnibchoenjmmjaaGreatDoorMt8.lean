/- Proved: part 8. No condition. -/
import Derived.Test.YtnibchoenjmmjaaGreatDoorMt7
import Derived.Test.YtnibchoenjmmjaaGreatDoorMt2
set_option maxRecDepth 100000
set_option maxHeartbeats 0
open List renaming getElem?_append_right→jc,mem_cons_self→jJ,drop_eq_getElem_cons→jX,append_assoc→jr,append_nil→jK,mem_append→jM,mem_cons_of_mem→jN,nil_append→j4,cons_append→jB,all_cons→jH
open Bool renaming and_eq_true→jm,true_and→jY,false_and→jQ,and_true→jA,not_true→j0,not_false→j3,true_or→jZ,false_or→jS
open Option renaming map_some→jO
namespace Go.Proofs.YtnibchoenjmmjaaGreatDoor.AE
open Go.AE
def qeB (a b:Int):Int:=if a < b then -1 else if b < a then 1 else 0
def orI (a b:Int):Int:=if a = 0 then b else a
abbrev qgm:Str->Str->Int:=Lib.compareBytes
mutual
def qgo:Val->Val->Int
 | .mk k n s l,.mk k' n' s' l'=>orI (qeB k k') (orI (qeB n n') (orI (qgm s s') (qfg l l')))
def qfg:List Val->List Val->Int
 | [],[]=>0
 | [],_ :: _=>-1
 | _ :: _,[]=>1
 | a :: aS,b :: bs=>orI (qgo a b) (qfg aS bs)
end
section
variable {g:List qb}
theorem qyL (a:Int):Wd (.fn 128 [] []) [.int .i64 a] g = some (.ret (.bool false),g,false):=by
 rw [qi 128 qCl]
 simp only [sB.1,qCl,seval,beq_self_eq_true]
theorem qoM (a b:Int):Wd (.fn 109 [] []) [.int .i64 a,.int .i64 b] g = some (.ret (.int .i64 (qeB a b)),g,false):=by
 have h1:=λa=>qyL (g:=g) a
 rw [qi 109 qzS]
 unfold qeB
 by_cases l1:a < b
 ·have c1:ilt a b = true:=by rw [qf];simpa using l1
  simp only [sB.1,qzS,seval,h1,c1,l1,if_true]
 ·have c1:ilt a b = false:=by rw [qf];simpa using l1
  by_cases l2:b < a
  ·have c2:ilt b a = true:=by rw [qf];simpa using l2
   simp only [sB.1,qzS,seval,h1,c1,c2,l1,l2,if_true,if_false]
  ·have c2:ilt b a = false:=by rw [qf];simpa using l2
   simp only [sB.1,qzS,seval,h1,c1,c2,l1,l2,if_false]
theorem qwC (a b:Str):Wd (.fn 140 [] []) [.str a,.str b] g = some (.ret (.int .i64 (qgm a b)),g,false):=by
 rw [show Wd = W T.get X from rfl,qww qsL (show X 140 = some qxa from rfl)]
 rfl
theorem qzx (a b:Str):Wd (.fn 110 [] []) [.str a,.str b] g = some (.ret (.int .i64 (qgm a b)),g,false):=by
 have h1:=qwC (g:=g) a b
 have h2:Wd (.fn 129 [] []) [.str a,.str b] g = some (.ret (.int .i64 (qgm a b)),g,false):=by
  rw [qi 129 qCm]
  simp only [sB.1,qCm,seval,h1]
 rw [qi 110 qCe]
 simp only [sB.1,qCe,seval,h2]
def qdD:List Int->Int
 | []=>0
 | x :: xs=>orI x (qdD xs)
theorem qkb {xs:List Int} {i:Nat} (hi:i < xs.length):qdD (xs.drop i) = orI xs[i] (qdD (xs.drop (i + 1))):=by
 rw [jX hi,qdD]
theorem qEH (xs:List Int) (hx:xs.length <= 100) (h:List qb) (R:Nat) (hr:h[R]? = some (.cells (xs.map (qa.int .i64)))):Wd (.fn 108 [] []) [.sl R 0 xs.length xs.length 0] h = some (.ret (.int .i64 (qdD xs)),h,false):=by
 have loop:∀k st,(∃(tt:List qa) (i:Nat),st = ⟨tt,h,false⟩/\tt.length = 18/\lkp tt 3 = .int .i64 0/\lkp tt 6 = .sl R 0 xs.length xs.length 0/\lkp tt 7 = .int .i64 (xs.length:Nat)/\lkp tt 8 = .int .i64 (i:Nat)/\i + k = xs.length/\qdD xs = qdD (xs.drop i))->
   ∃x B,qm h.length Wd (.loop qgI) st = some (x,B)/\(∃tt:List qa,B = ⟨tt,h,false⟩/\tt.length = 18/\lkp tt 3 = .int .i64 0/\((x = .exit 0/\qdD xs = 0)\/(x = .ret/\lkp tt 2 = .int .i64 (qdD xs)))):=by
  refine qy _ _ ?_
  rintro k st ⟨tt,i,rfl,ht,e3,e6,e7,e8,S,hf⟩
  generalize he:qm h.length Wd qgI _ = r
  rcases Nat.lt_or_ge i xs.length with hi | hi
  ·have c1:ilt (i:Int) (xs.length:Int) = true:=by rw [qf];simp;omega
   have w:=qag (n:=i) zo
   have I:qaW 1 (.sl R 0 xs.length xs.length 0) (.int .i64 (i:Nat)) = some (.ptr R i):=by rw [qcC hi,Nat.mul_one]
   have hc:(xs.map (qa.int .i64))[i]? = some (.int .i64 xs[i]):=by rw [List.getElem?_map,List.getElem?_eq_getElem hi];rfl
   rw [qkb hi] at hf
   cases hz:(xs[i] == 0) with
   | true=>
    have E:xs[i] = 0:=by simpa using hz
    rw [E] at hf hc
    have z0:(((0:Int)) == 0) = true:=xk
    simp only [sB.1,qgI,seval,ht,e3,e6,e7,e8,c1,w,I,hr,hc,z0,q9,qz,jO] at he
    subst he
    refine .inl ⟨_,k - 1,rfl,zo,_,i + 1,rfl,Y0,?_,?_,?_,?_,zo,?_⟩
    ·simp only [sB.1,seval,ht,e3]
    ·simp only [sB.1,seval,ht,e6]
    ·simp only [sB.1,seval,ht,e7]
    ·simp only [sB.1,seval,ht]
    ·rw [hf];rfl
   | false=>
    have E:¬ xs[i] = 0:=by simpa using hz
    have M:qdD xs = xs[i]:=by rw [hf,orI,if_neg E]
    simp only [sB.1,qgI,seval,ht,e3,e6,e7,e8,c1,w,I,hr,hc,hz,q9,qz,jO] at he
    subst he
    refine .inr ⟨_,_,rfl,by simp,_,rfl,Y0,?_,.inr ⟨rfl,?_⟩⟩
    ·simp only [sB.1,seval,ht,e3]
    ·simp only [sB.1,seval,ht,M]
  ·have c1:ilt (i:Int) (xs.length:Int) = false:=by rw [qf];simp;omega
   simp only [sB.1,qgI,seval,ht,e3,e6,e7,e8,c1] at he
   subst he
   refine .inr ⟨_,_,rfl,by simp,_,rfl,Y0,?_,.inl ⟨rfl,?_⟩⟩
   ·simp only [sB.1,seval,ht,e3]
   ·rw [hf,List.drop_eq_nil_of_le zo];rfl
 generalize hw:Wd _ _ h = w
 rw [qi 108 qCd] at hw
 simp only [sB.1,qCd,seval,qci,q9,qz] at hw
 generalize J:qm h.length Wd (.loop qgI) _ = r at hw
 obtain ⟨x,B,rfl,tt,rfl,ht,e3,⟨rfl,hf⟩ | ⟨rfl,e2⟩⟩:=known J (loop xs.length _ ⟨_,0,rfl,X1,X1,X1,X1,X2,zo,rfl⟩)
 ·simp only [sB.1,seval,ht,e3] at hw
  rw [hf]
  exact hw.symm
 ·simp only [sB.1,seval,ht,e2] at hw
  exact hw.symm
end
def Ord (H:Nat->Option qb) (v:Val):Prop:=∀w cs ds g,(∃d,qu d w = true)->At H v cs->At H w ds->Cov H g->Wd (.fn 81 [] []) [.agg cs,.agg ds] g = some (.ret (.int .i64 (qgo v w)),g,false)
theorem qiC {l l':List Val} {i:Nat} (h1:i < l.length) (h2:i < l'.length):qfg (l.drop i) (l'.drop i) = orI (qgo l[i] l'[i]) (qfg (l.drop (i + 1)) (l'.drop (i + 1))):=by
 rw [jX h1,jX h2,qfg]
theorem qtb {l l':List Val} {i:Nat} (h:i = min l.length l'.length):qfg (l.drop i) (l'.drop i) = qeB l.length l'.length:=by
 unfold qeB
 rcases Nat.lt_trichotomy l.length l'.length with hl | hl | hl
 ·have e:l.drop i = []:=List.drop_eq_nil_of_le zo
  rw [e,jX (show i < l'.length by omega),qfg,if_pos zo]
 ·have e:l.drop i = []:=List.drop_eq_nil_of_le zo
  have e':l'.drop i = []:=List.drop_eq_nil_of_le zo
  rw [e,e',qfg,if_neg zo,if_neg zo]
 ·have e:l'.drop i = []:=List.drop_eq_nil_of_le zo
  rw [e,jX (show i < l.length by omega),qfg,if_neg zo,if_pos zo]
theorem qrs {H:Nat->Option qb} {l l':List Val} {L L':qa} (hl:l.length <= 100) (hL:LP H l L) (a1:LP H l' L') (ho:∀x ∈ l,Ord H x) (ac:l'.length <= 100) (a8:∀x ∈ l',∃d,qu d x = true) (h:List qb) (hg:Cov H h) :
  Wd (.fn 111 [] []) [L,L',.fn 81 [] []] h = some (.ret (.int .i64 (qfg l l')),h,false):=by
 obtain ⟨d1,s1,w1,n1⟩:=hL.facts
 obtain ⟨d2,s2,w2,n2⟩:=a1.facts
 have a6:(if ((l'.length:Nat):Int) < ((l.length:Nat):Int) then ((l'.length:Nat):Int) else ((l.length:Nat):Int)) = ((min l.length l'.length:Nat):Int):=by
  split <;> omega
 have loop:∀k st,(∃(tt:List qa) (i:Nat),st = ⟨tt,h,false⟩/\tt.length = 36/\lkp tt 0 = L/\lkp tt 1 = L'/\lkp tt 2 = .fn 81 [] []/\lkp tt 13 = .int .i64 (min l.length l'.length:Nat)/\lkp tt 14 = .int .i64 (i:Nat)/\i + k = min l.length l'.length/\qfg l l' = qfg (l.drop i) (l'.drop i))->
   ∃x E,qm h.length Wd (.loop qgJ) st = some (x,E)/\(∃tt:List qa,E = ⟨tt,h,false⟩/\tt.length = 36/\lkp tt 0 = L/\lkp tt 1 = L'/\((x = .exit 0/\qfg l l' = qeB l.length l'.length)\/(x = .ret/\lkp tt 6 = .int .i64 (qfg l l')))):=by
  refine qy _ _ ?_
  rintro k st ⟨tt,i,rfl,ht,e0,e1,e2,B,U,ad,hf⟩
  generalize he:qm h.length Wd qgJ _ = r
  rcases Nat.lt_or_ge i (min l.length l'.length) with hi | hi
  ·have S:i < l.length:=zo
   have M:i < l'.length:=zo
   have c1:ilt (i:Int) ((min l.length l'.length:Nat):Int) = true:=by rw [qf];simp;omega
   have w:=qag (n:=i) zo
   obtain ⟨pp,cs,x1,x2,_,x3,x4⟩:=hL.item S hg
   have x5:∀i t,qo pp i t = t:=λi t=>by rw [<-x2];exact qH _ _ _
   obtain ⟨qq,ae,y1,y2,_,y3,y4⟩:=a1.item M hg
   have y5:∀i t,qo qq i t = t:=λi t=>by rw [<-y2];exact qH _ _ _
   have J:=ho _ (List.getElem_mem S) _ _ _ h (a8 _ (List.getElem_mem M)) x4 y4 hg
   rw [qiC S M] at hf
   cases hz:(qgo l[i] l'[i] == 0) with
   | true=>
    have I:qgo l[i] l'[i] = 0:=by simpa using hz
    rw [I] at hf J
    have z0:(((0:Int)) == 0) = true:=xk
    simp only [sB.1,qgJ,seval,ht,e0,e1,e2,B,U,c1,w,d1,d2,w1,w2,x1,x2,x3,x5,y1,y2,y3,y5,J,z0] at he
    subst he
    refine .inl ⟨_,k - 1,rfl,zo,_,i + 1,rfl,Y0,?_,?_,?_,?_,?_,zo,?_⟩
    ·simp only [sB.1,seval,ht,e0]
    ·simp only [sB.1,seval,ht,e1]
    ·simp only [sB.1,seval,ht,e2]
    ·simp only [sB.1,seval,ht,B]
    ·simp only [sB.1,seval,ht]
    ·rw [hf];rfl
   | false=>
    have I:¬ qgo l[i] l'[i] = 0:=by simpa using hz
    have aa:qfg l l' = qgo l[i] l'[i]:=by rw [hf,orI,if_neg I]
    simp only [sB.1,qgJ,seval,ht,e0,e1,e2,B,U,c1,w,d1,d2,w1,w2,x1,x2,x3,x5,y1,y2,y3,y5,J,hz] at he
    subst he
    refine .inr ⟨_,_,rfl,by simp,_,rfl,Y0,?_,?_,.inr ⟨rfl,?_⟩⟩
    ·simp only [sB.1,seval,ht,e0]
    ·simp only [sB.1,seval,ht,e1]
    ·simp only [sB.1,seval,ht,aa]
  ·have c1:ilt (i:Int) ((min l.length l'.length:Nat):Int) = false:=by rw [qf];simp;omega
   simp only [sB.1,qgJ,seval,ht,B,U,c1] at he
   subst he
   refine .inr ⟨_,_,rfl,by simp,_,rfl,Y0,?_,?_,.inl ⟨rfl,?_⟩⟩
   ·simp only [sB.1,seval,ht,e0]
   ·simp only [sB.1,seval,ht,e1]
   ·rw [hf,qtb zo]
 have ab:=qoM (g:=h) (l.length:Nat) (l'.length:Nat)
 generalize hw:Wd _ _ h = w
 rw [qi 111 qCf] at hw
 simp only [sB.1,qCf,seval,d1,d2,w1,w2,n1,n2,a6] at hw
 generalize a7:qm h.length Wd (.loop qgJ) _ = r at hw
 obtain ⟨x,E,rfl,tt,rfl,ht,e0,e1,⟨rfl,hf⟩ | ⟨rfl,e6⟩⟩:=known a7 (loop (min l.length l'.length) _ ⟨_,0,rfl,X1,X1,X1,X1,X1,X2,zo,rfl⟩)
 ·simp only [sB.1,seval,ht,e0,e1,d1,d2,n1,n2,ab] at hw
  rw [hf]
  exact hw.symm
 ·simp only [sB.1,seval,ht,e6] at hw
  exact hw.symm
theorem qEv (base:Nat) (a b c d:Int) (h:List qb):hop base (.lit 1 [.int .i64 0] 4 [0,1,2,3]) [.int .i64 a,.int .i64 b,.int .i64 c,.int .i64 d] h = some (.sl h.length 0 4 4 0,h ++ [.cells [.int .i64 a,.int .i64 b,.int .i64 c,.int .i64 d]],false):=xk
theorem qF5 (base:Nat) (a b:Int) (h:List qb):hop base (.lit 1 [.int .i64 0] 2 [0,1]) [.int .i64 a,.int .i64 b] h = some (.sl h.length 0 2 2 0,h ++ [.cells [.int .i64 a,.int .i64 b]],false):=xk
theorem qEG (x:Int):orI x 0 = x:=by
 unfold orI
 split <;> omega
theorem or4 (a b c d:Int) (h:List qb) (R:Nat) (hr:h[R]? = some (.cells [.int .i64 a,.int .i64 b,.int .i64 c,.int .i64 d])):Wd (.fn 108 [] []) [.sl R 0 4 4 0] h = some (.ret (.int .i64 (orI a (orI b (orI c d)))),h,false):=by
 have:=qEH [a,b,c,d] (by simp) h R hr
 simpa [qdD,qEG] using this
theorem qih {H:Nat->Option qb} {k n:Int} {s:Str} {l:List Val} (hl:l.length <= 4) (ho:∀x ∈ l,Ord H x):Ord H (.mk k n s l):=by
 rintro ⟨k',n',s',l'⟩ cs ds g ⟨d,J⟩ hv E hg
 obtain ⟨M,hit⟩:=qdN J
 obtain ⟨L,rfl,hL⟩:=hv.lp
 obtain ⟨L',rfl,B⟩:=E.lp
 obtain ⟨d1,s1,w1,n1⟩:=hL.facts
 obtain ⟨d2,s2,w2,n2⟩:=B.facts
 have I:=qrs zo hL B ho zo hit (g ++ [.cells [.int .i64 k,.int .i64 n,.str s,L],.cells [.int .i64 k',.int .i64 n',.str s',L']]) (hg.more _)
 have h1:=λ(g:List qb) a b=>qoM (g:=g) a b
 have h2:=λ(g:List qb) a b=>qzx (g:=g) a b
 have h4:=or4 (qeB k k') (qeB n n') (qgm s s') (qfg l l') (g ++ [.cells [.int .i64 k,.int .i64 n,.str s,L],.cells [.int .i64 k',.int .i64 n',.str s',L'],.cells [.int .i64 (qeB k k'),.int .i64 (qeB n n'),.int .i64 (qgm s s'),.int .i64 (qfg l l')]]) (g.length + 2) (by rw [qQ];rfl)
 generalize hw:Wd _ _ g = w
 rw [qi 81 c81] at hw
 simp only [sA.1,c81,seval,d1,d2,s1,s2,w1,w2,h1,h2,I,qEv,h4] at hw
 subst hw
 rw [qgo]
theorem qu1:∀d,∀{H:Nat->Option qb} {v:Val},qu d v = true->Ord H v:=by
 intro d
 induction d with
 | zero=>
  rintro H ⟨k,n,s,l⟩ h0
  have hl:=qa5 h0
  subst hl
  exact qih (by simp) λx hx=>by cases hx
 | succ d ih=>
  rintro H ⟨k,n,s,l⟩ h0
  rw [qu] at h0
  cases h3:(k == 3) with
  | true=>
   rw [h3,cond_true] at h0
   simp only [jm,decide_eq_true_eq,List.all_eq_true] at h0
   exact qih h0.1.2.2 λx hx=>ih (h0.2 x hx)
  | false=>
   rw [h3,cond_false] at h0
   have hl:=qa5 h0
   subst hl
   exact qih (by simp) λx hx=>by cases hx
def qlq (v w:Val):Int:=bif qu 3 v && qu 3 w then qgo v w else 0
theorem qz2 {H:Nat->Option qb} {v w:Val} {cs ds:List qa} (hv:At H v cs) (hw:At H w ds) (g:List qb) (hg:Cov H g):Wd (.fn 56 [] []) [.agg cs,.agg ds] g = some (.ret (.int .i64 (qlq v w)),g,false):=by
 have r1:=qeE hv (g ++ [.cells cs,.cells ds]) (hg.more _)
 have r2:=qeE hw (g ++ [.cells cs,.cells ds]) (hg.more _)
 have r3:=λ(h0:qu 3 v = true) (h1:qu 3 w = true)=>qu1 3 h0 w cs ds (g ++ [.cells cs,.cells ds]) ⟨3,h1⟩ hv hw (hg.more _)
 unfold qlq
 generalize qgo v w = z at *
 generalize qu 3 v = a at *
 generalize qu 3 w = b at *
 obtain ⟨k,n,s,l,L,rfl,rfl,S,M,J,_⟩:=hv.cells
 obtain ⟨k',n',s',l',L',rfl,rfl,I,E,B,_⟩:=hw.cells
 rw [qi 56 c56]
 cases a with
 | false=>simp only [sB.1,c56,seval,S,M,J,I,E,B,r1,cond_false,jQ]
 | true=>
  cases b with
  | false=>simp only [sB.1,c56,seval,S,M,J,I,E,B,r1,r2,cond_false,Bool.and_false]
  | true=>
   have r3:=r3 rfl rfl
   simp only [sB.1,c56,seval,S,M,J,I,E,B,r1,r2,r3,cond_true,jA]
end Go.Proofs.YtnibchoenjmmjaaGreatDoor.AE
namespace Go.AE
section
variable {k:Nat}
theorem qk1:∀{vs:List (List qa)} {i:Nat} {x:List qa},(∀v ∈ vs,v.length = k)->i < vs.length->x.length = k->splice vs.flatten (i * k) x = (vs.set i x).flatten:=by
 intro vs
 induction vs with
 | nil=>intro i x _ hi;simp at hi
 | cons v vs ih=>
  intro i x hk hi hx
  have hv:=hk v jJ
  cases i with
  | zero=>
   simp only [splice,Nat.zero_mul,List.take_zero,j4,Nat.zero_add,List.flatten_cons,List.set_cons_zero]
   rw [List.drop_left' (by rw [hv,hx])]
  | succ i=>
   have:=ih (i:=i) (x:=x) (λy hy=>hk y (jN _ hy)) (by simp at hi;omega) hx
   simp only [splice] at this ⊢
   rw [List.set_cons_succ,List.flatten_cons,List.flatten_cons,<-this,Nat.succ_mul,Nat.add_comm (i * k) k,<-hv,List.take_length_add_append,show v.length + i * v.length + x.length = v.length + (i * v.length + x.length) by omega,List.drop_length_add_append]
   simp only [jr]
end
end Go.AE
namespace Go.Proofs.YtnibchoenjmmjaaGreatDoor.AE
open Go.AE
inductive VR (H:Nat->Option qb):Val->List qa->Prop
 | leaf (k n:Int) (s:Str):VR H (.mk k n s []) [.int .i64 k,.int .i64 n,.str s,.lst [] .full]
 | node (k n:Int) (s:Str) (l:List Val) (id:Nat) (ess:List (List qa)):l ≠ []->H id = some (.cells ess.flatten)->ess.length = l.length->(∀(i:Nat) (h:i < l.length) (h':i < ess.length),VR H l[i] ess[i])->
   VR H (.mk k n s l) [.int .i64 k,.int .i64 n,.str s,.sl id 0 l.length l.length 0]
theorem VR.mono {H H':Nat->Option qb} (B:∀i x,H i = some x->H' i = some x) {v:Val} {cs:List qa} (h:VR H v cs):VR H' v cs:=by
 induction h with
 | leaf k n s=>exact .leaf k n s
 | node k n s l id ess h1 h2 h3 _ ih=>exact .node k n s l id ess h1 (B _ _ h2) h3 ih
theorem VR.cells {H:Nat->Option qb} {v:Val} {cs:List qa} (h:VR H v cs):∃k n s l L,v = .mk k n s l/\cs = [.int .i64 k,.int .i64 n,.str s,L]/\L.dim = L/\L.storable = true/\(∀i t,qo L i t = t)/\qbG false L = some (.int .i64 l.length):=by
 cases h with
 | leaf k n s=>exact ⟨k,n,s,[],_,rfl,rfl,rfl,rfl,λ_ _=>rfl,rfl⟩
 | node k n s l id ess=>exact ⟨k,n,s,l,_,rfl,rfl,rfl,rfl,λ_ _=>rfl,rfl⟩
theorem VR.length {H:Nat->Option qb} {v:Val} {cs:List qa} (h:VR H v cs):cs.length = 4:=by
 obtain ⟨k,n,s,l,L,rfl,rfl,_⟩:=h.cells
 rfl
theorem VR.dims {H:Nat->Option qb} {v:Val} {cs:List qa} (h:VR H v cs):∀c ∈ cs,c.dim = c:=by
 obtain ⟨k,n,s,l,L,rfl,rfl,hd,_⟩:=h.cells
 intro c hc
 simp only [List.mem_cons,List.not_mem_nil,or_false] at hc
 rcases hc with rfl | rfl | rfl | rfl <;> first | rfl | exact hd
theorem VR.stor {H:Nat->Option qb} {v:Val} {cs:List qa} (h:VR H v cs):cs.all qa.storable = true:=by
 obtain ⟨k,n,s,l,L,rfl,rfl,hd,hs,_⟩:=h.cells
 simp only [jH,List.all_nil,hs,qlV,qlW,jA]
theorem VR.elems {H:Nat->Option qb} {l:List Val} {ess:List (List qa)} (hl:ess.length = l.length) (hv:∀(i:Nat) (h:i < l.length) (h':i < ess.length),VR H l[i] ess[i]):(∀e ∈ ess,e.length = 4)/\∀(i:Nat) (h':i < ess.length),cut ess.flatten (i * 4) (some 4) = some (.agg ess[i]):=by
 have h1:∀e ∈ ess,e.length = 4:=λe he=>by
  obtain ⟨i,hi,rfl⟩:=List.getElem_of_mem he
  exact (hv i zo hi).length
 exact ⟨h1,λi h'=>qdS h1 h' (hv i zo h').dims⟩
theorem VR.at {H:Nat->Option qb} {v:Val} {cs:List qa} (h:VR H v cs):At H v cs:=by
 induction h with
 | leaf k n s=>exact .lst k n s [] [] .full (.inr rfl) rfl λi h=>by simp at h
 | node k n s l id ess h1 h2 h3 _ ih=>exact .sl k n s l ess id 0 h2 h3 ih
theorem qeu (n:Nat) (v:qa) (H:List qb):qaU n (.ret v) H false = bif v.lower n then (.ret v,H.take n,false) else (.ret v,H,false):=qyn n v H
theorem qcJ {a b:Nat} (h:b <= a):Nat.blt a b = false:=Bool.eq_false_iff.2 λe=>by
 have:a + 1 <= b:=Nat.le_of_ble_eq_true e
 omega
def qcG (n:Nat) (h:List qb):Nat->Option qb:=λi=>if n <= i then h[i]? else none
theorem qP {n i:Nat} {h:List qb} (hi:n <= i):qcG n h i = h[i]?:=if_pos hi
theorem qaD {n i:Nat} {h:List qb} (hi:¬ n <= i):qcG n h i = none:=if_neg hi
theorem qh3 {h X:List qb} {a:qb} {i:Nat} (hi:h.length + 1 <= i):(h ++ a :: X)[i]? = X[i - (h.length + 1)]?:=by
 rw [jc zo,show i - h.length = (i - (h.length + 1)) + 1 by omega,List.getElem?_cons_succ]
theorem qjp {h X Y:List qb} {a b:qb} {i:Nat} {x:qb} (hx:qcG (h.length + 1) (h ++ a :: X) i = some x):qcG (h.length + 1) (h ++ b :: (X ++ Y)) i = some x:=by
 by_cases hi:h.length + 1 <= i
 ·rw [qP hi,qh3 hi] at hx ⊢
  have:=(List.getElem?_eq_some_iff.1 hx).1
  rw [List.getElem?_append_left this,hx]
 ·rw [qaD hi] at hx
  cases hx
theorem qrt {h X Y:List qb} {a b:qb} {n i:Nat} {x:qb} (hn:h.length + 1 <= n) (hx:qcG n (h ++ a :: (X ++ Y)) i = some x):qcG (h.length + 1) (h ++ b :: (X ++ Y)) i = some x:=by
 by_cases hi:n <= i
 ·rw [qP hi,qh3 zo] at hx
  rw [qP zo,qh3 zo,hx]
 ·rw [qaD hi] at hx
  cases hx
def qfe:List qa:=[.int .i64 0,.int .i64 0,.str [],.lst [] .full]
def qvK (H:Nat->Option qb) (v:Val):Prop:=∀vs h,At H v vs->Cov H h->∃cs m,Wd (.fn 27 [] []) [.agg vs] h = some (.ret (.agg cs),h ++ m,false)/\VR (qcG h.length (h ++ m)) v cs
theorem mk4 {base n:Nat} {h:List qb} (hn:n <= 4):hop base (.mk 4 [.int .i64 0,.int .i64 0,.str [],.lst [] .full]) [.int .i64 (n:Nat),.int .i64 (n:Nat)] h = some (.sl h.length 0 n n 0,h ++ [.cells (List.replicate n qfe).flatten],false):=by
 simp only [hop]
 rw [if_pos ⟨zo,zo,zo,rfl⟩,Int.toNat_natCast]
 have e:((List.replicate n [qa.int .i64 0,.int .i64 0,.str [],.lst [] .full]).flatten).map qa.dim = (List.replicate n qfe).flatten:=qcM λc hc=>by
  obtain ⟨v,hv,B⟩:=List.mem_flatten.1 hc
  rw [List.eq_of_mem_replicate hv] at B
  simp only [List.mem_cons,List.not_mem_nil,or_false] at B
  rcases B with rfl | rfl | rfl | rfl <;> rfl
 rw [e]
theorem qsM {n:Nat}:∀v ∈ List.replicate n qfe,v.length = 4:=λv hv=>by
 rw [List.eq_of_mem_replicate hv]
 rfl
theorem qxw {H:Nat->Option qb} {l:List Val} {Z:qa} (hZ:LP H l Z) (hl:l.length <= 4) (aB:l ≠ []) (hc:∀x ∈ l,qvK H x) (h:List qb) (hg:Cov H h):∃(m:List qb) (ess:List (List qa)),Wd (.fn 58 [] []) [Z,.fn 27 [] []] h = some (.ret (.sl h.length 0 l.length l.length 0),h ++ .cells ess.flatten :: m,false)/\
  ess.length = l.length/\∀(i:Nat) (h1:i < l.length) (h2:i < ess.length),VR (qcG (h.length + 1) (h ++ .cells ess.flatten :: m)) l[i] ess[i]:=by
 obtain ⟨a7,aO,a6,ai⟩:=hZ.facts
 have loop:∀k st,(∃(tt:List qa) (i:Nat) (es:List (List qa)) (B:List qb),st = ⟨tt,h ++ .cells (es ++ List.replicate k qfe).flatten :: B,false⟩/\tt.length = 29/\lkp tt 1 = .fn 27 [] []/\lkp tt 5 = .sl h.length 0 l.length l.length 0/\lkp tt 14 = Z/\lkp tt 15 = .int .i64 (l.length:Nat)/\lkp tt 16 = .int .i64 (i:Nat)/\i + k = l.length/\es.length = i/\(∀e ∈ es,e.length = 4)/\
    ∀(j:Nat) (h1:j < l.length) (h2:j < es.length),VR (qcG (h.length + 1) (h ++ .dead :: B)) l[j] es[j])->
   ∃x E,qm h.length Wd (.loop qm9) st = some (x,E)/\(x = .exit 0/\∃(tt:List qa) (es:List (List qa)) (B:List qb),E = ⟨tt,h ++ .cells es.flatten :: B,false⟩/\tt.length = 29/\lkp tt 5 = .sl h.length 0 l.length l.length 0/\es.length = l.length/\
    ∀(j:Nat) (h1:j < l.length) (h2:j < es.length),VR (qcG (h.length + 1) (h ++ .dead :: B)) l[j] es[j]):=by
  refine qy _ (λx E=>x = .exit 0/\∃(tt:List qa) (es:List (List qa)) (B:List qb),E = ⟨tt,h ++ .cells es.flatten :: B,false⟩/\tt.length = 29/\lkp tt 5 = .sl h.length 0 l.length l.length 0/\es.length = l.length/\
    ∀(j:Nat) (h1:j < l.length) (h2:j < es.length),VR (qcG (h.length + 1) (h ++ .dead :: B)) l[j] es[j]) ?_
  rintro k st ⟨tt,i,es,B,rfl,ht,e1,e5,ak,a8,aj,aN,I,af,M⟩
  generalize he:qm h.length Wd qm9 _ = r
  rcases Nat.lt_or_ge i l.length with hi | hi
  ·obtain ⟨k',rfl⟩ :∃k',k = k' + 1:=⟨k - 1,zo⟩
   have c1:ilt (i:Int) (l.length:Int) = true:=by rw [qf];simp;omega
   have w:=qag (n:=i) zo
   obtain ⟨row,J⟩ :∃row,row = (es ++ List.replicate (k' + 1) qfe).flatten:=⟨_,rfl⟩
   rw [<-J] at he
   obtain ⟨pp,vs,hx,ac,aE,_,aa⟩:=hZ.item hi hg
   have aA:∀i t,qo pp i t = t:=λi t=>by rw [<-ac];exact qH _ _ _
   obtain ⟨cs,m,a1,U⟩:=hc l[i] (List.getElem_mem hi) vs (h ++ (qb.cells row :: B ++ [.cells vs])) aa (hg.more _)
   obtain ⟨K',N',S',aM,L',aP,az,av,au,ar,_⟩:=aa.cells
   obtain ⟨K,N,S,zs,L,hL,ah,aL,aK,aJ,_⟩:=U.cells
   have ad:∀v ∈ es ++ List.replicate (k' + 1) qfe,v.length = 4:=λv hv=>by
    rcases jM.1 hv with hv | hv
    ·exact af v hv
    ·exact qsM v hv
   have ae:i < (es ++ List.replicate (k' + 1) qfe).length:=by simp;omega
   have aD:i * 4 + 4 <= row.length:=by rw [J];exact qkc ad ae
   have ab:splice row (i * 4) cs = ((es ++ [cs]) ++ List.replicate k' qfe).flatten:=by
    rw [J,qk1 ad ae U.length,List.set_append_right _ _ zo,I,Nat.sub_self]
    simp [List.replicate_succ]
   have ay:qaW 4 (.sl h.length 0 l.length l.length 0) (.int .i64 (i:Nat)) = some (.ptr h.length (i * 4)):=qcC hi
   subst az
   simp only [jr,jB,j4] at a1
   rw [ah] at a1 ab
   have ap:∀q:List qb,(h ++ qb.cells row :: q).length = h.length + (q.length + 1):=λq=>by simp
   have aI:Nat.ble h.length (h.length + (B.length + 1)) = true:=qe zo
   have aH:Nat.ble h.length h.length = true:=qe (Nat.le_refl _)
   simp only [sB.1,qm9,seval,ht,e1,e5,ak,a8,aj,c1,w,hx,ac,aA,aE,a7,a6,av,au,ar,ay,ap,aI,aH,aL,aK,aJ,a1,aD,q9,jZ] at he
   have am:List.take (i * 4) row ++ qa.int .i64 K :: qa.int .i64 N :: qa.str S :: L :: List.drop (i * 4 + 4) row = ((es ++ [[.int .i64 K,.int .i64 N,.str S,L]]) ++ List.replicate k' qfe).flatten:=by
    rw [<-ab]
    simp [splice]
   rw [am] at he
   subst he
   simp only [jr,jB,j4] at U
   have al:∀(j:Nat) (h1:j < l.length) (h2:j < (es ++ [[.int .i64 K,.int .i64 N,.str S,L]]).length),VR (qcG (h.length + 1) (h ++ .dead :: (B ++ qb.cells [.int .i64 K',.int .i64 N',.str S',L'] :: m))) l[j] (es ++ [[.int .i64 K,.int .i64 N,.str S,L]])[j]:=λj h1 h2=>by
    by_cases hj:j < es.length
    ·rw [List.getElem_append_left hj]
     exact (M j h1 hj).mono λ_ _ hx=>qjp hx
    ·have aG:j = i:=by simp at h2;omega
     subst aG
     rw [List.getElem_append_right zo]
     simp only [I,Nat.sub_self,List.getElem_cons_zero]
     rw [<-ah]
     refine U.mono λ_ _ hx=>qrt (n:=(h ++ qb.cells row :: (B ++ [qb.cells [qa.int .i64 K',.int .i64 N',.str S',L']])).length) (a:=.cells row) (by simp) ?_
     simpa using hx
   refine .inl ⟨_,k',rfl,zo,_,i + 1,es ++ [[.int .i64 K,.int .i64 N,.str S,L]],B ++ qb.cells [.int .i64 K',.int .i64 N',.str S',L'] :: m,rfl,Y0,?_,?_,?_,?_,?_,zo,by simp [I],?_,al⟩
   ·simp only [sB.1,seval,ht,e1]
   ·simp only [sB.1,seval,ht,e5]
   ·simp only [sB.1,seval,ht,ak]
   ·simp only [sB.1,seval,ht,a8]
   ·simp only [sB.1,seval,ht]
   ·intro e he
    rcases jM.1 he with he | he
    ·exact af e he
    ·simp only [List.mem_singleton] at he
     rw [he]
     rfl
  ·have c1:ilt (i:Int) (l.length:Int) = false:=by rw [qf];simp;omega
   have aF:k = 0:=zo
   subst aF
   simp only [sB.1,qm9,seval,ht,a8,aj,c1] at he
   subst he
   refine .inr ⟨_,_,rfl,by simp,rfl,_,es,B,rfl,Y0,?_,zo,M⟩
   simp only [sB.1,seval,ht,e5]
 have d1:((l.length:Int) == 0) = false:=by
  have:=List.length_pos_iff.2 aB
  simp;omega
 generalize hw:Wd _ _ h = w
 have aC:=λb g=>mk4 (base:=b) (h:=g) hl
 rw [qi 58 c58] at hw
 simp only [sA.1,c58,seval,a7,a6,ai,d1,aC] at hw
 generalize hr:qm h.length Wd (.loop qm9) _ = r at hw
 obtain ⟨x,E,rfl,rfl,tt,es,B,rfl,ht,e5,I,M⟩:=known hr (loop l.length _ ⟨_,0,[],[],rfl,X1,X1,X1,by simp only [sB.1,seval,a7,a6],by simp only [sB.1,seval,ai],X2,zo,rfl,by simp,λj _ h2=>by simp at h2⟩)
 simp only [sB.1,seval,ht,e5,q9,qz] at hw
 subst hw
 refine ⟨B,es,?_,I,λi h1 h2=>(M i h1 h2).mono λ_ _ hx=>?_⟩
 ·rw [qeu]
  simp [qM,qcJ (Nat.le_refl h.length)]
 ·have:=qjp (b:=.cells es.flatten) (Y:=[]) hx
  simpa using this
theorem qtu {H:Nat->Option qb} {Z:qa} (hZ:LP H [] Z) (h:List qb) (f:qa):Wd (.fn 58 [] []) [Z,f] h = some (.ret (.lst [] .full),h,false):=by
 obtain ⟨I,J,B,E⟩:=hZ.facts
 rw [qi 58 c58]
 have z:(((0:Nat):Int) == 0) = true:=xk
 have zl:([]:List Val).length = 0:=rfl
 simp only [sA.1,c58,seval,-Int.reduceNatCast',I,B,E,zl,z]
theorem qiH {H:Nat->Option qb} {k n:Int} {s:Str} {Z:qa} (hZ:LP H [] Z) (h:List qb):Wd (.fn 27 [] []) [.agg [.int .i64 k,.int .i64 n,.str s,Z]] h = some (.ret (.agg [.int .i64 k,.int .i64 n,.str s,.lst [] .full]),h,false):=by
 obtain ⟨I,E,B,J⟩:=hZ.facts
 have he:=λg f=>qtu hZ g f
 rw [qi 27 c27]
 have hb:∀j,Nat.ble h.length (h.length + j) = true:=λj=>qe zo
 simp only [sB.1,c27,seval,I,E,B,he,hb,jZ]
theorem qAt:∀d v,qu d v = true->∀{H:Nat->Option qb},qvK H v:=by
 intro d
 induction d with
 | zero=>
  rintro ⟨k,n,s,l⟩ h0 H vs h hv hg
  have hl:=qa5 h0
  subst hl
  obtain ⟨Z,rfl,hZ⟩:=hv.lp
  exact ⟨_,[],by rw [qiH hZ,jK],.leaf k n s⟩
 | succ d ih=>
  rintro ⟨k,n,s,l⟩ h0 H vs h hv hg
  obtain ⟨Z,rfl,hZ⟩:=hv.lp
  rw [qu] at h0
  cases h3:(k == 3) with
  | false=>
   rw [h3,cond_false] at h0
   have hl:=qa5 h0
   subst hl
   exact ⟨_,[],by rw [qiH hZ,jK],.leaf k n s⟩
  | true=>
   rw [h3,cond_true] at h0
   simp only [jm,decide_eq_true_eq,List.all_eq_true] at h0
   obtain ⟨⟨_,h1,h4⟩,I⟩:=h0
   have E:l ≠ []:=λe=>by rw [e] at h1;simp at h1
   obtain ⟨a1,U,S,a6⟩:=hZ.facts
   obtain ⟨m,ess,he,J,B⟩:=qxw hZ h4 E (λx hx=>ih x (I x hx)) (h ++ [.cells [.int .i64 k,.int .i64 n,.str s,Z],.cells [.int .i64 0,.int .i64 0,.str [],.lst [] .full]]) (hg.more _)
   generalize hw:Wd _ _ h = w
   rw [qi 27 c27] at hw
   have hb:∀j,Nat.ble h.length (h.length + j) = true:=λj=>qe zo
   have M:(h ++ [qb.cells [.int .i64 k,.int .i64 n,.str s,Z],.cells [.int .i64 0,.int .i64 0,.str [],.lst [] .full]]).length = h.length + 2:=by simp
   simp only [M,jr,jB,j4] at he B
   simp only [sB.1,c27,seval,he,hb,a1,U,S,q9,qz,qam,qO,qM,jZ] at hw
   subst hw
   refine ⟨[.int .i64 k,.int .i64 n,.str s,.sl (h.length + 2) 0 l.length l.length 0],.cells [.int .i64 k,.int .i64 n,.str s,.sl (h.length + 2) 0 l.length l.length 0] :: .cells [.int .i64 k,.int .i64 n,.str s,.sl (h.length + 2) 0 l.length l.length 0] :: .cells ess.flatten :: m,?_,VR.node _ _ _ l (h.length + 2) ess E ?_ J λi a b=>(B i a b).mono λj x hx=>?_⟩
   ·rw [qeu]
    simp only [qjc,qgQ,qhB,qjd,qjf,qM,qcJ (show h.length <= h.length + 2 by omega),Bool.and_false,jQ,jA,cond_false]
   ·rw [qP zo,jc zo,Nat.add_sub_cancel_left]
    rfl
   ·by_cases hj:h.length + 2 + 1 <= j
    ·rw [qP hj,jc zo,show j - h.length = (j - h.length - 3) + 3 by omega] at hx
     rw [qP zo,jc zo,show j - h.length = (j - h.length - 3) + 3 by omega]
     exact hx
    ·rw [qaD hj] at hx
     cases hx
def tpS:Nat->Tp->Prop
 | 0,.mk _ l=>l = []
 | d + 1,.mk _ l=>l.length <= 20/\∀x ∈ l,tpS d x
theorem qhb:∀{d:Nat} {t:Tp},tyB d t = true->tpS d t
 | 0,.mk k l,h=>by
  rw [tyB] at h
  cases h3:(ile 0 k && ile k 2) with
  | true=>
   rw [h3,cond_true] at h
   exact List.length_eq_zero_iff.1 (by have:=of_decide_eq_true h;omega)
  | false=>rw [h3] at h;cases h
 | d + 1,.mk k l,h=>by
  rw [tyB] at h
  cases h3:(ile 0 k && ile k 2) with
  | true=>
   rw [h3,cond_true] at h
   have:l = []:=List.length_eq_zero_iff.1 (by have:=of_decide_eq_true h;omega)
   subst this
   exact ⟨by simp,λx hx=>by cases hx⟩
  | false=>
   rw [h3,cond_false] at h
   simp only [jm,decide_eq_true_eq,List.all_eq_true] at h
   exact ⟨zo,λx hx=>qhb (h.2 x hx)⟩
theorem qlZ:∀{d:Nat} {t:Tp},tpS d t->tpS (d + 1) t
 | 0,.mk k l,h=>by
  have:l = []:=h
  subst this
  exact ⟨by simp,λx hx=>by cases hx⟩
 | d + 1,.mk k l,h=>⟨h.1,λx hx=>qlZ (h.2 x hx)⟩
theorem qBZ {d e:Nat} (h:d <= e) {t:Tp} (ht:tpS d t):tpS e t:=by
 induction h with
 | refl=>exact ht
 | step _ ih=>exact qlZ ih
def Tr (H:Nat->Option qb) (d:Nat) (t:Tp):Prop:=∀cs g,Ta H t cs->Cov H g->Wd (.fn 21 [] []) [.agg cs,.int .i64 (d:Nat)] g = some (.ret (.bool (tyB d t)),g,false)
theorem qzK:∀d,d <= 3->∀{H:Nat->Option qb} (t:Tp),Tr H d t:=by
 intro d
 induction d with
 | zero=>
  rintro _ H ⟨k,l⟩ cs g hv hg
  obtain ⟨L,rfl,hL⟩:=hv.lp
  obtain ⟨I,M,B,E⟩:=hL.facts
  have z0:(((0:Nat):Int) == 0) = true:=xk
  rw [tyB,qi 21 c21]
  cases h0:(ile 0 k && ile k 2) with
  | true=>simp only [sB.1,c21,seval,I,M,B,E,h0,cond_true]
  | false=>simp only [sB.1,c21,seval,-Int.reduceNatCast',I,M,B,E,h0,z0,cond_false,Bool.or_true,jZ]
 | succ d ih=>
  rintro hd H ⟨k,l⟩ cs h hv hg
  obtain ⟨L,rfl,hL⟩:=hv.lp
  obtain ⟨I,M,B,E⟩:=hL.facts
  have z0:(((d + 1:Nat):Int) == 0) = false:=by rw [beq_eq_false_iff_ne];omega
  rw [tyB]
  generalize hw:Wd _ _ h = w
  rw [qi 21 c21] at hw
  cases h0:(ile 0 k && ile k 2) with
  | true=>
   simp only [sB.1,c21,seval,I,M,B,E,h0] at hw
   rw [cond_true]
   exact hw.symm
  | false=>
   cases h3:(k == 3) with
   | false=>
    simp only [sB.1,c21,seval,I,M,B,E,h0,h3,j3,jZ] at hw
    simp only [cond_false,jQ]
    exact hw.symm
   | true=>
    cases hc:(ilt (l.length:Int) 1 || ilt 4 (l.length:Int)) with
    | true=>
     have e:(decide (1 <= l.length) && decide (l.length <= 4)) = false:=by
      simp only [Bool.or_eq_true,qf,decide_eq_true_eq] at hc
      rcases hc with hc | hc
      ·rw [decide_eq_false (show ¬ 1 <= l.length by omega)];simp
      ·rw [decide_eq_false (show ¬ l.length <= 4 by omega)];simp
     simp only [sB.1,c21,seval,I,M,B,E,h0,h3,z0,hc,jS,j0] at hw
     rw [cond_false,e,Bool.and_false,jQ]
     exact hw.symm
    | false=>
     simp only [Bool.or_eq_false_iff,qf,decide_eq_false_iff_not] at hc
     obtain ⟨g1,g2⟩:=hc
     obtain ⟨G,hG⟩ :∃G,G = h ++ [qb.cells [.int .i64 k,L]]:=⟨_,rfl⟩
     have U:G[h.length]? = some (.cells [.int .i64 k,L]):=by rw [hG,qF];rfl
     have a6:Cov H G:=by rw [hG];exact hg.more _
     have a1:G.take h.length = h:=by rw [hG];simp
     have loop:∀m st,(∃(tt:List qa) (i:Nat),st = ⟨tt,G,false⟩/\tt.length = 53/\lkp tt 1 = .int .i64 (d + 1:Nat)/\lkp tt 2 = .ptr h.length 0/\lkp tt 5 = .int .i64 (i:Nat)/\i + m = l.length/\l.all (tyB d) = (l.drop i).all (tyB d))->
       ∃x S,qm h.length Wd (.loop qko) st = some (x,S)/\(∃tt:List qa,S = ⟨tt,G,false⟩/\tt.length = 53/\((x = .exit 0/\l.all (tyB d) = true)\/(x = .ret/\lkp tt 4 = .bool false/\l.all (tyB d) = false))):=by
      refine qy _ _ ?_
      rintro m st ⟨tt,i,rfl,ht,e1,e2,e5,a7,J⟩
      generalize he:qm h.length Wd qko _ = r
      rcases Nat.lt_or_ge i l.length with hi | hi
      ·have c1:ilt (i:Int) (l.length:Int) = true:=by rw [qf];simp;omega
       have w:=qag (n:=i) zo
       have w1:IntKind.i64.wrap (((d + 1:Nat):Int) - 1) = ((d:Nat):Int):=by rw [qbt zo zo];omega
       obtain ⟨pp,cs,x1,x2,_,x3,x4⟩:=hL.item hi a6
       have x5:∀i t,qo pp i t = t:=λi t=>by rw [<-x2];exact qH _ _ _
       have hq:=ih zo l[i] cs G x4 a6
       rw [jX hi,jH] at J
       cases hb:tyB d l[i] with
       | true=>
        rw [hb] at hq J
        simp only [sB.1,qko,seval,ht,e1,e2,e5,c1,w,w1,U,I,B,E,x1,x2,x3,x5,hq] at he
        subst he
        refine .inl ⟨_,m - 1,rfl,zo,_,i + 1,rfl,Y0,?_,?_,?_,zo,by rw [J,jY]⟩
        ·simp only [sB.1,seval,ht,e1]
        ·simp only [sB.1,seval,ht,e2]
        ·simp only [sB.1,seval,ht]
       | false=>
        rw [hb] at hq J
        simp only [sB.1,qko,seval,ht,e1,e2,e5,c1,w,w1,U,I,B,E,x1,x2,x3,x5,hq] at he
        subst he
        refine .inr ⟨_,_,rfl,by simp,_,rfl,Y0,.inr ⟨rfl,?_,by rw [J,jQ]⟩⟩
        simp only [sB.1,seval,ht]
      ·have c1:ilt (i:Int) (l.length:Int) = false:=by rw [qf];simp;omega
       simp only [sB.1,qko,seval,ht,e1,e2,e5,c1,U,I,B,E] at he
       subst he
       rw [List.drop_eq_nil_of_le hi] at J
       exact .inr ⟨_,_,rfl,by simp,_,rfl,Y0,.inl ⟨rfl,J⟩⟩
     have y1:ilt (l.length:Int) 1 = false:=by rw [qf];simpa using g1
     have y2:ilt 4 (l.length:Int) = false:=by rw [qf];simpa using g2
     simp only [sB.1,c21,seval,I,M,B,E,h0,h3,y1,y2,z0] at hw
     generalize hr:qm h.length Wd (.loop qko) _ = r at hw
     obtain ⟨x,S,rfl,tt,rfl,ht,⟨rfl,ha⟩ | ⟨rfl,e4,ha⟩⟩:=known hr (loop l.length _ ⟨_,0,by rw [hG],X1,X1,X1,X2,zo,rfl⟩)
     ·simp only [sB.1,seval,ht] at hw
      subst hw
      rw [cond_false,ha,decide_eq_true (show 1 <= l.length by omega),decide_eq_true (show l.length <= 4 by omega)]
      exact congrArg some (q6 a1 rfl)
     ·simp only [sB.1,seval,ht,e4] at hw
      subst hw
      rw [cond_false,ha,Bool.and_false]
      exact congrArg some (q6 a1 rfl)
def St2 (H:Nat->Option qb) (a:Tp):Prop:=∀b cs ds g,Ta H a cs->Ta H b ds->Cov H g->Wd (.fn 37 [] []) [.agg cs,.agg ds] g = some (.ret (.bool (qaX a b)),g,false)
theorem qg4 {l l':List Tp} {i:Nat} (h1:i < l.length) (h2:i < l'.length):qbC (l.drop i) (l'.drop i) = (qaX l[i] l'[i] && qbC (l.drop (i + 1)) (l'.drop (i + 1))):=by
 rw [jX h1,jX h2,qbC]
theorem qlS {H:Nat->Option qb} {k:Int} {l:List Tp} (hl:l.length <= 20) (ho:∀x ∈ l,St2 H x):St2 H (.mk k l):=by
 rintro ⟨k',l'⟩ cs ds h hv a6 hg
 obtain ⟨L,rfl,hL⟩:=hv.lp
 obtain ⟨L',rfl,a1⟩:=a6.lp
 obtain ⟨d1,s1,w1,n1⟩:=hL.facts
 obtain ⟨d2,s2,w2,n2⟩:=a1.facts
 obtain ⟨G,hG⟩ :∃G,G = h ++ [qb.cells [.int .i64 k,L],.cells [.int .i64 k',L']]:=⟨_,rfl⟩
 have I:G[h.length]? = some (.cells [.int .i64 k,L]):=by rw [hG,qF];rfl
 have U:G[h.length + 1]? = some (.cells [.int .i64 k',L']):=by rw [hG,qQ];rfl
 have E:Cov H G:=by rw [hG];exact hg.more _
 have J:G.take h.length = h:=by rw [hG];simp
 rw [qaX]
 generalize hw:Wd _ _ h = w
 rw [qi 37 c37] at hw
 cases hk:(k == k') with
 | false=>
  simp only [sB.1,c37,seval,d1,d2,s1,s2,w1,w2,n1,n2,hk,j3,jZ] at hw
  rw [jQ]
  exact hw.symm
 | true=>
  cases hn:((l.length:Int) == (l'.length:Int)) with
  | false=>
   have M:l.length ≠ l'.length:=λe=>by rw [e,beq_self_eq_true] at hn;cases hn
   simp only [sB.1,c37,seval,d1,d2,s1,s2,w1,w2,n1,n2,hk,hn,j3,j0,jS] at hw
   rw [qfx M,Bool.and_false]
   exact hw.symm
  | true=>
   have M:l.length = l'.length:=by have:=of_decide_eq_true hn;omega
   have loop:∀q st,(∃(tt:List qa) (i:Nat),st = ⟨tt,G,false⟩/\tt.length = 39/\lkp tt 2 = .ptr h.length 0/\lkp tt 3 = .ptr (h.length + 1) 0/\lkp tt 5 = .int .i64 (i:Nat)/\i + q = l.length/\qbC l l' = qbC (l.drop i) (l'.drop i))->
     ∃x B,qm h.length Wd (.loop qkr) st = some (x,B)/\(∃tt:List qa,B = ⟨tt,G,false⟩/\tt.length = 39/\((x = .exit 0/\qbC l l' = true)\/(x = .ret/\lkp tt 4 = .bool false/\qbC l l' = false))):=by
    refine qy _ _ ?_
    rintro q st ⟨tt,i,rfl,ht,e2,e3,e5,a7,hf⟩
    generalize he:qm h.length Wd qkr _ = r
    rcases Nat.lt_or_ge i l.length with hi | hi
    ·have c1:ilt (i:Int) (l.length:Int) = true:=by rw [qf];simp;omega
     have w:=qag (n:=i) zo
     have S:i < l'.length:=zo
     obtain ⟨pp,cs,x1,x2,_,x3,x4⟩:=hL.item hi E
     obtain ⟨qq,ds,y1,y2,_,y3,y4⟩:=a1.item S E
     have x5:∀i t,qo pp i t = t:=λi t=>by rw [<-x2];exact qH _ _ _
     have y5:∀i t,qo qq i t = t:=λi t=>by rw [<-y2];exact qH _ _ _
     have hs:=ho _ (List.getElem_mem hi) _ cs ds G x4 y4 E
     rw [qg4 hi S] at hf
     cases hb:qaX l[i] l'[i] with
     | true=>
      rw [hb] at hs hf
      simp only [sB.1,qkr,seval,ht,e2,e3,e5,c1,w,I,U,d1,d2,w1,w2,n1,n2,x1,x2,x3,x5,y1,y2,y3,y5,hs] at he
      subst he
      refine .inl ⟨_,q - 1,rfl,zo,_,i + 1,rfl,Y0,?_,?_,?_,zo,by rw [hf,jY]⟩
      ·simp only [sB.1,seval,ht,e2]
      ·simp only [sB.1,seval,ht,e3]
      ·simp only [sB.1,seval,ht]
     | false=>
      rw [hb] at hs hf
      simp only [sB.1,qkr,seval,ht,e2,e3,e5,c1,w,I,U,d1,d2,w1,w2,n1,n2,x1,x2,x3,x5,y1,y2,y3,y5,hs] at he
      subst he
      refine .inr ⟨_,_,rfl,by simp,_,rfl,Y0,.inr ⟨rfl,?_,by rw [hf,jQ]⟩⟩
      simp only [sB.1,seval,ht]
    ·have c1:ilt (i:Int) (l.length:Int) = false:=by rw [qf];simp;omega
     simp only [sB.1,qkr,seval,ht,e2,e3,e5,c1,I,d1,w1,n1] at he
     subst he
     rw [List.drop_eq_nil_of_le hi,List.drop_eq_nil_of_le zo] at hf
     exact .inr ⟨_,_,rfl,by simp,_,rfl,Y0,.inl ⟨rfl,hf⟩⟩
   simp only [sB.1,c37,seval,d1,d2,s1,s2,w1,w2,n1,n2,hk,hn,j0] at hw
   generalize hr:qm h.length Wd (.loop qkr) _ = r at hw
   obtain ⟨x,B,rfl,tt,rfl,ht,⟨rfl,ha⟩ | ⟨rfl,e4,ha⟩⟩:=known hr (loop l.length _ ⟨_,0,by rw [hG],X1,X1,X1,X2,zo,rfl⟩)
   ·simp only [sB.1,seval,ht] at hw
    subst hw
    rw [ha]
    exact congrArg some (q6 J rfl)
   ·simp only [sB.1,seval,ht,e4] at hw
    subst hw
    rw [ha]
    exact congrArg some (q6 J rfl)
theorem qge:∀d,∀{H:Nat->Option qb} {a:Tp},tpS d a->St2 H a:=by
 intro d
 induction d with
 | zero=>
  rintro H ⟨k,l⟩ h0
  have hl:l = []:=h0
  subst hl
  exact qlS (by simp) λx hx=>by cases hx
 | succ d ih=>
  rintro H ⟨k,l⟩ h0
  exact qlS h0.1 λx hx=>ih (h0.2 x hx)
theorem qgs:∀(l:List Tp),∀x ∈ l,qbW x <= qdv l
 | a :: l,x,hx=>by
  rw [qdv]
  rcases List.mem_cons.1 hx with rfl | hx
  ·omega
  ·have:=qgs l x hx
   omega
theorem qf0 {n:Nat}:∀{l:List Tp},(∀x ∈ l,qbW x <= n)->qdv l <= n
 | [],_=>by rw [qdv];omega
 | a :: l,h=>by
  rw [qdv]
  have:=h a jJ
  have:=qf0 (l:=l) λx hx=>h x (jN _ hx)
  omega
theorem qvS:∀{d:Nat} {t:Tp},tpS d t->qbW t <= d + 1
 | 0,.mk k l,h=>by
  have:l = []:=h
  subst this
  rw [qbW,qdv]
  cases k == 3 <;> simp
 | d + 1,.mk k l,h=>by
  have:=qf0 (n:=d + 1) λx hx=>qvS (h.2 x hx)
  rw [qbW]
  cases k == 3 <;> simp only [cond_true,cond_false] <;> omega
def Dp (H:Nat->Option qb) (a:Tp):Prop:=∀cs g,Ta H a cs->Cov H g->Wd (.fn 78 [] []) [.agg cs] g = some (.ret (.int .i64 (qbW a:Nat)),g,false)
theorem qoX {H:Nat->Option qb} {k:Int} {l:List Tp} (hl:l.length <= 20) (hd:qdv l <= 1000) (ho:∀x ∈ l,Dp H x):Dp H (.mk k l):=by
 rintro cs h hv hg
 obtain ⟨L,rfl,hL⟩:=hv.lp
 obtain ⟨d1,s1,w1,n1⟩:=hL.facts
 obtain ⟨G,hG⟩ :∃G,G = h ++ [qb.cells [.int .i64 k,L]]:=⟨_,rfl⟩
 have B:G[h.length]? = some (.cells [.int .i64 k,L]):=by rw [hG,qF];rfl
 have J:Cov H G:=by rw [hG];exact hg.more _
 have I:G.take h.length = h:=by rw [hG];simp
 rw [qbW]
 generalize hw:Wd _ _ h = w
 rw [qi 78 c78] at hw
 have loop:∀q st,(∃(tt:List qa) (i n:Nat),st = ⟨tt,G,false⟩/\tt.length = 31/\lkp tt 1 = .ptr h.length 0/\lkp tt 3 = .int .i64 (n:Nat)/\lkp tt 4 = .int .i64 (i:Nat)/\i + q = l.length/\qdv l = max n (qdv (l.drop i)))->
   ∃x E,qm h.length Wd (.loop qkx) st = some (x,E)/\(x = .exit 0/\∃tt:List qa,E = ⟨tt,G,false⟩/\tt.length = 31/\lkp tt 1 = .ptr h.length 0/\lkp tt 3 = .int .i64 (qdv l:Nat)):=by
  refine qy _ _ ?_
  rintro q st ⟨tt,i,n,rfl,ht,e1,e3,e4,S,hf⟩
  generalize he:qm h.length Wd qkx _ = r
  rcases Nat.lt_or_ge i l.length with hi | hi
  ·have c1:ilt (i:Int) (l.length:Int) = true:=by rw [qf];simp;omega
   have w:=qag (n:=i) zo
   obtain ⟨pp,cs,x1,x2,_,x3,x4⟩:=hL.item hi J
   have x5:∀i t,qo pp i t = t:=λi t=>by rw [<-x2];exact qH _ _ _
   have hs:=ho _ (List.getElem_mem hi) cs G x4 J
   rw [jX hi,qdv] at hf
   cases hb:ilt (n:Int) ((qbW l[i]:Nat):Int) with
   | true=>
    have M:n < qbW l[i]:=by rw [qf,decide_eq_true_eq] at hb;omega
    simp only [sB.1,qkx,seval,ht,e1,e3,e4,c1,w,hb,B,d1,w1,n1,x1,x2,x3,x5,hs] at he
    subst he
    refine .inl ⟨_,q - 1,rfl,zo,_,i + 1,qbW l[i],rfl,Y0,?_,?_,?_,zo,zo⟩
    ·simp only [sB.1,seval,ht,e1]
    ·simp only [sB.1,seval,ht]
    ·simp only [sB.1,seval,ht]
   | false=>
    have M:¬ n < qbW l[i]:=by rw [qf,decide_eq_false_iff_not] at hb;omega
    simp only [sB.1,qkx,seval,ht,e1,e3,e4,c1,w,hb,B,d1,w1,n1,x1,x2,x3,x5,hs] at he
    subst he
    refine .inl ⟨_,q - 1,rfl,zo,_,i + 1,n,rfl,Y0,?_,?_,?_,zo,zo⟩
    ·simp only [sB.1,seval,ht,e1]
    ·simp only [sB.1,seval,ht,e3]
    ·simp only [sB.1,seval,ht]
  ·have c1:ilt (i:Int) (l.length:Int) = false:=by rw [qf];simp;omega
   simp only [sB.1,qkx,seval,ht,e1,e3,e4,c1,B,d1,w1,n1] at he
   subst he
   rw [List.drop_eq_nil_of_le hi,qdv] at hf
   have hn:qdv l = n:=zo
   rw [hn]
   refine .inr ⟨_,_,rfl,by simp,rfl,_,rfl,Y0,?_,?_⟩
   ·simp only [sB.1,seval,ht,e1]
   ·simp only [sB.1,seval,ht,e3]
 simp only [sB.1,c78,seval,d1,s1,w1] at hw
 generalize hr:qm h.length Wd (.loop qkx) _ = r at hw
 obtain ⟨x,E,rfl,rfl,tt,rfl,ht,e1,e3⟩:=known hr (loop l.length _ ⟨_,0,0,by rw [hG],X1,X1,X2,X2,zo,by simp⟩)
 have w2:=qag (n:=qdv l) zo
 cases hk:(k == 3) with
 | true=>
  simp only [sB.1,seval,ht,e1,e3,B,hk,w2] at hw
  subst hw
  exact congrArg some (q6 I rfl)
 | false=>
  simp only [sB.1,seval,ht,e1,e3,B,hk] at hw
  subst hw
  exact congrArg some (q6 I rfl)
theorem qxg:∀d,d <= 900->∀{H:Nat->Option qb} {a:Tp},tpS d a->Dp H a:=by
 intro d
 induction d with
 | zero=>
  rintro _ H ⟨k,l⟩ h0
  have hl:l = []:=h0
  subst hl
  exact qoX (by simp) (by simp [qdv]) λx hx=>by cases hx
 | succ d ih=>
  rintro hd H ⟨k,l⟩ h0
  have:=qf0 (n:=d + 1) λx hx=>qvS (h0.2 x hx)
  exact qoX h0.1 zo λx hx=>ih zo (h0.2 x hx)
end Go.Proofs.YtnibchoenjmmjaaGreatDoor.AE
