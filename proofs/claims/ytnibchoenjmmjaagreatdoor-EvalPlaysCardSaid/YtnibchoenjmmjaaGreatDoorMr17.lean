/- A part of the proof: the abstract executor and what goes through it (part 17). No condition. -/
import Derived.Test.YtnibchoenjmmjaaGreatDoorMr7
import Derived.Test.YtnibchoenjmmjaaGreatDoorMr16
import Derived.Test.YtnibchoenjmmjaaGreatDoorMr9
set_option maxRecDepth 100000
set_option maxHeartbeats 0
open List renaming drop_eq_getElem_cons→jV,length_map→jW
open Bool renaming and_eq_true→jk,true_and→jX,false_and→jN,not_true→j3,not_false→j4
namespace Go.Proofs.YtnibchoenjmmjaaGreatDoor.AE
open Go.AE
theorem qbY (n:Int) (nm sub:Str) (k:Nat):((!ile 0 n || !(nm == []) || !(sub == []) || ilt (k:Int) 0 || ilt 0 (k:Int)) = !(nB0 n nm sub k))/\((!(n == 0) || !(nm == []) || !(sub == []) || ilt (k:Int) 0 || ilt 0 (k:Int)) = !(nB1 n nm sub k))/\((!(n == 0) || !(nm == []) || !(sub == []) || ilt (k:Int) 0 || ilt 0 (k:Int)) = !(nB2 n nm sub k))/\((!(n == 0) || !qcX nm || !(sub == []) || ilt (k:Int) 0 || ilt 0 (k:Int)) = !(nB3 n nm sub k))/\((!(n == 0) || !qbp nm || !(sub == []) || ilt (k:Int) 0 || ilt 0 (k:Int)) = !(nB4 n nm sub k))/\((!(n == 0) || !qbp nm || !qbp sub || ilt (k:Int) 0 || ilt 0 (k:Int)) = !(nB5 n nm sub k))/\((!(n == 0) || !(nm == []) || !(sub == []) || ilt (k:Int) 1 || ilt 4 (k:Int)) = !(nB6 n nm sub k))/\((!(n == 0) || !qbp nm || !(sub == []) || ilt (k:Int) 0 || ilt 0 (k:Int)) = !(nB7 n nm sub k))/\((!(n == 0) || !qbp nm || !(sub == []) || ilt (k:Int) 0 || ilt 0 (k:Int)) = !(nB8 n nm sub k))/\((!(n == 0) || !qbp nm || !(sub == []) || ilt (k:Int) 0 || ilt 0 (k:Int)) = !(nB9 n nm sub k))/\((!(n == 0) || !qbp nm || !(sub == []) || ilt (k:Int) 1 || ilt 1 (k:Int)) = !(qyv n nm sub k))/\((!(n == 0) || !(nm == []) || !(sub == []) || ilt (k:Int) 0 || ilt 0 (k:Int)) = !(qyw n nm sub k))/\((!(ile 0 n && ile n 3) || !(nm == []) || !(sub == []) || ilt (k:Int) 1 || ilt 1 (k:Int)) = !(qyx n nm sub k))/\((!(n == 0) || !(nm == []) || !(sub == []) || ilt (k:Int) 1 || ilt 1 (k:Int)) = !(qyy n nm sub k))/\((!(n == 0) || !(nm == []) || !(sub == []) || ilt (k:Int) 1 || ilt 1 (k:Int)) = !(qyz n nm sub k))/\((!(n == 0) || !(nm == []) || !(sub == []) || ilt (k:Int) 2 || ilt 2 (k:Int)) = !(qyA n nm sub k))/\((!(n == 0) || !(nm == []) || !(sub == []) || ilt (k:Int) 2 || ilt 2 (k:Int)) = !(qyB n nm sub k))/\((!(n == 0) || !(nm == []) || !(sub == []) || ilt (k:Int) 2 || ilt 2 (k:Int)) = !(qyC n nm sub k))/\((!(n == 0) || !(nm == []) || !(sub == []) || ilt (k:Int) 2 || ilt 2 (k:Int)) = !(qyD n nm sub k))/\((!(n == 0) || !(nm == []) || !(sub == []) || ilt (k:Int) 2 || ilt 2 (k:Int)) = !(qyE n nm sub k))/\((!(n == 0) || !(nm == []) || !(sub == []) || ilt (k:Int) 2 || ilt 2 (k:Int)) = !(qyF n nm sub k))/\((!(n == 0) || !(nm == []) || !(sub == []) || ilt (k:Int) 2 || ilt 2 (k:Int)) = !(qyG n nm sub k))/\((!(n == 0) || !(nm == []) || !(sub == []) || ilt (k:Int) 2 || ilt 2 (k:Int)) = !(qyH n nm sub k))/\((!(n == 0) || !(nm == []) || !(sub == []) || ilt (k:Int) 2 || ilt 2 (k:Int)) = !(qyI n nm sub k))/\((!(n == 0) || !(nm == []) || !(sub == []) || ilt (k:Int) 2 || ilt 2 (k:Int)) = !(qyJ n nm sub k))/\((!(n == 0) || !(nm == []) || !(sub == []) || ilt (k:Int) 3 || ilt 3 (k:Int)) = !(qyK n nm sub k)):=by
 refine ⟨?_,?_,?_,?_,?_,?_,?_,?_,?_,?_,?_,?_,?_,?_,?_,?_,?_,?_,?_,?_,?_,?_,?_,?_,?_,?_⟩ <;> (
  simp only [nB0,nB1,nB2,nB3,nB4,nB5,nB6,nB7,nB8,nB9,qyv,qyw,qyx,qyy,qyz,qyA,qyB,qyC,qyD,qyE,qyF,qyG,qyH,qyI,qyJ,qyK,fB,qF7]
  rw [qpV,qpV]
  generalize ile _ (k:Int) = a1
  generalize ile (k:Int) _ = a2
  generalize (n == 0) = a3
  generalize (nm == []) = a4
  generalize (sub == []) = a5
  generalize ile 0 n = a6
  generalize ile n 3 = a7
  generalize qcX nm = a8
  generalize qbp nm = a9
  generalize qbp sub = b1
  revert a1 a2 a3 a4 a5 a6 a7 a8 a9 b1
  decide)
section
variable {d:Nat} {h:List qb}
def EXP (d:Nat) (h:List qb) (op:Int) (B:Int->Str->Str->Nat->Bool):Prop:=∀(n:Int) (nm sub:Str) (aS:List Exl),aS.length < 1000000000->(∀a ∈ aS,∃k,Fit k a)->Wd (.fn 45 [] []) [exV (.mk op n nm sub aS),.int .i64 (d + 1:Nat)] h = some (.ret (.bool (B n nm sub aS.length && aS.all (right d))),h,false)
theorem qfs (d:Nat):(((d + 1:Nat):Int) == 0) = false:=by rw [beq_eq_false_iff_ne];omega
theorem qaZ (hd:d < 100) (ih:qej d) {op n:Int} {nm sub:Str} {aS:List Exl} (hl:aS.length < 1000000000) (hf:∀a ∈ aS,∃k,Fit k a) {T:List qa} (t0:T.length = 126) (t1:lkp T 1 = .int .i64 (d + 1:Nat)) (t2:lkp T 2 = .ptr h.length 0) (E:lkp T 10 = .int .i64 0):qdQ [.tmp 4] h (qcV (qj h.length Wd ((qE.reg [⟨some 4,.asg (.c (.bool true)),none⟩]).seq .ret)) (qfj 1 (qj h.length Wd (.loop qiM) ⟨T,h ++ [.cells [.int .i64 op,.int .i64 n,.str nm,.str sub,.lst (aS.map exV) .no]],false⟩))) = some (.ret (.bool (aS.all (right d))),h,false):=by
 generalize hw:qdQ _ h _ = w
 generalize hr:qj h.length Wd (.loop qiM) _ = r at hw
 obtain ⟨x,I,rfl,tt,rfl,ht,hq⟩:=qaH hr (qxK hd ih hl hf aS.length _ ⟨_,0,rfl,t0,t1,t2,by rw [E];rfl,zo,rfl⟩)
 rcases hq with ⟨rfl,B⟩ | ⟨rfl,B,e4⟩
 ·simp only [sB.1,seval,ht] at hw
  rw [B]
  exact hw.symm
 ·simp only [sB.1,seval,ht,e4] at hw
  rw [B]
  exact hw.symm
theorem qFW (hd:d < 100) (ih:qej d):EXP d h 0 nB0:=by
 intro n nm sub aS hl hf
 have q:=(qbY n nm sub aS.length).1
 have z:ilt 0 0 = false/\ilt 25 0 = false:=⟨xk,xk⟩
 rw [qD,qm 45 c45]
 cases hb:nB0 n nm sub aS.length <;> rw [hb] at q <;> simp only [sB.1,c45,seval,qfs,z,jW,q8,qaj,q,j3,j4,jX,jN]
 apply qaZ hd ih hl hf <;> simp only [sB.1,seval]
theorem qFX (hd:d < 100) (ih:qej d):EXP d h 1 nB1:=by
 intro n nm sub aS hl hf
 have q:=(qbY n nm sub aS.length).2.1
 have z:ilt 1 0 = false/\ilt 25 1 = false:=⟨xk,xk⟩
 rw [qD,qm 45 c45]
 cases hb:nB1 n nm sub aS.length <;> rw [hb] at q <;> simp only [sB.1,c45,seval,qfs,z,jW,q8,qaj,q,j3,j4,jX,jN]
 apply qaZ hd ih hl hf <;> simp only [sB.1,seval]
theorem qFY (hd:d < 100) (ih:qej d):EXP d h 2 nB2:=by
 intro n nm sub aS hl hf
 have q:=(qbY n nm sub aS.length).2.2.1
 have z:ilt 2 0 = false/\ilt 25 2 = false:=⟨xk,xk⟩
 rw [qD,qm 45 c45]
 cases hb:nB2 n nm sub aS.length <;> rw [hb] at q <;> simp only [sB.1,c45,seval,qfs,z,jW,q8,qaj,q,j3,j4,jX,jN]
 apply qaZ hd ih hl hf <;> simp only [sB.1,seval]
theorem qFZ (hd:d < 100) (ih:qej d):EXP d h 3 nB3:=by
 intro n nm sub aS hl hf
 have q:=(qbY n nm sub aS.length).2.2.2.1
 have z:ilt 3 0 = false/\ilt 25 3 = false:=⟨xk,xk⟩
 rw [qD,qm 45 c45]
 cases hb:nB3 n nm sub aS.length <;> rw [hb] at q <;> simp only [sB.1,c45,seval,qfs,z,jW,q8,qaj,q,j3,j4,jX,jN]
 apply qaZ hd ih hl hf <;> simp only [sB.1,seval]
theorem qF0 (hd:d < 100) (ih:qej d):EXP d h 4 nB4:=by
 intro n nm sub aS hl hf
 have q:=(qbY n nm sub aS.length).2.2.2.2.1
 have z:ilt 4 0 = false/\ilt 25 4 = false:=⟨xk,xk⟩
 rw [qD,qm 45 c45]
 cases hb:nB4 n nm sub aS.length <;> rw [hb] at q <;> simp only [sB.1,c45,seval,qfs,z,jW,q8,qaj,q,j3,j4,jX,jN]
 apply qaZ hd ih hl hf <;> simp only [sB.1,seval]
theorem qF1 (hd:d < 100) (ih:qej d):EXP d h 5 nB5:=by
 intro n nm sub aS hl hf
 have q:=(qbY n nm sub aS.length).2.2.2.2.2.1
 have z:ilt 5 0 = false/\ilt 25 5 = false:=⟨xk,xk⟩
 rw [qD,qm 45 c45]
 cases hb:nB5 n nm sub aS.length <;> rw [hb] at q <;> simp only [sB.1,c45,seval,qfs,z,jW,q8,qaj,q,j3,j4,jX,jN]
 apply qaZ hd ih hl hf <;> simp only [sB.1,seval]
theorem qF2 (hd:d < 100) (ih:qej d):EXP d h 6 nB6:=by
 intro n nm sub aS hl hf
 have q:=(qbY n nm sub aS.length).2.2.2.2.2.2.1
 have z:ilt 6 0 = false/\ilt 25 6 = false:=⟨xk,xk⟩
 rw [qD,qm 45 c45]
 cases hb:nB6 n nm sub aS.length <;> rw [hb] at q <;> simp only [sB.1,c45,seval,qfs,z,jW,q8,qaj,q,j3,j4,jX,jN]
 apply qaZ hd ih hl hf <;> simp only [sB.1,seval]
theorem qF3 (hd:d < 100) (ih:qej d):EXP d h 7 nB7:=by
 intro n nm sub aS hl hf
 have q:=(qbY n nm sub aS.length).2.2.2.2.2.2.2.1
 have z:ilt 7 0 = false/\ilt 25 7 = false:=⟨xk,xk⟩
 rw [qD,qm 45 c45]
 cases hb:nB7 n nm sub aS.length <;> rw [hb] at q <;> simp only [sB.1,c45,seval,qfs,z,jW,q8,qaj,q,j3,j4,jX,jN]
 apply qaZ hd ih hl hf <;> simp only [sB.1,seval]
theorem qF4 (hd:d < 100) (ih:qej d):EXP d h 8 nB8:=by
 intro n nm sub aS hl hf
 have q:=(qbY n nm sub aS.length).2.2.2.2.2.2.2.2.1
 have z:ilt 8 0 = false/\ilt 25 8 = false:=⟨xk,xk⟩
 rw [qD,qm 45 c45]
 cases hb:nB8 n nm sub aS.length <;> rw [hb] at q <;> simp only [sB.1,c45,seval,qfs,z,jW,q8,qaj,q,j3,j4,jX,jN]
 apply qaZ hd ih hl hf <;> simp only [sB.1,seval]
end
section
variable {d:Nat} {h:List qb}
theorem qF5 (hd:d < 100) (ih:qej d):EXP d h 9 nB9:=by
 intro n nm sub aS hl hf
 have q:=(qbY n nm sub aS.length).2.2.2.2.2.2.2.2.2.1
 have z:ilt 9 0 = false/\ilt 25 9 = false:=⟨xk,xk⟩
 rw [qD,qm 45 c45]
 cases hb:nB9 n nm sub aS.length <;> rw [hb] at q <;> simp only [sB.1,c45,seval,qfs,z,jW,q8,qaj,q,j3,j4,jX,jN]
 apply qaZ hd ih hl hf <;> simp only [sB.1,seval]
theorem qC3 (hd:d < 100) (ih:qej d):EXP d h 10 qyv:=by
 intro n nm sub aS hl hf
 have q:=(qbY n nm sub aS.length).2.2.2.2.2.2.2.2.2.2.1
 have z:ilt 10 0 = false/\ilt 25 10 = false:=⟨xk,xk⟩
 rw [qD,qm 45 c45]
 cases hb:qyv n nm sub aS.length <;> rw [hb] at q <;> simp only [sB.1,c45,seval,qfs,z,jW,q8,qaj,q,j3,j4,jX,jN]
 apply qaZ hd ih hl hf <;> simp only [sB.1,seval]
theorem qC4 (hd:d < 100) (ih:qej d):EXP d h 11 qyw:=by
 intro n nm sub aS hl hf
 have q:=(qbY n nm sub aS.length).2.2.2.2.2.2.2.2.2.2.2.1
 have z:ilt 11 0 = false/\ilt 25 11 = false:=⟨xk,xk⟩
 rw [qD,qm 45 c45]
 cases hb:qyw n nm sub aS.length <;> rw [hb] at q <;> simp only [sB.1,c45,seval,qfs,z,jW,q8,qaj,q,j3,j4,jX,jN]
 apply qaZ hd ih hl hf <;> simp only [sB.1,seval]
theorem qC5 (hd:d < 100) (ih:qej d):EXP d h 12 qyx:=by
 intro n nm sub aS hl hf
 have q:=(qbY n nm sub aS.length).2.2.2.2.2.2.2.2.2.2.2.2.1
 have z:ilt 12 0 = false/\ilt 25 12 = false:=⟨xk,xk⟩
 rw [qD,qm 45 c45]
 cases hb:qyx n nm sub aS.length <;> rw [hb] at q <;> simp only [sB.1,c45,seval,qfs,z,jW,q8,qaj,q,j3,j4,jX,jN]
 apply qaZ hd ih hl hf <;> simp only [sB.1,seval]
theorem qC6 (hd:d < 100) (ih:qej d):EXP d h 13 qyy:=by
 intro n nm sub aS hl hf
 have q:=(qbY n nm sub aS.length).2.2.2.2.2.2.2.2.2.2.2.2.2.1
 have z:ilt 13 0 = false/\ilt 25 13 = false:=⟨xk,xk⟩
 rw [qD,qm 45 c45]
 cases hb:qyy n nm sub aS.length <;> rw [hb] at q <;> simp only [sB.1,c45,seval,qfs,z,jW,q8,qaj,q,j3,j4,jX,jN]
 apply qaZ hd ih hl hf <;> simp only [sB.1,seval]
theorem qC7 (hd:d < 100) (ih:qej d):EXP d h 14 qyz:=by
 intro n nm sub aS hl hf
 have q:=(qbY n nm sub aS.length).2.2.2.2.2.2.2.2.2.2.2.2.2.2.1
 have z:ilt 14 0 = false/\ilt 25 14 = false:=⟨xk,xk⟩
 rw [qD,qm 45 c45]
 cases hb:qyz n nm sub aS.length <;> rw [hb] at q <;> simp only [sB.1,c45,seval,qfs,z,jW,q8,qaj,q,j3,j4,jX,jN]
 apply qaZ hd ih hl hf <;> simp only [sB.1,seval]
theorem qC8 (hd:d < 100) (ih:qej d):EXP d h 15 qyA:=by
 intro n nm sub aS hl hf
 have q:=(qbY n nm sub aS.length).2.2.2.2.2.2.2.2.2.2.2.2.2.2.2.1
 have z:ilt 15 0 = false/\ilt 25 15 = false:=⟨xk,xk⟩
 rw [qD,qm 45 c45]
 cases hb:qyA n nm sub aS.length <;> rw [hb] at q <;> simp only [sB.1,c45,seval,qfs,z,jW,q8,qaj,q,j3,j4,jX,jN]
 apply qaZ hd ih hl hf <;> simp only [sB.1,seval]
theorem qC9 (hd:d < 100) (ih:qej d):EXP d h 16 qyB:=by
 intro n nm sub aS hl hf
 have q:=(qbY n nm sub aS.length).2.2.2.2.2.2.2.2.2.2.2.2.2.2.2.2.1
 have z:ilt 16 0 = false/\ilt 25 16 = false:=⟨xk,xk⟩
 rw [qD,qm 45 c45]
 cases hb:qyB n nm sub aS.length <;> rw [hb] at q <;> simp only [sB.1,c45,seval,qfs,z,jW,q8,qaj,q,j3,j4,jX,jN]
 apply qaZ hd ih hl hf <;> simp only [sB.1,seval]
theorem qDa (hd:d < 100) (ih:qej d):EXP d h 17 qyC:=by
 intro n nm sub aS hl hf
 have q:=(qbY n nm sub aS.length).2.2.2.2.2.2.2.2.2.2.2.2.2.2.2.2.2.1
 have z:ilt 17 0 = false/\ilt 25 17 = false:=⟨xk,xk⟩
 rw [qD,qm 45 c45]
 cases hb:qyC n nm sub aS.length <;> rw [hb] at q <;> simp only [sB.1,c45,seval,qfs,z,jW,q8,qaj,q,j3,j4,jX,jN]
 apply qaZ hd ih hl hf <;> simp only [sB.1,seval]
end
section
variable {d:Nat} {h:List qb}
theorem qDb (hd:d < 100) (ih:qej d):EXP d h 18 qyD:=by
 intro n nm sub aS hl hf
 have q:=(qbY n nm sub aS.length).2.2.2.2.2.2.2.2.2.2.2.2.2.2.2.2.2.2.1
 have z:ilt 18 0 = false/\ilt 25 18 = false:=⟨xk,xk⟩
 rw [qD,qm 45 c45]
 cases hb:qyD n nm sub aS.length <;> rw [hb] at q <;> simp only [sB.1,c45,seval,qfs,z,jW,q8,qaj,q,j3,j4,jX,jN]
 apply qaZ hd ih hl hf <;> simp only [sB.1,seval]
theorem qDc (hd:d < 100) (ih:qej d):EXP d h 19 qyE:=by
 intro n nm sub aS hl hf
 have q:=(qbY n nm sub aS.length).2.2.2.2.2.2.2.2.2.2.2.2.2.2.2.2.2.2.2.1
 have z:ilt 19 0 = false/\ilt 25 19 = false:=⟨xk,xk⟩
 rw [qD,qm 45 c45]
 cases hb:qyE n nm sub aS.length <;> rw [hb] at q <;> simp only [sB.1,c45,seval,qfs,z,jW,q8,qaj,q,j3,j4,jX,jN]
 apply qaZ hd ih hl hf <;> simp only [sB.1,seval]
theorem qDd (hd:d < 100) (ih:qej d):EXP d h 20 qyF:=by
 intro n nm sub aS hl hf
 have q:=(qbY n nm sub aS.length).2.2.2.2.2.2.2.2.2.2.2.2.2.2.2.2.2.2.2.2.1
 have z:ilt 20 0 = false/\ilt 25 20 = false:=⟨xk,xk⟩
 rw [qD,qm 45 c45]
 cases hb:qyF n nm sub aS.length <;> rw [hb] at q <;> simp only [sB.1,c45,seval,qfs,z,jW,q8,qaj,q,j3,j4,jX,jN]
 apply qaZ hd ih hl hf <;> simp only [sB.1,seval]
theorem qDe (hd:d < 100) (ih:qej d):EXP d h 21 qyG:=by
 intro n nm sub aS hl hf
 have q:=(qbY n nm sub aS.length).2.2.2.2.2.2.2.2.2.2.2.2.2.2.2.2.2.2.2.2.2.1
 have z:ilt 21 0 = false/\ilt 25 21 = false:=⟨xk,xk⟩
 rw [qD,qm 45 c45]
 cases hb:qyG n nm sub aS.length <;> rw [hb] at q <;> simp only [sB.1,c45,seval,qfs,z,jW,q8,qaj,q,j3,j4,jX,jN]
 apply qaZ hd ih hl hf <;> simp only [sB.1,seval]
theorem qDf (hd:d < 100) (ih:qej d):EXP d h 22 qyH:=by
 intro n nm sub aS hl hf
 have q:=(qbY n nm sub aS.length).2.2.2.2.2.2.2.2.2.2.2.2.2.2.2.2.2.2.2.2.2.2.1
 have z:ilt 22 0 = false/\ilt 25 22 = false:=⟨xk,xk⟩
 rw [qD,qm 45 c45]
 cases hb:qyH n nm sub aS.length <;> rw [hb] at q <;> simp only [sB.1,c45,seval,qfs,z,jW,q8,qaj,q,j3,j4,jX,jN]
 apply qaZ hd ih hl hf <;> simp only [sB.1,seval]
theorem qDg (hd:d < 100) (ih:qej d):EXP d h 23 qyI:=by
 intro n nm sub aS hl hf
 have q:=(qbY n nm sub aS.length).2.2.2.2.2.2.2.2.2.2.2.2.2.2.2.2.2.2.2.2.2.2.2.1
 have z:ilt 23 0 = false/\ilt 25 23 = false:=⟨xk,xk⟩
 rw [qD,qm 45 c45]
 cases hb:qyI n nm sub aS.length <;> rw [hb] at q <;> simp only [sB.1,c45,seval,qfs,z,jW,q8,qaj,q,j3,j4,jX,jN]
 apply qaZ hd ih hl hf <;> simp only [sB.1,seval]
theorem qDh (hd:d < 100) (ih:qej d):EXP d h 24 qyJ:=by
 intro n nm sub aS hl hf
 have q:=(qbY n nm sub aS.length).2.2.2.2.2.2.2.2.2.2.2.2.2.2.2.2.2.2.2.2.2.2.2.2.1
 have z:ilt 24 0 = false/\ilt 25 24 = false:=⟨xk,xk⟩
 rw [qD,qm 45 c45]
 cases hb:qyJ n nm sub aS.length <;> rw [hb] at q <;> simp only [sB.1,c45,seval,qfs,z,jW,q8,qaj,q,j3,j4,jX,jN]
 apply qaZ hd ih hl hf <;> simp only [sB.1,seval]
theorem qDi (hd:d < 100) (ih:qej d):EXP d h 25 qyK:=by
 intro n nm sub aS hl hf
 have q:=(qbY n nm sub aS.length).2.2.2.2.2.2.2.2.2.2.2.2.2.2.2.2.2.2.2.2.2.2.2.2.2
 have z:ilt 25 0 = false/\ilt 25 25 = false:=⟨xk,xk⟩
 rw [qD,qm 45 c45]
 cases hb:qyK n nm sub aS.length <;> rw [hb] at q <;> simp only [sB.1,c45,seval,qfs,z,jW,q8,qaj,q,j3,j4,jX,jN]
 apply qaZ hd ih hl hf <;> simp only [sB.1,seval]
end
theorem qDj {d:Nat} {h:List qb} {op:Int} (ho:¬ (0 <= op/\op <= 25)) (n:Int) (nm sub:Str) (aS:List Exl):Wd (.fn 45 [] []) [exV (.mk op n nm sub aS),.int .i64 (d + 1:Nat)] h = some (.ret (.bool false),h,false):=by
 have z0:(((d + 1:Nat):Int) == 0) = false:=by rw [beq_eq_false_iff_ne];omega
 rw [qD,qm 45 c45]
 by_cases h1:op < 0
 ·have z1:ilt op 0 = true:=by rw [qe];simpa using h1
  simp only [sB.1,c45,seval,z0,z1]
 ·have z1:ilt op 0 = false:=by rw [qe];simpa using h1
  have z2:ilt 25 op = true:=by rw [qe];simp;omega
  simp only [sB.1,c45,seval,z0,z1,z2]
theorem qFR:∀d,d <= 100->qej d:=by
 intro d
 induction d with
 | zero=>
  rintro _ ⟨op,n,nm,sub,aS⟩ h _
  have z0:(((0:Nat):Int) == 0) = true:=xk
  rw [qD,qm 45 c45,right]
  simp only [sB.1,c45,seval,z0]
 | succ d ih=>
  rintro hd ⟨op,n,nm,sub,aS⟩ h ⟨k,hk⟩
  have ih:=ih zo
  have hd:d < 100:=zo
  obtain ⟨k,rfl⟩ :∃k',k = k' + 1:=by cases k with | zero=>exact hk.elim | succ k=>exact ⟨k,rfl⟩
  have hl:aS.length < 1000000000:=by have:=hk.1;omega
  have hf:∀a ∈ aS,∃k,Fit k a:=λa ha=>⟨k,hk.2 a ha⟩
  rw [right]
  by_cases ho:0 <= op/\op <= 25
  ·have:op = 0\/op = 1\/op = 2\/op = 3\/op = 4\/op = 5\/op = 6\/op = 7\/op = 8\/op = 9\/op = 10\/op = 11\/op = 12\/op = 13\/op = 14\/op = 15\/op = 16\/op = 17\/op = 18\/op = 19\/op = 20\/op = 21\/op = 22\/op = 23\/op = 24\/op = 25:=zo
   rcases this with rfl | rfl | rfl | rfl | rfl | rfl | rfl | rfl | rfl | rfl | rfl | rfl | rfl | rfl | rfl | rfl | rfl | rfl | rfl | rfl | rfl | rfl | rfl | rfl | rfl | rfl
   ·exact qFW hd ih n nm sub aS hl hf
   ·exact qFX hd ih n nm sub aS hl hf
   ·exact qFY hd ih n nm sub aS hl hf
   ·exact qFZ hd ih n nm sub aS hl hf
   ·exact qF0 hd ih n nm sub aS hl hf
   ·exact qF1 hd ih n nm sub aS hl hf
   ·exact qF2 hd ih n nm sub aS hl hf
   ·exact qF3 hd ih n nm sub aS hl hf
   ·exact qF4 hd ih n nm sub aS hl hf
   ·exact qF5 hd ih n nm sub aS hl hf
   ·exact qC3 hd ih n nm sub aS hl hf
   ·exact qC4 hd ih n nm sub aS hl hf
   ·exact qC5 hd ih n nm sub aS hl hf
   ·exact qC6 hd ih n nm sub aS hl hf
   ·exact qC7 hd ih n nm sub aS hl hf
   ·exact qC8 hd ih n nm sub aS hl hf
   ·exact qC9 hd ih n nm sub aS hl hf
   ·exact qDa hd ih n nm sub aS hl hf
   ·exact qDb hd ih n nm sub aS hl hf
   ·exact qDc hd ih n nm sub aS hl hf
   ·exact qDd hd ih n nm sub aS hl hf
   ·exact qDe hd ih n nm sub aS hl hf
   ·exact qDf hd ih n nm sub aS hl hf
   ·exact qDg hd ih n nm sub aS hl hf
   ·exact qDh hd ih n nm sub aS hl hf
   ·exact qDi hd ih n nm sub aS hl hf
  ·rw [qhR ho,jN]
   exact qDj ho n nm sub aS
theorem qCy {op:Int} {k:Nat} (h:KA op k):k <= 4:=by unfold KA qgS at h;omega
theorem qlh (N:Nms) (hN:qzQ N):∀(d:Nat),d <= 100->∀e,right d e = true->KO N (qQ N d) e/\tpS (3 + d) (qQ N d e).1
 | 0,_,e,h=>by rw [right] at h;cases h
 | d + 1,hd,.mk op n nm sb aS,h=>by
  rw [right,jk,List.all_eq_true] at h
  have ha:∀a ∈ aS,KO N (qQ N d) a/\tpS (3 + d) (qQ N d a).1:=λa ha=>qlh N hN d zo a (h.2 a ha)
  have hl:=qCy (qc9 h.1).1
  refine ⟨λg=>?_,?_⟩
  ·rw [qQ]
   exact qqu N hN (qQ N d) op n nm sb aS (3 + d) zo h.1 ha
  ·rw [qQ]
   exact qqr (d:=3 + d) (λts h1 h2=>qye hN h1 h2) aS [] (λa h'=>(ha a h').2) (λt h=>by cases h) (by simp;omega)
def qfE (N:Nms) (e:Exl):qem:=bif right 20 e then qQ N 20 e else (qy,1)
theorem qwx (N:Nms) (hN:qzQ N) (e:Exl) (hf:∃k,Fit k e) (h:List qb):∃rs m,Wd (.fn 23 [] []) [exV e,.agg (qfR N)] h = some (.ret (.tup [.agg rs,.int .i64 (qfE N e).2]),h ++ m,false)/\Ta (qcx h.length (h ++ m)) (qfE N e).1 rs:=by
 have hr:=qFR 20 zo e (h ++ [.cells e.enc,.cells (qfR N),.cells [.int .i64 0,.lst [] .full]]) hf
 have E:((20:Nat):Int) = 20:=xk
 rw [E] at hr
 obtain ⟨op,n,nm,sb,aS⟩:=e
 have hB:Nat.ble h.length (h.length + 2) = true:=qf zo
 generalize hw:Wd _ _ h = w
 rw [qm 23 c23] at hw
 rw [qD,qb3,qfR] at hr
 rw [qD,qfR] at hw
 unfold qfE
 cases hq:right 20 (.mk op n nm sb aS) with
 | false=>
  rw [hq] at hr
  simp only [sA.1,c23,seval,hr] at hw
  subst hw
  exact ⟨_,[],by rw [List.append_nil];rfl,qgN _ 0⟩
 | true=>
  rw [hq] at hr
  obtain ⟨rs,m,hk,B⟩:=(qlh N hN 20 zo _ hq).1 (h ++ [.cells [.int .i64 op,.int .i64 n,.str nm,.str sb,.lst (aS.map exV) .no],.cells (qfR N),.cells [.int .i64 0,.lst [] .full]])
  rw [qD,qfR] at hk
  rw [cond_true]
  obtain ⟨kk,LL,rfl,ld,I,lw⟩:=B.two
  generalize qQ N 20 (.mk op n nm sb aS) = R at *
  simp only [sA.1,c23,seval,hr,hk,ld,I,lw,hB] at hw
  subst hw
  obtain ⟨M,hm,J⟩:=qh (h:=h) (b:=h.length + 3) (t:=R.1) (rs:=[.int .i64 kk,LL]) R.2 (F:=h ++ [.cells [.int .i64 op,.int .i64 n,.str nm,.str sb,.lst (aS.map exV) .no],.cells [.lst (N.vars.map nvV) .no,.lst (N.ports.map npV) .no,.bool N.bagq,.lst (N.oth.map nvV) .no],.cells [.int .i64 kk,LL]] ++ m) (B.mono λi x hx=>by
   by_cases hi:h.length + 3 <= i
   ·rw [qL (by simpa using hi)] at hx
    rw [qL hi]
    rw [List.getElem?_append_right (by simpa using hi)] at hx ⊢
    simpa using hx
   ·rw [qav (by simpa using hi)] at hx
    cases hx) zo (by simp)
  refine ⟨_,M,?_,J⟩
  rw [<-hm]
  simp
theorem qs6 (a b:Int):qei b a = -qei a b:=by
 unfold qei
 split <;> split <;> omega
theorem qif {a b:Int} (h:qei a b = 0):a = b:=by
 unfold qei at h
 split at h
 ·omega
 ·split at h <;> omega
theorem qza {x y x' y':Int} (h1:x' = -x) (h2:y' = -y):orI x' y' = -orI x y:=by
 subst h1;subst h2
 unfold orI
 by_cases h:x = 0
 ·rw [if_pos h,if_pos zo]
 ·rw [if_neg h,if_neg zo]
theorem quX {x y:Int} (h:orI x y = 0):x = 0/\y = 0:=by
 unfold orI at h
 by_cases hx:x = 0
 ·rw [if_pos hx] at h
  exact ⟨hx,h⟩
 ·rw [if_neg hx] at h
  exact absurd h hx
theorem qf6 (a b:UInt8) (x y:Str):qf5 (a :: x) (b :: y) = orI (qei a.toNat b.toNat) (qf5 x y):=by
 rw [qf5,Lib.compareBytes]
 unfold orI qei
 rcases Nat.lt_trichotomy a.toNat b.toNat with h | h | h
 ·rw [if_pos (UInt8.lt_iff_toNat_lt.2 h)]
  have:((a.toNat:Int) < b.toNat):=zo
  simp [this]
 ·have e1:¬ a < b:=by rw [UInt8.lt_iff_toNat_lt];omega
  have e2:¬ b < a:=by rw [UInt8.lt_iff_toNat_lt];omega
  have i1:¬ (a.toNat:Int) < b.toNat:=zo
  have i2:¬ (b.toNat:Int) < a.toNat:=zo
  rw [if_neg e1,if_neg e2,if_neg i1,if_neg i2]
  rfl
 ·have e1:¬ a < b:=by rw [UInt8.lt_iff_toNat_lt];omega
  have e2:b < a:=by rw [UInt8.lt_iff_toNat_lt];omega
  have i1:¬ (a.toNat:Int) < b.toNat:=zo
  have i2:(b.toNat:Int) < a.toNat:=zo
  rw [if_neg e1,if_pos e2,if_neg i1,if_pos i2]
  rfl
theorem qk4:∀a b:Str,qf5 b a = -qf5 a b
 | [],[]=>rfl
 | [],_ :: _=>rfl
 | _ :: _,[]=>rfl
 | a :: x,b :: y=>by
  rw [qf6,qf6]
  exact qza (qs6 _ _) (qk4 x y)
theorem qii:∀{a b:Str},qf5 a b = 0->a = b
 | [],[],_=>rfl
 | [],_ :: _,h=>by simp [qf5,Lib.compareBytes] at h
 | _ :: _,[],h=>by simp [qf5,Lib.compareBytes] at h
 | a :: x,b :: y,h=>by
  rw [qf6] at h
  obtain ⟨h1,h2⟩:=quX h
  have:=qif h1
  have e:a = b:=UInt8.toNat_inj.1 zo
  rw [e,qii h2]
theorem qAm:∀a b:Str,Op.bytesLess a b = decide (qf5 a b < 0)
 | [],[]=>rfl
 | _ :: _,[]=>by simp [Op.bytesLess,qf5,Lib.compareBytes]
 | [],_ :: _=>by simp [Op.bytesLess,qf5,Lib.compareBytes]
 | a :: x,b :: y=>by
  have ih:=qAm x y
  rw [Op.bytesLess,ih,qf5,Lib.compareBytes]
  by_cases h1:a < b
  ·simp [h1]
  ·by_cases h2:b < a
   ·have:¬ a = b:=λe=>by subst e;exact h1 h2
    simp [h1,h2,this]
   ·have:a = b:=UInt8.toNat_inj.1 (by rw [UInt8.lt_iff_toNat_lt] at h1 h2;omega)
    simp [h1,h2,this]
theorem qCJ (a b:Str):(a == b) = decide (qf5 a b = 0):=by
 rw [Bool.eq_iff_iff]
 simp only [beq_iff_eq,decide_eq_true_eq]
 exact ⟨λh=>by subst h;have:=qk4 a a;omega,qii⟩
theorem qih:∀a b:Str,qf5 a b = -1\/qf5 a b = 0\/qf5 a b = 1
 | [],[]=>.inr (.inl rfl)
 | [],_ :: _=>.inl rfl
 | _ :: _,[]=>.inr (.inr rfl)
 | a :: x,b :: y=>by
  rw [qf5,Lib.compareBytes]
  split
  ·exact .inl rfl
  ·split
   ·exact .inr (.inr rfl)
   ·exact qih x y
def qB6 (H:Nat->Option qb) (v:Val):Prop:=∀w cs ds g,(∃d,qr d w = true)->At H v cs->At H w ds->Cov H g->Wd (.fn 22 [] []) [.agg cs,.agg ds] g = some (.ret (.int .i64 (qf7 v w)),g,false)
theorem qoF {l l':List Val} {i:Nat} (h1:l.length <= i) (h2:i < l'.length):qeY (l.drop i) (l'.drop i) = -1:=by
 rw [List.drop_eq_nil_of_le h1,jV h2,qeY]
theorem qlW {l l':List Val} {i:Nat} (h1:i < l.length) (h2:l'.length <= i):qeY (l.drop i) (l'.drop i) = 1:=by
 rw [List.drop_eq_nil_of_le h2,jV h1,qeY]
theorem qoE {l l':List Val} {i:Nat} (h1:l.length <= i) (h2:l'.length <= i):qeY (l.drop i) (l'.drop i) = 0:=by
 rw [List.drop_eq_nil_of_le h1,List.drop_eq_nil_of_le h2,qeY]
def qwv (k n:Int) (s:Str) (L:qa) (k' n':Int) (s':Str) (L':qa):List qb:=[.cells [.int .i64 k,.int .i64 n,.str s,L],.cells [.int .i64 k',.int .i64 n',.str s',L']]
theorem qzi {H:Nat->Option qb} {k n k' n':Int} {s s':Str} {l l':List Val} {L L':qa} (hl:l.length <= 4) (af:l'.length <= 4) (hL:LP H l L) (aa:LP H l' L') (ho:∀x ∈ l,qB6 H x) (ab:∀x ∈ l',∃d,qr d x = true) (h:List qb) (hg:Cov H h) :
  ∀q st,(∃(tt:List qa) (i:Nat),st = ⟨tt,h ++ qwv k n s L k' n' s' L',false⟩/\tt.length = 75/\lkp tt 2 = .ptr h.length 0/\lkp tt 3 = .ptr (h.length + 1) 0/\lkp tt 5 = .int .i64 (i:Nat)/\i + q = max l.length l'.length/\qeY l l' = qeY (l.drop i) (l'.drop i))->
   ∃x a8,qj h.length Wd (.loop qhL) st = some (x,a8)/\(∃tt:List qa,a8 = ⟨tt,h ++ qwv k n s L k' n' s' L',false⟩/\tt.length = 75/\((x = .exit 0/\qeY l l' = 0)\/(x = .ret/\lkp tt 4 = .int .i64 (qeY l l')))):=by
 refine qx _ _ ?_
 rintro q st ⟨tt,i,rfl,ht,e2,e3,e5,ah,hf⟩
 generalize he:qj h.length Wd qhL _ = r
 obtain ⟨U,ae,E,J⟩:=hL.facts
 obtain ⟨S,ad,B,I⟩:=aa.facts
 have a7:Cov H (h ++ qwv k n s L k' n' s' L'):=hg.more _
 have O:(h ++ qwv k n s L k' n' s' L')[h.length]? = some (.cells [.int .i64 k,.int .i64 n,.str s,L]):=by rw [qY];rfl
 have M:(h ++ qwv k n s L k' n' s' L')[h.length + 1]? = some (.cells [.int .i64 k',.int .i64 n',.str s',L']):=by rw [qbb];rfl
 generalize hG:h ++ qwv k n s L k' n' s' L' = G at *
 rcases Nat.lt_or_ge i l.length with h1 | h1
 ·have c1:ilt (i:Int) (l.length:Int) = true:=by rw [qe];simp;omega
  have d1:ile (l.length:Int) (i:Int) = false:=by rw [qaI];simp;omega
  rcases Nat.lt_or_ge i l'.length with h2 | h2
  ·have d2:ile (l'.length:Int) (i:Int) = false:=by rw [qaI];simp;omega
   have w:=qaf (n:=i) zo
   obtain ⟨pp,cs,x1,x2,_,x3,x4⟩:=hL.item h1 a7
   obtain ⟨qq,ds,y1,y2,_,y3,y4⟩:=aa.item h2 a7
   have x5:∀i t,qz pp i t = t:=λi t=>by rw [<-x2];exact qad _ _ _
   have y5:∀i t,qz qq i t = t:=λi t=>by rw [<-y2];exact qad _ _ _
   have a6:=ho _ (List.getElem_mem h1) l'[i] cs ds G (ab _ (List.getElem_mem h2)) x4 y4 a7
   rw [qig h1 h2] at hf
   generalize l[i] = a at *
   generalize l'[i] = b at *
   cases hz:(qf7 a b == 0) with
   | true=>
    have a1:qf7 a b = 0:=by simpa using hz
    rw [a1] at hf a6
    have z0:(((0:Int)) == 0) = true:=xk
    simp only [sB.1,qhL,seval,ht,e2,e3,e5,O,M,c1,d1,d2,w,x1,x2,x3,x5,y1,y2,y3,y5,a6,z0,U,S,E,B,J,I] at he
    subst he
    refine .inl ⟨_,q - 1,rfl,zo,_,i + 1,rfl,Y0,?_,?_,?_,zo,?_⟩
    ·simp only [sB.1,seval,ht,e2]
    ·simp only [sB.1,seval,ht,e3]
    ·simp only [sB.1,seval,ht]
    ·rw [hf];rfl
   | false=>
    have a1:¬ qf7 a b = 0:=by simpa using hz
    have ac:qeY l l' = qf7 a b:=by rw [hf,orI,if_neg a1]
    simp only [sB.1,qhL,seval,ht,e2,e3,e5,O,M,c1,d1,d2,w,x1,x2,x3,x5,y1,y2,y3,y5,a6,hz,U,S,E,B,J,I] at he
    subst he
    refine .inr ⟨_,_,rfl,by simp,_,rfl,Y0,.inr ⟨rfl,?_⟩⟩
    simp only [sB.1,seval,ht,ac]
  ·have d2:ile (l'.length:Int) (i:Int) = true:=by rw [qaI];simp;omega
   rw [qlW h1 h2] at hf
   simp only [sB.1,qhL,seval,ht,e2,e3,e5,O,M,c1,d1,d2,U,S,E,B,J,I] at he
   subst he
   refine .inr ⟨_,_,rfl,by simp,_,rfl,Y0,.inr ⟨rfl,?_⟩⟩
   simp only [sB.1,seval,ht,hf]
 ·have c1:ilt (i:Int) (l.length:Int) = false:=by rw [qe];simp;omega
  have d1:ile (l.length:Int) (i:Int) = true:=by rw [qaI];simp;omega
  rcases Nat.lt_or_ge i l'.length with h2 | h2
  ·have c2:ilt (i:Int) (l'.length:Int) = true:=by rw [qe];simp;omega
   rw [qoF h1 h2] at hf
   simp only [sB.1,qhL,seval,ht,e2,e3,e5,O,M,c1,c2,d1,U,S,E,B,J,I,Bool.or_true] at he
   subst he
   refine .inr ⟨_,_,rfl,by simp,_,rfl,Y0,.inr ⟨rfl,?_⟩⟩
   simp only [sB.1,seval,ht,hf]
  ·have c2:ilt (i:Int) (l'.length:Int) = false:=by rw [qe];simp;omega
   rw [qoE h1 h2] at hf
   simp only [sB.1,qhL,seval,ht,e2,e3,e5,O,M,c1,c2,U,S,E,B,J,I] at he
   subst he
   exact .inr ⟨_,_,rfl,by simp,_,rfl,Y0,.inl ⟨rfl,hf⟩⟩
theorem qgC {H:Nat->Option qb} {k n:Int} {s:Str} {l:List Val} (hl:l.length <= 4) (ho:∀x ∈ l,qB6 H x):qB6 H (.mk k n s l):=by
 rintro ⟨k',n',s',l'⟩ cs ds h ⟨d,a8⟩ hv a7 hg
 obtain ⟨aa,hit⟩:=qfy a8
 obtain ⟨L,rfl,hL⟩:=hv.lp
 obtain ⟨L',rfl,a6⟩:=a7.lp
 obtain ⟨a1,J,E,O⟩:=hL.facts
 obtain ⟨U,I,B,M⟩:=a6.facts
 have hS:=qzi (k:=k) (n:=n) (s:=s) (k':=k') (n':=n') (s':=s') hl aa hL a6 ho hit h hg
 have ab:h ++ qwv k n s L k' n' s' L' = h ++ [.cells [.int .i64 k,.int .i64 n,.str s,L],.cells [.int .i64 k',.int .i64 n',.str s',L']]:=rfl
 have ad:(h ++ qwv k n s L k' n' s' L').take h.length = h:=by simp
 generalize S:(qE.loop qhL) = L0 at hS
 generalize hw:Wd _ _ h = w
 rw [qm 22 c22] at hw
 have e1:=qAm s s'
 have e2:=qCJ s s'
 rw [qf7]
 have kk:qei k k' = 0\/k ≠ k':=by
  by_cases h:k = k'
  ·exact .inl (by rw [h];simp [qei])
  ·exact .inr h
 rcases kk with kz | kz
 ·have kq:(k == k') = true:=by rw [qif kz];simp
  rcases Int.lt_trichotomy n n' with hn | hn | hn
  ·have c1:ilt n n' = true:=by rw [qe];simpa using hn
   have hv:qei n n' = -1:=by unfold qei;rw [if_pos hn]
   simp only [sB.1,c22,S,seval,a1,U,J,I,E,B,O,M,kq,c1] at hw
   subst hw
   rw [kz,hv];rfl
  ·have c1:ilt n n' = false:=by rw [qe];simp;omega
   have c2:ilt n' n = false:=by rw [qe];simp;omega
   have hv:qei n n' = 0:=by unfold qei;rw [if_neg zo,if_neg zo]
   rcases qih s s' with hs | hs | hs
   ·have c3:Op.bytesLess s s' = true:=by rw [e1,hs];rfl
    simp only [sB.1,c22,S,seval,a1,U,J,I,E,B,O,M,kq,c1,c2,c3] at hw
    subst hw
    rw [kz,hv,hs];rfl
   ·have c3:Op.bytesLess s s' = false:=by rw [e1,hs];rfl
    have c4:(s == s') = true:=by rw [e2,hs];rfl
    rw [kz,hv,hs]
    simp only [sB.1,c22,S,seval,a1,U,J,I,E,B,O,M,kq,c1,c2,c3,c4] at hw
    generalize hr:qj h.length Wd L0 _ = r at hw
    obtain ⟨x,ac,rfl,tt,rfl,ht,⟨rfl,hf⟩ | ⟨rfl,e4⟩⟩:=qaH hr (hS (max l.length l'.length) _ ⟨_,0,by rw [ab],Y1,Y1,Y1,u4,zo,rfl⟩)
    ·simp only [sB.1,seval,ht] at hw
     subst hw
     rw [hf]
     rfl
    ·simp only [sB.1,seval,ht,e4] at hw
     subst hw
     rfl
   ·have c3:Op.bytesLess s s' = false:=by rw [e1,hs];rfl
    have c4:(s == s') = false:=by rw [e2,hs];rfl
    simp only [sB.1,c22,S,seval,a1,U,J,I,E,B,O,M,kq,c1,c2,c3,c4] at hw
    subst hw
    rw [kz,hv,hs];rfl
  ·have c1:ilt n n' = false:=by rw [qe];simp;omega
   have c2:ilt n' n = true:=by rw [qe];simpa using hn
   have hv:qei n n' = 1:=by unfold qei;rw [if_neg zo,if_pos hn]
   simp only [sB.1,c22,S,seval,a1,U,J,I,E,B,O,M,kq,c1,c2] at hw
   subst hw
   rw [kz,hv];rfl
 ·have kq:(k == k') = false:=by simpa using kz
  rcases Int.lt_or_gt_of_ne kz with hk | hk
  ·have c1:ilt k k' = true:=by rw [qe];simpa using hk
   have hv:qei k k' = -1:=by unfold qei;rw [if_pos hk]
   simp only [sB.1,c22,S,seval,a1,U,J,I,E,B,O,M,kq,c1] at hw
   subst hw
   rw [hv];rfl
  ·have c1:ilt k k' = false:=by rw [qe];simp;omega
   have hv:qei k k' = 1:=by unfold qei;rw [if_neg zo,if_pos hk]
   simp only [sB.1,c22,S,seval,a1,U,J,I,E,B,O,M,kq,c1] at hw
   subst hw
   rw [hv];rfl
theorem qeN:∀d,∀{H:Nat->Option qb} {v:Val},qr d v = true->qB6 H v:=by
 intro d
 induction d with
 | zero=>
  rintro H ⟨k,n,s,l⟩ h0
  have hl:=qaM h0
  subst hl
  exact qgC (by simp) λx hx=>by cases hx
 | succ d ih=>
  rintro H ⟨k,n,s,l⟩ h0
  rw [qr] at h0
  cases h3:(k == 3) with
  | true=>
   rw [h3,cond_true] at h0
   simp only [jk,decide_eq_true_eq,List.all_eq_true] at h0
   exact qgC h0.1.2.2 λx hx=>ih (h0.2 x hx)
  | false=>
   rw [h3,cond_false] at h0
   have hl:=qaM h0
   subst hl
   exact qgC (by simp) λx hx=>by cases hx
end Go.Proofs.YtnibchoenjmmjaaGreatDoor.AE
