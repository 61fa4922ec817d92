/- A part of the proof: the abstract executor and what goes through it (part 18). No condition. -/
import Derived.Test.YtnibchoenjmmjaaGreatDoorMq10
import Derived.Test.YtnibchoenjmmjaaGreatDoorMq17
import Derived.Test.YtnibchoenjmmjaaGreatDoorMq8
set_option maxRecDepth 100000
set_option maxHeartbeats 0
namespace Go.Proofs.YtnibchoenjmmjaaGreatDoor.AE
open Go.AE
theorem qbC (n:Int) (nm sub:Str) (k:Nat):((!ile 0 n || !(nm == []) || !(sub == []) || ilt (k:Int) 0 || ilt 0 (k:Int)) = !(nB0 n nm sub k))∧((!(n == 0) || !(nm == []) || !(sub == []) || ilt (k:Int) 0 || ilt 0 (k:Int)) = !(nB1 n nm sub k))∧((!(n == 0) || !(nm == []) || !(sub == []) || ilt (k:Int) 0 || ilt 0 (k:Int)) = !(nB2 n nm sub k))∧((!(n == 0) || !qcZ nm || !(sub == []) || ilt (k:Int) 0 || ilt 0 (k:Int)) = !(nB3 n nm sub k))∧((!(n == 0) || !qa4 nm || !(sub == []) || ilt (k:Int) 0 || ilt 0 (k:Int)) = !(nB4 n nm sub k))∧((!(n == 0) || !qa4 nm || !qa4 sub || ilt (k:Int) 0 || ilt 0 (k:Int)) = !(nB5 n nm sub k))∧((!(n == 0) || !(nm == []) || !(sub == []) || ilt (k:Int) 1 || ilt 4 (k:Int)) = !(nB6 n nm sub k))∧((!(n == 0) || !qa4 nm || !(sub == []) || ilt (k:Int) 0 || ilt 0 (k:Int)) = !(nB7 n nm sub k))∧((!(n == 0) || !qa4 nm || !(sub == []) || ilt (k:Int) 0 || ilt 0 (k:Int)) = !(nB8 n nm sub k))∧((!(n == 0) || !qa4 nm || !(sub == []) || ilt (k:Int) 0 || ilt 0 (k:Int)) = !(nB9 n nm sub k))∧((!(n == 0) || !qa4 nm || !(sub == []) || ilt (k:Int) 1 || ilt 1 (k:Int)) = !(qxc n nm sub k))∧((!(n == 0) || !(nm == []) || !(sub == []) || ilt (k:Int) 0 || ilt 0 (k:Int)) = !(qxd n nm sub k))∧((!(ile 0 n && ile n 3) || !(nm == []) || !(sub == []) || ilt (k:Int) 1 || ilt 1 (k:Int)) = !(qxe n nm sub k))∧((!(n == 0) || !(nm == []) || !(sub == []) || ilt (k:Int) 1 || ilt 1 (k:Int)) = !(qxf n nm sub k))∧((!(n == 0) || !(nm == []) || !(sub == []) || ilt (k:Int) 1 || ilt 1 (k:Int)) = !(qxg n nm sub k))∧((!(n == 0) || !(nm == []) || !(sub == []) || ilt (k:Int) 2 || ilt 2 (k:Int)) = !(qxh n nm sub k))∧((!(n == 0) || !(nm == []) || !(sub == []) || ilt (k:Int) 2 || ilt 2 (k:Int)) = !(qxi n nm sub k))∧((!(n == 0) || !(nm == []) || !(sub == []) || ilt (k:Int) 2 || ilt 2 (k:Int)) = !(qxj n nm sub k))∧((!(n == 0) || !(nm == []) || !(sub == []) || ilt (k:Int) 2 || ilt 2 (k:Int)) = !(qxk n nm sub k))∧((!(n == 0) || !(nm == []) || !(sub == []) || ilt (k:Int) 2 || ilt 2 (k:Int)) = !(qxl n nm sub k))∧((!(n == 0) || !(nm == []) || !(sub == []) || ilt (k:Int) 2 || ilt 2 (k:Int)) = !(qxm n nm sub k))∧((!(n == 0) || !(nm == []) || !(sub == []) || ilt (k:Int) 2 || ilt 2 (k:Int)) = !(qxn n nm sub k))∧((!(n == 0) || !(nm == []) || !(sub == []) || ilt (k:Int) 2 || ilt 2 (k:Int)) = !(qxo n nm sub k))∧((!(n == 0) || !(nm == []) || !(sub == []) || ilt (k:Int) 2 || ilt 2 (k:Int)) = !(qxp n nm sub k))∧((!(n == 0) || !(nm == []) || !(sub == []) || ilt (k:Int) 2 || ilt 2 (k:Int)) = !(qxq n nm sub k))∧((!(n == 0) || !(nm == []) || !(sub == []) || ilt (k:Int) 3 || ilt 3 (k:Int)) = !(qxr n nm sub k)):=by
 refine ⟨?_,?_,?_,?_,?_,?_,?_,?_,?_,?_,?_,?_,?_,?_,?_,?_,?_,?_,?_,?_,?_,?_,?_,?_,?_,?_⟩ <;> (
  simp only [nB0,nB1,nB2,nB3,nB4,nB5,nB6,nB7,nB8,nB9,qxc,qxd,qxe,qxf,qxg,qxh,qxi,qxj,qxk,qxl,qxm,qxn,qxo,qxp,qxq,qxr,fB,qEv]
  rw [qoR,qoR]
  generalize ile _ (k:Int) = a1
  generalize ile (k:Int) _ = a2
  generalize (n == 0) = a3
  generalize (nm == []) = a4
  generalize (sub == []) = a5
  generalize ile 0 n = a6
  generalize ile n 3 = a7
  generalize qcZ nm = a8
  generalize qa4 nm = a9
  generalize qa4 sub = b1
  revert a1 a2 a3 a4 a5 a6 a7 a8 a9 b1
  decide)
section
variable {d:Nat} {h:List qb}
def EXP (d:Nat) (h:List qb) (op:Int) (B:Int→Str→Str→Nat→Bool):Prop:=∀(n:Int) (nm sub:Str) (aS:List Exl),aS.length < 1000000000→(∀a ∈ aS,∃k,Fit k a)→Wd (.fn 45 [] []) [exV (.mk op n nm sub aS),.int .i64 (d + 1:Nat)] h = some (.ret (.bool (B n nm sub aS.length && aS.all (right d))),h,false)
theorem qeS (d:Nat):(((d + 1:Nat):Int) == 0) = false:=by rw [beq_eq_false_iff_ne];omega
theorem qaI (hd:d < 100) (ih:qdM d) {op n:Int} {nm sub:Str} {aS:List Exl} (hl:aS.length < 1000000000) (hf:∀a ∈ aS,∃k,Fit k a) {T:List qa} (t0:T.length = 126) (t1:lkp T 1 = .int .i64 (d + 1:Nat)) (t2:lkp T 2 = .ptr h.length 0) (t10:lkp T 10 = .int .i64 0):qsH [.tmp 4] h (qcg (qm h.length Wd ((qC.reg [⟨some 4,.asg (.c (.bool true)),none⟩]).seq .ret)) (qeJ 1 (qm h.length Wd (.loop qh0) ⟨T,h ++ [.cells [.int .i64 op,.int .i64 n,.str nm,.str sub,.lst (aS.map exV) .no]],false⟩))) = some (.ret (.bool (aS.all (right d))),h,false):=by
 generalize hw:qsH _ h _ = w
 generalize hr:qm h.length Wd (.loop qh0) _ = r at hw
 obtain ⟨x,st',rfl,tt,rfl,ht,hq⟩:=qaB hr (qwr hd ih hl hf aS.length _ ⟨_,0,rfl,t0,t1,t2,by rw [t10];rfl,by omega,rfl⟩)
 rcases hq with ⟨rfl,hall⟩ | ⟨rfl,hall,e4⟩
 ·simp only [sB.1,simprocAttr,-Int.reduceNatCast',ht] at hw
  rw [hall]
  exact hw.symm
 ·simp only [sB.1,simprocAttr,-Int.reduceNatCast',ht,e4] at hw
  rw [hall]
  exact hw.symm
theorem qEk (hd:d < 100) (ih:qdM d):EXP d h 0 nB0:=by
 intro n nm sub aS hl hf
 have q:=(qbC n nm sub aS.length).1
 have z:ilt 0 0 = false∧ilt 25 0 = false:=⟨by kernel_rfl,by kernel_rfl⟩
 rw [qN,qr rfl (show T.get 45 = some c45 by kernel_rfl)]
 cases hb:nB0 n nm sub aS.length <;> rw [hb] at q <;> simp only [sB.1,c45,simprocAttr,-Int.reduceNatCast',qeS,z,List.length_map,qW,qad,q,Bool.not_true,Bool.not_false,Bool.true_and,Bool.false_and]
 apply qaI hd ih hl hf <;> simp only [sB.1,simprocAttr,-Int.reduceNatCast']
theorem qEl (hd:d < 100) (ih:qdM d):EXP d h 1 nB1:=by
 intro n nm sub aS hl hf
 have q:=(qbC n nm sub aS.length).2.1
 have z:ilt 1 0 = false∧ilt 25 1 = false:=⟨by kernel_rfl,by kernel_rfl⟩
 rw [qN,qr rfl (show T.get 45 = some c45 by kernel_rfl)]
 cases hb:nB1 n nm sub aS.length <;> rw [hb] at q <;> simp only [sB.1,c45,simprocAttr,-Int.reduceNatCast',qeS,z,List.length_map,qW,qad,q,Bool.not_true,Bool.not_false,Bool.true_and,Bool.false_and]
 apply qaI hd ih hl hf <;> simp only [sB.1,simprocAttr,-Int.reduceNatCast']
theorem qEm (hd:d < 100) (ih:qdM d):EXP d h 2 nB2:=by
 intro n nm sub aS hl hf
 have q:=(qbC n nm sub aS.length).2.2.1
 have z:ilt 2 0 = false∧ilt 25 2 = false:=⟨by kernel_rfl,by kernel_rfl⟩
 rw [qN,qr rfl (show T.get 45 = some c45 by kernel_rfl)]
 cases hb:nB2 n nm sub aS.length <;> rw [hb] at q <;> simp only [sB.1,c45,simprocAttr,-Int.reduceNatCast',qeS,z,List.length_map,qW,qad,q,Bool.not_true,Bool.not_false,Bool.true_and,Bool.false_and]
 apply qaI hd ih hl hf <;> simp only [sB.1,simprocAttr,-Int.reduceNatCast']
theorem qEn (hd:d < 100) (ih:qdM d):EXP d h 3 nB3:=by
 intro n nm sub aS hl hf
 have q:=(qbC n nm sub aS.length).2.2.2.1
 have z:ilt 3 0 = false∧ilt 25 3 = false:=⟨by kernel_rfl,by kernel_rfl⟩
 rw [qN,qr rfl (show T.get 45 = some c45 by kernel_rfl)]
 cases hb:nB3 n nm sub aS.length <;> rw [hb] at q <;> simp only [sB.1,c45,simprocAttr,-Int.reduceNatCast',qeS,z,List.length_map,qW,qad,q,Bool.not_true,Bool.not_false,Bool.true_and,Bool.false_and]
 apply qaI hd ih hl hf <;> simp only [sB.1,simprocAttr,-Int.reduceNatCast']
theorem qEo (hd:d < 100) (ih:qdM d):EXP d h 4 nB4:=by
 intro n nm sub aS hl hf
 have q:=(qbC n nm sub aS.length).2.2.2.2.1
 have z:ilt 4 0 = false∧ilt 25 4 = false:=⟨by kernel_rfl,by kernel_rfl⟩
 rw [qN,qr rfl (show T.get 45 = some c45 by kernel_rfl)]
 cases hb:nB4 n nm sub aS.length <;> rw [hb] at q <;> simp only [sB.1,c45,simprocAttr,-Int.reduceNatCast',qeS,z,List.length_map,qW,qad,q,Bool.not_true,Bool.not_false,Bool.true_and,Bool.false_and]
 apply qaI hd ih hl hf <;> simp only [sB.1,simprocAttr,-Int.reduceNatCast']
theorem qEp (hd:d < 100) (ih:qdM d):EXP d h 5 nB5:=by
 intro n nm sub aS hl hf
 have q:=(qbC n nm sub aS.length).2.2.2.2.2.1
 have z:ilt 5 0 = false∧ilt 25 5 = false:=⟨by kernel_rfl,by kernel_rfl⟩
 rw [qN,qr rfl (show T.get 45 = some c45 by kernel_rfl)]
 cases hb:nB5 n nm sub aS.length <;> rw [hb] at q <;> simp only [sB.1,c45,simprocAttr,-Int.reduceNatCast',qeS,z,List.length_map,qW,qad,q,Bool.not_true,Bool.not_false,Bool.true_and,Bool.false_and]
 apply qaI hd ih hl hf <;> simp only [sB.1,simprocAttr,-Int.reduceNatCast']
theorem qEq (hd:d < 100) (ih:qdM d):EXP d h 6 nB6:=by
 intro n nm sub aS hl hf
 have q:=(qbC n nm sub aS.length).2.2.2.2.2.2.1
 have z:ilt 6 0 = false∧ilt 25 6 = false:=⟨by kernel_rfl,by kernel_rfl⟩
 rw [qN,qr rfl (show T.get 45 = some c45 by kernel_rfl)]
 cases hb:nB6 n nm sub aS.length <;> rw [hb] at q <;> simp only [sB.1,c45,simprocAttr,-Int.reduceNatCast',qeS,z,List.length_map,qW,qad,q,Bool.not_true,Bool.not_false,Bool.true_and,Bool.false_and]
 apply qaI hd ih hl hf <;> simp only [sB.1,simprocAttr,-Int.reduceNatCast']
theorem qEr (hd:d < 100) (ih:qdM d):EXP d h 7 nB7:=by
 intro n nm sub aS hl hf
 have q:=(qbC n nm sub aS.length).2.2.2.2.2.2.2.1
 have z:ilt 7 0 = false∧ilt 25 7 = false:=⟨by kernel_rfl,by kernel_rfl⟩
 rw [qN,qr rfl (show T.get 45 = some c45 by kernel_rfl)]
 cases hb:nB7 n nm sub aS.length <;> rw [hb] at q <;> simp only [sB.1,c45,simprocAttr,-Int.reduceNatCast',qeS,z,List.length_map,qW,qad,q,Bool.not_true,Bool.not_false,Bool.true_and,Bool.false_and]
 apply qaI hd ih hl hf <;> simp only [sB.1,simprocAttr,-Int.reduceNatCast']
theorem qEs (hd:d < 100) (ih:qdM d):EXP d h 8 nB8:=by
 intro n nm sub aS hl hf
 have q:=(qbC n nm sub aS.length).2.2.2.2.2.2.2.2.1
 have z:ilt 8 0 = false∧ilt 25 8 = false:=⟨by kernel_rfl,by kernel_rfl⟩
 rw [qN,qr rfl (show T.get 45 = some c45 by kernel_rfl)]
 cases hb:nB8 n nm sub aS.length <;> rw [hb] at q <;> simp only [sB.1,c45,simprocAttr,-Int.reduceNatCast',qeS,z,List.length_map,qW,qad,q,Bool.not_true,Bool.not_false,Bool.true_and,Bool.false_and]
 apply qaI hd ih hl hf <;> simp only [sB.1,simprocAttr,-Int.reduceNatCast']
end
section
variable {d:Nat} {h:List qb}
theorem qEt (hd:d < 100) (ih:qdM d):EXP d h 9 nB9:=by
 intro n nm sub aS hl hf
 have q:=(qbC n nm sub aS.length).2.2.2.2.2.2.2.2.2.1
 have z:ilt 9 0 = false∧ilt 25 9 = false:=⟨by kernel_rfl,by kernel_rfl⟩
 rw [qN,qr rfl (show T.get 45 = some c45 by kernel_rfl)]
 cases hb:nB9 n nm sub aS.length <;> rw [hb] at q <;> simp only [sB.1,c45,simprocAttr,-Int.reduceNatCast',qeS,z,List.length_map,qW,qad,q,Bool.not_true,Bool.not_false,Bool.true_and,Bool.false_and]
 apply qaI hd ih hl hf <;> simp only [sB.1,simprocAttr,-Int.reduceNatCast']
theorem qBn (hd:d < 100) (ih:qdM d):EXP d h 10 qxc:=by
 intro n nm sub aS hl hf
 have q:=(qbC n nm sub aS.length).2.2.2.2.2.2.2.2.2.2.1
 have z:ilt 10 0 = false∧ilt 25 10 = false:=⟨by kernel_rfl,by kernel_rfl⟩
 rw [qN,qr rfl (show T.get 45 = some c45 by kernel_rfl)]
 cases hb:qxc n nm sub aS.length <;> rw [hb] at q <;> simp only [sB.1,c45,simprocAttr,-Int.reduceNatCast',qeS,z,List.length_map,qW,qad,q,Bool.not_true,Bool.not_false,Bool.true_and,Bool.false_and]
 apply qaI hd ih hl hf <;> simp only [sB.1,simprocAttr,-Int.reduceNatCast']
theorem qBo (hd:d < 100) (ih:qdM d):EXP d h 11 qxd:=by
 intro n nm sub aS hl hf
 have q:=(qbC n nm sub aS.length).2.2.2.2.2.2.2.2.2.2.2.1
 have z:ilt 11 0 = false∧ilt 25 11 = false:=⟨by kernel_rfl,by kernel_rfl⟩
 rw [qN,qr rfl (show T.get 45 = some c45 by kernel_rfl)]
 cases hb:qxd n nm sub aS.length <;> rw [hb] at q <;> simp only [sB.1,c45,simprocAttr,-Int.reduceNatCast',qeS,z,List.length_map,qW,qad,q,Bool.not_true,Bool.not_false,Bool.true_and,Bool.false_and]
 apply qaI hd ih hl hf <;> simp only [sB.1,simprocAttr,-Int.reduceNatCast']
theorem qBp (hd:d < 100) (ih:qdM d):EXP d h 12 qxe:=by
 intro n nm sub aS hl hf
 have q:=(qbC n nm sub aS.length).2.2.2.2.2.2.2.2.2.2.2.2.1
 have z:ilt 12 0 = false∧ilt 25 12 = false:=⟨by kernel_rfl,by kernel_rfl⟩
 rw [qN,qr rfl (show T.get 45 = some c45 by kernel_rfl)]
 cases hb:qxe n nm sub aS.length <;> rw [hb] at q <;> simp only [sB.1,c45,simprocAttr,-Int.reduceNatCast',qeS,z,List.length_map,qW,qad,q,Bool.not_true,Bool.not_false,Bool.true_and,Bool.false_and]
 apply qaI hd ih hl hf <;> simp only [sB.1,simprocAttr,-Int.reduceNatCast']
theorem qBq (hd:d < 100) (ih:qdM d):EXP d h 13 qxf:=by
 intro n nm sub aS hl hf
 have q:=(qbC n nm sub aS.length).2.2.2.2.2.2.2.2.2.2.2.2.2.1
 have z:ilt 13 0 = false∧ilt 25 13 = false:=⟨by kernel_rfl,by kernel_rfl⟩
 rw [qN,qr rfl (show T.get 45 = some c45 by kernel_rfl)]
 cases hb:qxf n nm sub aS.length <;> rw [hb] at q <;> simp only [sB.1,c45,simprocAttr,-Int.reduceNatCast',qeS,z,List.length_map,qW,qad,q,Bool.not_true,Bool.not_false,Bool.true_and,Bool.false_and]
 apply qaI hd ih hl hf <;> simp only [sB.1,simprocAttr,-Int.reduceNatCast']
theorem qBr (hd:d < 100) (ih:qdM d):EXP d h 14 qxg:=by
 intro n nm sub aS hl hf
 have q:=(qbC n nm sub aS.length).2.2.2.2.2.2.2.2.2.2.2.2.2.2.1
 have z:ilt 14 0 = false∧ilt 25 14 = false:=⟨by kernel_rfl,by kernel_rfl⟩
 rw [qN,qr rfl (show T.get 45 = some c45 by kernel_rfl)]
 cases hb:qxg n nm sub aS.length <;> rw [hb] at q <;> simp only [sB.1,c45,simprocAttr,-Int.reduceNatCast',qeS,z,List.length_map,qW,qad,q,Bool.not_true,Bool.not_false,Bool.true_and,Bool.false_and]
 apply qaI hd ih hl hf <;> simp only [sB.1,simprocAttr,-Int.reduceNatCast']
theorem qBs (hd:d < 100) (ih:qdM d):EXP d h 15 qxh:=by
 intro n nm sub aS hl hf
 have q:=(qbC n nm sub aS.length).2.2.2.2.2.2.2.2.2.2.2.2.2.2.2.1
 have z:ilt 15 0 = false∧ilt 25 15 = false:=⟨by kernel_rfl,by kernel_rfl⟩
 rw [qN,qr rfl (show T.get 45 = some c45 by kernel_rfl)]
 cases hb:qxh n nm sub aS.length <;> rw [hb] at q <;> simp only [sB.1,c45,simprocAttr,-Int.reduceNatCast',qeS,z,List.length_map,qW,qad,q,Bool.not_true,Bool.not_false,Bool.true_and,Bool.false_and]
 apply qaI hd ih hl hf <;> simp only [sB.1,simprocAttr,-Int.reduceNatCast']
theorem qBt (hd:d < 100) (ih:qdM d):EXP d h 16 qxi:=by
 intro n nm sub aS hl hf
 have q:=(qbC n nm sub aS.length).2.2.2.2.2.2.2.2.2.2.2.2.2.2.2.2.1
 have z:ilt 16 0 = false∧ilt 25 16 = false:=⟨by kernel_rfl,by kernel_rfl⟩
 rw [qN,qr rfl (show T.get 45 = some c45 by kernel_rfl)]
 cases hb:qxi n nm sub aS.length <;> rw [hb] at q <;> simp only [sB.1,c45,simprocAttr,-Int.reduceNatCast',qeS,z,List.length_map,qW,qad,q,Bool.not_true,Bool.not_false,Bool.true_and,Bool.false_and]
 apply qaI hd ih hl hf <;> simp only [sB.1,simprocAttr,-Int.reduceNatCast']
theorem qBu (hd:d < 100) (ih:qdM d):EXP d h 17 qxj:=by
 intro n nm sub aS hl hf
 have q:=(qbC n nm sub aS.length).2.2.2.2.2.2.2.2.2.2.2.2.2.2.2.2.2.1
 have z:ilt 17 0 = false∧ilt 25 17 = false:=⟨by kernel_rfl,by kernel_rfl⟩
 rw [qN,qr rfl (show T.get 45 = some c45 by kernel_rfl)]
 cases hb:qxj n nm sub aS.length <;> rw [hb] at q <;> simp only [sB.1,c45,simprocAttr,-Int.reduceNatCast',qeS,z,List.length_map,qW,qad,q,Bool.not_true,Bool.not_false,Bool.true_and,Bool.false_and]
 apply qaI hd ih hl hf <;> simp only [sB.1,simprocAttr,-Int.reduceNatCast']
end
section
variable {d:Nat} {h:List qb}
theorem qBv (hd:d < 100) (ih:qdM d):EXP d h 18 qxk:=by
 intro n nm sub aS hl hf
 have q:=(qbC n nm sub aS.length).2.2.2.2.2.2.2.2.2.2.2.2.2.2.2.2.2.2.1
 have z:ilt 18 0 = false∧ilt 25 18 = false:=⟨by kernel_rfl,by kernel_rfl⟩
 rw [qN,qr rfl (show T.get 45 = some c45 by kernel_rfl)]
 cases hb:qxk n nm sub aS.length <;> rw [hb] at q <;> simp only [sB.1,c45,simprocAttr,-Int.reduceNatCast',qeS,z,List.length_map,qW,qad,q,Bool.not_true,Bool.not_false,Bool.true_and,Bool.false_and]
 apply qaI hd ih hl hf <;> simp only [sB.1,simprocAttr,-Int.reduceNatCast']
theorem qBw (hd:d < 100) (ih:qdM d):EXP d h 19 qxl:=by
 intro n nm sub aS hl hf
 have q:=(qbC n nm sub aS.length).2.2.2.2.2.2.2.2.2.2.2.2.2.2.2.2.2.2.2.1
 have z:ilt 19 0 = false∧ilt 25 19 = false:=⟨by kernel_rfl,by kernel_rfl⟩
 rw [qN,qr rfl (show T.get 45 = some c45 by kernel_rfl)]
 cases hb:qxl n nm sub aS.length <;> rw [hb] at q <;> simp only [sB.1,c45,simprocAttr,-Int.reduceNatCast',qeS,z,List.length_map,qW,qad,q,Bool.not_true,Bool.not_false,Bool.true_and,Bool.false_and]
 apply qaI hd ih hl hf <;> simp only [sB.1,simprocAttr,-Int.reduceNatCast']
theorem qBx (hd:d < 100) (ih:qdM d):EXP d h 20 qxm:=by
 intro n nm sub aS hl hf
 have q:=(qbC n nm sub aS.length).2.2.2.2.2.2.2.2.2.2.2.2.2.2.2.2.2.2.2.2.1
 have z:ilt 20 0 = false∧ilt 25 20 = false:=⟨by kernel_rfl,by kernel_rfl⟩
 rw [qN,qr rfl (show T.get 45 = some c45 by kernel_rfl)]
 cases hb:qxm n nm sub aS.length <;> rw [hb] at q <;> simp only [sB.1,c45,simprocAttr,-Int.reduceNatCast',qeS,z,List.length_map,qW,qad,q,Bool.not_true,Bool.not_false,Bool.true_and,Bool.false_and]
 apply qaI hd ih hl hf <;> simp only [sB.1,simprocAttr,-Int.reduceNatCast']
theorem qBy (hd:d < 100) (ih:qdM d):EXP d h 21 qxn:=by
 intro n nm sub aS hl hf
 have q:=(qbC n nm sub aS.length).2.2.2.2.2.2.2.2.2.2.2.2.2.2.2.2.2.2.2.2.2.1
 have z:ilt 21 0 = false∧ilt 25 21 = false:=⟨by kernel_rfl,by kernel_rfl⟩
 rw [qN,qr rfl (show T.get 45 = some c45 by kernel_rfl)]
 cases hb:qxn n nm sub aS.length <;> rw [hb] at q <;> simp only [sB.1,c45,simprocAttr,-Int.reduceNatCast',qeS,z,List.length_map,qW,qad,q,Bool.not_true,Bool.not_false,Bool.true_and,Bool.false_and]
 apply qaI hd ih hl hf <;> simp only [sB.1,simprocAttr,-Int.reduceNatCast']
theorem qBz (hd:d < 100) (ih:qdM d):EXP d h 22 qxo:=by
 intro n nm sub aS hl hf
 have q:=(qbC n nm sub aS.length).2.2.2.2.2.2.2.2.2.2.2.2.2.2.2.2.2.2.2.2.2.2.1
 have z:ilt 22 0 = false∧ilt 25 22 = false:=⟨by kernel_rfl,by kernel_rfl⟩
 rw [qN,qr rfl (show T.get 45 = some c45 by kernel_rfl)]
 cases hb:qxo n nm sub aS.length <;> rw [hb] at q <;> simp only [sB.1,c45,simprocAttr,-Int.reduceNatCast',qeS,z,List.length_map,qW,qad,q,Bool.not_true,Bool.not_false,Bool.true_and,Bool.false_and]
 apply qaI hd ih hl hf <;> simp only [sB.1,simprocAttr,-Int.reduceNatCast']
theorem qBA (hd:d < 100) (ih:qdM d):EXP d h 23 qxp:=by
 intro n nm sub aS hl hf
 have q:=(qbC n nm sub aS.length).2.2.2.2.2.2.2.2.2.2.2.2.2.2.2.2.2.2.2.2.2.2.2.1
 have z:ilt 23 0 = false∧ilt 25 23 = false:=⟨by kernel_rfl,by kernel_rfl⟩
 rw [qN,qr rfl (show T.get 45 = some c45 by kernel_rfl)]
 cases hb:qxp n nm sub aS.length <;> rw [hb] at q <;> simp only [sB.1,c45,simprocAttr,-Int.reduceNatCast',qeS,z,List.length_map,qW,qad,q,Bool.not_true,Bool.not_false,Bool.true_and,Bool.false_and]
 apply qaI hd ih hl hf <;> simp only [sB.1,simprocAttr,-Int.reduceNatCast']
theorem qBB (hd:d < 100) (ih:qdM d):EXP d h 24 qxq:=by
 intro n nm sub aS hl hf
 have q:=(qbC n nm sub aS.length).2.2.2.2.2.2.2.2.2.2.2.2.2.2.2.2.2.2.2.2.2.2.2.2.1
 have z:ilt 24 0 = false∧ilt 25 24 = false:=⟨by kernel_rfl,by kernel_rfl⟩
 rw [qN,qr rfl (show T.get 45 = some c45 by kernel_rfl)]
 cases hb:qxq n nm sub aS.length <;> rw [hb] at q <;> simp only [sB.1,c45,simprocAttr,-Int.reduceNatCast',qeS,z,List.length_map,qW,qad,q,Bool.not_true,Bool.not_false,Bool.true_and,Bool.false_and]
 apply qaI hd ih hl hf <;> simp only [sB.1,simprocAttr,-Int.reduceNatCast']
theorem qBC (hd:d < 100) (ih:qdM d):EXP d h 25 qxr:=by
 intro n nm sub aS hl hf
 have q:=(qbC n nm sub aS.length).2.2.2.2.2.2.2.2.2.2.2.2.2.2.2.2.2.2.2.2.2.2.2.2.2
 have z:ilt 25 0 = false∧ilt 25 25 = false:=⟨by kernel_rfl,by kernel_rfl⟩
 rw [qN,qr rfl (show T.get 45 = some c45 by kernel_rfl)]
 cases hb:qxr n nm sub aS.length <;> rw [hb] at q <;> simp only [sB.1,c45,simprocAttr,-Int.reduceNatCast',qeS,z,List.length_map,qW,qad,q,Bool.not_true,Bool.not_false,Bool.true_and,Bool.false_and]
 apply qaI hd ih hl hf <;> simp only [sB.1,simprocAttr,-Int.reduceNatCast']
end
theorem qBD {d:Nat} {h:List qb} {op:Int} (ho:¬ (0 ≤ op∧op ≤ 25)) (n:Int) (nm sub:Str) (aS:List Exl):Wd (.fn 45 [] []) [exV (.mk op n nm sub aS),.int .i64 (d + 1:Nat)] h = some (.ret (.bool false),h,false):=by
 have z0:(((d + 1:Nat):Int) == 0) = false:=by rw [beq_eq_false_iff_ne];omega
 rw [qN,qr rfl (show T.get 45 = some c45 by kernel_rfl)]
 by_cases h1:op < 0
 ·have z1:ilt op 0 = true:=by rw [qf];simpa using h1
  simp only [sB.1,c45,simprocAttr,-Int.reduceNatCast',z0,z1]
 ·have z1:ilt op 0 = false:=by rw [qf];simpa using h1
  have z2:ilt 25 op = true:=by rw [qf];simp;omega
  simp only [sB.1,c45,simprocAttr,-Int.reduceNatCast',z0,z1,z2]
theorem qEe:∀d,d ≤ 100→qdM d:=by
 intro d
 induction d with
 | zero=>
  rintro _ ⟨op,n,nm,sub,aS⟩ h _
  have z0:(((0:Nat):Int) == 0) = true:=by kernel_rfl
  rw [qN,qr rfl (show T.get 45 = some c45 by kernel_rfl),right]
  simp only [sB.1,c45,simprocAttr,-Int.reduceNatCast',z0]
 | succ d ih=>
  rintro hd ⟨op,n,nm,sub,aS⟩ h ⟨k,hk⟩
  have ih:=ih (by omega)
  have hd:d < 100:=by omega
  obtain ⟨k,rfl⟩ :∃k',k = k' + 1:=by cases k with | zero=>exact hk.elim | succ k=>exact ⟨k,rfl⟩
  have hl:aS.length < 1000000000:=by have:=hk.1;omega
  have hf:∀a ∈ aS,∃k,Fit k a:=fun a ha=>⟨k,hk.2 a ha⟩
  rw [right]
  by_cases ho:0 ≤ op∧op ≤ 25
  ·have:op = 0∨op = 1∨op = 2∨op = 3∨op = 4∨op = 5∨op = 6∨op = 7∨op = 8∨op = 9∨op = 10∨op = 11∨op = 12∨op = 13∨op = 14∨op = 15∨op = 16∨op = 17∨op = 18∨op = 19∨op = 20∨op = 21∨op = 22∨op = 23∨op = 24∨op = 25:=by omega
   rcases this with rfl | rfl | rfl | rfl | rfl | rfl | rfl | rfl | rfl | rfl | rfl | rfl | rfl | rfl | rfl | rfl | rfl | rfl | rfl | rfl | rfl | rfl | rfl | rfl | rfl | rfl
   ·exact qEk hd ih n nm sub aS hl hf
   ·exact qEl hd ih n nm sub aS hl hf
   ·exact qEm hd ih n nm sub aS hl hf
   ·exact qEn hd ih n nm sub aS hl hf
   ·exact qEo hd ih n nm sub aS hl hf
   ·exact qEp hd ih n nm sub aS hl hf
   ·exact qEq hd ih n nm sub aS hl hf
   ·exact qEr hd ih n nm sub aS hl hf
   ·exact qEs hd ih n nm sub aS hl hf
   ·exact qEt hd ih n nm sub aS hl hf
   ·exact qBn hd ih n nm sub aS hl hf
   ·exact qBo hd ih n nm sub aS hl hf
   ·exact qBp hd ih n nm sub aS hl hf
   ·exact qBq hd ih n nm sub aS hl hf
   ·exact qBr hd ih n nm sub aS hl hf
   ·exact qBs hd ih n nm sub aS hl hf
   ·exact qBt hd ih n nm sub aS hl hf
   ·exact qBu hd ih n nm sub aS hl hf
   ·exact qBv hd ih n nm sub aS hl hf
   ·exact qBw hd ih n nm sub aS hl hf
   ·exact qBx hd ih n nm sub aS hl hf
   ·exact qBy hd ih n nm sub aS hl hf
   ·exact qBz hd ih n nm sub aS hl hf
   ·exact qBA hd ih n nm sub aS hl hf
   ·exact qBB hd ih n nm sub aS hl hf
   ·exact qBC hd ih n nm sub aS hl hf
  ·rw [qg8 ho,Bool.false_and]
   exact qBD ho n nm sub aS
theorem qA0 {op:Int} {k:Nat} (h:KA op k):k ≤ 4:=by unfold KA qiI at h;omega
theorem qkv (N:Nms) (hN:qys N):∀(d:Nat),d ≤ 100→∀e,right d e = true→KO N (qgd N d) e∧tpS (3 + d) (qgd N d e).1
 | 0,_,e,h=>by rw [right] at h;cases h
 | d + 1,hd,.mk op n nm sb aS,h=>by
  rw [right,Bool.and_eq_true,List.all_eq_true] at h
  have ha:∀a ∈ aS,KO N (qgd N d) a∧tpS (3 + d) (qgd N d a).1:=fun a ha=>qkv N hN d (by omega) a (h.2 a ha)
  have hl:=qA0 (qjE h.1).1
  refine ⟨fun g=>?_,?_⟩
  ·rw [qgd]
   exact qpr N hN (qgd N d) op n nm sb aS (3 + d) (by omega) h.1 ha
  ·rw [qgd]
   exact qpo (d:=3 + d) (fun ts h1 h2=>qwV hN h1 h2) aS [] (fun a h'=>(ha a h').2) (fun t h=>by cases h) (by simp;omega)
def qiy (N:Nms) (e:Exl):qiN:=bif right 20 e then qgd N 20 e else (qL,1)
theorem qvh (N:Nms) (hN:qys N) (e:Exl) (hf:∃k,Fit k e) (h:List qb):∃rs m,Wd (.fn 23 [] []) [exV e,.agg (qfb N)] h = some (.ret (.tup [.agg rs,.int .i64 (qiy N e).2]),h ++ m,false)∧Ta (qbV h.length (h ++ m)) (qiy N e).1 rs:=by
 have hr:=qEe 20 (by omega) e (h ++ [.cells e.enc,.cells (qfb N),.cells [.int .i64 0,.lst [] .full]]) hf
 have cq20:((20:Nat):Int) = 20:=by kernel_rfl
 rw [cq20] at hr
 obtain ⟨op,n,nm,sb,aS⟩:=e
 have hB:Nat.ble h.length (h.length + 2) = true:=qi (by omega)
 generalize hw:Wd _ _ h = w
 rw [qr rfl (show T.get 23 = some c23 by kernel_rfl)] at hw
 rw [qN,qci,qfb] at hr
 rw [qN,qfb] at hw
 unfold qiy
 cases hq:right 20 (.mk op n nm sb aS) with
 | false=>
  rw [hq] at hr
  simp only [sA.1,c23,simprocAttr,-Int.reduceNatCast',hr] at hw
  subst hw
  exact ⟨_,[],by rw [List.append_nil];rfl,qf2 _ 0⟩
 | true=>
  rw [hq] at hr
  obtain ⟨rs,m,hk,hta⟩:=(qkv N hN 20 (by omega) _ hq).1 (h ++ [.cells [.int .i64 op,.int .i64 n,.str nm,.str sb,.lst (aS.map exV) .no],.cells (qfb N),.cells [.int .i64 0,.lst [] .full]])
  rw [qN,qfb] at hk
  rw [cond_true]
  obtain ⟨kk,LL,rfl,ld,lsb,lw⟩:=hta.two
  generalize qgd N 20 (.mk op n nm sb aS) = R at *
  simp only [sA.1,c23,simprocAttr,-Int.reduceNatCast',hr,hk,ld,lsb,lw,hB] at hw
  subst hw
  obtain ⟨M,hm,hm2⟩:=qh (h:=h) (b:=h.length + 3) (t:=R.1) (rs:=[.int .i64 kk,LL]) R.2 (F:=h ++ [.cells [.int .i64 op,.int .i64 n,.str nm,.str sb,.lst (aS.map exV) .no],.cells [.lst (N.vars.map nvV) .no,.lst (N.ports.map npV) .no,.bool N.bagq,.lst (N.oth.map nvV) .no],.cells [.int .i64 kk,LL]] ++ m) (hta.mono fun i x hx=>by
   by_cases hi:h.length + 3 ≤ i
   ·rw [qY (by simpa using hi)] at hx
    rw [qY hi]
    rw [List.getElem?_append_right (by simpa using hi)] at hx ⊢
    simpa using hx
   ·rw [qaq (by simpa using hi)] at hx
    cases hx) (by omega) (by simp)
  refine ⟨_,M,?_,hm2⟩
  rw [←hm]
  simp
theorem qrY (a b:Int):qdK b a = -qdK a b:=by
 unfold qdK
 split <;> split <;> omega
theorem qhw {a b:Int} (h:qdK a b = 0):a = b:=by
 unfold qdK at h
 split at h
 ·omega
 ·split at h <;> omega
theorem qxQ {x y x' y':Int} (h1:x' = -x) (h2:y' = -y):orI x' y' = -orI x y:=by
 subst h1;subst h2
 unfold orI
 by_cases h:x = 0
 ·rw [if_pos h,if_pos (by omega)]
 ·rw [if_neg h,if_neg (by omega)]
theorem qtL {x y:Int} (h:orI x y = 0):x = 0∧y = 0:=by
 unfold orI at h
 by_cases hx:x = 0
 ·rw [if_pos hx] at h
  exact ⟨hx,h⟩
 ·rw [if_neg hx] at h
  exact absurd h hx
theorem qfm (a b:UInt8) (x y:Str):qfl (a :: x) (b :: y) = orI (qdK a.toNat b.toNat) (qfl x y):=by
 rw [qfl,Lib.compareBytes]
 unfold orI qdK
 rcases Nat.lt_trichotomy a.toNat b.toNat with h | h | h
 ·rw [if_pos (UInt8.lt_iff_toNat_lt.2 h)]
  have:((a.toNat:Int) < b.toNat):=by omega
  simp [this]
 ·have e1:¬ a < b:=by rw [UInt8.lt_iff_toNat_lt];omega
  have e2:¬ b < a:=by rw [UInt8.lt_iff_toNat_lt];omega
  have i1:¬ (a.toNat:Int) < b.toNat:=by omega
  have i2:¬ (b.toNat:Int) < a.toNat:=by omega
  rw [if_neg e1,if_neg e2,if_neg i1,if_neg i2]
  rfl
 ·have e1:¬ a < b:=by rw [UInt8.lt_iff_toNat_lt];omega
  have e2:b < a:=by rw [UInt8.lt_iff_toNat_lt];omega
  have i1:¬ (a.toNat:Int) < b.toNat:=by omega
  have i2:(b.toNat:Int) < a.toNat:=by omega
  rw [if_neg e1,if_pos e2,if_neg i1,if_pos i2]
  rfl
theorem qkg:∀a b:Str,qfl b a = -qfl a b
 | [],[]=>rfl
 | [],_ :: _=>rfl
 | _ :: _,[]=>rfl
 | a :: x,b :: y=>by
  rw [qfm,qfm]
  exact qxQ (qrY _ _) (qkg x y)
theorem qhz:∀{a b:Str},qfl a b = 0→a = b
 | [],[],_=>rfl
 | [],_ :: _,h=>by simp [qfl,Lib.compareBytes] at h
 | _ :: _,[],h=>by simp [qfl,Lib.compareBytes] at h
 | a :: x,b :: y,h=>by
  rw [qfm] at h
  obtain ⟨h1,h2⟩:=qtL h
  have:=qhw h1
  have e:a = b:=UInt8.toNat_inj.1 (by omega)
  rw [e,qhz h2]
theorem qyZ:∀a b:Str,Op.bytesLess a b = decide (qfl a b < 0)
 | [],[]=>rfl
 | _ :: _,[]=>by simp [Op.bytesLess,qfl,Lib.compareBytes]
 | [],_ :: _=>by simp [Op.bytesLess,qfl,Lib.compareBytes]
 | a :: x,b :: y=>by
  have ih:=qyZ x y
  rw [Op.bytesLess,ih,qfl,Lib.compareBytes]
  by_cases h1:a < b
  ·simp [h1]
  ·by_cases h2:b < a
   ·have:¬ a = b:=fun e=>by subst e;exact h1 h2
    simp [h1,h2,this]
   ·have:a = b:=UInt8.toNat_inj.1 (by rw [UInt8.lt_iff_toNat_lt] at h1 h2;omega)
    simp [h1,h2,this]
theorem qBc (a b:Str):(a == b) = decide (qfl a b = 0):=by
 rw [Bool.eq_iff_iff]
 simp only [beq_iff_eq,decide_eq_true_eq]
 exact ⟨fun h=>by subst h;have:=qkg a a;omega,qhz⟩
theorem qhy:∀a b:Str,qfl a b = -1∨qfl a b = 0∨qfl a b = 1
 | [],[]=>.inr (.inl rfl)
 | [],_ :: _=>.inl rfl
 | _ :: _,[]=>.inr (.inr rfl)
 | a :: x,b :: y=>by
  rw [qfl,Lib.compareBytes]
  split
  ·exact .inl rfl
  ·split
   ·exact .inr (.inr rfl)
   ·exact qhy x y
def qAy (H:Nat→Option qb) (v:Val):Prop:=∀w cs ds g,(∃d,qE d w = true)→At H v cs→At H w ds→Cov H g→Wd (.fn 22 [] []) [.agg cs,.agg ds] g = some (.ret (.int .i64 (qhA v w)),g,false)
theorem qnz {l l':List Val} {i:Nat} (h1:l.length ≤ i) (h2:i < l'.length):qep (l.drop i) (l'.drop i) = -1:=by
 rw [List.drop_eq_nil_of_le h1,List.drop_eq_getElem_cons h2,qep]
theorem qk8 {l l':List Val} {i:Nat} (h1:i < l.length) (h2:l'.length ≤ i):qep (l.drop i) (l'.drop i) = 1:=by
 rw [List.drop_eq_nil_of_le h2,List.drop_eq_getElem_cons h1,qep]
theorem qny {l l':List Val} {i:Nat} (h1:l.length ≤ i) (h2:l'.length ≤ i):qep (l.drop i) (l'.drop i) = 0:=by
 rw [List.drop_eq_nil_of_le h1,List.drop_eq_nil_of_le h2,qep]
def qve (k n:Int) (s:Str) (L:qa) (k' n':Int) (s':Str) (L':qa):List qb:=[.cells [.int .i64 k,.int .i64 n,.str s,L],.cells [.int .i64 k',.int .i64 n',.str s',L']]
theorem qxX {H:Nat→Option qb} {k n k' n':Int} {s s':Str} {l l':List Val} {L L':qa} (hl:l.length ≤ 4) (hl':l'.length ≤ 4) (hL:LP H l L) (hL':LP H l' L') (ho:∀x ∈ l,qAy H x) (hok:∀x ∈ l',∃d,qE d x = true) (h:List qb) (hg:Cov H h) :
  ∀q st,(∃(tt:List qa) (i:Nat),st = ⟨tt,h ++ qve k n s L k' n' s' L',false⟩∧tt.length = 75∧lkp tt 2 = .ptr h.length 0∧lkp tt 3 = .ptr (h.length + 1) 0∧lkp tt 5 = .int .i64 (i:Nat)∧i + q = max l.length l'.length∧qep l l' = qep (l.drop i) (l'.drop i))→
   ∃x st',qm h.length Wd (.loop qg0) st = some (x,st')∧(∃tt:List qa,st' = ⟨tt,h ++ qve k n s L k' n' s' L',false⟩∧tt.length = 75∧((x = .exit 0∧qep l l' = 0)∨(x = .ret∧lkp tt 4 = .int .i64 (qep l l')))):=by
 refine qD _ _ ?_
 rintro q st ⟨tt,i,rfl,ht,e2,e3,e5,hik,hf⟩
 generalize he:qm h.length Wd qg0 _ = r
 obtain ⟨d1',s1',w1',n1'⟩:=hL.facts
 obtain ⟨d2',s2',w2',n2'⟩:=hL'.facts
 have hgG:Cov H (h ++ qve k n s L k' n' s' L'):=hg.more _
 have hb1:(h ++ qve k n s L k' n' s' L')[h.length]? = some (.cells [.int .i64 k,.int .i64 n,.str s,L]):=by rw [qQ];rfl
 have hb2:(h ++ qve k n s L k' n' s' L')[h.length + 1]? = some (.cells [.int .i64 k',.int .i64 n',.str s',L']):=by rw [qaL];rfl
 generalize hG:h ++ qve k n s L k' n' s' L' = G at *
 rcases Nat.lt_or_ge i l.length with h1 | h1
 ·have c1:ilt (i:Int) (l.length:Int) = true:=by rw [qf];simp;omega
  have d1:ile (l.length:Int) (i:Int) = false:=by rw [qaw];simp;omega
  rcases Nat.lt_or_ge i l'.length with h2 | h2
  ·have d2:ile (l'.length:Int) (i:Int) = false:=by rw [qaw];simp;omega
   have w:=qab (n:=i) (by omega)
   obtain ⟨pp,cs,x1,x2,_,x3,x4⟩:=hL.item h1 hgG
   obtain ⟨qq,ds,y1,y2,_,y3,y4⟩:=hL'.item h2 hgG
   have x5:∀i t,qx pp i t = t:=fun i t=>by rw [←x2];exact qaf _ _ _
   have y5:∀i t,qx qq i t = t:=fun i t=>by rw [←y2];exact qaf _ _ _
   have hor:=ho _ (List.getElem_mem h1) l'[i] cs ds G (hok _ (List.getElem_mem h2)) x4 y4 hgG
   rw [qhx h1 h2] at hf
   generalize l[i] = a at *
   generalize l'[i] = b at *
   cases hz:(qhA a b == 0) with
   | true=>
    have hz':qhA a b = 0:=by simpa using hz
    rw [hz'] at hf hor
    have z0:(((0:Int)) == 0) = true:=by kernel_rfl
    simp only [sB.1,qg0,simprocAttr,-Int.reduceNatCast',ht,e2,e3,e5,hb1,hb2,c1,d1,d2,w,x1,x2,x3,x5,y1,y2,y3,y5,hor,z0,d1',d2',w1',w2',n1',n2'] at he
    subst he
    refine .inl ⟨_,q - 1,rfl,by omega,_,i + 1,rfl,by simp only [qc,ht],?_,?_,?_,by omega,?_⟩
    ·simp only [sB.1,simprocAttr,-Int.reduceNatCast',ht,e2]
    ·simp only [sB.1,simprocAttr,-Int.reduceNatCast',ht,e3]
    ·simp only [sB.1,simprocAttr,-Int.reduceNatCast',ht]
    ·rw [hf];rfl
   | false=>
    have hz':¬ qhA a b = 0:=by simpa using hz
    have hf':qep l l' = qhA a b:=by rw [hf,orI,if_neg hz']
    simp only [sB.1,qg0,simprocAttr,-Int.reduceNatCast',ht,e2,e3,e5,hb1,hb2,c1,d1,d2,w,x1,x2,x3,x5,y1,y2,y3,y5,hor,hz,d1',d2',w1',w2',n1',n2'] at he
    subst he
    refine .inr ⟨_,_,rfl,by simp,_,rfl,by simp only [qc,ht],.inr ⟨rfl,?_⟩⟩
    simp only [sB.1,simprocAttr,-Int.reduceNatCast',ht,hf']
  ·have d2:ile (l'.length:Int) (i:Int) = true:=by rw [qaw];simp;omega
   rw [qk8 h1 h2] at hf
   simp only [sB.1,qg0,simprocAttr,-Int.reduceNatCast',ht,e2,e3,e5,hb1,hb2,c1,d1,d2,d1',d2',w1',w2',n1',n2'] at he
   subst he
   refine .inr ⟨_,_,rfl,by simp,_,rfl,by simp only [qc,ht],.inr ⟨rfl,?_⟩⟩
   simp only [sB.1,simprocAttr,-Int.reduceNatCast',ht,hf]
 ·have c1:ilt (i:Int) (l.length:Int) = false:=by rw [qf];simp;omega
  have d1:ile (l.length:Int) (i:Int) = true:=by rw [qaw];simp;omega
  rcases Nat.lt_or_ge i l'.length with h2 | h2
  ·have c2:ilt (i:Int) (l'.length:Int) = true:=by rw [qf];simp;omega
   rw [qnz h1 h2] at hf
   simp only [sB.1,qg0,simprocAttr,-Int.reduceNatCast',ht,e2,e3,e5,hb1,hb2,c1,c2,d1,d1',d2',w1',w2',n1',n2',Bool.or_true] at he
   subst he
   refine .inr ⟨_,_,rfl,by simp,_,rfl,by simp only [qc,ht],.inr ⟨rfl,?_⟩⟩
   simp only [sB.1,simprocAttr,-Int.reduceNatCast',ht,hf]
  ·have c2:ilt (i:Int) (l'.length:Int) = false:=by rw [qf];simp;omega
   rw [qny h1 h2] at hf
   simp only [sB.1,qg0,simprocAttr,-Int.reduceNatCast',ht,e2,e3,e5,hb1,hb2,c1,c2,d1',d2',w1',w2',n1',n2'] at he
   subst he
   exact .inr ⟨_,_,rfl,by simp,_,rfl,by simp only [qc,ht],.inl ⟨rfl,hf⟩⟩
theorem qfU {H:Nat→Option qb} {k n:Int} {s:Str} {l:List Val} (hl:l.length ≤ 4) (ho:∀x ∈ l,qAy H x):qAy H (.mk k n s l):=by
 rintro ⟨k',n',s',l'⟩ cs ds h ⟨d,hok⟩ hv hv' hg
 obtain ⟨hl',hit⟩:=qeZ hok
 obtain ⟨L,rfl,hL⟩:=hv.lp
 obtain ⟨L',rfl,hL'⟩:=hv'.lp
 obtain ⟨d1',s1',w1',n1'⟩:=hL.facts
 obtain ⟨d2',s2',w2',n2'⟩:=hL'.facts
 have hS:=qxX (k:=k) (n:=n) (s:=s) (k':=k') (n':=n') (s':=s') hl hl' hL hL' ho hit h hg
 have hbx:h ++ qve k n s L k' n' s' L' = h ++ [.cells [.int .i64 k,.int .i64 n,.str s,L],.cells [.int .i64 k',.int .i64 n',.str s',L']]:=rfl
 have htk:(h ++ qve k n s L k' n' s' L').take h.length = h:=by simp
 generalize hL0:(qC.loop qg0) = L0 at hS
 generalize hw:Wd _ _ h = w
 rw [qr rfl (show T.get 22 = some c22 by kernel_rfl)] at hw
 have e1:=qyZ s s'
 have e2:=qBc s s'
 rw [qhA]
 have kk:qdK k k' = 0∨k ≠ k':=by
  by_cases h:k = k'
  ·exact .inl (by rw [h];simp [qdK])
  ·exact .inr h
 rcases kk with kz | kz
 ·have kq:(k == k') = true:=by rw [qhw kz];simp
  rcases Int.lt_trichotomy n n' with hn | hn | hn
  ·have c1:ilt n n' = true:=by rw [qf];simpa using hn
   have hv:qdK n n' = -1:=by unfold qdK;rw [if_pos hn]
   simp only [sB.1,c22,hL0,simprocAttr,-Int.reduceNatCast',d1',d2',s1',s2',w1',w2',n1',n2',kq,c1] at hw
   subst hw
   rw [kz,hv];rfl
  ·have c1:ilt n n' = false:=by rw [qf];simp;omega
   have c2:ilt n' n = false:=by rw [qf];simp;omega
   have hv:qdK n n' = 0:=by unfold qdK;rw [if_neg (by omega),if_neg (by omega)]
   rcases qhy s s' with hs | hs | hs
   ·have c3:Op.bytesLess s s' = true:=by rw [e1,hs];rfl
    simp only [sB.1,c22,hL0,simprocAttr,-Int.reduceNatCast',d1',d2',s1',s2',w1',w2',n1',n2',kq,c1,c2,c3] at hw
    subst hw
    rw [kz,hv,hs];rfl
   ·have c3:Op.bytesLess s s' = false:=by rw [e1,hs];rfl
    have c4:(s == s') = true:=by rw [e2,hs];rfl
    rw [kz,hv,hs]
    simp only [sB.1,c22,hL0,simprocAttr,-Int.reduceNatCast',d1',d2',s1',s2',w1',w2',n1',n2',kq,c1,c2,c3,c4] at hw
    generalize hr:qm h.length Wd L0 _ = r at hw
    obtain ⟨x,st',rfl,tt,rfl,ht,⟨rfl,hf⟩ | ⟨rfl,e4⟩⟩:=qaB hr (hS (max l.length l'.length) _ ⟨_,0,by rw [hbx],by simp only [sB.1,simprocAttr,-Int.reduceNatCast'],by simp only [sB.1,simprocAttr,-Int.reduceNatCast'],by simp only [sB.1,simprocAttr,-Int.reduceNatCast'],by simp only [sB.1,simprocAttr,-Int.reduceNatCast',Int.natCast_zero],by omega,rfl⟩)
    ·simp only [sB.1,simprocAttr,-Int.reduceNatCast',ht] at hw
     subst hw
     rw [hf]
     rfl
    ·simp only [sB.1,simprocAttr,-Int.reduceNatCast',ht,e4] at hw
     subst hw
     rfl
   ·have c3:Op.bytesLess s s' = false:=by rw [e1,hs];rfl
    have c4:(s == s') = false:=by rw [e2,hs];rfl
    simp only [sB.1,c22,hL0,simprocAttr,-Int.reduceNatCast',d1',d2',s1',s2',w1',w2',n1',n2',kq,c1,c2,c3,c4] at hw
    subst hw
    rw [kz,hv,hs];rfl
  ·have c1:ilt n n' = false:=by rw [qf];simp;omega
   have c2:ilt n' n = true:=by rw [qf];simpa using hn
   have hv:qdK n n' = 1:=by unfold qdK;rw [if_neg (by omega),if_pos hn]
   simp only [sB.1,c22,hL0,simprocAttr,-Int.reduceNatCast',d1',d2',s1',s2',w1',w2',n1',n2',kq,c1,c2] at hw
   subst hw
   rw [kz,hv];rfl
 ·have kq:(k == k') = false:=by simpa using kz
  rcases Int.lt_or_gt_of_ne kz with hk | hk
  ·have c1:ilt k k' = true:=by rw [qf];simpa using hk
   have hv:qdK k k' = -1:=by unfold qdK;rw [if_pos hk]
   simp only [sB.1,c22,hL0,simprocAttr,-Int.reduceNatCast',d1',d2',s1',s2',w1',w2',n1',n2',kq,c1] at hw
   subst hw
   rw [hv];rfl
  ·have c1:ilt k k' = false:=by rw [qf];simp;omega
   have hv:qdK k k' = 1:=by unfold qdK;rw [if_neg (by omega),if_pos hk]
   simp only [sB.1,c22,hL0,simprocAttr,-Int.reduceNatCast',d1',d2',s1',s2',w1',w2',n1',n2',kq,c1] at hw
   subst hw
   rw [hv];rfl
theorem qqL:∀d,∀{H:Nat→Option qb} {v:Val},qE d v = true→qAy H v:=by
 intro d
 induction d with
 | zero=>
  rintro H ⟨k,n,s,l⟩ h0
  have hl:=qaG h0
  subst hl
  exact qfU (by simp) fun x hx=>by cases hx
 | succ d ih=>
  rintro H ⟨k,n,s,l⟩ h0
  rw [qE] at h0
  cases h3:(k == 3) with
  | true=>
   rw [h3,cond_true] at h0
   simp only [Bool.and_eq_true,decide_eq_true_eq,List.all_eq_true] at h0
   exact qfU h0.1.2.2 fun x hx=>ih (h0.2 x hx)
  | false=>
   rw [h3,cond_false] at h0
   have hl:=qaG h0
   subst hl
   exact qfU (by simp) fun x hx=>by cases hx
end Go.Proofs.YtnibchoenjmmjaaGreatDoor.AE
