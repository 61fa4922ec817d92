/- A part of the proof: the abstract executor and what goes through it (part 14). No condition. -/
import Derived.Test.YtkmlapholimbcaaGreatDoorMx13
import Derived.Test.YtkmlapholimbcaaGreatDoorMx6
import Derived.Test.YtkmlapholimbcaaGreatDoorMx12
import Derived.Test.YtkmlapholimbcaaGreatDoorMx2
import Derived.Test.YtkmlapholimbcaaGreatDoorProg
import Derived.KernelRfl
set_option maxRecDepth 100000
namespace Go.Proofs.YtkmlapholimbcaaGreatDoor.AE
open Go.AE
section
variable {d:Nat} {h:List qf}
set_option maxHeartbeats 1000000 in
theorem qDL (hd:d < 100) (ih:qex d):EXP d h 9 nB9:=by
 intro n nm sub aS hl hf
 have q:=(qcb n nm sub aS.length).2.2.2.2.2.2.2.2.2.1
 have z:ilt 9 0 = false∧ilt 25 9 = false:=⟨by kernel_rfl,by kernel_rfl⟩
 rw [qe,qi rfl (show T.get 9 = some c9 by kernel_rfl)]
 cases hb:nB9 n nm sub aS.length <;> rw [hb] at q <;> simp only [c9,sT.1,sC.1,qc,qb,Nat.testBit,simprocAttr,-Int.reduceNatCast',qfB,z,List.length_map,qam,qaq,q,Bool.not_true,Bool.not_false,Bool.true_and,Bool.false_and]
 apply qa9 hd ih hl hf <;> simp only [sT.1,sC.1,qc,qb,Nat.testBit,simprocAttr,-Int.reduceNatCast']
set_option maxHeartbeats 1000000 in
theorem qBf (hd:d < 100) (ih:qex d):EXP d h 10 qxh:=by
 intro n nm sub aS hl hf
 have q:=(qcb n nm sub aS.length).2.2.2.2.2.2.2.2.2.2.1
 have z:ilt 10 0 = false∧ilt 25 10 = false:=⟨by kernel_rfl,by kernel_rfl⟩
 rw [qe,qi rfl (show T.get 9 = some c9 by kernel_rfl)]
 cases hb:qxh n nm sub aS.length <;> rw [hb] at q <;> simp only [c9,sT.1,sC.1,qc,qb,Nat.testBit,simprocAttr,-Int.reduceNatCast',qfB,z,List.length_map,qam,qaq,q,Bool.not_true,Bool.not_false,Bool.true_and,Bool.false_and]
 apply qa9 hd ih hl hf <;> simp only [sT.1,sC.1,qc,qb,Nat.testBit,simprocAttr,-Int.reduceNatCast']
set_option maxHeartbeats 1000000 in
theorem qBg (hd:d < 100) (ih:qex d):EXP d h 11 qxi:=by
 intro n nm sub aS hl hf
 have q:=(qcb n nm sub aS.length).2.2.2.2.2.2.2.2.2.2.2.1
 have z:ilt 11 0 = false∧ilt 25 11 = false:=⟨by kernel_rfl,by kernel_rfl⟩
 rw [qe,qi rfl (show T.get 9 = some c9 by kernel_rfl)]
 cases hb:qxi n nm sub aS.length <;> rw [hb] at q <;> simp only [c9,sT.1,sC.1,qc,qb,Nat.testBit,simprocAttr,-Int.reduceNatCast',qfB,z,List.length_map,qam,qaq,q,Bool.not_true,Bool.not_false,Bool.true_and,Bool.false_and]
 apply qa9 hd ih hl hf <;> simp only [sT.1,sC.1,qc,qb,Nat.testBit,simprocAttr,-Int.reduceNatCast']
set_option maxHeartbeats 1000000 in
theorem qBh (hd:d < 100) (ih:qex d):EXP d h 12 qxj:=by
 intro n nm sub aS hl hf
 have q:=(qcb n nm sub aS.length).2.2.2.2.2.2.2.2.2.2.2.2.1
 have z:ilt 12 0 = false∧ilt 25 12 = false:=⟨by kernel_rfl,by kernel_rfl⟩
 rw [qe,qi rfl (show T.get 9 = some c9 by kernel_rfl)]
 cases hb:qxj n nm sub aS.length <;> rw [hb] at q <;> simp only [c9,sT.1,sC.1,qc,qb,Nat.testBit,simprocAttr,-Int.reduceNatCast',qfB,z,List.length_map,qam,qaq,q,Bool.not_true,Bool.not_false,Bool.true_and,Bool.false_and]
 apply qa9 hd ih hl hf <;> simp only [sT.1,sC.1,qc,qb,Nat.testBit,simprocAttr,-Int.reduceNatCast']
set_option maxHeartbeats 1000000 in
theorem qBi (hd:d < 100) (ih:qex d):EXP d h 13 qxk:=by
 intro n nm sub aS hl hf
 have q:=(qcb n nm sub aS.length).2.2.2.2.2.2.2.2.2.2.2.2.2.1
 have z:ilt 13 0 = false∧ilt 25 13 = false:=⟨by kernel_rfl,by kernel_rfl⟩
 rw [qe,qi rfl (show T.get 9 = some c9 by kernel_rfl)]
 cases hb:qxk n nm sub aS.length <;> rw [hb] at q <;> simp only [c9,sT.1,sC.1,qc,qb,Nat.testBit,simprocAttr,-Int.reduceNatCast',qfB,z,List.length_map,qam,qaq,q,Bool.not_true,Bool.not_false,Bool.true_and,Bool.false_and]
 apply qa9 hd ih hl hf <;> simp only [sT.1,sC.1,qc,qb,Nat.testBit,simprocAttr,-Int.reduceNatCast']
set_option maxHeartbeats 1000000 in
theorem qBj (hd:d < 100) (ih:qex d):EXP d h 14 qxl:=by
 intro n nm sub aS hl hf
 have q:=(qcb n nm sub aS.length).2.2.2.2.2.2.2.2.2.2.2.2.2.2.1
 have z:ilt 14 0 = false∧ilt 25 14 = false:=⟨by kernel_rfl,by kernel_rfl⟩
 rw [qe,qi rfl (show T.get 9 = some c9 by kernel_rfl)]
 cases hb:qxl n nm sub aS.length <;> rw [hb] at q <;> simp only [c9,sT.1,sC.1,qc,qb,Nat.testBit,simprocAttr,-Int.reduceNatCast',qfB,z,List.length_map,qam,qaq,q,Bool.not_true,Bool.not_false,Bool.true_and,Bool.false_and]
 apply qa9 hd ih hl hf <;> simp only [sT.1,sC.1,qc,qb,Nat.testBit,simprocAttr,-Int.reduceNatCast']
set_option maxHeartbeats 1000000 in
theorem qBk (hd:d < 100) (ih:qex d):EXP d h 15 qxm:=by
 intro n nm sub aS hl hf
 have q:=(qcb n nm sub aS.length).2.2.2.2.2.2.2.2.2.2.2.2.2.2.2.1
 have z:ilt 15 0 = false∧ilt 25 15 = false:=⟨by kernel_rfl,by kernel_rfl⟩
 rw [qe,qi rfl (show T.get 9 = some c9 by kernel_rfl)]
 cases hb:qxm n nm sub aS.length <;> rw [hb] at q <;> simp only [c9,sT.1,sC.1,qc,qb,Nat.testBit,simprocAttr,-Int.reduceNatCast',qfB,z,List.length_map,qam,qaq,q,Bool.not_true,Bool.not_false,Bool.true_and,Bool.false_and]
 apply qa9 hd ih hl hf <;> simp only [sT.1,sC.1,qc,qb,Nat.testBit,simprocAttr,-Int.reduceNatCast']
set_option maxHeartbeats 1000000 in
theorem qBl (hd:d < 100) (ih:qex d):EXP d h 16 qxn:=by
 intro n nm sub aS hl hf
 have q:=(qcb n nm sub aS.length).2.2.2.2.2.2.2.2.2.2.2.2.2.2.2.2.1
 have z:ilt 16 0 = false∧ilt 25 16 = false:=⟨by kernel_rfl,by kernel_rfl⟩
 rw [qe,qi rfl (show T.get 9 = some c9 by kernel_rfl)]
 cases hb:qxn n nm sub aS.length <;> rw [hb] at q <;> simp only [c9,sT.1,sC.1,qc,qb,Nat.testBit,simprocAttr,-Int.reduceNatCast',qfB,z,List.length_map,qam,qaq,q,Bool.not_true,Bool.not_false,Bool.true_and,Bool.false_and]
 apply qa9 hd ih hl hf <;> simp only [sT.1,sC.1,qc,qb,Nat.testBit,simprocAttr,-Int.reduceNatCast']
set_option maxHeartbeats 1000000 in
theorem qBm (hd:d < 100) (ih:qex d):EXP d h 17 qxo:=by
 intro n nm sub aS hl hf
 have q:=(qcb n nm sub aS.length).2.2.2.2.2.2.2.2.2.2.2.2.2.2.2.2.2.1
 have z:ilt 17 0 = false∧ilt 25 17 = false:=⟨by kernel_rfl,by kernel_rfl⟩
 rw [qe,qi rfl (show T.get 9 = some c9 by kernel_rfl)]
 cases hb:qxo n nm sub aS.length <;> rw [hb] at q <;> simp only [c9,sT.1,sC.1,qc,qb,Nat.testBit,simprocAttr,-Int.reduceNatCast',qfB,z,List.length_map,qam,qaq,q,Bool.not_true,Bool.not_false,Bool.true_and,Bool.false_and]
 apply qa9 hd ih hl hf <;> simp only [sT.1,sC.1,qc,qb,Nat.testBit,simprocAttr,-Int.reduceNatCast']
end
end Go.Proofs.YtkmlapholimbcaaGreatDoor.AE
namespace Go.Proofs.YtkmlapholimbcaaGreatDoor.AE
open Go.AE
section
variable {d:Nat} {h:List qf}
set_option maxHeartbeats 1000000 in
theorem qBn (hd:d < 100) (ih:qex d):EXP d h 18 qxp:=by
 intro n nm sub aS hl hf
 have q:=(qcb n nm sub aS.length).2.2.2.2.2.2.2.2.2.2.2.2.2.2.2.2.2.2.1
 have z:ilt 18 0 = false∧ilt 25 18 = false:=⟨by kernel_rfl,by kernel_rfl⟩
 rw [qe,qi rfl (show T.get 9 = some c9 by kernel_rfl)]
 cases hb:qxp n nm sub aS.length <;> rw [hb] at q <;> simp only [c9,sT.1,sC.1,qc,qb,Nat.testBit,simprocAttr,-Int.reduceNatCast',qfB,z,List.length_map,qam,qaq,q,Bool.not_true,Bool.not_false,Bool.true_and,Bool.false_and]
 apply qa9 hd ih hl hf <;> simp only [sT.1,sC.1,qc,qb,Nat.testBit,simprocAttr,-Int.reduceNatCast']
set_option maxHeartbeats 1000000 in
theorem qBo (hd:d < 100) (ih:qex d):EXP d h 19 qxq:=by
 intro n nm sub aS hl hf
 have q:=(qcb n nm sub aS.length).2.2.2.2.2.2.2.2.2.2.2.2.2.2.2.2.2.2.2.1
 have z:ilt 19 0 = false∧ilt 25 19 = false:=⟨by kernel_rfl,by kernel_rfl⟩
 rw [qe,qi rfl (show T.get 9 = some c9 by kernel_rfl)]
 cases hb:qxq n nm sub aS.length <;> rw [hb] at q <;> simp only [c9,sT.1,sC.1,qc,qb,Nat.testBit,simprocAttr,-Int.reduceNatCast',qfB,z,List.length_map,qam,qaq,q,Bool.not_true,Bool.not_false,Bool.true_and,Bool.false_and]
 apply qa9 hd ih hl hf <;> simp only [sT.1,sC.1,qc,qb,Nat.testBit,simprocAttr,-Int.reduceNatCast']
set_option maxHeartbeats 1000000 in
theorem qBp (hd:d < 100) (ih:qex d):EXP d h 20 qxr:=by
 intro n nm sub aS hl hf
 have q:=(qcb n nm sub aS.length).2.2.2.2.2.2.2.2.2.2.2.2.2.2.2.2.2.2.2.2.1
 have z:ilt 20 0 = false∧ilt 25 20 = false:=⟨by kernel_rfl,by kernel_rfl⟩
 rw [qe,qi rfl (show T.get 9 = some c9 by kernel_rfl)]
 cases hb:qxr n nm sub aS.length <;> rw [hb] at q <;> simp only [c9,sT.1,sC.1,qc,qb,Nat.testBit,simprocAttr,-Int.reduceNatCast',qfB,z,List.length_map,qam,qaq,q,Bool.not_true,Bool.not_false,Bool.true_and,Bool.false_and]
 apply qa9 hd ih hl hf <;> simp only [sT.1,sC.1,qc,qb,Nat.testBit,simprocAttr,-Int.reduceNatCast']
set_option maxHeartbeats 1000000 in
theorem qBq (hd:d < 100) (ih:qex d):EXP d h 21 qxs:=by
 intro n nm sub aS hl hf
 have q:=(qcb n nm sub aS.length).2.2.2.2.2.2.2.2.2.2.2.2.2.2.2.2.2.2.2.2.2.1
 have z:ilt 21 0 = false∧ilt 25 21 = false:=⟨by kernel_rfl,by kernel_rfl⟩
 rw [qe,qi rfl (show T.get 9 = some c9 by kernel_rfl)]
 cases hb:qxs n nm sub aS.length <;> rw [hb] at q <;> simp only [c9,sT.1,sC.1,qc,qb,Nat.testBit,simprocAttr,-Int.reduceNatCast',qfB,z,List.length_map,qam,qaq,q,Bool.not_true,Bool.not_false,Bool.true_and,Bool.false_and]
 apply qa9 hd ih hl hf <;> simp only [sT.1,sC.1,qc,qb,Nat.testBit,simprocAttr,-Int.reduceNatCast']
set_option maxHeartbeats 1000000 in
theorem qBr (hd:d < 100) (ih:qex d):EXP d h 22 qxt:=by
 intro n nm sub aS hl hf
 have q:=(qcb n nm sub aS.length).2.2.2.2.2.2.2.2.2.2.2.2.2.2.2.2.2.2.2.2.2.2.1
 have z:ilt 22 0 = false∧ilt 25 22 = false:=⟨by kernel_rfl,by kernel_rfl⟩
 rw [qe,qi rfl (show T.get 9 = some c9 by kernel_rfl)]
 cases hb:qxt n nm sub aS.length <;> rw [hb] at q <;> simp only [c9,sT.1,sC.1,qc,qb,Nat.testBit,simprocAttr,-Int.reduceNatCast',qfB,z,List.length_map,qam,qaq,q,Bool.not_true,Bool.not_false,Bool.true_and,Bool.false_and]
 apply qa9 hd ih hl hf <;> simp only [sT.1,sC.1,qc,qb,Nat.testBit,simprocAttr,-Int.reduceNatCast']
set_option maxHeartbeats 1000000 in
theorem qBs (hd:d < 100) (ih:qex d):EXP d h 23 qxu:=by
 intro n nm sub aS hl hf
 have q:=(qcb n nm sub aS.length).2.2.2.2.2.2.2.2.2.2.2.2.2.2.2.2.2.2.2.2.2.2.2.1
 have z:ilt 23 0 = false∧ilt 25 23 = false:=⟨by kernel_rfl,by kernel_rfl⟩
 rw [qe,qi rfl (show T.get 9 = some c9 by kernel_rfl)]
 cases hb:qxu n nm sub aS.length <;> rw [hb] at q <;> simp only [c9,sT.1,sC.1,qc,qb,Nat.testBit,simprocAttr,-Int.reduceNatCast',qfB,z,List.length_map,qam,qaq,q,Bool.not_true,Bool.not_false,Bool.true_and,Bool.false_and]
 apply qa9 hd ih hl hf <;> simp only [sT.1,sC.1,qc,qb,Nat.testBit,simprocAttr,-Int.reduceNatCast']
set_option maxHeartbeats 1000000 in
theorem qBt (hd:d < 100) (ih:qex d):EXP d h 24 qxv:=by
 intro n nm sub aS hl hf
 have q:=(qcb n nm sub aS.length).2.2.2.2.2.2.2.2.2.2.2.2.2.2.2.2.2.2.2.2.2.2.2.2.1
 have z:ilt 24 0 = false∧ilt 25 24 = false:=⟨by kernel_rfl,by kernel_rfl⟩
 rw [qe,qi rfl (show T.get 9 = some c9 by kernel_rfl)]
 cases hb:qxv n nm sub aS.length <;> rw [hb] at q <;> simp only [c9,sT.1,sC.1,qc,qb,Nat.testBit,simprocAttr,-Int.reduceNatCast',qfB,z,List.length_map,qam,qaq,q,Bool.not_true,Bool.not_false,Bool.true_and,Bool.false_and]
 apply qa9 hd ih hl hf <;> simp only [sT.1,sC.1,qc,qb,Nat.testBit,simprocAttr,-Int.reduceNatCast']
set_option maxHeartbeats 1000000 in
theorem qBu (hd:d < 100) (ih:qex d):EXP d h 25 qxw:=by
 intro n nm sub aS hl hf
 have q:=(qcb n nm sub aS.length).2.2.2.2.2.2.2.2.2.2.2.2.2.2.2.2.2.2.2.2.2.2.2.2.2
 have z:ilt 25 0 = false∧ilt 25 25 = false:=⟨by kernel_rfl,by kernel_rfl⟩
 rw [qe,qi rfl (show T.get 9 = some c9 by kernel_rfl)]
 cases hb:qxw n nm sub aS.length <;> rw [hb] at q <;> simp only [c9,sT.1,sC.1,qc,qb,Nat.testBit,simprocAttr,-Int.reduceNatCast',qfB,z,List.length_map,qam,qaq,q,Bool.not_true,Bool.not_false,Bool.true_and,Bool.false_and]
 apply qa9 hd ih hl hf <;> simp only [sT.1,sC.1,qc,qb,Nat.testBit,simprocAttr,-Int.reduceNatCast']
end
set_option maxHeartbeats 1000000 in
theorem qBv {d:Nat} {h:List qf} {op:Int} (ho:¬ (0 ≤ op∧op ≤ 25)) (n:Int) (nm sub:Str) (aS:List Exl):Wd (.fn 9 [] []) [exV (.mk op n nm sub aS),.int .i64 (d + 1:Nat)] h = some (.ret (.bool false),h,false):=by
 have z0:(((d + 1:Nat):Int) == 0) = false:=by rw [beq_eq_false_iff_ne];omega
 rw [qe,qi rfl (show T.get 9 = some c9 by kernel_rfl)]
 by_cases h1:op < 0
 ·have z1:ilt op 0 = true:=by rw [qM];simpa using h1
  simp only [c9,sT.1,sC.1,qc,qb,Nat.testBit,simprocAttr,-Int.reduceNatCast',z0,z1]
 ·have z1:ilt op 0 = false:=by rw [qM];simpa using h1
  have z2:ilt 25 op = true:=by rw [qM];simp;omega
  simp only [c9,sT.1,sC.1,qc,qb,Nat.testBit,simprocAttr,-Int.reduceNatCast',z0,z1,z2]
theorem qDm:∀d,d ≤ 100→qex d:=by
 intro d
 induction d with
 | zero=>
  rintro _ ⟨op,n,nm,sub,aS⟩ h _
  have z0:(((0:Nat):Int) == 0) = true:=by kernel_rfl
  rw [qe,qi rfl (show T.get 9 = some c9 by kernel_rfl),right]
  simp only [c9,sT.1,sC.1,qc,qb,Nat.testBit,simprocAttr,-Int.reduceNatCast',z0]
 | succ d ih=>
  rintro hd ⟨op,n,nm,sub,aS⟩ h ⟨k,hk⟩
  have ih:=ih (by omega)
  have hd:d < 100:=by omega
  obtain ⟨k,rfl⟩ :∃k',k = k' + 1:=by cases k with | zero=>exact hk.elim | succ k=>exact ⟨k,rfl⟩
  have hl:aS.length < 1000000000:=by have:=hk.1;omega
  have hf:∀a ∈ aS,∃k,Fit k a:=fun a ha=>⟨k,hk.2 a ha⟩
  rw [right]
  by_cases ho:0 ≤ op∧op ≤ 25
  ·have:op = 0∨op = 1∨op = 2∨op = 3∨op = 4∨op = 5∨op = 6∨op = 7∨op = 8∨op = 9∨op = 10∨op = 11∨op = 12∨op = 13∨op = 14∨op = 15∨op = 16∨op = 17∨op = 18∨op = 19∨op = 20∨op = 21∨op = 22∨op = 23∨op = 24∨op = 25:=by omega
   rcases this with rfl | rfl | rfl | rfl | rfl | rfl | rfl | rfl | rfl | rfl | rfl | rfl | rfl | rfl | rfl | rfl | rfl | rfl | rfl | rfl | rfl | rfl | rfl | rfl | rfl | rfl
   ·exact qDC hd ih n nm sub aS hl hf
   ·exact qDD hd ih n nm sub aS hl hf
   ·exact qDE hd ih n nm sub aS hl hf
   ·exact qDF hd ih n nm sub aS hl hf
   ·exact qDG hd ih n nm sub aS hl hf
   ·exact qDH hd ih n nm sub aS hl hf
   ·exact qDI hd ih n nm sub aS hl hf
   ·exact qDJ hd ih n nm sub aS hl hf
   ·exact qDK hd ih n nm sub aS hl hf
   ·exact qDL hd ih n nm sub aS hl hf
   ·exact qBf hd ih n nm sub aS hl hf
   ·exact qBg hd ih n nm sub aS hl hf
   ·exact qBh hd ih n nm sub aS hl hf
   ·exact qBi hd ih n nm sub aS hl hf
   ·exact qBj hd ih n nm sub aS hl hf
   ·exact qBk hd ih n nm sub aS hl hf
   ·exact qBl hd ih n nm sub aS hl hf
   ·exact qBm hd ih n nm sub aS hl hf
   ·exact qBn hd ih n nm sub aS hl hf
   ·exact qBo hd ih n nm sub aS hl hf
   ·exact qBp hd ih n nm sub aS hl hf
   ·exact qBq hd ih n nm sub aS hl hf
   ·exact qBr hd ih n nm sub aS hl hf
   ·exact qBs hd ih n nm sub aS hl hf
   ·exact qBt hd ih n nm sub aS hl hf
   ·exact qBu hd ih n nm sub aS hl hf
  ·rw [qcl ho,Bool.false_and]
   exact qBv ho n nm sub aS
end Go.Proofs.YtkmlapholimbcaaGreatDoor.AE
namespace Go.Proofs.YtkmlapholimbcaaGreatDoor.AE
open Go.AE
theorem qCD:∀(d:Nat) (e:Exl),sz d e ≤ sz (d + 1) e:=by
 intro d
 induction d with
 | zero=>intro e;rw [sz];omega
 | succ d ih=>
  rintro ⟨op,n,nm,sb,aS⟩
  rw [sz,sz]
  have:(aS.map (sz d)).sum ≤ (aS.map (sz (d + 1))).sum:=by
   induction aS with
   | nil=>simp
   | cons a aS iha=>have:=ih a;simp only [List.map_cons,List.sum_cons];omega
  omega
theorem qAj {d d':Nat} (h:d ≤ d') (e:Exl):sz d e ≤ sz d' e:=by
 induction h with
 | refl=>exact Nat.le_refl _
 | step _ ih=>exact Nat.le_trans ih (qCD _ _)
theorem qAQ (h:List qf):Wd (.fn 6 [] []) [] h = some (.ret (.bool true),h,false):=by
 rw [show Wd = W T.get X from rfl,qhx qfp (show X 6 = some qek from rfl)]
 rfl
theorem qCf (op n:Int) (nm sb:Str) (xs:List qa):qer 5 [.int .i64 0,.int .i64 0,.str [],.str [],.lst [] .full] 1 [(0,.agg [.int .i64 op,.int .i64 n,.str nm,.str sb,.lst xs .no])] = some (.lst [.agg [.int .i64 op,.int .i64 n,.str nm,.str sb,.lst xs .no]] .full):=qc1 rfl (by decide) rfl rfl (by decide)
theorem qzF (xs:List qa):qer 14 [.str [],.bool false,.lst [] .full,.lst [] .full,.lst [] .full,.lst [] .full,.lst [] .full,.lst [] .full,.lst [] .full,.int .i64 0,.lst [] .full,.lst [] .full,.lst [] .full,.lst [] .full] 1 [(0,.agg [.str [],.bool false,.lst [] .full,.lst [] .full,.lst [] .full,.lst xs .full,.lst [] .full,.lst [] .full,.lst [] .full,.int .i64 0,.lst [] .full,.lst [] .full,.lst [] .full,.lst [] .full])] = some (.lst [.agg [.str [],.bool false,.lst [] .full,.lst [] .full,.lst [] .full,.lst xs .full,.lst [] .full,.lst [] .full,.lst [] .full,.int .i64 0,.lst [] .full,.lst [] .full,.lst [] .full,.lst [] .full]] .full):=qc1 rfl (by decide) rfl rfl (by decide)
theorem qyx (e:Exl) (h:List qf):∃r:Int,Wd (.fn 7 [] []) [exV e] h = some (.ret (.int .i64 r),h,false)∧(r = 1∨(r = 0∧Fit 40 e∧sz 40 e ≤ 600)):=by
 have w0:IntKind.i64.wrap (1 - 0) = 1:=by kernel_rfl
 have w1:IntKind.i64.wrap (1 - 1) = 0:=by kernel_rfl
 obtain ⟨G,hG⟩ :∃G,G = h ++ [qf.cells e.enc,qf.cells [.lst [qzK e] .full,.str []]]:=⟨_,rfl⟩
 obtain ⟨r,hr,hr2⟩:=qul e G
 have hbx:G[h.length]? = some (.cells e.enc):=by rw [hG,qgl];rfl
 have htk:G.take h.length = h:=by rw [hG];simp
 have hb2:G[h.length + 1]? = some (.cells [.lst [qzK e] .full,.str []]):=by rw [hG];simp
 have hle:Nat.ble h.length (h.length + 1) = true:=qau (by omega)
 obtain ⟨op,n,nm,sb,aS⟩:=e
 generalize hw:Wd _ _ h = w
 rw [qe,qi rfl (show T.get 7 = some c7 by kernel_rfl)] at hw
 rw [qzK,qe] at hr hG hb2
 rw [qa6] at hbx hG
 simp only [c7,sT.1,sC.1,sTA.1,sCA.1,qc,qak,qal,Src.isTmp,qD,Src.hangs,qk.isT,qai,qb,Nat.testBit,bne,simprocAttr,-Int.reduceNatCast',qI,qCf,qzF,hbx,hb2,hle,Bool.true_or,Bool.not_true,List.append_assoc,List.cons_append,List.nil_append,←hG,hr] at hw
 rcases hr2 with rfl | ⟨rfl,hf⟩
 ·subst hw
  exact ⟨_,congrArg some (qa0 htk rfl),.inl w0⟩
 ·subst hw
  exact ⟨_,congrArg some (qa0 htk rfl),.inr ⟨w1,hf⟩⟩
theorem qCz (e:Exl) (h:List qf) (hf:Fit 40 e) (hs:sz 40 e ≤ 600) (hn:OkN e):Wd (.fn 8 [] []) [exV e] h = some (.ret (.tup [.str (bif right 20 e then tx 20 e else []),.int .i64 (bif right 20 e then 0 else 1)]),h,false):=by
 have hE:=fun G=>qBw e G ⟨40,hf⟩
 have hT:right 20 e = true→∀G,Wd (.fn 19 [] []) [exV e] G = some (.ret (.str (tx 20 e)),G,false):=fun hr G=>qBc ⟨hr,hn,by have:=qAj (show 20 ≤ 40 by omega) e;omega⟩ G
 cases hr:right 20 e with
 | false=>
  rw [hr] at hE
  obtain ⟨op,n,nm,sb,aS⟩:=e
  rw [qe] at hE ⊢
  rw [qi rfl (show T.get 8 = some c8 by kernel_rfl)]
  simp only [c8,sT.1,sC.1,sTA.1,sCA.1,qc,qak,qal,Src.isTmp,qD,Src.hangs,qk.isT,qai,qb,Nat.testBit,bne,simprocAttr,-Int.reduceNatCast',hE,cond_false]
 | true=>
  rw [hr] at hE
  have hT:=hT hr
  generalize tx 20 e = t at *
  obtain ⟨op,n,nm,sb,aS⟩:=e
  rw [qe] at hE hT ⊢
  rw [qi rfl (show T.get 8 = some c8 by kernel_rfl)]
  simp only [c8,sT.1,sC.1,sTA.1,sCA.1,qc,qak,qal,Src.isTmp,qD,Src.hangs,qk.isT,qai,qb,Nat.testBit,bne,simprocAttr,-Int.reduceNatCast',hE,hT,cond_true]
end Go.Proofs.YtkmlapholimbcaaGreatDoor.AE
namespace Go.Proofs.YtkmlapholimbcaaGreatDoor.AE
open Go.AE
theorem qii {e:Exl} (hn:OkN e) (h:List qf):∃g x,Wd (.fn 3 [] []) [exV e] h = some (.ret (.bool true),g,x):=by
 have haw:=fun G=>qAQ G
 obtain ⟨G,hG⟩ :∃G,G = h ++ [qf.cells e.enc]:=⟨_,rfl⟩
 have hbx:G[h.length]? = some (.cells e.enc):=by rw [hG,qgl];rfl
 obtain ⟨r,hr,hr2⟩:=qyx e G
 generalize hw:Wd _ _ h = w
 have qdq:∀(x:qcD×List qf×Bool),x.1 = .ret (.bool true)→some x = w→∃g x,w = some (.ret (.bool true),g,x):=by
  rintro ⟨a,b,c⟩ h1 h2
  cases h1
  exact ⟨b,c,h2.symm⟩
 rcases hr2 with rfl | ⟨rfl,hf,hs⟩
 ·have z1:ilt 0 1 = true:=by kernel_rfl
  obtain ⟨op,n,nm,sb,aS⟩:=e
  rw [qe,qi rfl (show T.get 3 = some c3 by kernel_rfl)] at hw
  rw [qe] at hr
  rw [qa6] at hG hbx
  simp only [c3,sT.1,sC.1,sTA.1,sCA.1,qc,qak,qal,Src.isTmp,qD,Src.hangs,qk.isT,qai,qb,Nat.testBit,bne,simprocAttr,-Int.reduceNatCast',←hG,haw,hbx,hr,z1] at hw
  exact qdq _ rfl hw
 ·have hS:=fun G=>qCz e G hf hs hn
  have hq:=fun G=>qDm 20 (by omega) e G ⟨40,hf⟩
  have c20:((20:Nat):Int) = 20:=Eq.trans rfl rfl
  rw [c20] at hq
  cases hR:right 20 e with
  | false=>
   rw [hR] at hS hq
   simp only [cond_false] at hS
   have z1:((1:Int) == 1) = true:=by kernel_rfl
   obtain ⟨op,n,nm,sb,aS⟩:=e
   rw [qe,qi rfl (show T.get 3 = some c3 by kernel_rfl)] at hw
   rw [qe] at hr hS hq
   rw [qa6] at hG hbx
   simp only [c3,sT.1,sC.1,sTA.1,sCA.1,qc,qak,qal,Src.isTmp,qD,Src.hangs,qk.isT,qai,qb,Nat.testBit,bne,simprocAttr,-Int.reduceNatCast',←hG,haw,hbx,hr,z00,hS,hq,z1,beq_self_eq_true] at hw
   exact qdq _ rfl hw
  | true=>
   rw [hR] at hS hq
   simp only [cond_true] at hS
   have hE:qAF e:=⟨hR,hn,by have:=qAj (show 20 ≤ 40 by omega) e;omega⟩
   have hX:=fun G=>qwp hE G
   have hrd:=fun hl G=>qrc hR hn hl G
   have hsm:=fun G=>qrl hR G
   unfold eT at hX
   have ss:(tx 20 e == tx 20 e) = true:=by simp
   have z0:((0:Int) == 0) = true:=by kernel_rfl
   generalize tx 20 e = t at *
   have hd:=Exp.dimE φP e.cv
   have hc:=Exp.cellsE φP e.cv
   have hl:=fun n=>Exp.lower φP e.cv n
   have hdr:=Exp.drainE φP e.cv
   have hdm:=Exp.dims φP e.cv
   have hct:=Exp.cut φP e.cv
   have hst:=Exp.stor φP e.cv
   have hcl:=Exp.cs_len φP e.cv
   have hd5:=Exp.drop5 φP e.cv
   have hle:Nat.ble h.length G.length = true:=qau (by rw [hG];simp)
   have hgx:∀c:qf,(G ++ [c])[h.length]? = G[h.length]?:=fun c=>List.getElem?_append_left (by rw [hG];simp)
   generalize e.cv = x at *
   obtain ⟨op,n,nm,sb,aS⟩:=e
   rw [qe,qi rfl (show T.get 3 = some c3 by kernel_rfl)] at hw
   rw [qe] at hr hS hq hX hsm
   rw [qa6] at hG hbx
   rcases Nat.lt_or_ge 16384 t.length with hl | hl
   ·have z2:ilt 16384 (t.length:Int) = true:=qyE (by omega)
    simp only [c3,sT.1,sC.1,sTA.1,sCA.1,qc,qak,qal,Src.isTmp,qD,Src.hangs,qk.isT,qai,qb,Nat.testBit,bne,simprocAttr,-Int.reduceNatCast',←hG,haw,hbx,hr,z00,hS,hq,hX,ss,z0,z2] at hw
    exact qdq _ rfl hw
   ·have z2:ilt 16384 (t.length:Int) = false:=qyD (by omega)
    have hrd:=hrd hl
    simp only [c3,sT.1,sC.1,sTA.1,sCA.1,qc,qak,qal,Src.isTmp,qD,Src.hangs,qk.isT,qai,qb,Nat.testBit,bne,simprocAttr,-Int.reduceNatCast',←hG,haw,hbx,hr,z00,hS,hq,hX,ss,z0,z2,hrd,hsm,hd,hc,hdr,hct,hdm,hst,hcl,hle,hgx,Bool.true_or,Bool.not_true,and_self,if_true,List.drop_succ_cons,List.drop_zero,List.drop_nil,List.append_nil,Nat.le_refl] at hw
    exact qdq _ rfl hw
end Go.Proofs.YtkmlapholimbcaaGreatDoor.AE
namespace Go.Proofs.YtkmlapholimbcaaGreatDoor
theorem mxl {n:Nat} (h:n ≤ Go.maxLen):n ≤ 9223372036854775807:=h
theorem qu6 {n:Nat} {ws:List Go.AE.qa} (h:Go.AE.qe8 Tryz.prog n 3 ws):∃z,ws = [.int .i64 z]∧z ≤ 9223372036854775807:=by
 cases n with
 | zero=>exact h.elim
 | succ n=>
  simp only [Go.AE.qe8,Tryz.underlying3] at h
  obtain ⟨z,rfl,hz⟩:=h
  simp [Lit.wf,IntKind.min,IntKind.max,IntKind.bits,IntKind.signed] at hz
  exact ⟨z,rfl,by omega⟩
theorem qjM {P:Program} {n:Nat} {t:TypeId} {ws:List Go.AE.qa} {fs:Array Field} (h:Go.AE.qe8 P n t ws) (hu:P.underlying t = some (.struct fs)):∃m ass,n = m + 1∧ws = List.flatten ass∧Go.AE.qhu (Go.AE.qe8 P m) (fs.toList.map (·.type)) ass:=by
 cases n with
 | zero=>exact h.elim
 | succ n=>
  simp only [Go.AE.qe8,hu] at h
  obtain ⟨ass,h1,h2⟩:=h
  exact ⟨n,ass,rfl,h1,h2⟩
theorem qkR {P:Program} {n:Nat} {t:TypeId} {ws:List Go.AE.qa} (h:Go.AE.qe8 P n t ws) (hu:P.underlying t = some .string):∃s,ws = [.str s]∧s.length ≤ 9223372036854775807:=by
 cases n with
 | zero=>exact h.elim
 | succ n=>
  simp only [Go.AE.qe8,hu] at h
  exact ⟨_,h.choose_spec.1,mxl h.choose_spec.2⟩
theorem qzf {P:Program} {e:TypeId} (h:Go.AE.qb5 P e = true) (x:List Go.AE.qa):Go.AE.el P e x = .agg x:=by
 unfold Go.AE.el
 rw [h]
 rfl
theorem qvg {α β γ:Type} {f:α→β} {g:γ→β} {Q:γ→Prop}:∀xs:List α,(∀x ∈ xs,∃y,f x = g y∧Q y)→∃ys:List γ,xs.map f = ys.map g∧∀y ∈ ys,Q y
 | [],_=>⟨[],rfl,fun _ h=>by cases h⟩
 | x :: xs,h=>by
  obtain ⟨y,h1,h2⟩:=h x List.mem_cons_self
  obtain ⟨ys,h3,h4⟩:=qvg xs fun z hz=>h z (List.mem_cons_of_mem _ hz)
  refine ⟨y :: ys,by rw [List.map_cons,List.map_cons,h1,h3],fun z hz=>?_⟩
  rcases List.mem_cons.1 hz with rfl | hz
  ·exact h2
  ·exact h4 z hz
theorem qxa {n:Nat} {t e:TypeId} {ws:List Go.AE.qa} {γ:Type} {g:γ→Go.AE.qa} {Q:γ→Prop} (h:Go.AE.qe8 Tryz.prog n t ws) (hu:Tryz.prog.underlying t = some (.slice e)) (hs:Go.AE.qb5 Tryz.prog e = true) (hk:∀m,m < n→∀x,Go.AE.qe8 Tryz.prog m e x→∃y,Go.AE.qa.agg x = g y∧Q y):∃ys:List γ,ws = [.lst (ys.map g) .no]∧ys.length ≤ 9223372036854775807∧∀y ∈ ys,Q y:=by
 cases n with
 | zero=>exact h.elim
 | succ m=>
  simp only [Go.AE.qe8,hu] at h
  obtain ⟨xs,rfl,hl,hx⟩:=h
  obtain ⟨ys,h1,h2⟩:=qvg (f:=Go.AE.el Tryz.prog e) (g:=g) (Q:=Q) xs fun x hxs=>by
   rw [qzf hs]
   exact hk m (by omega) x (hx x hxs)
  have:xs.length = ys.length:=by have:=congrArg List.length h1;simpa using this
  exact ⟨ys,by rw [h1],mxl (this▸hl),h2⟩
theorem qoG (n:Nat):∀ws:List Go.AE.qa,Go.AE.qe8 Tryz.prog n 24 ws→∃e:AE.Exl,ws = e.enc∧AE.OkN e:=by
 induction n using Nat.strongRecOn with
 | ind n ih=>
  intro ws h
  obtain ⟨m,ass,rfl,rfl,h1⟩:=qjM h Tryz.underlying24
  match ass,h1 with
  | [p,q,r,r2,l],⟨h2,h3,h4,h4',h5,_⟩=>
   obtain ⟨z1,rfl,_⟩:=qu6 h2
   obtain ⟨z2,rfl,hz⟩:=qu6 h3
   obtain ⟨s,rfl,_⟩:=qkR h4 Tryz.underlying9
   obtain ⟨s2,rfl,_⟩:=qkR h4' Tryz.underlying9
   obtain ⟨ys,rfl,_,hy⟩:=qxa (g:=AE.exV) (Q:=AE.OkN) h5 Tryz.underlying22 (by kernel_rfl) fun k hk x hx=>by
    obtain ⟨e,rfl,h6⟩:=ih k (by omega) x hx
    exact ⟨e,rfl,h6⟩
   refine ⟨.mk z1 z2 s s2 ys,by rw [AE.qa6];rfl,?_⟩
   rw [AE.OkN]
   exact ⟨hz,hy⟩
theorem qs5 {n:Nat} {ws:List Go.AE.qa} (h:Go.AE.qe8 Tryz.prog n 24 ws):∃e:AE.Exl,Go.AE.qa.agg ws = AE.exV e∧AE.OkN e:=by
 obtain ⟨e,rfl,ho⟩:=qoG n ws h
 exact ⟨e,rfl,ho⟩
end Go.Proofs.YtkmlapholimbcaaGreatDoor
