/- A part of the proof: the abstract executor and what goes through it (part 26). No condition. -/
import Derived.Test.YtnlhdflceelacaaGreatDoorMq24
import Derived.Test.YtnlhdflceelacaaGreatDoorMq25
set_option maxRecDepth 100000
namespace Go.Proofs.YtnlhdflceelacaaGreatDoor.AE
open Go.AE
theorem qpz:∀a b:Str,Op.bytesLess a b = decide (qci a b < 0)
 | [],[]=>rfl
 | _ :: _,[]=>by simp [Op.bytesLess,qci,Lib.compareBytes]
 | [],_ :: _=>by simp [Op.bytesLess,qci,Lib.compareBytes]
 | a :: x,b :: y=>by
  have ih:=qpz x y
  rw [Op.bytesLess,ih,qci,Lib.compareBytes]
  by_cases h1:a < b
  ·simp [h1]
  ·by_cases h2:b < a
   ·have:¬ a = b:=fun e=>by subst e;exact h1 h2
    simp [h1,h2,this]
   ·have:a = b:=UInt8.toNat_inj.1 (by rw [UInt8.lt_iff_toNat_lt] at h1 h2;omega)
    simp [h1,h2,this]
theorem qsM (a b:Str):(a == b) = decide (qci a b = 0):=by
 rw [Bool.eq_iff_iff]
 simp only [beq_iff_eq,decide_eq_true_eq]
 exact ⟨fun h=>by subst h;have:=qcM a a;omega,qbX⟩
theorem qeB:∀a b:Str,qci a b = -1∨qci a b = 0∨qci a b = 1
 | [],[]=>.inr (.inl rfl)
 | [],_ :: _=>.inl rfl
 | _ :: _,[]=>.inr (.inr rfl)
 | a :: x,b :: y=>by
  rw [qci,Lib.compareBytes]
  split
  ·exact .inl rfl
  ·split
   ·exact .inr (.inr rfl)
   ·exact qeB x y
section
variable {g:List qg}
theorem qt0 (a:Int):Wd (.fn 175 [] []) [.int .i64 a] g = some (.ret (.bool false),g,false):=by
 rw [qab rfl (show T.get 175 = some qxO by kernel_rfl)]
 simp only [qxO,sT.1,sC.1,qd,qc,Nat.testBit,simprocAttr,-Int.reduceNatCast',beq_self_eq_true]
theorem qt1 (a:Str):Wd (.fn 55 [] []) [.str a] g = some (.ret (.bool false),g,false):=by
 rw [qab rfl (show T.get 55 = some c55 by kernel_rfl)]
 simp only [c55,sT.1,sC.1,qd,qc,Nat.testBit,simprocAttr,-Int.reduceNatCast',beq_self_eq_true]
theorem qlM (a b:Int):Wd (.fn 107 [] []) [.int .i64 a,.int .i64 b] g = some (.ret (.int .i64 (qcq a b)),g,false):=by
 have h1:=fun a=>qt0 (g:=g) a
 rw [qab rfl (show T.get 107 = some quM by kernel_rfl)]
 unfold qcq
 by_cases l1:a < b
 ·have c1:ilt a b = true:=by rw [qr];simpa using l1
  simp only [quM,sT.1,sC.1,qd,qc,Nat.testBit,simprocAttr,-Int.reduceNatCast',h1,c1,l1,if_true]
 ·have c1:ilt a b = false:=by rw [qr];simpa using l1
  by_cases l2:b < a
  ·have c2:ilt b a = true:=by rw [qr];simpa using l2
   simp only [quM,sT.1,sC.1,qd,qc,Nat.testBit,simprocAttr,-Int.reduceNatCast',h1,c1,c2,l1,l2,if_true,if_false]
  ·have c2:ilt b a = false:=by rw [qr];simpa using l2
   simp only [quM,sT.1,sC.1,qd,qc,Nat.testBit,simprocAttr,-Int.reduceNatCast',h1,c1,c2,l1,l2,if_false]
theorem qsQ (a b:Str):Wd (.fn 24 [] []) [.str a,.str b] g = some (.ret (.int .i64 (qci a b)),g,false):=by
 have h1:=fun a=>qt1 (g:=g) a
 have e1:=qpz a b
 have e2:=qsM a b
 rw [qab rfl (show T.get 24 = some c24 by kernel_rfl)]
 rcases qeB a b with h | h | h
 ·have c1:Op.bytesLess a b = true:=by rw [e1,h];rfl
  simp only [c24,sT.1,sC.1,qd,qc,Nat.testBit,simprocAttr,-Int.reduceNatCast',h1,c1,h]
 ·have c1:Op.bytesLess a b = false:=by rw [e1,h];rfl
  have c2:(a == b) = true:=by rw [e2,h];rfl
  simp only [c24,sT.1,sC.1,qd,qc,Nat.testBit,simprocAttr,-Int.reduceNatCast',h1,c1,c2,h]
 ·have c1:Op.bytesLess a b = false:=by rw [e1,h];rfl
  have c2:(a == b) = false:=by rw [e2,h];rfl
  simp only [c24,sT.1,sC.1,qd,qc,Nat.testBit,simprocAttr,-Int.reduceNatCast',h1,c1,c2,h]
theorem qsq (a b:Str):Wd (.fn 252 [] []) [.str a,.str b] g = some (.ret (.int .i64 (qci a b)),g,false):=by
 rw [show Wd = W T.get Z from rfl,qx1 quG (show Z 252 = some quN from rfl)]
 rfl
theorem quw (a b:Str):Wd (.fn 108 [] []) [.str a,.str b] g = some (.ret (.int .i64 (qci a b)),g,false):=by
 have h1:=qsq (g:=g) a b
 have h2:Wd (.fn 176 [] []) [.str a,.str b] g = some (.ret (.int .i64 (qci a b)),g,false):=by
  rw [qab rfl (show T.get 176 = some qxP by kernel_rfl)]
  simp only [qxP,sT.1,sC.1,qd,qc,Nat.testBit,simprocAttr,-Int.reduceNatCast',h1]
 rw [qab rfl (show T.get 108 = some qxI by kernel_rfl)]
 simp only [qxI,sT.1,sC.1,qd,qc,Nat.testBit,simprocAttr,-Int.reduceNatCast',h2]
def qbF:List Int→Int
 | []=>0
 | x :: xs=>orI x (qbF xs)
theorem qic {xs:List Int} {i:Nat} (hi:i < xs.length):qbF (xs.drop i) = orI xs[i] (qbF (xs.drop (i + 1))):=by
 rw [List.drop_eq_getElem_cons hi,qbF]
set_option maxHeartbeats 1000000 in
theorem qxu (xs:List Int) (hx:xs.length ≤ 100) (h:List qg) (R:Nat) (hr:h[R]? = some (.cells (xs.map (qa.int .i64)))):Wd (.fn 23 [] []) [.sl R 0 xs.length xs.length 0] h = some (.ret (.int .i64 (qbF xs)),h,false):=by
 have loop:∀k st,(∃(tt:List qa) (i:Nat),st = ⟨tt,h,false⟩∧tt.length = 18∧lkp tt 3 = .int .i64 0∧lkp tt 6 = .sl R 0 xs.length xs.length 0∧lkp tt 7 = .int .i64 (xs.length:Nat)∧lkp tt 8 = .int .i64 (i:Nat)∧i + k = xs.length∧qbF xs = qbF (xs.drop i))→
   ∃x st',qy h.length Wd (.loop qiq) st = some (x,st')∧(∃tt:List qa,st' = ⟨tt,h,false⟩∧tt.length = 18∧lkp tt 3 = .int .i64 0∧((x = .exit 0∧qbF xs = 0)∨(x = .ret∧lkp tt 2 = .int .i64 (qbF xs)))):=by
  refine qK _ (fun x st'=>∃tt:List qa,st' = ⟨tt,h,false⟩∧tt.length = 18∧lkp tt 3 = .int .i64 0∧((x = .exit 0∧qbF xs = 0)∨(x = .ret∧lkp tt 2 = .int .i64 (qbF xs)))) ?_
  rintro k st ⟨tt,i,rfl,ht,e3,e6,e7,e8,hik,hf⟩
  generalize he:qy h.length Wd qiq _ = r
  rcases Nat.lt_or_ge i xs.length with hi | hi
  ·have c1:ilt (i:Int) (xs.length:Int) = true:=by rw [qr];simp;omega
   have w:=qP (n:=i) (by omega)
   have hxs:qbr 1 (.sl R 0 xs.length xs.length 0) (.int .i64 (i:Nat)) = some (.ptr R i):=by rw [qb4 hi,Nat.mul_one]
   have hc:(xs.map (qa.int .i64))[i]? = some (.int .i64 xs[i]):=by rw [List.getElem?_map,List.getElem?_eq_getElem hi];rfl
   rw [qic hi] at hf
   cases hz:(xs[i] == 0) with
   | true=>
    have hz':xs[i] = 0:=by simpa using hz
    rw [hz'] at hf hc
    have z0:(((0:Int)) == 0) = true:=by kernel_rfl
    simp only [qiq,sT.1,sC.1,qd,qc,Nat.testBit,simprocAttr,-Int.reduceNatCast',ht,e3,e6,e7,e8,c1,w,hxs,hr,hc,z0,qA,qo,Option.map_some] at he
    subst he
    refine .inl ⟨_,k - 1,rfl,by omega,_,i + 1,rfl,by simp only [qi,ht],?_,?_,?_,?_,by omega,?_⟩
    ·simp only [sT.1,sC.1,qd,qc,Nat.testBit,simprocAttr,-Int.reduceNatCast',ht,e3]
    ·simp only [sT.1,sC.1,qd,qc,Nat.testBit,simprocAttr,-Int.reduceNatCast',ht,e6]
    ·simp only [sT.1,sC.1,qd,qc,Nat.testBit,simprocAttr,-Int.reduceNatCast',ht,e7]
    ·simp only [sT.1,sC.1,qd,qc,Nat.testBit,simprocAttr,-Int.reduceNatCast',ht]
    ·rw [hf];rfl
   | false=>
    have hz':¬ xs[i] = 0:=by simpa using hz
    have hf':qbF xs = xs[i]:=by rw [hf,orI,if_neg hz']
    simp only [qiq,sT.1,sC.1,qd,qc,Nat.testBit,simprocAttr,-Int.reduceNatCast',ht,e3,e6,e7,e8,c1,w,hxs,hr,hc,hz,qA,qo,Option.map_some] at he
    subst he
    refine .inr ⟨_,_,rfl,by simp,_,rfl,by simp only [qi,ht],?_,.inr ⟨rfl,?_⟩⟩
    ·simp only [sT.1,sC.1,qd,qc,Nat.testBit,simprocAttr,-Int.reduceNatCast',ht,e3]
    ·simp only [sT.1,sC.1,qd,qc,Nat.testBit,simprocAttr,-Int.reduceNatCast',ht,hf']
  ·have c1:ilt (i:Int) (xs.length:Int) = false:=by rw [qr];simp;omega
   simp only [qiq,sT.1,sC.1,qd,qc,Nat.testBit,simprocAttr,-Int.reduceNatCast',ht,e3,e6,e7,e8,c1] at he
   subst he
   refine .inr ⟨_,_,rfl,by simp,_,rfl,by simp only [qi,ht],?_,.inl ⟨rfl,?_⟩⟩
   ·simp only [sT.1,sC.1,qd,qc,Nat.testBit,simprocAttr,-Int.reduceNatCast',ht,e3]
   ·rw [hf,List.drop_eq_nil_of_le (by omega)];rfl
 generalize hw:Wd _ _ h = w
 rw [qab rfl (show T.get 23 = some c23 by kernel_rfl)] at hw
 simp only [c23,sT.1,sC.1,qd,qc,Nat.testBit,simprocAttr,-Int.reduceNatCast',qit,qA,qo] at hw
 generalize hr':qy h.length Wd (.loop qiq) _ = r at hw
 obtain ⟨x,st',rfl,tt,rfl,ht,e3,⟨rfl,hf⟩ | ⟨rfl,e2⟩⟩:=qbU hr' (loop xs.length _ ⟨_,0,rfl,by simp only [sT.1,sC.1,qd,qc,Nat.testBit,simprocAttr,-Int.reduceNatCast'],by simp only [sT.1,sC.1,qd,qc,Nat.testBit,simprocAttr,-Int.reduceNatCast'],by simp only [sT.1,sC.1,qd,qc,Nat.testBit,simprocAttr,-Int.reduceNatCast'],by simp only [sT.1,sC.1,qd,qc,Nat.testBit,simprocAttr,-Int.reduceNatCast'],by simp only [sT.1,sC.1,qd,qc,Nat.testBit,simprocAttr,-Int.reduceNatCast',Int.natCast_zero],by omega,rfl⟩)
 ·simp only [sT.1,sC.1,qd,qc,Nat.testBit,simprocAttr,-Int.reduceNatCast',ht,e3] at hw
  rw [hf]
  exact hw.symm
 ·simp only [sT.1,sC.1,qd,qc,Nat.testBit,simprocAttr,-Int.reduceNatCast',ht,e2] at hw
  exact hw.symm
end
end Go.Proofs.YtnlhdflceelacaaGreatDoor.AE
