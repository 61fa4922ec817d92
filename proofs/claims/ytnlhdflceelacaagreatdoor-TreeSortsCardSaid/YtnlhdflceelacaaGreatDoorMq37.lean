/- A part of the proof: the abstract executor and what goes through it (part 37). No condition. -/
import Derived.Test.YtnlhdflceelacaaGreatDoorMq36
set_option maxRecDepth 100000
namespace Go.Proofs.YtnlhdflceelacaaGreatDoor.AE
open Go.AE
theorem n0:((0:Nat):Int) = 0:=Eq.trans rfl rfl
theorem n20:((20:Nat):Int) = 20:=Eq.trans rfl rfl
set_option maxHeartbeats 2000000 in
theorem qo0 {H:Nat→Option qg} {id N:Nat} {es:List El} {h:List qg} (hN:N = es.length) (h30:N ≤ 30) (hl:qeo H id es h) :
  ∃es',Wd (.fn 54 [] []) [.sl id 0 N N 5,.int .i64 (N:Nat),qa1] h = some (.ret (.tup []),h.set id (.cells (row es')),false)∧es'.Pairwise leE∧es'.Perm es:=by
 have w20:IntKind.i64.wrap (20 + 20) = 40:=by kernel_rfl
 have m20:IntKind.i64.wrap (2 * 20) = 40:=by kernel_rfl
 have m21:IntKind.i64.wrap (20 * 2) = 40:=by kernel_rfl
 have a20:IntKind.i64.wrap (0 + 20) = 20:=by kernel_rfl
 have x40:IntKind.i64.wrap 40 = 40:=by kernel_rfl
 have x20:IntKind.i64.wrap 20 = 20:=by kernel_rfl
 have c40:ile 40 (N:Int) = false:=by rw [qbH];simp;omega
 have d40:ilt 40 (N:Int) = false:=by rw [qr];simp;omega
 have fin:∀xs:List El,q6 h.length (.ret (.tup [])) (h.set id (.cells (row xs))) false = (.ret (.tup []),h.set id (.cells (row xs)),false):=fun xs=>qe0 _ _ (by simp)
 rcases Nat.lt_or_ge N 20 with h20 | h20
 ·have c20:ile 20 (N:Int) = false:=by rw [qbH];simp;omega
  have d20:ilt 20 (N:Int) = false:=by rw [qr];simp;omega
  obtain ⟨M',hi,hs,hp⟩:=qcx (P:=[]) (M:=es) (R:=[]) (a:=0) (b:=N) (N:=N) (by simpa using hN) (by omega) rfl (by simpa using hN) (by simpa using hl)
  rw [n0] at hi
  refine ⟨M',?_,hs,hp⟩
  simp only [List.nil_append,List.append_nil] at hi
  rw [qab rfl (show T.get 54 = some c54 by kernel_rfl)]
  simp only [c54,qns,qnt,qar,sT.1,sC.1,qd,qc,Nat.testBit,simprocAttr,-Int.reduceNatCast',qA,qo,c20,d20,hi,fin]
 ·have c20:ile 20 (N:Int) = true:=by rw [qbH];simp;omega
  have e12:es.take 20 ++ es.drop 20 = es:=List.take_append_drop ..
  have l1:(es.take 20).length = 20:=by rw [List.length_take];omega
  have l2:(es.drop 20).length = N - 20:=by rw [List.length_drop];omega
  obtain ⟨A,hi,hs,hp⟩:=qcx (P:=[]) (M:=es.take 20) (R:=es.drop 20) (a:=0) (b:=20) (N:=N) (by simpa [e12] using hN) (by omega) rfl (by simp [l1]) (by simpa [e12] using hl)
  rw [n0,n20] at hi
  simp only [List.nil_append] at hi
  have lA:A.length = 20:=by rw [hp.length_eq,l1]
  have hl1:=hl.put (es':=A ++ es.drop 20) (hl.good.perm fun e he=>by
   rcases List.mem_append.1 he with h | h
   ·exact List.mem_of_mem_take (hp.subset h)
   ·exact List.mem_of_mem_drop h)
  obtain ⟨B,hi2,hs2,hp2⟩:=qcx (P:=A) (M:=es.drop 20) (R:=[]) (a:=20) (b:=N) (N:=N) (by simp [lA];omega) (by omega) lA.symm (by omega) (by simpa using hl1)
  rw [n20,qaj] at hi2
  simp only [List.append_nil] at hi2
  have lB:B.length = N - 20:=by rw [hp2.length_eq,l2]
  have hpAB:(A ++ B).Perm es:=by
   have:=hp.append hp2
   rwa [e12] at this
  rcases Nat.lt_or_ge 20 N with h21 | h21
  ·have d20:ilt 20 (N:Int) = true:=by rw [qr];simp;omega
   have hl2:=hl.put (es':=A ++ B) (hl.good.perm fun e he=>hpAB.subset he)
   obtain ⟨M',hm,hs3,hp3⟩:=qsg (H:=H) (id:=id) (A.length + B.length) [] A B [] N 0 20 N (h.set id (.cells (row (A ++ B)))) (Nat.le_refl _) (fun e=>by rw [e] at lA;simp at lA) (fun e=>by rw [e] at lB;simp at lB;omega) hs hs2 (by simp;omega) (by omega) rfl (by simp [lA]) (by simp;omega) (by simpa using hl2)
   rw [n0,n20,qaj] at hm
   simp only [List.nil_append,List.append_nil] at hm
   refine ⟨M',?_,hs3,hp3.trans hpAB⟩
   rw [qab rfl (show T.get 54 = some c54 by kernel_rfl)]
   simp only [c54,qns,qtS,qnt,qar,sT.1,sC.1,qd,qc,Nat.testBit,simprocAttr,-Int.reduceNatCast',qA,qo,c20,d20,c40,d40,w20,m20,m21,a20,x40,x20,hi,hi2,hm,fin]
  ·have hN20:N = 20:=by omega
   have d20:ilt 20 (N:Int) = false:=by rw [qr];simp;omega
   have hB:B = []:=List.length_eq_zero_iff.1 (by omega)
   refine ⟨A ++ B,?_,by rw [hB];simpa using hs,hpAB⟩
   rw [qab rfl (show T.get 54 = some c54 by kernel_rfl)]
   simp only [c54,qns,qtS,qnt,qar,sT.1,sC.1,qd,qc,Nat.testBit,simprocAttr,-Int.reduceNatCast',qA,qo,c20,d20,c40,d40,w20,m20,m21,a20,x40,x20,hi,hi2,fin]
theorem qur {H:Nat→Option qg} {id N:Nat} {es:List El} {h:List qg} (hN:N = es.length) (h30:N ≤ 30) (hl:qeo H id es h) :
  ∃es',Wd (.fn 21 [] []) [.sl id 0 N N 5,qa1] h = some (.ret (.tup []),h.set id (.cells (row es')),false)∧es'.Pairwise leE∧es'.Perm es:=by
 obtain ⟨es',h1,h2,h3⟩:=qo0 hN h30 hl
 have fin:q6 h.length (.ret (.tup [])) (h.set id (.cells (row es'))) false = (.ret (.tup []),h.set id (.cells (row es')),false):=qe0 _ _ (by simp)
 refine ⟨es',?_,h2,h3⟩
 rw [qab rfl (show T.get 21 = some c21 by kernel_rfl)]
 simp only [c21,sT.1,sC.1,qd,qc,Nat.testBit,simprocAttr,-Int.reduceNatCast',qA,qo,qit,h1,fin]
end Go.Proofs.YtnlhdflceelacaaGreatDoor.AE
