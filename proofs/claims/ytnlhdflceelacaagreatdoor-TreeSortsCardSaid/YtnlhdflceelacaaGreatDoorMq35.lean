/- A part of the proof: the abstract executor and what goes through it (part 35). No condition. -/
import Derived.Test.YtnlhdflceelacaaGreatDoorMq34
set_option maxRecDepth 100000
namespace Go.Proofs.YtnlhdflceelacaaGreatDoor.AE
open Go.AE
set_option maxHeartbeats 2000000 in
theorem qrF {H:Nat→Option qg} {id N a m b:Nat} {P V R:List El} {u:El} {h:List qg} (hV:V ≠ []) (hsV:V.Pairwise leE) (hN:N = (P ++ ([u] ++ (V ++ R))).length) (h100:N ≤ 100) (ha:a = P.length) (hm:m = P.length + 1) (hb:b = P.length + 1 + V.length) (hl:qeo H id (P ++ ([u] ++ (V ++ R))) h) :
  ∃M',Wd (.fn 105 [] []) [.sl id 0 N N 5,.int .i64 (a:Nat),.int .i64 (m:Nat),.int .i64 (b:Nat),qa1] h = some (.ret (.tup []),h.set id (.cells (row (P ++ (M' ++ R)))),false)∧M'.Pairwise leE∧M'.Perm ([u] ++ V):=by
 have hNl:P.length + (1 + (V.length + R.length)) = N:=by rw [hN];simp;omega
 have hEa:E (P ++ ([u] ++ (V ++ R))) a = u.1:=by
  have:=E_U (P:=P) (U:=[u]) (V:=V) (R:=R) (i:=0) (by simp)
  rw [ha]
  simpa using this
 have hEx:∀q (hq:q < V.length),E (P ++ ([u] ++ (V ++ R))) (m + q) = V[q].1:=fun q hq=>by
  have:=E_V (P:=P) (U:=[u]) (V:=V) (R:=R) (i:=q) hq
  rw [hm]
  simpa using this
 obtain ⟨t,t1,t2,t3⟩:=qi4 (fun x=>qbP (E (P ++ ([u] ++ (V ++ R))) x) (E (P ++ ([u] ++ (V ++ R))) a) < 0) V.length m b (by omega) fun x y h1 h2 h3 hp=>by
  obtain ⟨q,rfl⟩ :∃q,x = m + q:=⟨x - m,by omega⟩
  obtain ⟨q',rfl⟩ :∃q,y = m + q:=⟨y - m,by omega⟩
  rw [hEx q (by omega)]
  rw [hEx q' (by omega)] at hp
  exact qiz (qaB hsV (by omega) (by omega)) hp
 have hV12:V.take (t - m) ++ V.drop (t - m) = V:=List.take_append_drop ..
 have hlt:(V.take (t - m)).length = t - m:=by rw [List.length_take];omega
 have hS:=qui (hb:=h.length) (mid:=0) (n:=0) (p:=0) hN h100 hl (a:=a) (m:=m) (b:=b) (t:=t) (by omega) (by omega) t3
 generalize hw:Wd _ _ h = w
 rw [qab rfl (show T.get 105 = some qcl by kernel_rfl)] at hw
 have w1:IntKind.i64.wrap ((m:Int) - (a:Int)) = 1:=by rw [qM (by omega) (by omega)];omega
 have o1:((1:Int) == 1) = true:=by kernel_rfl
 generalize hL0:(qj.loop qeT) = L0 at hS
 generalize hL1:(qj.loop qeU) = L1
 simp only [qcl,hL0,hL1,sT.1,sC.1,qd,qc,Nat.testBit,simprocAttr,-Int.reduceNatCast',qA,qo,w1,o1] at hw
 generalize hr:qy h.length Wd L0 _ = r at hw
 obtain ⟨x,st',rfl,rfl,tt,rfl,ht,e0,e1,e2,e3,e4,e10⟩:=qbU hr (hS (b - m) _ ⟨_,m,b,rfl,by simp only [sT.1,sC.1,qd,qc,Nat.testBit,simprocAttr,-Int.reduceNatCast'],by simp only [sT.1,sC.1,qd,qc,Nat.testBit,simprocAttr,-Int.reduceNatCast'],by simp only [sT.1,sC.1,qd,qc,Nat.testBit,simprocAttr,-Int.reduceNatCast'],by simp only [sT.1,sC.1,qd,qc,Nat.testBit,simprocAttr,-Int.reduceNatCast'],by simp only [sT.1,sC.1,qd,qc,Nat.testBit,simprocAttr,-Int.reduceNatCast'],by simp only [sT.1,sC.1,qd,qc,Nat.testBit,simprocAttr,-Int.reduceNatCast'],by simp only [sT.1,sC.1,qd,qc,Nat.testBit,simprocAttr,-Int.reduceNatCast'],by simp only [sT.1,sC.1,qd,qc,Nat.testBit,simprocAttr,-Int.reduceNatCast'],Nat.le_refl _,t1,t2,Nat.le_refl _,rfl⟩)
 simp only [sT.1,sC.1,qd,qc,Nat.testBit,simprocAttr,-Int.reduceNatCast',qA,qo,ht,e0,e1,e10] at hw
 generalize hr1:qy h.length Wd L1 _ = r1 at hw
 rw [←hL1] at hr1
 have es:P ++ ([u] ++ (V ++ R)) = P ++ u :: (V.take (t - m) ++ (V.drop (t - m) ++ R)):=by
  rw [←List.append_assoc (V.take (t - m)),hV12]
  rfl
 rw [es] at hl hN
 obtain ⟨tt',h1,ht'⟩:=qoN (a:=a) (m:=m) (b:=b) (i:=t) (W:=V.take (t - m)) (T:=V.drop (t - m) ++ R) hN h100 ha (by omega) hl (by simp only [qi,ht]) (by simp only [sT.1,sC.1,qd,qc,Nat.testBit,simprocAttr,-Int.reduceNatCast',ht,e0]) (by simp only [sT.1,sC.1,qd,qc,Nat.testBit,simprocAttr,-Int.reduceNatCast',ht,e1]) (by simp only [sT.1,sC.1,qd,qc,Nat.testBit,simprocAttr,-Int.reduceNatCast',ht,e10]) (by simp only [sT.1,sC.1,qd,qc,Nat.testBit,simprocAttr,-Int.reduceNatCast',ht]) (hb:=h.length) |> fun h=>by rw [hr1] at h;exact h
 subst h1
 simp only [sT.1,sC.1,qd,qc,Nat.testBit,simprocAttr,-Int.reduceNatCast',ht'] at hw
 subst hw
 refine ⟨V.take (t - m) ++ u :: V.drop (t - m),?_,?_,?_⟩
 ·have:P ++ (V.take (t - m) ++ u :: (V.drop (t - m) ++ R)) = P ++ ((V.take (t - m) ++ u :: V.drop (t - m)) ++ R):=by simp
  rw [this]
 ·refine qgy (by rw [hV12];exact hsV) (fun s hs=>?_) fun s hs=>?_
  ·obtain ⟨q,hq,rfl⟩:=List.getElem_of_mem hs
   rw [List.length_drop] at hq
   rw [List.getElem_drop]
   have h3:=t3 (m + (t - m + q)) (by omega) (by omega)
   rw [hEx _ (by omega),hEa] at h3
   exact qaH fun hh=>by have:=h3.1 hh;omega
  ·obtain ⟨q,hq,rfl⟩:=List.getElem_of_mem hs
   rw [hlt] at hq
   rw [List.getElem_take]
   have h3:=t3 (m + q) (by omega) (by omega)
   rw [hEx _ (by omega),hEa] at h3
   exact qgn (h3.2 (by omega))
 ·refine List.perm_middle.trans ?_
  rw [hV12]
  exact List.Perm.refl _
set_option maxHeartbeats 2000000 in
theorem qo6 {H:Nat→Option qg} {id N a m b:Nat} {P U R:List El} {v:El} {h:List qg} (hU:2 ≤ U.length) (hsU:U.Pairwise leE) (hN:N = (P ++ (U ++ ([v] ++ R))).length) (h100:N ≤ 100) (ha:a = P.length) (hm:m = P.length + U.length) (hb:b = P.length + U.length + 1) (hl:qeo H id (P ++ (U ++ ([v] ++ R))) h) :
  ∃M',Wd (.fn 105 [] []) [.sl id 0 N N 5,.int .i64 (a:Nat),.int .i64 (m:Nat),.int .i64 (b:Nat),qa1] h = some (.ret (.tup []),h.set id (.cells (row (P ++ (M' ++ R)))),false)∧M'.Pairwise leE∧M'.Perm (U ++ [v]):=by
 have hNl:P.length + (U.length + (1 + R.length)) = N:=by rw [hN];simp;omega
 have hEm:E (P ++ (U ++ ([v] ++ R))) m = v.1:=by
  have:=E_V (P:=P) (U:=U) (V:=[v]) (R:=R) (i:=0) (by simp)
  rw [hm]
  simpa using this
 have hEx:∀q (hq:q < U.length),E (P ++ (U ++ ([v] ++ R))) (a + q) = U[q].1:=fun q hq=>by
  rw [ha]
  exact E_U hq
 obtain ⟨t,t1,t2,t3⟩:=qi4 (fun x=>¬ qbP (E (P ++ (U ++ ([v] ++ R))) m) (E (P ++ (U ++ ([v] ++ R))) x) < 0) U.length a m (by omega) fun x y h1 h2 h3 hp=>by
  obtain ⟨q,rfl⟩ :∃q,x = a + q:=⟨x - a,by omega⟩
  obtain ⟨q',rfl⟩ :∃q,y = a + q:=⟨y - a,by omega⟩
  rw [hEx q (by omega)]
  rw [hEx q' (by omega)] at hp
  exact qel (qaz (qaB hsU (by omega) (by omega)) (qaH hp))
 have hU12:U.take (t - a) ++ U.drop (t - a) = U:=List.take_append_drop ..
 have hlt:(U.take (t - a)).length = t - a:=by rw [List.length_take];omega
 have hS:=quj (hb:=h.length) (mid:=0) (n:=0) (p:=0) hN h100 hl (a:=a) (m:=m) (b:=b) (t:=t) (by omega) t3
 generalize hw:Wd _ _ h = w
 rw [qab rfl (show T.get 105 = some qcl by kernel_rfl)] at hw
 have w0:IntKind.i64.wrap ((m:Int) - (a:Int)) = (U.length:Int):=by rw [qM (by omega) (by omega)];omega
 have o0:((U.length:Int) == 1) = false:=by rw [beq_eq_false_iff_ne];omega
 have w1:IntKind.i64.wrap ((b:Int) - (m:Int)) = 1:=by rw [qM (by omega) (by omega)];omega
 have o1:((1:Int) == 1) = true:=by kernel_rfl
 generalize hL2:(qj.loop qeV) = L2 at hS
 generalize hL3:(qj.loop qeW) = L3
 simp only [qcl,hL2,hL3,sT.1,sC.1,qd,qc,Nat.testBit,simprocAttr,-Int.reduceNatCast',qA,qo,w0,o0,w1,o1] at hw
 generalize hr:qy h.length Wd L2 _ = r at hw
 obtain ⟨x,st',rfl,rfl,tt,rfl,ht,e0,e1,e2,e3,e4,e14⟩:=qbU hr (hS (m - a) _ ⟨_,a,m,rfl,by simp only [sT.1,sC.1,qd,qc,Nat.testBit,simprocAttr,-Int.reduceNatCast'],by simp only [sT.1,sC.1,qd,qc,Nat.testBit,simprocAttr,-Int.reduceNatCast'],by simp only [sT.1,sC.1,qd,qc,Nat.testBit,simprocAttr,-Int.reduceNatCast'],by simp only [sT.1,sC.1,qd,qc,Nat.testBit,simprocAttr,-Int.reduceNatCast'],by simp only [sT.1,sC.1,qd,qc,Nat.testBit,simprocAttr,-Int.reduceNatCast'],by simp only [sT.1,sC.1,qd,qc,Nat.testBit,simprocAttr,-Int.reduceNatCast'],by simp only [sT.1,sC.1,qd,qc,Nat.testBit,simprocAttr,-Int.reduceNatCast'],by simp only [sT.1,sC.1,qd,qc,Nat.testBit,simprocAttr,-Int.reduceNatCast'],Nat.le_refl _,t1,t2,Nat.le_refl _,rfl⟩)
 simp only [sT.1,sC.1,qd,qc,Nat.testBit,simprocAttr,-Int.reduceNatCast',qA,qo,ht,e0,e2,e14] at hw
 generalize hr1:qy h.length Wd L3 _ = r1 at hw
 rw [←hL3] at hr1
 have es:P ++ (U ++ ([v] ++ R)) = (P ++ U.take (t - a)) ++ (U.drop (t - a) ++ v :: R):=by
  rw [List.append_assoc,←List.append_assoc (U.take (t - a)),hU12]
  rfl
 rw [es] at hl hN
 obtain ⟨tt',h1,ht'⟩:=qqY (i:=t) (m:=m) (W:=U.drop (t - a)) (T:=R) hN h100 (by rw [List.length_append,hlt,List.length_drop];omega) (by rw [List.length_append,hlt];omega) hl (by simp only [qi,ht]) (by simp only [sT.1,sC.1,qd,qc,Nat.testBit,simprocAttr,-Int.reduceNatCast',ht,e0]) (by simp only [sT.1,sC.1,qd,qc,Nat.testBit,simprocAttr,-Int.reduceNatCast',ht,e14]) (by simp only [sT.1,sC.1,qd,qc,Nat.testBit,simprocAttr,-Int.reduceNatCast',ht]) (hb:=h.length) |> fun h=>by rw [hr1] at h;exact h
 subst h1
 simp only [sT.1,sC.1,qd,qc,Nat.testBit,simprocAttr,-Int.reduceNatCast',ht'] at hw
 subst hw
 refine ⟨U.take (t - a) ++ v :: U.drop (t - a),?_,?_,?_⟩
 ·have:P ++ (U.take (t - a) ++ v :: (U.drop (t - a) ++ R)) = P ++ ((U.take (t - a) ++ v :: U.drop (t - a)) ++ R):=by simp
  rw [this]
 ·refine qgy (by rw [hU12];exact hsU) (fun s hs=>?_) fun s hs=>?_
  ·obtain ⟨q,hq,rfl⟩:=List.getElem_of_mem hs
   rw [List.length_drop] at hq
   rw [List.getElem_drop]
   have h3:=t3 (a + (t - a + q)) (by omega) (by omega)
   rw [hEx _ (by omega),hEm] at h3
   refine qgn (Decidable.byContradiction fun hh=>?_)
   have:=h3.1 hh
   omega
  ·obtain ⟨q,hq,rfl⟩:=List.getElem_of_mem hs
   rw [hlt] at hq
   rw [List.getElem_take]
   have h3:=t3 (a + q) (by omega) (by omega)
   rw [hEx _ (by omega),hEm] at h3
   exact qaH (h3.2 (by omega))
 ·refine List.perm_middle.trans ?_
  rw [hU12]
  exact (List.perm_append_comm (l₁:=[v]))
end Go.Proofs.YtnlhdflceelacaaGreatDoor.AE
