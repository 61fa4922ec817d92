/- A part of the proof: the abstract executor and what goes through it (part 30). No condition. -/
import Derived.Test.YtnlhdflceelacaaGreatDoorMq29
set_option maxRecDepth 100000
namespace Go.Proofs.YtnlhdflceelacaaGreatDoor.AE
open Go.AE
theorem quC {H:Nat→Option qg} {id:Nat} {F:qa} (hF:F = .fn 22 [] []) {P A M B Q:List El} {n a b:Nat} (ha:a = P.length) (hb:b = P.length + A.length + M.length) (hA:A.length = n) (hB:B.length = n) (h100:(P ++ (A ++ (M ++ (B ++ Q)))).length ≤ 100) {N:Nat} (hN:N = (P ++ (A ++ (M ++ (B ++ Q)))).length) {g:List qg} (hl:qeo H id (P ++ (A ++ (M ++ (B ++ Q)))) g) :
  Wd (.fn 251 [] []) [.sl id 0 N N 5,.int .i64 (a:Nat),.int .i64 (b:Nat),.int .i64 (n:Nat),F] g = some (.ret (.tup []),g.set id (.cells (row (P ++ (B ++ (M ++ (A ++ Q)))))),false):=by
 subst hN ha hb hA
 rw [←qjw A B P M Q hB.symm]
 exact qhK F hF _ _ _ _ h100 (by simp) (by simp;omega) hl.good g hl
theorem qbW.perm {H:Nat→Option qg} {xs ys:List El} (h:qbW H xs) (hs:∀e ∈ ys,e ∈ xs):qbW H ys:=fun e he=>h e (hs e he)
set_option maxHeartbeats 2000000 in
theorem qoO {H:Nat→Option qg} {id:Nat} {F:qa} (hF:F = .fn 22 [] []) {P U V Q:List El} (hU:U ≠ []) (hV:V ≠ []) (h100:(P ++ (U ++ (V ++ Q))).length ≤ 100) {N a m b:Nat} (hN:N = (P ++ (U ++ (V ++ Q))).length) (ha:a = P.length) (hm:m = P.length + U.length) (hb:b = P.length + U.length + V.length) {h:List qg} (hl:qeo H id (P ++ (U ++ (V ++ Q))) h) :
  Wd (.fn 172 [] []) [.sl id 0 N N 5,.int .i64 (a:Nat),.int .i64 (m:Nat),.int .i64 (b:Nat),F] h = some (.ret (.tup []),h.set id (.cells (row (P ++ (V ++ (U ++ Q))))),false):=by
 have hFd:F.dim = F:=by rw [hF];rfl
 have hFw:∀i t,qau F i t = t:=fun i t=>by rw [hF];rfl
 have loop:∀k st,(∃(tt:List qa) (P' X Y Q':List El),st = ⟨tt,h.set id (.cells (row (P' ++ (X ++ (Y ++ Q'))))),false⟩∧tt.length = 58∧lkp tt 0 = .sl id 0 N N 5∧lkp tt 2 = .int .i64 (m:Nat)∧lkp tt 4 = F∧lkp tt 10 = .int .i64 (X.length:Nat)∧lkp tt 11 = .int .i64 (Y.length:Nat)∧X ≠ []∧Y ≠ []∧X.length + Y.length = k∧P'.length + X.length = m∧(P' ++ (X ++ (Y ++ Q'))).length = N∧P' ++ (Y ++ (X ++ Q')) = P ++ (V ++ (U ++ Q))∧qbW H (P' ++ (X ++ (Y ++ Q'))))→
   ∃x st',qy h.length Wd (.loop qeY) st = some (x,st')∧(x = .exit 0∧∃(tt:List qa) (P' X Y Q':List El),st' = ⟨tt,h.set id (.cells (row (P' ++ (X ++ (Y ++ Q'))))),false⟩∧tt.length = 58∧lkp tt 0 = .sl id 0 N N 5∧lkp tt 2 = .int .i64 (m:Nat)∧lkp tt 4 = F∧lkp tt 10 = .int .i64 (X.length:Nat)∧X.length = Y.length∧P'.length + X.length = m∧(P' ++ (X ++ (Y ++ Q'))).length = N∧P' ++ (Y ++ (X ++ Q')) = P ++ (V ++ (U ++ Q))∧qbW H (P' ++ (X ++ (Y ++ Q')))):=by
  refine qK _ (fun x st'=>x = .exit 0∧∃(tt:List qa) (P' X Y Q':List El),st' = ⟨tt,h.set id (.cells (row (P' ++ (X ++ (Y ++ Q'))))),false⟩∧tt.length = 58∧lkp tt 0 = .sl id 0 N N 5∧lkp tt 2 = .int .i64 (m:Nat)∧lkp tt 4 = F∧lkp tt 10 = .int .i64 (X.length:Nat)∧X.length = Y.length∧P'.length + X.length = m∧(P' ++ (X ++ (Y ++ Q'))).length = N∧P' ++ (Y ++ (X ++ Q')) = P ++ (V ++ (U ++ Q))∧qbW H (P' ++ (X ++ (Y ++ Q')))) ?_
  rintro k st ⟨tt,P',X,Y,Q',rfl,ht,e0,e2,e4,e10,e11,hX,hY,hk,hPX,hlen,hgoal,hgood⟩
  have hN100:N ≤ 100:=by omega
  have hX1:=List.length_pos_iff.2 hX
  have hY1:=List.length_pos_iff.2 hY
  have hlen':P'.length + (X.length + (Y.length + Q'.length)) = N:=by simpa using hlen
  have hlies:=hl.put hgood
  generalize he:qy h.length Wd qeY _ = r
  rcases Nat.lt_trichotomy X.length Y.length with hlt | heq | hgt
  ·
   obtain ⟨Y1,Y2,rfl,hY2⟩ :∃Y1 Y2,Y = Y1 ++ Y2∧Y2.length = X.length:=⟨Y.take (Y.length - X.length),Y.drop (Y.length - X.length),(List.take_append_drop ..).symm,by rw [List.length_drop];omega⟩
   have hYl:(Y1 ++ Y2).length = Y1.length + X.length:=by rw [List.length_append,hY2]
   obtain ⟨yl,hyl⟩ :∃yl,yl = (Y1 ++ Y2).length:=⟨_,rfl⟩
   rw [←hyl] at e11 hlt hk hlen' hY1 hYl
   have c1:((X.length:Int) == (yl:Int)) = false:=by rw [beq_eq_false_iff_ne];omega
   have c2:ilt (yl:Int) (X.length:Int) = false:=by rw [qr];simp;omega
   have w1:IntKind.i64.wrap ((m:Int) - (X.length:Int)) = ((m - X.length:Nat):Int):=by rw [qM (by omega) (by omega)];omega
   have w2:IntKind.i64.wrap ((m:Int) + (yl:Int)) = ((m + yl:Nat):Int):=by rw [qM (by omega) (by omega)];omega
   have w3:IntKind.i64.wrap (((m + yl:Nat):Int) - (X.length:Int)) = ((m + yl - X.length:Nat):Int):=by rw [qM (by omega) (by omega)];omega
   have w4:IntKind.i64.wrap ((yl:Int) - (X.length:Int)) = (Y1.length:Int):=by rw [qM (by omega) (by omega)];omega
   have e1:P' ++ (X ++ ((Y1 ++ Y2) ++ Q')) = P' ++ (X ++ (Y1 ++ (Y2 ++ Q'))):=by simp
   rw [e1] at he hlies hgood hlen
   have hs:=quC hF (P:=P') (A:=X) (M:=Y1) (B:=Y2) (Q:=Q') (n:=X.length) (a:=m - X.length) (b:=m + yl - X.length) (by omega) (by omega) rfl hY2 (by omega) hlen.symm hlies
   rw [qaj] at hs
   simp only [qeY,sT.1,sC.1,qd,qc,Nat.testBit,simprocAttr,-Int.reduceNatCast',qA,qo,ht,e0,e2,e4,e10,e11,c1,c2,w1,w2,w3,w4,hFd,hFw,hs] at he
   subst he
   refine .inl ⟨_,X.length + Y1.length,rfl,by omega,_,P',Y2,Y1,X ++ Q',rfl,by simp only [qi,ht],?_,?_,?_,?_,?_,?_,?_,by omega,by omega,?_,?_,hgood.perm fun e he=>?_⟩
   ·simp only [sT.1,sC.1,qd,qc,Nat.testBit,simprocAttr,-Int.reduceNatCast',ht,e0]
   ·simp only [sT.1,sC.1,qd,qc,Nat.testBit,simprocAttr,-Int.reduceNatCast',ht,e2]
   ·simp only [sT.1,sC.1,qd,qc,Nat.testBit,simprocAttr,-Int.reduceNatCast',ht,e4]
   ·simp only [sT.1,sC.1,qd,qc,Nat.testBit,simprocAttr,-Int.reduceNatCast',ht,e10,hY2]
   ·simp only [sT.1,sC.1,qd,qc,Nat.testBit,simprocAttr,-Int.reduceNatCast',ht]
   ·intro e;rw [e] at hY2;simp at hY2;omega
   ·intro e;rw [e] at hYl;simp at hYl;omega
   ·simp at hlen ⊢;omega
   ·rw [←hgoal];simp
   ·simp only [List.mem_append] at he ⊢;rcases he with h | h | h | h | h <;> simp [h]
  ·have c1:((X.length:Int) == (Y.length:Int)) = true:=by simp;omega
   simp only [qeY,sT.1,sC.1,qd,qc,Nat.testBit,simprocAttr,-Int.reduceNatCast',qA,qo,ht,e0,e2,e4,e10,e11,c1] at he
   subst he
   refine .inr ⟨_,_,rfl,by simp,rfl,_,P',X,Y,Q',rfl,by simp only [qi,ht],?_,?_,?_,?_,heq,hPX,hlen,hgoal,hgood⟩
   ·simp only [sT.1,sC.1,qd,qc,Nat.testBit,simprocAttr,-Int.reduceNatCast',ht,e0]
   ·simp only [sT.1,sC.1,qd,qc,Nat.testBit,simprocAttr,-Int.reduceNatCast',ht,e2]
   ·simp only [sT.1,sC.1,qd,qc,Nat.testBit,simprocAttr,-Int.reduceNatCast',ht,e4]
   ·simp only [sT.1,sC.1,qd,qc,Nat.testBit,simprocAttr,-Int.reduceNatCast',ht,e10]
  ·
   obtain ⟨X1,X2,rfl,hX1l⟩ :∃X1 X2,X = X1 ++ X2∧X1.length = Y.length:=⟨X.take Y.length,X.drop Y.length,(List.take_append_drop ..).symm,by rw [List.length_take];omega⟩
   have hXl:(X1 ++ X2).length = Y.length + X2.length:=by rw [List.length_append,hX1l]
   obtain ⟨xl,hxl⟩ :∃xl,xl = (X1 ++ X2).length:=⟨_,rfl⟩
   rw [←hxl] at e10 hgt hk hPX hlen' hX1 hXl
   have c1:((xl:Int) == (Y.length:Int)) = false:=by rw [beq_eq_false_iff_ne];omega
   have c2:ilt (Y.length:Int) (xl:Int) = true:=by rw [qr];simp;omega
   have w1:IntKind.i64.wrap ((m:Int) - (xl:Int)) = ((m - xl:Nat):Int):=by rw [qM (by omega) (by omega)];omega
   have w4:IntKind.i64.wrap ((xl:Int) - (Y.length:Int)) = (X2.length:Int):=by rw [qM (by omega) (by omega)];omega
   have e1:P' ++ ((X1 ++ X2) ++ (Y ++ Q')) = P' ++ (X1 ++ (X2 ++ (Y ++ Q'))):=by simp
   rw [e1] at he hlies hgood hlen
   have hs:=quC hF (P:=P') (A:=X1) (M:=X2) (B:=Y) (Q:=Q') (n:=Y.length) (a:=m - xl) (b:=m) (by omega) (by omega) hX1l rfl (by omega) hlen.symm hlies
   rw [qaj] at hs
   simp only [qeY,sT.1,sC.1,qd,qc,Nat.testBit,simprocAttr,-Int.reduceNatCast',qA,qo,ht,e0,e2,e4,e10,e11,c1,c2,w1,w4,hFd,hFw,hs] at he
   subst he
   have e2':P' ++ (Y ++ (X2 ++ (X1 ++ Q'))) = (P' ++ Y) ++ (X2 ++ (X1 ++ Q')):=by simp
   refine .inl ⟨_,X2.length + X1.length,rfl,by omega,_,P' ++ Y,X2,X1,Q',by rw [←e2'],by simp only [qi,ht],?_,?_,?_,?_,?_,?_,?_,by omega,by simp;omega,?_,?_,hgood.perm fun e he=>?_⟩
   ·simp only [sT.1,sC.1,qd,qc,Nat.testBit,simprocAttr,-Int.reduceNatCast',ht,e0]
   ·simp only [sT.1,sC.1,qd,qc,Nat.testBit,simprocAttr,-Int.reduceNatCast',ht,e2]
   ·simp only [sT.1,sC.1,qd,qc,Nat.testBit,simprocAttr,-Int.reduceNatCast',ht,e4]
   ·simp only [sT.1,sC.1,qd,qc,Nat.testBit,simprocAttr,-Int.reduceNatCast',ht]
   ·simp only [sT.1,sC.1,qd,qc,Nat.testBit,simprocAttr,-Int.reduceNatCast',ht,e11,hX1l]
   ·intro e;rw [e] at hXl;simp at hXl;omega
   ·intro e;rw [e] at hX1l;simp at hX1l;omega
   ·simp at hlen ⊢;omega
   ·rw [←hgoal];simp
   ·simp only [List.mem_append] at he ⊢;rcases he with (h | h) | h | h | h <;> simp [h]
 have hN100:N ≤ 100:=by omega
 have hlenN:P.length + (U.length + (V.length + Q.length)) = N:=by rw [hN];simp
 have v1:IntKind.i64.wrap ((m:Int) - (a:Int)) = (U.length:Int):=by rw [qM (by omega) (by omega)];omega
 have v2:IntKind.i64.wrap ((b:Int) - (m:Int)) = (V.length:Int):=by rw [qM (by omega) (by omega)];omega
 generalize hw:Wd _ _ h = w
 rw [qab rfl (show T.get 172 = some qxL by kernel_rfl)] at hw
 simp only [qxL,sT.1,sC.1,qd,qc,Nat.testBit,simprocAttr,-Int.reduceNatCast',qA,qo,hFd,hFw,v1,v2] at hw
 generalize hr:qy h.length Wd (.loop qeY) _ = r at hw
 obtain ⟨x,st',rfl,rfl,tt,P',X,Y,Q',rfl,ht,e0,e2,e4,e10,hXY,hPX,hlen,hgoal,hgood⟩:=qbU hr (loop (U.length + V.length) _ ⟨_,P,U,V,Q,by rw [qbm hl.box],by simp only [sT.1,sC.1,qd,qc,Nat.testBit,simprocAttr,-Int.reduceNatCast'],by simp only [sT.1,sC.1,qd,qc,Nat.testBit,simprocAttr,-Int.reduceNatCast'],by simp only [sT.1,sC.1,qd,qc,Nat.testBit,simprocAttr,-Int.reduceNatCast'],by simp only [sT.1,sC.1,qd,qc,Nat.testBit,simprocAttr,-Int.reduceNatCast'],by simp only [sT.1,sC.1,qd,qc,Nat.testBit,simprocAttr,-Int.reduceNatCast'],by simp only [sT.1,sC.1,qd,qc,Nat.testBit,simprocAttr,-Int.reduceNatCast'],hU,hV,rfl,by omega,hN.symm,rfl,hl.good⟩)
 have hlies:=hl.put hgood
 have w1:IntKind.i64.wrap ((m:Int) - (X.length:Int)) = ((m - X.length:Nat):Int):=by rw [qM (by omega) (by omega)];omega
 have hs:=quC hF (P:=P') (A:=X) (M:=[]) (B:=Y) (Q:=Q') (n:=X.length) (a:=m - X.length) (b:=m) (by omega) (by simp;omega) rfl hXY.symm (by simpa using (show (P' ++ (X ++ (Y ++ Q'))).length ≤ 100 by omega)) (by simpa using hlen.symm) (by simpa using hlies)
 simp only [List.nil_append,qaj] at hs
 simp only [sT.1,sC.1,qd,qc,Nat.testBit,simprocAttr,-Int.reduceNatCast',qA,qo,ht,e0,e2,e4,e10,w1,hFd,hFw,hs] at hw
 rw [hgoal] at hw
 subst hw
 rfl
end Go.Proofs.YtnlhdflceelacaaGreatDoor.AE
