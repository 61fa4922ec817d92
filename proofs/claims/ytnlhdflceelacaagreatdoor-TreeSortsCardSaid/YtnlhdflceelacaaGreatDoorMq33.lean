/- A part of the proof: the abstract executor and what goes through it (part 33). No condition. -/
import Derived.Test.YtnlhdflceelacaaGreatDoorMq32
set_option maxRecDepth 100000
namespace Go.Proofs.YtnlhdflceelacaaGreatDoor.AE
open Go.AE
set_option maxHeartbeats 2000000 in
theorem qoN {H:Nat→Option qg} {id N a m b i:Nat} {P W T:List El} {u:El} {h:List qg} (hN:N = (P ++ u :: (W ++ T)).length) (h100:N ≤ 100) (ha:a = P.length) (hi:i = P.length + W.length + 1) (hl:qeo H id (P ++ u :: (W ++ T)) h) {tt0:List qa}
  (ht:tt0.length = 220) (e0:lkp tt0 0 = .sl id 0 N N 5) (e1:lkp tt0 1 = .int .i64 (a:Nat)) (e10:lkp tt0 10 = .int .i64 (i:Nat)) (e13:lkp tt0 13 = .int .i64 (a:Nat)) {hb:Nat} :
  ∃tt,qy hb Wd (.loop qeU) ⟨tt0,h,false⟩ = some (.exit 2,⟨tt,h.set id (.cells (row (P ++ (W ++ u :: T)))),false⟩)∧tt.length = 220:=by
 have loop:∀k st,(∃(tt:List qa) (W1 W2:List El),st = ⟨tt,h.set id (.cells (row (P ++ (W1 ++ u :: (W2 ++ T))))),false⟩∧tt.length = 220∧lkp tt 0 = .sl id 0 N N 5∧lkp tt 10 = .int .i64 (i:Nat)∧lkp tt 13 = .int .i64 (P.length + W1.length:Nat)∧W2.length = k∧W1 ++ W2 = W∧qbW H (P ++ (W1 ++ u :: (W2 ++ T))))→
   ∃q st',qy hb Wd (.loop qeU) st = some (q,st')∧(q = .exit 2∧∃tt:List qa,st' = ⟨tt,h.set id (.cells (row (P ++ (W ++ u :: T)))),false⟩∧tt.length = 220):=by
  refine qK _ (fun q st'=>q = .exit 2∧∃tt:List qa,st' = ⟨tt,h.set id (.cells (row (P ++ (W ++ u :: T)))),false⟩∧tt.length = 220) ?_
  rintro k st ⟨tt,W1,W2,rfl,ht,e0,e10,e13,hk,hW,hgood⟩
  have hlies:=hl.put hgood
  have hNl:P.length + (W.length + T.length) + 1 = N:=by rw [hN];simp;omega
  have hWl:W1.length + W2.length = W.length:=by rw [←hW,List.length_append]
  have wi:IntKind.i64.wrap ((i:Int) - 1) = ((i - 1:Nat):Int):=by rw [qM (by omega) (by omega)];omega
  generalize he:qy hb Wd qeU _ = r
  rcases W2 with _ | ⟨x,W2⟩
  ·simp at hk hWl
   have c1:ilt ((P.length + W1.length:Nat):Int) ((i - 1:Nat):Int) = false:=by rw [qr];simp;omega
   rw [List.append_nil] at hW
   simp only [qeU,sT.1,sC.1,qd,qc,Nat.testBit,simprocAttr,-Int.reduceNatCast',qA,qo,ht,e0,e10,e13,c1,wi] at he
   subst he
   exact .inr ⟨_,_,rfl,by simp,rfl,_,by rw [hW],by simp only [qi,ht]⟩
  ·have eA:P ++ (W1 ++ u :: ((x :: W2) ++ T)) = (P ++ W1) ++ u :: x :: (W2 ++ T):=by simp
   rw [eA] at hgood hlies he
   have hAl:(P ++ W1).length = P.length + W1.length:=List.length_append
   rw [List.length_cons] at hWl hk
   have c1:ilt ((P.length + W1.length:Nat):Int) ((i - 1:Nat):Int) = true:=by rw [qr];simp;omega
   have hq1:(P ++ W1).length + 1 < N:=by omega
   have hq0:(P ++ W1).length < N:=by omega
   rw [←hAl] at e13 c1
   generalize hA:P ++ W1 = A at *
   obtain ⟨cu,cx,lu,lx⟩:=qf0 hgood
   have gu:=hgood u (by simp)
   have gx:=hgood x (by simp)
   have w1:=qP (n:=A.length) (by omega)
   have x0:qbr 5 (.sl id 0 N N 5) (.int .i64 (A.length:Nat)) = some (.ptr id (A.length * 5)):=qb4 hq0
   have x1:qbr 5 (.sl id 0 N N 5) (.int .i64 (A.length + 1:Nat)) = some (.ptr id ((A.length + 1) * 5)):=qb4 hq1
   have hbox:=hlies.box
   obtain ⟨G,hG⟩ :∃G,G = h.set id (.cells (row (A ++ u :: x :: (W2 ++ T)))):=⟨_,rfl⟩
   rw [←hG] at he hbox hlies
   have hGl:=hlies.lt
   obtain ⟨q0,hg0⟩:=qgF hgood gx
   obtain ⟨q1,hg1⟩:=qgG hg0 gu
   obtain ⟨_,_,_,lx'⟩:=qf0 hg0
   obtain ⟨p1,k1,n1,s1,L1,z1,d1,st1,v1,lo1⟩:=gu.five
   obtain ⟨p2,k2,n2,s2,L2,z2,d2,st2,v2,lo2⟩:=gx.five
   have lo1:=lo1 id hl.low
   have lo2:=lo2 id hl.low
   rw [z1] at cu q1
   rw [z2] at cx q0
   have q0':List.take (A.length * 5) (row (A ++ u :: x :: (W2 ++ T))) ++ qa.str p2 :: qa.int .i64 k2 :: qa.int .i64 n2 :: qa.str s2 :: L2 :: List.drop (A.length * 5 + 5) (row (A ++ u :: x :: (W2 ++ T))) = row (A ++ x :: x :: (W2 ++ T)):=by
    rw [←q0]
    simp [splice]
   have q1':List.take ((A.length + 1) * 5) (row (A ++ x :: x :: (W2 ++ T))) ++ qa.str p1 :: qa.int .i64 k1 :: qa.int .i64 n1 :: qa.str s1 :: L1 :: List.drop ((A.length + 1) * 5 + 5) (row (A ++ x :: x :: (W2 ++ T))) = row (A ++ x :: u :: (W2 ++ T)):=by
    rw [←q1]
    simp [splice]
   simp only [qeU,sT.1,sC.1,sTA.1,sCA.1,qd,qaZ,qa0,Src.isTmp,qad,Src.hangs,ql.isT,qaW,qc,Nat.testBit,bne,simprocAttr,-Int.reduceNatCast',qA,qo,ht,e0,e10,e13,c1,wi,w1,x0,x1,hbox,hGl,cx,cu,d1,d2,st1,st2,v1,v2,lo1,lo2,lx,lu,lx',q1',q0',Bool.or_true] at he
   subst he
   have eB:A ++ x :: u :: (W2 ++ T) = P ++ ((W1 ++ [x]) ++ u :: (W2 ++ T)):=by rw [←hA];simp
   rw [eB] at hg1
   refine .inl ⟨_,W2.length,rfl,by omega,_,W1 ++ [x],W2,by rw [hG,qaj,eB],by simp only [qi,ht],?_,?_,?_,rfl,by rw [←hW];simp,hg1⟩
   ·simp only [sT.1,sC.1,qd,qc,Nat.testBit,simprocAttr,-Int.reduceNatCast',ht,e0]
   ·simp only [sT.1,sC.1,qd,qc,Nat.testBit,simprocAttr,-Int.reduceNatCast',ht,e10]
   ·have:P.length + (W1 ++ [x]).length = A.length + 1:=by rw [hAl];simp;omega
    rw [this]
    simp only [sT.1,sC.1,qd,qc,Nat.testBit,simprocAttr,-Int.reduceNatCast',ht]
 obtain ⟨q,st',h1,rfl,tt,rfl,h2⟩:=loop W.length ⟨tt0,h,false⟩ ⟨tt0,[],W,by simp [qbm hl.box],ht,e0,e10,by rw [e13,ha];simp,rfl,rfl,by simpa using hl.good⟩
 exact ⟨tt,h1,h2⟩
set_option maxHeartbeats 2000000 in
theorem qqY {H:Nat→Option qg} {id N m i:Nat} {P W T:List El} {v:El} {h:List qg} (hN:N = (P ++ (W ++ v :: T)).length) (h100:N ≤ 100) (hm:m = P.length + W.length) (hi:i = P.length) (hl:qeo H id (P ++ (W ++ v :: T)) h) {tt0:List qa}
  (ht:tt0.length = 220) (e0:lkp tt0 0 = .sl id 0 N N 5) (e14:lkp tt0 14 = .int .i64 (i:Nat)) (e17:lkp tt0 17 = .int .i64 (m:Nat)) {hb:Nat} :
  ∃tt,qy hb Wd (.loop qeW) ⟨tt0,h,false⟩ = some (.exit 6,⟨tt,h.set id (.cells (row (P ++ (v :: W ++ T)))),false⟩)∧tt.length = 220:=by
 have loop:∀k st,(∃(tt:List qa) (W1 W2:List El),st = ⟨tt,h.set id (.cells (row (P ++ (W1 ++ v :: (W2 ++ T))))),false⟩∧tt.length = 220∧lkp tt 0 = .sl id 0 N N 5∧lkp tt 14 = .int .i64 (i:Nat)∧lkp tt 17 = .int .i64 (P.length + W1.length:Nat)∧W1.length = k∧W1 ++ W2 = W∧qbW H (P ++ (W1 ++ v :: (W2 ++ T))))→
   ∃q st',qy hb Wd (.loop qeW) st = some (q,st')∧(q = .exit 6∧∃tt:List qa,st' = ⟨tt,h.set id (.cells (row (P ++ (v :: W ++ T)))),false⟩∧tt.length = 220):=by
  refine qK _ (fun q st'=>q = .exit 6∧∃tt:List qa,st' = ⟨tt,h.set id (.cells (row (P ++ (v :: W ++ T)))),false⟩∧tt.length = 220) ?_
  rintro k st ⟨tt,W1,W2,rfl,ht,e0,e14,e17,hk,hW,hgood⟩
  have hlies:=hl.put hgood
  have hNl:P.length + (W.length + T.length) + 1 = N:=by rw [hN];simp;omega
  have hWl:W1.length + W2.length = W.length:=by rw [←hW,List.length_append]
  generalize he:qy hb Wd qeW _ = r
  rcases List.eq_nil_or_concat W1 with rfl | ⟨W1',x,rfl⟩
  ·rw [List.length_nil,Nat.add_zero] at e17
   have c1:ilt (i:Int) (P.length:Int) = false:=by rw [qr];simp;omega
   rw [List.nil_append] at hW
   simp only [qeW,sT.1,sC.1,qd,qc,Nat.testBit,simprocAttr,-Int.reduceNatCast',qA,qo,ht,e0,e14,e17,c1] at he
   subst he
   exact .inr ⟨_,_,rfl,by simp,rfl,_,by rw [hW];rfl,by simp only [qi,ht]⟩
  ·rw [List.concat_eq_append] at e17 hk hW hWl hgood hlies he
   have eA:P ++ ((W1' ++ [x]) ++ v :: (W2 ++ T)) = (P ++ W1') ++ x :: v :: (W2 ++ T):=by simp
   rw [eA] at hgood hlies he
   have hAl:(P ++ W1').length = P.length + W1'.length:=List.length_append
   rw [List.length_append,List.length_singleton] at hWl hk
   have hq:P.length + (W1' ++ [x]).length = (P ++ W1').length + 1:=by simp;omega
   rw [hq] at e17
   have hq1:(P ++ W1').length + 1 < N:=by omega
   have hq0:(P ++ W1').length < N:=by omega
   have hiq:i ≤ (P ++ W1').length:=by omega
   generalize hA:P ++ W1' = A at *
   have c1:ilt (i:Int) ((A.length + 1:Nat):Int) = true:=by rw [qr];simp;omega
   have w1:IntKind.i64.wrap (((A.length + 1:Nat):Int) - 1) = ((A.length:Nat):Int):=by rw [qM (by omega) (by omega)];omega
   obtain ⟨cx,cv,lx,lv⟩:=qf0 hgood
   have gv:=hgood v (by simp)
   have gx:=hgood x (by simp)
   have x0:qbr 5 (.sl id 0 N N 5) (.int .i64 (A.length:Nat)) = some (.ptr id (A.length * 5)):=qb4 hq0
   have x1:qbr 5 (.sl id 0 N N 5) (.int .i64 (A.length + 1:Nat)) = some (.ptr id ((A.length + 1) * 5)):=qb4 hq1
   have hbox:=hlies.box
   obtain ⟨G,hG⟩ :∃G,G = h.set id (.cells (row (A ++ x :: v :: (W2 ++ T)))):=⟨_,rfl⟩
   rw [←hG] at he hbox hlies
   have hGl:=hlies.lt
   obtain ⟨q1,hg1⟩:=qgG hgood gx
   obtain ⟨q0,hg0⟩:=qgF hg1 gv
   obtain ⟨_,_,lx',_⟩:=qf0 hg1
   obtain ⟨p1,k1,n1,s1,L1,z1,d1,st1,v1,lo1⟩:=gv.five
   obtain ⟨p2,k2,n2,s2,L2,z2,d2,st2,v2,lo2⟩:=gx.five
   have lo1:=lo1 id hl.low
   have lo2:=lo2 id hl.low
   rw [z1] at cv q0
   rw [z2] at cx q1
   have q1':List.take ((A.length + 1) * 5) (row (A ++ x :: v :: (W2 ++ T))) ++ qa.str p2 :: qa.int .i64 k2 :: qa.int .i64 n2 :: qa.str s2 :: L2 :: List.drop ((A.length + 1) * 5 + 5) (row (A ++ x :: v :: (W2 ++ T))) = row (A ++ x :: x :: (W2 ++ T)):=by
    rw [←q1]
    simp [splice]
   have q0':List.take (A.length * 5) (row (A ++ x :: x :: (W2 ++ T))) ++ qa.str p1 :: qa.int .i64 k1 :: qa.int .i64 n1 :: qa.str s1 :: L1 :: List.drop (A.length * 5 + 5) (row (A ++ x :: x :: (W2 ++ T))) = row (A ++ v :: x :: (W2 ++ T)):=by
    rw [←q0]
    simp [splice]
   simp only [qeW,sT.1,sC.1,sTA.1,sCA.1,qd,qaZ,qa0,Src.isTmp,qad,Src.hangs,ql.isT,qaW,qc,Nat.testBit,bne,simprocAttr,-Int.reduceNatCast',qA,qo,ht,e0,e14,e17,c1,w1,x0,x1,hbox,hGl,cx,cv,d1,d2,st1,st2,v1,v2,lo1,lo2,lx,lv,lx',q1',q0',Bool.or_true] at he
   subst he
   have eB:A ++ v :: x :: (W2 ++ T) = P ++ (W1' ++ v :: ((x :: W2) ++ T)):=by rw [←hA];simp
   rw [eB] at hg0
   refine .inl ⟨_,W1'.length,rfl,by omega,_,W1',x :: W2,by rw [hG,qaj,eB],by simp only [qi,ht],?_,?_,?_,rfl,by rw [←hW];simp,hg0⟩
   ·simp only [sT.1,sC.1,qd,qc,Nat.testBit,simprocAttr,-Int.reduceNatCast',ht,e0]
   ·simp only [sT.1,sC.1,qd,qc,Nat.testBit,simprocAttr,-Int.reduceNatCast',ht,e14]
   ·simp only [sT.1,sC.1,qd,qc,Nat.testBit,simprocAttr,-Int.reduceNatCast',ht,hAl]
 obtain ⟨q,st',h1,rfl,tt,rfl,h2⟩:=loop W.length ⟨tt0,h,false⟩ ⟨tt0,W,[],by simp [qbm hl.box],ht,e0,e14,by rw [e17,hm],rfl,by simp,by simpa using hl.good⟩
 exact ⟨tt,h1,h2⟩
end Go.Proofs.YtnlhdflceelacaaGreatDoor.AE
