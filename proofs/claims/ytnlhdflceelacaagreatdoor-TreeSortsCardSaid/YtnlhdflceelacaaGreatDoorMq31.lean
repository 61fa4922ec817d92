/- A part of the proof: the abstract executor and what goes through it (part 31). No condition. -/
import Derived.Test.YtnlhdflceelacaaGreatDoorMq30
set_option maxRecDepth 100000
namespace Go.Proofs.YtnlhdflceelacaaGreatDoor.AE
open Go.AE
section
variable {base:Nat} {call:AE.Call} {dsts:List Nat} {s:St} {pend:List (Nat×Chk)}
theorem qeG {d:Option Nat} {o:AOp} {ix cl j:Nat} {b:Bool} {ds:List qw} (h:lkp s.t j = .bool b):qp base call dsts (⟨⟨d,o,some (j,b)⟩,ix,cl⟩ :: ds) pend s = qp base call dsts (⟨⟨d,o,none⟩,ix,cl⟩ :: ds) pend s:=by
 have e:s.t.getD j .undef = .bool b:=h
 simp only [qp,wanted,e,beq_self_eq_true]
theorem qg4 {d:Option Nat} {o:AOp} {ix cl j:Nat} {ds:List qw} (h:lkp s.t j = .bool false):qp base call dsts (⟨⟨d,o,some (j,true)⟩,ix,cl⟩ :: ds) pend s = qp base call dsts ds pend { s with t:=put d (.tup []) s.t}:=by
 have e:s.t.getD j .undef = .bool false:=h
 have e2:(false == true) = false:=rfl
 simp only [qp,wanted,e,e2]
end
theorem qf0 {H:Nat→Option qg} {A B:List El} {y x:El} (h:qbW H (A ++ y :: x :: B)):cut (row (A ++ y :: x :: B)) (A.length * 5) (some 5) = some (.agg y.2)∧cut (row (A ++ y :: x :: B)) ((A.length + 1) * 5) (some 5) = some (.agg x.2)∧A.length * 5 + 5 ≤ (row (A ++ y :: x :: B)).length∧(A.length + 1) * 5 + 5 ≤ (row (A ++ y :: x :: B)).length:=by
 have l1:A.length < (A ++ y :: x :: B).length:=by simp
 have l2:A.length + 1 < (A ++ y :: x :: B).length:=by simp
 refine ⟨by rw [h.at l1];simp,?_,h.le l1,h.le l2⟩
 rw [h.at l2,List.getElem_append_right (by omega)]
 simp
theorem qgG {H:Nat→Option qg} {A B:List El} {y x z:El} (h:qbW H (A ++ y :: x :: B)) (hz:MR H z.1 z.2):splice (row (A ++ y :: x :: B)) ((A.length + 1) * 5) z.2 = row (A ++ y :: z :: B)∧qbW H (A ++ y :: z :: B):=by
 have l2:A.length + 1 < (A ++ y :: x :: B).length:=by simp
 have e:(A ++ y :: x :: B).set (A.length + 1) z = A ++ y :: z :: B:=by
  rw [List.set_append_right _ _ (by omega),show A.length + 1 - A.length = 1 by omega]
  rfl
 have:=h.set (i:=A.length + 1) hz
 rw [e] at this
 exact ⟨by rw [h.put l2 hz,e],this⟩
theorem qgF {H:Nat→Option qg} {A B:List El} {y x z:El} (h:qbW H (A ++ y :: x :: B)) (hz:MR H z.1 z.2):splice (row (A ++ y :: x :: B)) (A.length * 5) z.2 = row (A ++ z :: x :: B)∧qbW H (A ++ z :: x :: B):=by
 have l1:A.length < (A ++ y :: x :: B).length:=by simp
 have e:(A ++ y :: x :: B).set A.length z = A ++ z :: x :: B:=by
  rw [List.set_append_right _ _ (Nat.le_refl _),Nat.sub_self]
  rfl
 have:=h.set (i:=A.length) hz
 rw [e] at this
 exact ⟨by rw [h.put l1 hz,e],this⟩
def leE (a b:El):Prop:=leM a.1 b.1
theorem qny {a b c:El} (h1:leE a b) (h2:leE b c):leE a c:=qaz h1 h2
abbrev qa1:qa:=.fn 22 [] []
theorem qgy {S1 S2:List El} {x:El} (hs:(S1 ++ S2).Pairwise leE) (h2:∀s ∈ S2,leE x s) (h1:∀s ∈ S1,leE s x):(S1 ++ x :: S2).Pairwise leE:=by
 rw [List.pairwise_append] at hs ⊢
 refine ⟨hs.1,List.pairwise_cons.2 ⟨h2,hs.2.1⟩,fun a ha b hb=>?_⟩
 rcases List.mem_cons.1 hb with rfl | hb
 ·exact h1 a ha
 ·exact hs.2.2 a ha b hb
set_option maxHeartbeats 2000000 in
theorem qup {H:Nat→Option qg} {id N a i b:Nat} {P S T:List El} {x:El} {h:List qg} (hN:N = (P ++ (S ++ x :: T)).length) (h100:N ≤ 100) (ha:a = P.length) (hl:qeo H id (P ++ (S ++ x :: T)) h) (hS:S.Pairwise leE) {tt0:List qa}
  (ht:tt0.length = 53) (e0:lkp tt0 0 = .sl id 0 N N 5) (e1:lkp tt0 1 = .int .i64 (a:Nat)) (e2:lkp tt0 2 = .int .i64 (b:Nat)) (e3:lkp tt0 3 = qa1) (e8:lkp tt0 8 = .int .i64 (i:Nat)) (e9:lkp tt0 9 = .int .i64 (P.length + S.length:Nat)) {hb:Nat} :
  ∃tt S',qy hb Wd (.loop qeg) ⟨tt0,h,false⟩ = some (.exit 2,⟨tt,h.set id (.cells (row (P ++ (S' ++ T)))),false⟩)∧tt.length = 53∧lkp tt 0 = .sl id 0 N N 5∧lkp tt 1 = .int .i64 (a:Nat)∧lkp tt 2 = .int .i64 (b:Nat)∧lkp tt 3 = qa1∧lkp tt 8 = .int .i64 (i:Nat)∧S'.Pairwise leE∧S'.Perm (x :: S):=by
 have loop:∀k st,(∃(tt:List qa) (S1 S2:List El),st = ⟨tt,h.set id (.cells (row (P ++ (S1 ++ x :: (S2 ++ T))))),false⟩∧tt.length = 53∧lkp tt 0 = .sl id 0 N N 5∧lkp tt 1 = .int .i64 (a:Nat)∧lkp tt 2 = .int .i64 (b:Nat)∧lkp tt 3 = qa1∧lkp tt 8 = .int .i64 (i:Nat)∧lkp tt 9 = .int .i64 (P.length + S1.length:Nat)∧S1.length = k∧S1 ++ S2 = S∧(∀s ∈ S2,leE x s)∧qbW H (P ++ (S1 ++ x :: (S2 ++ T))))→
   ∃q st',qy hb Wd (.loop qeg) st = some (q,st')∧(q = .exit 2∧∃(tt:List qa) (S':List El),st' = ⟨tt,h.set id (.cells (row (P ++ (S' ++ T)))),false⟩∧tt.length = 53∧lkp tt 0 = .sl id 0 N N 5∧lkp tt 1 = .int .i64 (a:Nat)∧lkp tt 2 = .int .i64 (b:Nat)∧lkp tt 3 = qa1∧lkp tt 8 = .int .i64 (i:Nat)∧S'.Pairwise leE∧S'.Perm (x :: S)):=by
  refine qK _ (fun q st'=>q = .exit 2∧∃(tt:List qa) (S':List El),st' = ⟨tt,h.set id (.cells (row (P ++ (S' ++ T)))),false⟩∧tt.length = 53∧lkp tt 0 = .sl id 0 N N 5∧lkp tt 1 = .int .i64 (a:Nat)∧lkp tt 2 = .int .i64 (b:Nat)∧lkp tt 3 = qa1∧lkp tt 8 = .int .i64 (i:Nat)∧S'.Pairwise leE∧S'.Perm (x :: S)) ?_
  rintro k st ⟨tt,S1,S2,rfl,ht,e0,e1,e2,e3,e8,e9,hk,hS12,hx2,hgood⟩
  have hlies:=hl.put hgood
  generalize he:qy hb Wd qeg _ = r
  rcases List.eq_nil_or_concat S1 with rfl | ⟨S1',y,rfl⟩
  ·
   rw [List.length_nil,Nat.add_zero] at e9
   have c1:ilt (a:Int) (P.length:Int) = false:=by rw [qr];simp;omega
   simp only [List.nil_append] at he
   simp only [qeg,sT.1,sC.1,sTA.1,sCA.1,qd,qaZ,qa0,Src.isTmp,qad,Src.hangs,ql.isT,qaW,qc,Nat.testBit,bne,simprocAttr,-Int.reduceNatCast',qA,qo,ht,e0,e1,e3,e9,c1,qg4] at he
   subst he
   refine .inr ⟨_,_,rfl,by simp,rfl,_,x :: S2,rfl,by simp only [qi,ht],?_,?_,?_,?_,?_,?_,?_⟩
   ·simp only [sT.1,sC.1,qd,qc,Nat.testBit,simprocAttr,-Int.reduceNatCast',ht,e0]
   ·simp only [sT.1,sC.1,qd,qc,Nat.testBit,simprocAttr,-Int.reduceNatCast',ht,e1]
   ·simp only [sT.1,sC.1,qd,qc,Nat.testBit,simprocAttr,-Int.reduceNatCast',ht,e2]
   ·simp only [sT.1,sC.1,qd,qc,Nat.testBit,simprocAttr,-Int.reduceNatCast',ht,e3]
   ·simp only [sT.1,sC.1,qd,qc,Nat.testBit,simprocAttr,-Int.reduceNatCast',ht,e8]
   ·rw [←hS12] at hS
    exact List.pairwise_cons.2 ⟨hx2,hS⟩
   ·rw [←hS12]
    exact List.Perm.refl _
  ·
   rw [List.concat_eq_append] at e9 hk hS12 hgood hlies he
   have eA:P ++ ((S1' ++ [y]) ++ x :: (S2 ++ T)) = (P ++ S1') ++ y :: x :: (S2 ++ T):=by simp
   rw [eA] at hgood hlies he
   have hAl:(P ++ S1').length = P.length + S1'.length:=List.length_append
   have hN2:(P ++ S1').length + (S2.length + T.length + 2) = N:=by
    rw [hN,←hS12]
    simp
    omega
   have hq:P.length + (S1' ++ [y]).length = (P ++ S1').length + 1:=by simp;omega
   rw [hq] at e9
   have hq1:(P ++ S1').length + 1 < N:=by omega
   have hq0:(P ++ S1').length < N:=by omega
   have haq:a ≤ (P ++ S1').length:=by omega
   generalize hA:P ++ S1' = A at *
   obtain ⟨cy,cx,ly,lx⟩:=qf0 hgood
   have gy:=hgood y (by simp)
   have gx:=hgood x (by simp)
   have hless:=qgo gx gy _ hlies.cov
   have c1:ilt (a:Int) ((A.length + 1:Nat):Int) = true:=by rw [qr];simp;omega
   have w1:IntKind.i64.wrap (((A.length + 1:Nat):Int) - 1) = ((A.length:Nat):Int):=by rw [qM (by omega) (by omega)];omega
   have x0:qbr 5 (.sl id 0 N N 5) (.int .i64 (A.length:Nat)) = some (.ptr id (A.length * 5)):=qb4 hq0
   have x1:qbr 5 (.sl id 0 N N 5) (.int .i64 (A.length + 1:Nat)) = some (.ptr id ((A.length + 1) * 5)):=qb4 hq1
   have hbox:=hlies.box
   obtain ⟨G,hG⟩ :∃G,G = h.set id (.cells (row (A ++ y :: x :: (S2 ++ T)))):=⟨_,rfl⟩
   rw [←hG] at he hbox hlies hless
   have hGl:=hlies.lt
   obtain ⟨q1,hg1⟩:=qgG hgood gy
   obtain ⟨q0,hg0⟩:=qgF hg1 gx
   obtain ⟨_,_,ly',_⟩:=qf0 hg1
   obtain ⟨p1,k1,n1,s1,L1,z1,d1,st1,v1,lo1⟩:=gx.five
   obtain ⟨p2,k2,n2,s2,L2,z2,d2,st2,v2,lo2⟩:=gy.five
   have lo1:=lo1 id hl.low
   have lo2:=lo2 id hl.low
   rw [z1] at cx q0 hless
   rw [z2] at cy q1 hless
   have q1':List.take ((A.length + 1) * 5) (row (A ++ y :: x :: (S2 ++ T))) ++ qa.str p2 :: qa.int .i64 k2 :: qa.int .i64 n2 :: qa.str s2 :: L2 :: List.drop ((A.length + 1) * 5 + 5) (row (A ++ y :: x :: (S2 ++ T))) = row (A ++ y :: y :: (S2 ++ T)):=by
    rw [←q1]
    simp [splice]
   have q0':List.take (A.length * 5) (row (A ++ y :: y :: (S2 ++ T))) ++ qa.str p1 :: qa.int .i64 k1 :: qa.int .i64 n1 :: qa.str s1 :: L1 :: List.drop (A.length * 5 + 5) (row (A ++ y :: y :: (S2 ++ T))) = row (A ++ x :: y :: (S2 ++ T)):=by
    rw [←q0]
    simp [splice]
   by_cases hc:qbP x.1 y.1 < 0
   ·have c2:ilt (qbP x.1 y.1) 0 = true:=by rw [qr];simpa using hc
    simp only [qeg,sT.1,sC.1,sTA.1,sCA.1,qd,qaZ,qa0,Src.isTmp,qad,Src.hangs,ql.isT,qaW,qc,Nat.testBit,bne,simprocAttr,-Int.reduceNatCast',qA,qo,ht,e0,e1,e2,e3,e9,c1,c2,w1,x0,x1,hbox,hGl,cx,cy,d1,d2,st1,st2,v1,v2,lo1,lo2,lx,ly,ly',q1',q0',hless,qeG,Bool.or_true] at he
    subst he
    have hyx:leE x y:=by show qbP x.1 y.1 ≤ 0;omega
    have eB:A ++ x :: y :: (S2 ++ T) = P ++ (S1' ++ x :: ((y :: S2) ++ T)):=by rw [←hA];simp
    rw [eB] at hg0
    refine .inl ⟨_,S1'.length,rfl,by simp at hk;omega,_,S1',y :: S2,by rw [hG,qaj,eB],by simp only [qi,ht],?_,?_,?_,?_,?_,?_,rfl,by rw [←hS12];simp,?_,hg0⟩
    ·simp only [sT.1,sC.1,qd,qc,Nat.testBit,simprocAttr,-Int.reduceNatCast',ht,e0]
    ·simp only [sT.1,sC.1,qd,qc,Nat.testBit,simprocAttr,-Int.reduceNatCast',ht,e1]
    ·simp only [sT.1,sC.1,qd,qc,Nat.testBit,simprocAttr,-Int.reduceNatCast',ht,e2]
    ·simp only [sT.1,sC.1,qd,qc,Nat.testBit,simprocAttr,-Int.reduceNatCast',ht,e3]
    ·simp only [sT.1,sC.1,qd,qc,Nat.testBit,simprocAttr,-Int.reduceNatCast',ht,e8]
    ·simp only [sT.1,sC.1,qd,qc,Nat.testBit,simprocAttr,-Int.reduceNatCast',ht,hAl]
    ·intro s hs
     rcases List.mem_cons.1 hs with rfl | hs
     ·exact hyx
     ·exact hx2 s hs
   ·have c2:ilt (qbP x.1 y.1) 0 = false:=by rw [qr];simpa using hc
    simp only [qeg,sT.1,sC.1,sTA.1,sCA.1,qd,qaZ,qa0,Src.isTmp,qad,Src.hangs,ql.isT,qaW,qc,Nat.testBit,bne,simprocAttr,-Int.reduceNatCast',qA,qo,ht,e0,e1,e2,e3,e9,c1,c2,w1,x0,x1,hbox,hGl,cx,cy,d1,d2,st1,st2,v1,v2,lo1,lo2,lx,ly,ly',hless,qeG,Bool.or_true] at he
    subst he
    have hxy:leE y x:=qaH hc
    have eB:A ++ y :: x :: (S2 ++ T) = P ++ (((S1' ++ [y]) ++ x :: S2) ++ T):=by rw [←hA];simp
    refine .inr ⟨_,_,rfl,by simp,rfl,_,(S1' ++ [y]) ++ x :: S2,by rw [hG,eB],by simp only [qi,ht],?_,?_,?_,?_,?_,?_,?_⟩
    ·simp only [sT.1,sC.1,qd,qc,Nat.testBit,simprocAttr,-Int.reduceNatCast',ht,e0]
    ·simp only [sT.1,sC.1,qd,qc,Nat.testBit,simprocAttr,-Int.reduceNatCast',ht,e1]
    ·simp only [sT.1,sC.1,qd,qc,Nat.testBit,simprocAttr,-Int.reduceNatCast',ht,e2]
    ·simp only [sT.1,sC.1,qd,qc,Nat.testBit,simprocAttr,-Int.reduceNatCast',ht,e3]
    ·simp only [sT.1,sC.1,qd,qc,Nat.testBit,simprocAttr,-Int.reduceNatCast',ht,e8]
    ·rw [←hS12] at hS
     refine qgy hS hx2 fun s hs=>?_
     rcases List.mem_append.1 hs with hs | hs
     ·refine qny ?_ hxy
      have:=(List.pairwise_append.1 (List.pairwise_append.1 hS).1).2.2
      exact this s hs y (by simp)
     ·simp at hs
      rw [hs]
      exact hxy
    ·rw [←hS12]
     exact List.perm_middle
 obtain ⟨q,st',h1,rfl,tt,S',rfl,h2⟩:=loop S.length ⟨tt0,h,false⟩ ⟨tt0,S,[],by simp [qbm hl.box],ht,e0,e1,e2,e3,e8,e9,rfl,by simp,(fun s hs=>by cases hs),by simpa using hl.good⟩
 exact ⟨tt,S',h1,h2⟩
set_option maxHeartbeats 2000000 in
theorem qcx {H:Nat→Option qg} {id N a b:Nat} {P M R:List El} {h:List qg} (hN:N = (P ++ (M ++ R)).length) (h100:N ≤ 100) (ha:a = P.length) (hb:b = P.length + M.length) (hl:qeo H id (P ++ (M ++ R)) h) :
  ∃M',Wd (.fn 104 [] []) [.sl id 0 N N 5,.int .i64 (a:Nat),.int .i64 (b:Nat),qa1] h = some (.ret (.tup []),h.set id (.cells (row (P ++ (M' ++ R)))),false)∧M'.Pairwise leE∧M'.Perm M:=by
 have loop:∀k st,(∃(tt:List qa) (i:Nat) (S:List El),st = ⟨tt,h.set id (.cells (row (P ++ (S ++ (M.drop i ++ R))))),false⟩∧tt.length = 53∧lkp tt 0 = .sl id 0 N N 5∧lkp tt 1 = .int .i64 (a:Nat)∧lkp tt 2 = .int .i64 (b:Nat)∧lkp tt 3 = qa1∧lkp tt 8 = .int .i64 (a + i:Nat)∧S.length = min i M.length∧M.length + 1 = i + k∧S.Pairwise leE∧S.Perm (M.take i))→
   ∃q st',qy h.length Wd (.loop qeS) st = some (q,st')∧(q = .exit 0∧∃(tt:List qa) (M':List El),st' = ⟨tt,h.set id (.cells (row (P ++ (M' ++ R)))),false⟩∧tt.length = 53∧M'.Pairwise leE∧M'.Perm M):=by
  refine qK _ (fun q st'=>q = .exit 0∧∃(tt:List qa) (M':List El),st' = ⟨tt,h.set id (.cells (row (P ++ (M' ++ R)))),false⟩∧tt.length = 53∧M'.Pairwise leE∧M'.Perm M) ?_
  rintro k st ⟨tt,i,S,rfl,ht,e0,e1,e2,e3,e8,hSl,hk,hS,hperm⟩
  have hgood:qbW H (P ++ (S ++ (M.drop i ++ R))):=hl.good.perm fun e he=>by
   simp only [List.mem_append] at he ⊢
   rcases he with h | h | h | h
   ·exact .inl h
   ·exact .inr (.inl (List.mem_of_mem_take (hperm.subset h)))
   ·exact .inr (.inl (List.mem_of_mem_drop h))
   ·exact .inr (.inr h)
  have hNl:P.length + (M.length + R.length) = N:=by rw [hN];simp
  generalize hL:(qj.loop qeg) = L0
  generalize he:qy h.length Wd qeS _ = r
  rcases Nat.lt_or_ge i M.length with hi | hi
  ·have c1:ilt ((a + i:Nat):Int) (b:Int) = true:=by rw [qr];simp;omega
   have w:=qP (n:=a + i) (by omega)
   have hdrop:M.drop i = M[i] :: M.drop (i + 1):=List.drop_eq_getElem_cons hi
   have hSi:S.length = i:=by omega
   have eR:P ++ (S ++ (M.drop i ++ R)) = P ++ (S ++ M[i] :: (M.drop (i + 1) ++ R)):=by rw [hdrop,List.cons_append]
   rw [eR] at he hgood
   have hlies:=hl.put hgood
   simp only [qeS,hL,sT.1,sC.1,qd,qc,Nat.testBit,simprocAttr,-Int.reduceNatCast',qA,qo,ht,e8,e2,c1] at he
   generalize hr:qy h.length Wd L0 _ = r0 at he
   rw [←hL] at hr
   obtain ⟨tt',S',h1,ht',f0,f1,f2,f3,f8,hS',hp'⟩:=qup (a:=a) (i:=a + i) (b:=b) (N:=N) (T:=M.drop (i + 1) ++ R) (by rw [←eR,←hNl];simp [hSl];omega) h100 ha hlies hS (by simp only [qi,ht]) (by simp only [sT.1,sC.1,qd,qc,Nat.testBit,simprocAttr,-Int.reduceNatCast',ht,e0]) (by simp only [sT.1,sC.1,qd,qc,Nat.testBit,simprocAttr,-Int.reduceNatCast',ht,e1]) (by simp only [sT.1,sC.1,qd,qc,Nat.testBit,simprocAttr,-Int.reduceNatCast',ht,e2]) (by simp only [sT.1,sC.1,qd,qc,Nat.testBit,simprocAttr,-Int.reduceNatCast',ht,e3]) (by simp only [sT.1,sC.1,qd,qc,Nat.testBit,simprocAttr,-Int.reduceNatCast',ht,e8]) (by simp only [sT.1,sC.1,qd,qc,Nat.testBit,simprocAttr,-Int.reduceNatCast',ht,e8,ha,hSi]) (hb:=h.length) |> fun h=>by rw [hr] at h;exact h
   subst h1
   simp only [sT.1,sC.1,qd,qc,Nat.testBit,simprocAttr,-Int.reduceNatCast',ht',f8,w] at he
   subst he
   refine .inl ⟨_,k - 1,rfl,by omega,_,i + 1,S',rfl,by simp only [qi,ht'],?_,?_,?_,?_,?_,?_,by omega,hS',?_⟩
   ·simp only [sT.1,sC.1,qd,qc,Nat.testBit,simprocAttr,-Int.reduceNatCast',ht',f0]
   ·simp only [sT.1,sC.1,qd,qc,Nat.testBit,simprocAttr,-Int.reduceNatCast',ht',f1]
   ·simp only [sT.1,sC.1,qd,qc,Nat.testBit,simprocAttr,-Int.reduceNatCast',ht',f2]
   ·simp only [sT.1,sC.1,qd,qc,Nat.testBit,simprocAttr,-Int.reduceNatCast',ht',f3]
   ·simp only [sT.1,sC.1,qd,qc,Nat.testBit,simprocAttr,-Int.reduceNatCast',ht']
    rfl
   ·rw [hp'.length_eq,List.length_cons];omega
   ·rw [List.take_succ_eq_append_getElem hi]
    refine hp'.trans ?_
    exact (List.Perm.cons _ hperm).trans (List.perm_append_comm (l₁:=[M[i]]))
  ·have c1:ilt ((a + i:Nat):Int) (b:Int) = false:=by rw [qr];simp;omega
   simp only [qeS,hL,sT.1,sC.1,qd,qc,Nat.testBit,simprocAttr,-Int.reduceNatCast',qA,qo,ht,e8,e2,c1] at he
   subst he
   refine .inr ⟨_,_,rfl,by simp,rfl,_,S,by rw [List.drop_eq_nil_of_le hi,List.nil_append],by simp only [qi,ht],hS,?_⟩
   rw [List.take_of_length_le hi] at hperm
   exact hperm
 have hNl:P.length + (M.length + R.length) = N:=by rw [hN];simp
 have hwr:=qP (n:=a) (by omega)
 have eM:P ++ (M.take 1 ++ (M.drop 1 ++ R)) = P ++ (M ++ R):=by rw [←List.append_assoc (M.take 1),List.take_append_drop]
 generalize hw:Wd _ _ h = w
 rw [qab rfl (show T.get 104 = some quL by kernel_rfl)] at hw
 simp only [quL,sT.1,sC.1,qd,qc,Nat.testBit,simprocAttr,-Int.reduceNatCast',qA,qo,hwr] at hw
 generalize hr:qy h.length Wd (.loop qeS) _ = r at hw
 obtain ⟨x,st',rfl,rfl,tt,M',rfl,ht,hs,hp⟩:=qbU hr (loop M.length _ ⟨_,1,M.take 1,by rw [eM,qbm hl.box],by simp only [sT.1,sC.1,qd,qc,Nat.testBit,simprocAttr,-Int.reduceNatCast'],by simp only [sT.1,sC.1,qd,qc,Nat.testBit,simprocAttr,-Int.reduceNatCast'],by simp only [sT.1,sC.1,qd,qc,Nat.testBit,simprocAttr,-Int.reduceNatCast'],by simp only [sT.1,sC.1,qd,qc,Nat.testBit,simprocAttr,-Int.reduceNatCast'],by simp only [sT.1,sC.1,qd,qc,Nat.testBit,simprocAttr,-Int.reduceNatCast'],by simp only [sT.1,sC.1,qd,qc,Nat.testBit,simprocAttr,-Int.reduceNatCast'],by simp,by omega,by cases M <;> simp,by simp⟩)
 simp only [sT.1,sC.1,qd,qc,Nat.testBit,simprocAttr,-Int.reduceNatCast',ht] at hw
 subst hw
 exact ⟨M',rfl,hs,hp⟩
end Go.Proofs.YtnlhdflceelacaaGreatDoor.AE
