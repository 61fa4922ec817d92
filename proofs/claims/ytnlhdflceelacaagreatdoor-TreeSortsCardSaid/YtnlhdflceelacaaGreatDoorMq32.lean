/- A part of the proof: the abstract executor and what goes through it (part 32). No condition. -/
import Derived.Test.YtnlhdflceelacaaGreatDoorMq31
set_option maxRecDepth 100000
namespace Go.Proofs.YtnlhdflceelacaaGreatDoor.AE
open Go.AE
theorem qi4 (p:Nat→Prop):∀(k lo hi:Nat),lo + k = hi→(∀x y,lo ≤ x→x ≤ y→y < hi→p y→p x)→∃t,lo ≤ t∧t ≤ hi∧∀x,lo ≤ x→x < hi→(p x↔x < t)
 | 0,lo,hi,h,_=>⟨lo,Nat.le_refl _,by omega,fun x h1 h2=>by omega⟩
 | k + 1,lo,hi,h,hm=>by
  by_cases hp:p (hi - 1)
  ·exact ⟨hi,by omega,Nat.le_refl _,fun x h1 h2=>⟨fun _=>h2,fun _=>hm x (hi - 1) h1 (by omega) (by omega) hp⟩⟩
  ·obtain ⟨t,t1,t2,t3⟩:=qi4 p k lo (hi - 1) (by omega) fun x y h1 h2 h3=>hm x y h1 h2 (by omega)
   refine ⟨t,t1,by omega,fun x h1 h2=>?_⟩
   by_cases hx:x < hi - 1
   ·exact t3 x h1 hx
   ·have e:x = hi - 1:=by omega
    rw [e]
    exact ⟨fun h=>absurd h hp,fun h=>by omega⟩
def E (es:List El) (i:Nat):Msg:=((es[i]?).map (·.1)).getD ⟨[],.mk 0 0 [] []⟩
theorem qgK {es:List El} {i:Nat} (hi:i < es.length):E es i = es[i].1:=by rw [E,List.getElem?_eq_getElem hi];rfl
theorem qxV (s:Nat):qbg .shr (.int .u64 (s:Nat)) (.int .u64 1) = some (.int .u64 (s / 2:Nat)):=by
 have e:((s:Int)).fdiv 2 = ((s / 2:Nat):Int):=by rw [Int.fdiv_eq_ediv_of_nonneg _ (by omega)];omega
 rw [←e]
 rfl
theorem qjy {s:Nat} (h:s < 18446744073709551616):IntKind.u64.wrap (s:Int) = (s:Int):=by
 have:IntKind.u64.wrap (s:Int) = (s:Int) % 18446744073709551616:=by simp [IntKind.wrap,IntKind.bits,IntKind.signed]
 omega
set_option maxHeartbeats 2000000 in
theorem qui {H:Nat→Option qg} {id N a m b mid n p t:Nat} {es:List El} {h:List qg} (hN:N = es.length) (h100:N ≤ 100) (hl:qeo H id es h) {hb:Nat} (ha:a < N) (hbN:b ≤ N) (hpt:∀x,m ≤ x→x < b→(qbP (E es x) (E es a) < 0↔x < t)) :
  ∀k st,(∃(tt:List qa) (i j:Nat),st = ⟨tt,h,false⟩∧tt.length = 220∧lkp tt 0 = .sl id 0 N N 5∧lkp tt 1 = .int .i64 (a:Nat)∧lkp tt 2 = .int .i64 (m:Nat)∧lkp tt 3 = .int .i64 (b:Nat)∧lkp tt 4 = qa1∧lkp tt 10 = .int .i64 (i:Nat)∧lkp tt 11 = .int .i64 (j:Nat)∧m ≤ i∧i ≤ t∧t ≤ j∧j ≤ b∧k = j - i)→
   ∃q st',qy hb Wd (.loop qeT) st = some (q,st')∧(q = .exit 0∧∃tt:List qa,st' = ⟨tt,h,false⟩∧tt.length = 220∧lkp tt 0 = .sl id 0 N N 5∧lkp tt 1 = .int .i64 (a:Nat)∧lkp tt 2 = .int .i64 (m:Nat)∧lkp tt 3 = .int .i64 (b:Nat)∧lkp tt 4 = qa1∧lkp tt 10 = .int .i64 (t:Nat)):=by
 refine qK _ (fun q st'=>q = .exit 0∧∃tt:List qa,st' = ⟨tt,h,false⟩∧tt.length = 220∧lkp tt 0 = .sl id 0 N N 5∧lkp tt 1 = .int .i64 (a:Nat)∧lkp tt 2 = .int .i64 (m:Nat)∧lkp tt 3 = .int .i64 (b:Nat)∧lkp tt 4 = qa1∧lkp tt 10 = .int .i64 (t:Nat)) ?_
 rintro k st ⟨tt,i,j,rfl,ht,e0,e1,e2,e3,e4,ei,ej,i0,i1,i2,i3,hk⟩
 generalize he:qy hb Wd qeT _ = r
 rcases Nat.lt_or_ge i j with hij | hij
 ·have c1:ilt (i:Int) (j:Int) = true:=by rw [qr];simp;omega
  have w1:IntKind.i64.wrap ((i:Int) + (j:Int)) = ((i + j:Nat):Int):=by rw [qM (by omega) (by omega)];omega
  have w2:=qjy (s:=i + j) (by omega)
  have w3:IntKind.i64.wrap (((i + j) / 2:Nat):Int) = (((i + j) / 2:Nat):Int):=qM (by omega) (by omega)
  have w4:=qP (n:=(i + j) / 2) (by omega)
  have sh:=qxV (i + j)
  have hc1:i ≤ (i + j) / 2:=by omega
  have hc2:(i + j) / 2 < j:=by omega
  generalize (i + j) / 2 = c at *
  have hx1:c < es.length:=by omega
  have hx2:a < es.length:=by omega
  have g1:=hl.good _ (List.getElem_mem hx1)
  have g2:=hl.good _ (List.getElem_mem hx2)
  have hless:=qgo g1 g2 h hl.cov
  have cx:=hl.good.at hx1
  have cy:=hl.good.at hx2
  have hbox:=hl.box
  have y1:qbr 5 (.sl id 0 N N 5) (.int .i64 (c:Nat)) = some (.ptr id (c * 5)):=qb4 (by omega)
  have y2:qbr 5 (.sl id 0 N N 5) (.int .i64 (a:Nat)) = some (.ptr id (a * 5)):=qb4 (by omega)
  rw [←qgK hx1,←qgK hx2] at hless
  obtain ⟨p1,k1,n1,s1,L1,z1,d1,st1,v1,_⟩:=g1.five
  obtain ⟨p2,k2,n2,s2,L2,z2,d2,st2,v2,_⟩:=g2.five
  rw [z1] at cx hless
  rw [z2] at cy hless
  by_cases hlt:qbP (E es c) (E es a) < 0
  ·have c2:ilt (qbP (E es c) (E es a)) 0 = true:=by rw [qr];simpa using hlt
   simp only [qeT,sT.1,sC.1,sTA.1,sCA.1,qd,qaZ,qa0,Src.isTmp,qad,Src.hangs,ql.isT,qaW,qc,Nat.testBit,bne,simprocAttr,-Int.reduceNatCast',qA,qo,ht,e0,e1,e2,e3,e4,ei,ej,c1,c2,w1,w2,w3,w4,sh,y1,y2,hbox,cx,cy,d1,d2,st1,st2,v1,v2,hless] at he
   subst he
   have hct:c < t:=(hpt c (by omega) (by omega)).1 hlt
   refine .inl ⟨_,j - (c + 1),rfl,by omega,_,c + 1,j,rfl,by simp only [qi,ht],?_,?_,?_,?_,?_,?_,?_,by omega,by omega,by omega,by omega,rfl⟩
   ·simp only [sT.1,sC.1,qd,qc,Nat.testBit,simprocAttr,-Int.reduceNatCast',ht,e0]
   ·simp only [sT.1,sC.1,qd,qc,Nat.testBit,simprocAttr,-Int.reduceNatCast',ht,e1]
   ·simp only [sT.1,sC.1,qd,qc,Nat.testBit,simprocAttr,-Int.reduceNatCast',ht,e2]
   ·simp only [sT.1,sC.1,qd,qc,Nat.testBit,simprocAttr,-Int.reduceNatCast',ht,e3]
   ·simp only [sT.1,sC.1,qd,qc,Nat.testBit,simprocAttr,-Int.reduceNatCast',ht,e4]
   ·simp only [sT.1,sC.1,qd,qc,Nat.testBit,simprocAttr,-Int.reduceNatCast',ht]
   ·simp only [sT.1,sC.1,qd,qc,Nat.testBit,simprocAttr,-Int.reduceNatCast',ht,ej]
  ·have c2:ilt (qbP (E es c) (E es a)) 0 = false:=by rw [qr];simpa using hlt
   simp only [qeT,sT.1,sC.1,sTA.1,sCA.1,qd,qaZ,qa0,Src.isTmp,qad,Src.hangs,ql.isT,qaW,qc,Nat.testBit,bne,simprocAttr,-Int.reduceNatCast',qA,qo,ht,e0,e1,e2,e3,e4,ei,ej,c1,c2,w1,w2,w3,w4,sh,y1,y2,hbox,cx,cy,d1,d2,st1,st2,v1,v2,hless] at he
   subst he
   have hct:¬ c < t:=fun hh=>hlt ((hpt c (by omega) (by omega)).2 hh)
   refine .inl ⟨_,c - i,rfl,by omega,_,i,c,rfl,by simp only [qi,ht],?_,?_,?_,?_,?_,?_,?_,by omega,by omega,by omega,by omega,rfl⟩
   ·simp only [sT.1,sC.1,qd,qc,Nat.testBit,simprocAttr,-Int.reduceNatCast',ht,e0]
   ·simp only [sT.1,sC.1,qd,qc,Nat.testBit,simprocAttr,-Int.reduceNatCast',ht,e1]
   ·simp only [sT.1,sC.1,qd,qc,Nat.testBit,simprocAttr,-Int.reduceNatCast',ht,e2]
   ·simp only [sT.1,sC.1,qd,qc,Nat.testBit,simprocAttr,-Int.reduceNatCast',ht,e3]
   ·simp only [sT.1,sC.1,qd,qc,Nat.testBit,simprocAttr,-Int.reduceNatCast',ht,e4]
   ·simp only [sT.1,sC.1,qd,qc,Nat.testBit,simprocAttr,-Int.reduceNatCast',ht,ei]
   ·simp only [sT.1,sC.1,qd,qc,Nat.testBit,simprocAttr,-Int.reduceNatCast',ht]
 ·have c1:ilt (i:Int) (j:Int) = false:=by rw [qr];simp;omega
  have hit:i = t:=by omega
  simp only [qeT,sT.1,sC.1,qd,qc,Nat.testBit,simprocAttr,-Int.reduceNatCast',qA,qo,ht,e0,e1,e2,e3,e4,ei,ej,c1] at he
  subst he
  refine .inr ⟨_,_,rfl,by simp,rfl,_,rfl,by simp only [qi,ht],?_,?_,?_,?_,?_,?_⟩
  ·simp only [sT.1,sC.1,qd,qc,Nat.testBit,simprocAttr,-Int.reduceNatCast',ht,e0]
  ·simp only [sT.1,sC.1,qd,qc,Nat.testBit,simprocAttr,-Int.reduceNatCast',ht,e1]
  ·simp only [sT.1,sC.1,qd,qc,Nat.testBit,simprocAttr,-Int.reduceNatCast',ht,e2]
  ·simp only [sT.1,sC.1,qd,qc,Nat.testBit,simprocAttr,-Int.reduceNatCast',ht,e3]
  ·simp only [sT.1,sC.1,qd,qc,Nat.testBit,simprocAttr,-Int.reduceNatCast',ht,e4]
  ·simp only [sT.1,sC.1,qd,qc,Nat.testBit,simprocAttr,-Int.reduceNatCast',ht,ei,hit]
set_option maxHeartbeats 2000000 in
theorem quj {H:Nat→Option qg} {id N a m b mid n p t:Nat} {es:List El} {h:List qg} (hN:N = es.length) (h100:N ≤ 100) (hl:qeo H id es h) {hb:Nat} (hm:m < N) (hpt:∀x,a ≤ x→x < m→(¬ qbP (E es m) (E es x) < 0↔x < t)) :
  ∀k st,(∃(tt:List qa) (i j:Nat),st = ⟨tt,h,false⟩∧tt.length = 220∧lkp tt 0 = .sl id 0 N N 5∧lkp tt 1 = .int .i64 (a:Nat)∧lkp tt 2 = .int .i64 (m:Nat)∧lkp tt 3 = .int .i64 (b:Nat)∧lkp tt 4 = qa1∧lkp tt 14 = .int .i64 (i:Nat)∧lkp tt 15 = .int .i64 (j:Nat)∧a ≤ i∧i ≤ t∧t ≤ j∧j ≤ m∧k = j - i)→
   ∃q st',qy hb Wd (.loop qeV) st = some (q,st')∧(q = .exit 4∧∃tt:List qa,st' = ⟨tt,h,false⟩∧tt.length = 220∧lkp tt 0 = .sl id 0 N N 5∧lkp tt 1 = .int .i64 (a:Nat)∧lkp tt 2 = .int .i64 (m:Nat)∧lkp tt 3 = .int .i64 (b:Nat)∧lkp tt 4 = qa1∧lkp tt 14 = .int .i64 (t:Nat)):=by
 refine qK _ (fun q st'=>q = .exit 4∧∃tt:List qa,st' = ⟨tt,h,false⟩∧tt.length = 220∧lkp tt 0 = .sl id 0 N N 5∧lkp tt 1 = .int .i64 (a:Nat)∧lkp tt 2 = .int .i64 (m:Nat)∧lkp tt 3 = .int .i64 (b:Nat)∧lkp tt 4 = qa1∧lkp tt 14 = .int .i64 (t:Nat)) ?_
 rintro k st ⟨tt,i,j,rfl,ht,e0,e1,e2,e3,e4,ei,ej,i0,i1,i2,i3,hk⟩
 generalize he:qy hb Wd qeV _ = r
 rcases Nat.lt_or_ge i j with hij | hij
 ·have c1:ilt (i:Int) (j:Int) = true:=by rw [qr];simp;omega
  have w1:IntKind.i64.wrap ((i:Int) + (j:Int)) = ((i + j:Nat):Int):=by rw [qM (by omega) (by omega)];omega
  have w2:=qjy (s:=i + j) (by omega)
  have w3:IntKind.i64.wrap (((i + j) / 2:Nat):Int) = (((i + j) / 2:Nat):Int):=qM (by omega) (by omega)
  have w4:=qP (n:=(i + j) / 2) (by omega)
  have sh:=qxV (i + j)
  have hc1:i ≤ (i + j) / 2:=by omega
  have hc2:(i + j) / 2 < j:=by omega
  generalize (i + j) / 2 = c at *
  have hx1:m < es.length:=by omega
  have hx2:c < es.length:=by omega
  have g1:=hl.good _ (List.getElem_mem hx1)
  have g2:=hl.good _ (List.getElem_mem hx2)
  have hless:=qgo g1 g2 h hl.cov
  have cx:=hl.good.at hx1
  have cy:=hl.good.at hx2
  have hbox:=hl.box
  have y1:qbr 5 (.sl id 0 N N 5) (.int .i64 (m:Nat)) = some (.ptr id (m * 5)):=qb4 (by omega)
  have y2:qbr 5 (.sl id 0 N N 5) (.int .i64 (c:Nat)) = some (.ptr id (c * 5)):=qb4 (by omega)
  rw [←qgK hx1,←qgK hx2] at hless
  obtain ⟨p1,k1,n1,s1,L1,z1,d1,st1,v1,_⟩:=g1.five
  obtain ⟨p2,k2,n2,s2,L2,z2,d2,st2,v2,_⟩:=g2.five
  rw [z1] at cx hless
  rw [z2] at cy hless
  by_cases hlt:qbP (E es m) (E es c) < 0
  ·have c2:ilt (qbP (E es m) (E es c)) 0 = true:=by rw [qr];simpa using hlt
   simp only [qeV,sT.1,sC.1,sTA.1,sCA.1,qd,qaZ,qa0,Src.isTmp,qad,Src.hangs,ql.isT,qaW,qc,Nat.testBit,bne,simprocAttr,-Int.reduceNatCast',qA,qo,ht,e0,e1,e2,e3,e4,ei,ej,c1,c2,w1,w2,w3,w4,sh,y1,y2,hbox,cx,cy,d1,d2,st1,st2,v1,v2,hless] at he
   subst he
   have hct:¬ c < t:=fun hh=>(hpt c (by omega) (by omega)).2 hh hlt
   refine .inl ⟨_,c - i,rfl,by omega,_,i,c,rfl,by simp only [qi,ht],?_,?_,?_,?_,?_,?_,?_,by omega,by omega,by omega,by omega,rfl⟩
   ·simp only [sT.1,sC.1,qd,qc,Nat.testBit,simprocAttr,-Int.reduceNatCast',ht,e0]
   ·simp only [sT.1,sC.1,qd,qc,Nat.testBit,simprocAttr,-Int.reduceNatCast',ht,e1]
   ·simp only [sT.1,sC.1,qd,qc,Nat.testBit,simprocAttr,-Int.reduceNatCast',ht,e2]
   ·simp only [sT.1,sC.1,qd,qc,Nat.testBit,simprocAttr,-Int.reduceNatCast',ht,e3]
   ·simp only [sT.1,sC.1,qd,qc,Nat.testBit,simprocAttr,-Int.reduceNatCast',ht,e4]
   ·simp only [sT.1,sC.1,qd,qc,Nat.testBit,simprocAttr,-Int.reduceNatCast',ht,ei]
   ·simp only [sT.1,sC.1,qd,qc,Nat.testBit,simprocAttr,-Int.reduceNatCast',ht]
  ·have c2:ilt (qbP (E es m) (E es c)) 0 = false:=by rw [qr];simpa using hlt
   simp only [qeV,sT.1,sC.1,sTA.1,sCA.1,qd,qaZ,qa0,Src.isTmp,qad,Src.hangs,ql.isT,qaW,qc,Nat.testBit,bne,simprocAttr,-Int.reduceNatCast',qA,qo,ht,e0,e1,e2,e3,e4,ei,ej,c1,c2,w1,w2,w3,w4,sh,y1,y2,hbox,cx,cy,d1,d2,st1,st2,v1,v2,hless] at he
   subst he
   have hct:c < t:=(hpt c (by omega) (by omega)).1 hlt
   refine .inl ⟨_,j - (c + 1),rfl,by omega,_,c + 1,j,rfl,by simp only [qi,ht],?_,?_,?_,?_,?_,?_,?_,by omega,by omega,by omega,by omega,rfl⟩
   ·simp only [sT.1,sC.1,qd,qc,Nat.testBit,simprocAttr,-Int.reduceNatCast',ht,e0]
   ·simp only [sT.1,sC.1,qd,qc,Nat.testBit,simprocAttr,-Int.reduceNatCast',ht,e1]
   ·simp only [sT.1,sC.1,qd,qc,Nat.testBit,simprocAttr,-Int.reduceNatCast',ht,e2]
   ·simp only [sT.1,sC.1,qd,qc,Nat.testBit,simprocAttr,-Int.reduceNatCast',ht,e3]
   ·simp only [sT.1,sC.1,qd,qc,Nat.testBit,simprocAttr,-Int.reduceNatCast',ht,e4]
   ·simp only [sT.1,sC.1,qd,qc,Nat.testBit,simprocAttr,-Int.reduceNatCast',ht]
   ·simp only [sT.1,sC.1,qd,qc,Nat.testBit,simprocAttr,-Int.reduceNatCast',ht,ej]
 ·have c1:ilt (i:Int) (j:Int) = false:=by rw [qr];simp;omega
  have hit:i = t:=by omega
  simp only [qeV,sT.1,sC.1,qd,qc,Nat.testBit,simprocAttr,-Int.reduceNatCast',qA,qo,ht,e0,e1,e2,e3,e4,ei,ej,c1] at he
  subst he
  refine .inr ⟨_,_,rfl,by simp,rfl,_,rfl,by simp only [qi,ht],?_,?_,?_,?_,?_,?_⟩
  ·simp only [sT.1,sC.1,qd,qc,Nat.testBit,simprocAttr,-Int.reduceNatCast',ht,e0]
  ·simp only [sT.1,sC.1,qd,qc,Nat.testBit,simprocAttr,-Int.reduceNatCast',ht,e1]
  ·simp only [sT.1,sC.1,qd,qc,Nat.testBit,simprocAttr,-Int.reduceNatCast',ht,e2]
  ·simp only [sT.1,sC.1,qd,qc,Nat.testBit,simprocAttr,-Int.reduceNatCast',ht,e3]
  ·simp only [sT.1,sC.1,qd,qc,Nat.testBit,simprocAttr,-Int.reduceNatCast',ht,e4]
  ·simp only [sT.1,sC.1,qd,qc,Nat.testBit,simprocAttr,-Int.reduceNatCast',ht,ei,hit]
set_option maxHeartbeats 2000000 in
theorem quk {H:Nat→Option qg} {id N a m b mid n p t:Nat} {es:List El} {h:List qg} (hN:N = es.length) (h100:N ≤ 100) (hl:qeo H id es h) {hb:Nat} {lo hi:Nat} (hhi:hi ≤ N) (hp:p < 1000) (hin:∀x,lo ≤ x→x < hi→x ≤ p∧p - x < N) (hpt:∀x,lo ≤ x→x < hi→(¬ qbP (E es (p - x)) (E es x) < 0↔x < t)) :
  ∀k st,(∃(tt:List qa) (i j:Nat),st = ⟨tt,h,false⟩∧tt.length = 220∧lkp tt 0 = .sl id 0 N N 5∧lkp tt 1 = .int .i64 (a:Nat)∧lkp tt 2 = .int .i64 (m:Nat)∧lkp tt 3 = .int .i64 (b:Nat)∧lkp tt 4 = qa1∧lkp tt 18 = .int .i64 (mid:Nat)∧lkp tt 19 = .int .i64 (n:Nat)∧lkp tt 22 = .int .i64 (p:Nat)∧lkp tt 20 = .int .i64 (i:Nat)∧lkp tt 21 = .int .i64 (j:Nat)∧lo ≤ i∧i ≤ t∧t ≤ j∧j ≤ hi∧k = j - i)→
   ∃q st',qy hb Wd (.loop qeh) st = some (q,st')∧(q = .exit 8∧∃tt:List qa,st' = ⟨tt,h,false⟩∧tt.length = 220∧lkp tt 0 = .sl id 0 N N 5∧lkp tt 1 = .int .i64 (a:Nat)∧lkp tt 2 = .int .i64 (m:Nat)∧lkp tt 3 = .int .i64 (b:Nat)∧lkp tt 4 = qa1∧lkp tt 18 = .int .i64 (mid:Nat)∧lkp tt 19 = .int .i64 (n:Nat)∧lkp tt 22 = .int .i64 (p:Nat)∧lkp tt 20 = .int .i64 (t:Nat)):=by
 refine qK _ (fun q st'=>q = .exit 8∧∃tt:List qa,st' = ⟨tt,h,false⟩∧tt.length = 220∧lkp tt 0 = .sl id 0 N N 5∧lkp tt 1 = .int .i64 (a:Nat)∧lkp tt 2 = .int .i64 (m:Nat)∧lkp tt 3 = .int .i64 (b:Nat)∧lkp tt 4 = qa1∧lkp tt 18 = .int .i64 (mid:Nat)∧lkp tt 19 = .int .i64 (n:Nat)∧lkp tt 22 = .int .i64 (p:Nat)∧lkp tt 20 = .int .i64 (t:Nat)) ?_
 rintro k st ⟨tt,i,j,rfl,ht,e0,e1,e2,e3,e4,e18,e19,e22,ei,ej,i0,i1,i2,i3,hk⟩
 generalize he:qy hb Wd qeh _ = r
 rcases Nat.lt_or_ge i j with hij | hij
 ·have c1:ilt (i:Int) (j:Int) = true:=by rw [qr];simp;omega
  have w1:IntKind.i64.wrap ((i:Int) + (j:Int)) = ((i + j:Nat):Int):=by rw [qM (by omega) (by omega)];omega
  have w2:=qjy (s:=i + j) (by omega)
  have w3:IntKind.i64.wrap (((i + j) / 2:Nat):Int) = (((i + j) / 2:Nat):Int):=qM (by omega) (by omega)
  have w4:=qP (n:=(i + j) / 2) (by omega)
  have sh:=qxV (i + j)
  have hc1:i ≤ (i + j) / 2:=by omega
  have hc2:(i + j) / 2 < j:=by omega
  generalize (i + j) / 2 = c at *
  have hx1:p - c < es.length:=by have:=hin c (by omega) (by omega);omega
  have hx2:c < es.length:=by have:=hin c (by omega) (by omega);omega
  have w5:IntKind.i64.wrap ((p:Int) - (c:Int)) = ((p - c:Nat):Int):=by have:=hin c (by omega) (by omega);rw [qM (by omega) (by omega)];omega
  have g1:=hl.good _ (List.getElem_mem hx1)
  have g2:=hl.good _ (List.getElem_mem hx2)
  have hless:=qgo g1 g2 h hl.cov
  have cx:=hl.good.at hx1
  have cy:=hl.good.at hx2
  have hbox:=hl.box
  have y1:qbr 5 (.sl id 0 N N 5) (.int .i64 ((p - c):Nat)) = some (.ptr id ((p - c) * 5)):=qb4 (by omega)
  have y2:qbr 5 (.sl id 0 N N 5) (.int .i64 (c:Nat)) = some (.ptr id (c * 5)):=qb4 (by omega)
  rw [←qgK hx1,←qgK hx2] at hless
  obtain ⟨p1,k1,n1,s1,L1,z1,d1,st1,v1,_⟩:=g1.five
  obtain ⟨p2,k2,n2,s2,L2,z2,d2,st2,v2,_⟩:=g2.five
  rw [z1] at cx hless
  rw [z2] at cy hless
  by_cases hlt:qbP (E es (p - c)) (E es c) < 0
  ·have c2:ilt (qbP (E es (p - c)) (E es c)) 0 = true:=by rw [qr];simpa using hlt
   simp only [qeh,sT.1,sC.1,sTA.1,sCA.1,qd,qaZ,qa0,Src.isTmp,qad,Src.hangs,ql.isT,qaW,qc,Nat.testBit,bne,simprocAttr,-Int.reduceNatCast',qA,qo,ht,e0,e1,e2,e3,e4,e18,e19,e22,ei,ej,c1,c2,w1,w2,w3,w4,sh,w5,y1,y2,hbox,cx,cy,d1,d2,st1,st2,v1,v2,hless] at he
   subst he
   have hct:¬ c < t:=fun hh=>(hpt c (by omega) (by omega)).2 hh hlt
   refine .inl ⟨_,c - i,rfl,by omega,_,i,c,rfl,by simp only [qi,ht],?_,?_,?_,?_,?_,?_,?_,?_,?_,?_,by omega,by omega,by omega,by omega,rfl⟩
   ·simp only [sT.1,sC.1,qd,qc,Nat.testBit,simprocAttr,-Int.reduceNatCast',ht,e0]
   ·simp only [sT.1,sC.1,qd,qc,Nat.testBit,simprocAttr,-Int.reduceNatCast',ht,e1]
   ·simp only [sT.1,sC.1,qd,qc,Nat.testBit,simprocAttr,-Int.reduceNatCast',ht,e2]
   ·simp only [sT.1,sC.1,qd,qc,Nat.testBit,simprocAttr,-Int.reduceNatCast',ht,e3]
   ·simp only [sT.1,sC.1,qd,qc,Nat.testBit,simprocAttr,-Int.reduceNatCast',ht,e4]
   ·simp only [sT.1,sC.1,qd,qc,Nat.testBit,simprocAttr,-Int.reduceNatCast',ht,e18]
   ·simp only [sT.1,sC.1,qd,qc,Nat.testBit,simprocAttr,-Int.reduceNatCast',ht,e19]
   ·simp only [sT.1,sC.1,qd,qc,Nat.testBit,simprocAttr,-Int.reduceNatCast',ht,e22]
   ·simp only [sT.1,sC.1,qd,qc,Nat.testBit,simprocAttr,-Int.reduceNatCast',ht,ei]
   ·simp only [sT.1,sC.1,qd,qc,Nat.testBit,simprocAttr,-Int.reduceNatCast',ht]
  ·have c2:ilt (qbP (E es (p - c)) (E es c)) 0 = false:=by rw [qr];simpa using hlt
   simp only [qeh,sT.1,sC.1,sTA.1,sCA.1,qd,qaZ,qa0,Src.isTmp,qad,Src.hangs,ql.isT,qaW,qc,Nat.testBit,bne,simprocAttr,-Int.reduceNatCast',qA,qo,ht,e0,e1,e2,e3,e4,e18,e19,e22,ei,ej,c1,c2,w1,w2,w3,w4,sh,w5,y1,y2,hbox,cx,cy,d1,d2,st1,st2,v1,v2,hless] at he
   subst he
   have hct:c < t:=(hpt c (by omega) (by omega)).1 hlt
   refine .inl ⟨_,j - (c + 1),rfl,by omega,_,c + 1,j,rfl,by simp only [qi,ht],?_,?_,?_,?_,?_,?_,?_,?_,?_,?_,by omega,by omega,by omega,by omega,rfl⟩
   ·simp only [sT.1,sC.1,qd,qc,Nat.testBit,simprocAttr,-Int.reduceNatCast',ht,e0]
   ·simp only [sT.1,sC.1,qd,qc,Nat.testBit,simprocAttr,-Int.reduceNatCast',ht,e1]
   ·simp only [sT.1,sC.1,qd,qc,Nat.testBit,simprocAttr,-Int.reduceNatCast',ht,e2]
   ·simp only [sT.1,sC.1,qd,qc,Nat.testBit,simprocAttr,-Int.reduceNatCast',ht,e3]
   ·simp only [sT.1,sC.1,qd,qc,Nat.testBit,simprocAttr,-Int.reduceNatCast',ht,e4]
   ·simp only [sT.1,sC.1,qd,qc,Nat.testBit,simprocAttr,-Int.reduceNatCast',ht,e18]
   ·simp only [sT.1,sC.1,qd,qc,Nat.testBit,simprocAttr,-Int.reduceNatCast',ht,e19]
   ·simp only [sT.1,sC.1,qd,qc,Nat.testBit,simprocAttr,-Int.reduceNatCast',ht,e22]
   ·simp only [sT.1,sC.1,qd,qc,Nat.testBit,simprocAttr,-Int.reduceNatCast',ht]
   ·simp only [sT.1,sC.1,qd,qc,Nat.testBit,simprocAttr,-Int.reduceNatCast',ht,ej]
 ·have c1:ilt (i:Int) (j:Int) = false:=by rw [qr];simp;omega
  have hit:i = t:=by omega
  simp only [qeh,sT.1,sC.1,qd,qc,Nat.testBit,simprocAttr,-Int.reduceNatCast',qA,qo,ht,e0,e1,e2,e3,e4,e18,e19,e22,ei,ej,c1] at he
  subst he
  refine .inr ⟨_,_,rfl,by simp,rfl,_,rfl,by simp only [qi,ht],?_,?_,?_,?_,?_,?_,?_,?_,?_⟩
  ·simp only [sT.1,sC.1,qd,qc,Nat.testBit,simprocAttr,-Int.reduceNatCast',ht,e0]
  ·simp only [sT.1,sC.1,qd,qc,Nat.testBit,simprocAttr,-Int.reduceNatCast',ht,e1]
  ·simp only [sT.1,sC.1,qd,qc,Nat.testBit,simprocAttr,-Int.reduceNatCast',ht,e2]
  ·simp only [sT.1,sC.1,qd,qc,Nat.testBit,simprocAttr,-Int.reduceNatCast',ht,e3]
  ·simp only [sT.1,sC.1,qd,qc,Nat.testBit,simprocAttr,-Int.reduceNatCast',ht,e4]
  ·simp only [sT.1,sC.1,qd,qc,Nat.testBit,simprocAttr,-Int.reduceNatCast',ht,e18]
  ·simp only [sT.1,sC.1,qd,qc,Nat.testBit,simprocAttr,-Int.reduceNatCast',ht,e19]
  ·simp only [sT.1,sC.1,qd,qc,Nat.testBit,simprocAttr,-Int.reduceNatCast',ht,e22]
  ·simp only [sT.1,sC.1,qd,qc,Nat.testBit,simprocAttr,-Int.reduceNatCast',ht,ei,hit]
end Go.Proofs.YtnlhdflceelacaaGreatDoor.AE
