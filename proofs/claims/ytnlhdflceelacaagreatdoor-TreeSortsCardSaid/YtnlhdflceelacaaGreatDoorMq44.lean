/- A part of the proof: the abstract executor and what goes through it (part 44). No condition. -/
import Derived.Test.YtnlhdflceelacaaGreatDoorMq43
import Derived.Test.YtnlhdflceelacaaGreatDoorMq2
set_option maxRecDepth 100000
namespace Go.Proofs.YtnlhdflceelacaaGreatDoor.AE
open Go.AE
theorem qrR {fv:qa} {aS:List qa} {h:List qg} (x:qaL×List qg×Bool):Wd fv aS h = some x↔∃n,run T.get Z n fv aS h = some x:=qsm quG x
theorem qlt:qfy T.get Z 400 (.fn 4 [] []) [] [] = some (.ret (.bool true),[],true):=by kernel_rfl
theorem aw:Wd (.fn 4 [] []) [] [] = some (.ret (.bool true),[],true):=(qrR _).2 ⟨400,by rw [←qiM];exact qlt⟩
theorem qji (xs:List qa):qhm 6 [.bool false,.int .i64 0,.int .i64 0,.lst [] .full,.str [],.lst [] .full] 1 [(0,.agg [.bool false,.int .i64 0,.int .i64 0,.lst xs .no,.str [],.lst [] .full])] = some (.lst [.agg [.bool false,.int .i64 0,.int .i64 0,.lst xs .no,.str [],.lst [] .full]] .full):=qnU rfl (by decide) rfl (by simp [qa.storable]) (by decide)
theorem qfC (t z:List qa) (ps:List (Nat×Nat×ql)):pureV t (.build z ps) = (qaY z (ps.map fun (o,s,x)=>(o,s,ev t x))).map .agg:=rfl
theorem qhn (t z:List qa) (k n:Nat) (ps:List (Nat×ql)):pureV t (.list k z n ps) = qhm k z n (ps.map fun (i,x)=>(i,ev t x)):=by
 simp only [pureV,qhm,List.map_map]
 rfl
theorem qnA (b:Bool) (H:List qg) (e:Bool):q6 0 (.ret (.bool b)) H e = (.ret (.bool b),[],e):=by simp [q6,qa.lower]
set_option maxHeartbeats 2000000 in
theorem qxd (ms:List Msg):∃h' e',Wd (.fn 3 [] []) [.lst (ms.map qdO) .no] [] = some (.ret (.bool true),h',e'):=by
 obtain ⟨r,hr,hr2⟩:=qrx ms []
 rw [qhR] at hr
 have hA:=aw
 generalize hw:Wd _ _ [] = w
 rw [qab rfl (show T.get 3 = some c3 by kernel_rfl)] at hw
 rcases hr2 with rfl | ⟨rfl,h30,hok⟩
 ·have z0:((0:Int) == 0) = true:=by kernel_rfl
  simp only [c3,sT.1,sC.1,sTA.1,sCA.1,qd,qaZ,qa0,Src.isTmp,qad,Src.hangs,ql.isT,qaW,qc,Nat.testBit,bne,simprocAttr,-Int.reduceNatCast',qaY,qfC,qhn,qdj,qji,hr,z0,hA] at hw
  subst hw
  exact ⟨_,_,congrArg some (qnA _ _ _)⟩
 ·have z1:((1:Int) == 0) = false:=by kernel_rfl
  obtain ⟨v,junk,ms',t1,⟨H,es,hra,hem,_⟩,t2,t3⟩:=qgE ms h30 hok []
  obtain ⟨u,junk2,u1,u2⟩:=qhB ms h30 hok ([] ++ junk)
  have hms:ms' = qfY [] ms:=qfX t2 (qfh ms List.Pairwise.nil) (t3.trans (by simpa using (qdU ms []).symm))
  rw [←hms,←hem] at u2
  have hel:es.length ≤ 1000:=by have q9:(es.map (·.1)).length = es.length:=List.length_map ..;rw [←q9,hem,t3.length_eq];omega
  have hs:=qiN (hra.more (m:=junk2)) u2 hel
  obtain ⟨vd,vw,_⟩:=hra.facts
  obtain ⟨ud,uw,_⟩:=u2.facts
  rw [List.nil_append] at t1 u1 hs
  simp only [c3,sT.1,sC.1,sTA.1,sCA.1,qd,qaZ,qa0,Src.isTmp,qad,Src.hangs,ql.isT,qaW,qc,Nat.testBit,bne,simprocAttr,-Int.reduceNatCast',qaY,qfC,qhn,qdj,qji,hr,z1,hA,t1,u1,hs,vd,vw,ud,uw] at hw
  subst hw
  exact ⟨_,_,congrArg some (qnA _ _ _)⟩
end Go.Proofs.YtnlhdflceelacaaGreatDoor.AE
