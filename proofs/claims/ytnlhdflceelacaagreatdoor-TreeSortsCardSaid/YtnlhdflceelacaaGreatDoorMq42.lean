/- A part of the proof: the abstract executor and what goes through it (part 42). No condition. -/
import Derived.Test.YtnlhdflceelacaaGreatDoorMq41
set_option maxRecDepth 100000
namespace Go.Proofs.YtnlhdflceelacaaGreatDoor.AE
open Go.AE
theorem PL.nil (n:Nat) (g:List qg):PL n [] g (.lst [] .full):=.inl ⟨rfl,rfl⟩
theorem qrz (l o:List Msg):(qfY o l).length = o.length + l.length:=by rw [(qdU l o).length_eq,List.length_append]
theorem qlq (v:qa):qpp v (.lst [] .full):=fun a o l c m b o' l' c' m' _ e2=>by cases e2
set_option maxHeartbeats 4000000 in
theorem qhB (ms:List Msg) (h30:ms.length ≤ 30) (hok:∀m ∈ ms,OK 3 m.v) (h:List qg) :
  ∃v junk,Wd (.fn 8 [] []) [.lst (ms.map qdO) .no] h = some (.ret v,h ++ junk,false)∧PL h.length (qfY [] ms) (h ++ junk) v:=by
 have loop:∀q st,(∃(tt:List qa) (i:Nat) (g:List qg) (v:qa),st = ⟨tt,g,false⟩∧tt.length = 58∧lkp tt 0 = .lst (ms.map qdO) .no∧lkp tt 3 = v∧lkp tt 4 = .int .i64 (i:Nat)∧i + q = ms.length∧h.length ≤ g.length∧g.take h.length = h∧PL h.length (qfY [] (ms.take i)) g v)→
   ∃x st',qy h.length Wd (.loop quS) st = some (x,st')∧(x = .exit 0∧∃(tt:List qa) (g:List qg) (v:qa),st' = ⟨tt,g,false⟩∧tt.length = 58∧lkp tt 3 = v∧h.length ≤ g.length∧g.take h.length = h∧PL h.length (qfY [] ms) g v):=by
  refine qK _ (fun x st'=>x = .exit 0∧∃(tt:List qa) (g:List qg) (v:qa),st' = ⟨tt,g,false⟩∧tt.length = 58∧lkp tt 3 = v∧h.length ≤ g.length∧g.take h.length = h∧PL h.length (qfY [] ms) g v) ?_
  rintro q st ⟨tt,i,g,v,rfl,ht,e0,e3,e4,hiq,hgl,hgt,hpl⟩
  obtain ⟨vd,vw,_⟩:=hpl.facts
  generalize hL0:(qj.loop qr2) = L0
  generalize he:qy h.length Wd quS _ = r
  rcases Nat.lt_or_ge i ms.length with hi | hi
  ·have c1:ilt (i:Int) (ms.length:Int) = true:=by rw [qr];simp;omega
   have w:=qP (n:=i) (by omega)
   have hgi:(ms.map qdO)[i]? = some (qdO ms[i]):=by rw [List.getElem?_map,List.getElem?_eq_getElem hi];rfl
   have hol:(qfY [] (ms.take i)).length = i:=by rw [qrz,List.length_take];simp;omega
   have hsrt:qfY [] (ms.take (i + 1)) = qfH ms[i] (qfY [] (ms.take i)):=by
    rw [List.take_succ_eq_append_getElem hi]
    have:∀(l o:List Msg) (x:Msg),qfY o (l ++ [x]) = qfH x (qfY o l):=by
     intro l
     induction l with
     | nil=>intro o x;rfl
     | cons y l ih=>intro o x;exact ih _ _
    exact this _ _ _
   have hin:=qiJ hi (hok _ (List.getElem_mem hi)) (h:=h) (o:=qfY [] (ms.take i)) (by omega) (fun m hm=>hok m (List.mem_of_mem_take (by simpa using (qdU (ms.take i) []).subset hm))) h30
   rw [hL0] at hin
   simp only [quS,hL0,sT.1,sC.1,sTA.1,sCA.1,qd,qaZ,qa0,Src.isTmp,qad,Src.hangs,ql.isT,qaW,qc,Nat.testBit,bne,simprocAttr,-Int.reduceNatCast',qe4,qaP,qaV,qbu,qaQ,qA,qo,ht,e0,e4,c1,List.length_map] at he
   generalize hr:qy h.length Wd L0 _ = r0 at he
   obtain ⟨x,st',rfl,rfl,tt',done,nx,g1,vn,rfl,ht',f0,f4,f5,f6,hgl1,hgt1,hpn,hnl,hend⟩:=qbU hr (hin (qfY [] (ms.take i)).length _ ⟨_,0,false,[],g,v,.lst [] .full,rfl,by simp only [qi,ht],by simp only [sT.1,sC.1,qd,qc,Nat.testBit,simprocAttr,-Int.reduceNatCast',ht,e0],by simp only [sT.1,sC.1,qd,qc,Nat.testBit,simprocAttr,-Int.reduceNatCast',ht,e3],by simp only [sT.1,sC.1,qd,qc,Nat.testBit,simprocAttr,-Int.reduceNatCast',ht,e4],by simp only [sT.1,sC.1,qd,qc,Nat.testBit,simprocAttr,-Int.reduceNatCast',ht],by simp only [sT.1,sC.1,qd,qc,Nat.testBit,simprocAttr,-Int.reduceNatCast',ht],by simp only [sT.1,sC.1,qd,qc,Nat.testBit,simprocAttr,-Int.reduceNatCast',ht,Int.natCast_zero],by omega,hgl,hgt,hpl,PL.nil _ _,qlq _,by simp,.inl ⟨rfl,rfl,rfl⟩⟩)
   obtain ⟨nd,nw,_⟩:=hpn.facts
   rcases Bool.eq_false_or_eq_true done with rfl | rfl
   ·have hnx:nx = qfH ms[i] (qfY [] (ms.take i)):=by
     rcases hend with ⟨h1,_⟩ | ⟨_,h1⟩
     ·cases h1
     ·exact h1
    simp only [sT.1,sC.1,sTA.1,sCA.1,qd,qaZ,qa0,Src.isTmp,qad,Src.hangs,ql.isT,qaW,qc,Nat.testBit,bne,simprocAttr,-Int.reduceNatCast',qe4,qaP,qaV,qbu,qaQ,qA,qo,ht',f0,f4,f5,f6,nd,nw,w] at he
    subst he
    refine .inl ⟨_,q - 1,rfl,by omega,_,i + 1,g1,vn,rfl,by simp only [qi,ht'],?_,?_,?_,by omega,hgl1,hgt1,by rw [hsrt,←hnx];exact hpn⟩
    ·simp only [sT.1,sC.1,qd,qc,Nat.testBit,simprocAttr,-Int.reduceNatCast',ht',f0]
    ·simp only [sT.1,sC.1,qd,qc,Nat.testBit,simprocAttr,-Int.reduceNatCast',ht']
    ·simp only [sT.1,sC.1,qd,qc,Nat.testBit,simprocAttr,-Int.reduceNatCast',ht']
   ·have hnx:nx ++ [ms[i]] = qfH ms[i] (qfY [] (ms.take i)):=by
     rcases hend with ⟨_,h1⟩ | ⟨h1,_⟩
     ·exact h1
     ·cases h1
    obtain ⟨v1,g2,a1,a2,a3,a4,_⟩:=hpn.app (by omega) hgl1 ms[i] h.length
    obtain ⟨n1d,n1w,_⟩:=a2.facts
    rw [hnx,←hsrt] at a2
    generalize ms[i] = xi at hgi a1
    obtain ⟨px,kx,nx',sx,lx⟩:=xi
    rw [qcD] at hgi
    rw [qax] at a1
    have hx1:qbr 5 (.lst (ms.map qdO) .no) (.int .i64 (i:Nat)) = some (.iptr [.str px,.int .i64 kx,.int .i64 nx',.str sx,.lst (lx.map qal) .no] 0):=qbi hgi rfl
    have hlitX:∀(b:Nat) (G:List qg),hop b (.lit 5 [.str [],.int .i64 0,.int .i64 0,.str [],.lst [] .full] 1 [0]) [.agg [.str px,.int .i64 kx,.int .i64 nx',.str sx,.lst (lx.map qal) .no]] G = some (.sl G.length 0 1 1 0,G ++ [.cells [.str px,.int .i64 kx,.int .i64 nx',.str sx,.lst (lx.map qal) .no]],false):=fun b G=>by
     have:=qxS (base:=b) (G:=G) (qbn ⟨px,.mk kx nx' sx lx⟩) (qaD _) (qbs _)
     rwa [qax] at this
    simp only [sT.1,sC.1,sTA.1,sCA.1,qd,qaZ,qa0,Src.isTmp,qad,Src.hangs,ql.isT,qaW,qc,Nat.testBit,bne,simprocAttr,-Int.reduceNatCast',qe4,qaP,qaV,qbu,qaQ,qA,qo,ht',f0,f4,f5,f6,nd,nw,n1d,n1w,w,hx1,hlitX,a1] at he
    subst he
    refine .inl ⟨_,q - 1,rfl,by omega,_,i + 1,g2,v1,rfl,by simp only [qi,ht'],?_,?_,?_,by omega,a3,by rw [a4,hgt1],a2⟩
    ·simp only [sT.1,sC.1,qd,qc,Nat.testBit,simprocAttr,-Int.reduceNatCast',ht',f0]
    ·simp only [sT.1,sC.1,qd,qc,Nat.testBit,simprocAttr,-Int.reduceNatCast',ht']
    ·simp only [sT.1,sC.1,qd,qc,Nat.testBit,simprocAttr,-Int.reduceNatCast',ht']
  ·have c1:ilt (i:Int) (ms.length:Int) = false:=by rw [qr];simp;omega
   simp only [quS,hL0,sT.1,sC.1,qd,qc,Nat.testBit,simprocAttr,-Int.reduceNatCast',ht,e0,e4,c1,List.length_map] at he
   subst he
   refine .inr ⟨_,_,rfl,by simp,rfl,_,g,v,rfl,by simp only [qi,ht],?_,hgl,hgt,?_⟩
   ·simp only [sT.1,sC.1,qd,qc,Nat.testBit,simprocAttr,-Int.reduceNatCast',ht,e3]
   ·rw [List.take_of_length_le hi] at hpl
    exact hpl
 generalize hw:Wd _ _ h = w
 rw [qab rfl (show T.get 8 = some c8 by kernel_rfl)] at hw
 simp only [c8,sT.1,sC.1,qd,qc,Nat.testBit,simprocAttr,-Int.reduceNatCast'] at hw
 generalize hr:qy h.length Wd (.loop quS) _ = r at hw
 obtain ⟨x,st',rfl,rfl,tt,g,v,rfl,ht,e3,hgl,hgt,hpl⟩:=qbU hr (loop ms.length _ ⟨_,0,h,.lst [] .full,rfl,by simp only [sT.1,sC.1,qd,qc,Nat.testBit,simprocAttr,-Int.reduceNatCast'],by simp only [sT.1,sC.1,qd,qc,Nat.testBit,simprocAttr,-Int.reduceNatCast'],by simp only [sT.1,sC.1,qd,qc,Nat.testBit,simprocAttr,-Int.reduceNatCast'],by simp only [sT.1,sC.1,qd,qc,Nat.testBit,simprocAttr,-Int.reduceNatCast',Int.natCast_zero],by omega,Nat.le_refl _,List.take_length,PL.nil _ _⟩)
 obtain ⟨vd,vw,_⟩:=hpl.facts
 simp only [sT.1,sC.1,qd,qc,Nat.testBit,simprocAttr,-Int.reduceNatCast',ht,e3,vd,vw] at hw
 subst hw
 rcases hpl with ⟨h0,rfl⟩ | ⟨id,rfl,hne,hid,hb⟩
 ·refine ⟨_,[],?_,.inl ⟨h0,rfl⟩⟩
  rw [List.append_nil]
  exact congrArg some (qcA hgt rfl)
 ·have hsplit:h ++ g.drop h.length = g:=by
   have:=List.take_append_drop h.length g
   rwa [hgt] at this
  refine ⟨_,g.drop h.length,?_,.inr ⟨id,rfl,hne,hid,by rw [hsplit];exact hb⟩⟩
  rw [hsplit,qeZ,qcV,qi2 hid]
  rfl
end Go.Proofs.YtnlhdflceelacaaGreatDoor.AE
