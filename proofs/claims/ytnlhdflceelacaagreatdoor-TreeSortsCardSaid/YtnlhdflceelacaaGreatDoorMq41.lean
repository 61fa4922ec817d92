/- A part of the proof: the abstract executor and what goes through it (part 41). No condition. -/
import Derived.Test.YtnlhdflceelacaaGreatDoorMq39
import Derived.Test.YtnlhdflceelacaaGreatDoorMq40
set_option maxRecDepth 100000
namespace Go.Proofs.YtnlhdflceelacaaGreatDoor.AE
open Go.AE
def qxY (x:Msg) (o nx:List Msg) (k:Nat) (done:Bool):Prop:=(done = false∧nx = o.take k∧o.take k ++ qfH x (o.drop k) = qfH x o)∨(done = true∧nx ++ o.drop k = qfH x o)
set_option maxHeartbeats 4000000 in
theorem qiJ {ms:List Msg} {i:Nat} (hi:i < ms.length) (hx3:OK 3 ms[i].v) {h:List qg} {o:List Msg} (ho30:o.length ≤ 30) (hoo:∀m ∈ o,OK 3 m.v) (hm30:ms.length ≤ 30) :
  ∀q st,(∃(tt:List qa) (k:Nat) (done:Bool) (nx:List Msg) (g:List qg) (vo vn:qa),st = ⟨tt,g,false⟩∧tt.length = 58∧lkp tt 0 = .lst (ms.map qdO) .no∧lkp tt 3 = vo∧lkp tt 4 = .int .i64 (i:Nat)∧lkp tt 5 = vn∧lkp tt 6 = .bool done∧lkp tt 7 = .int .i64 (k:Nat)∧k + q = o.length∧h.length ≤ g.length∧g.take h.length = h∧PL h.length o g vo∧PL h.length nx g vn∧qpp vo vn∧nx.length ≤ k + 1∧qxY ms[i] o nx k done)→
   ∃x st',qy h.length Wd (.loop qr2) st = some (x,st')∧(x = .exit 2∧∃(tt:List qa) (done:Bool) (nx:List Msg) (g:List qg) (vn:qa),st' = ⟨tt,g,false⟩∧tt.length = 58∧lkp tt 0 = .lst (ms.map qdO) .no∧lkp tt 4 = .int .i64 (i:Nat)∧lkp tt 5 = vn∧lkp tt 6 = .bool done∧h.length ≤ g.length∧g.take h.length = h∧PL h.length nx g vn∧nx.length ≤ o.length + 1∧((done = false∧nx ++ [ms[i]] = qfH ms[i] o)∨(done = true∧nx = qfH ms[i] o))):=by
 refine qK _ (fun x st'=>x = .exit 2∧∃(tt:List qa) (done:Bool) (nx:List Msg) (g:List qg) (vn:qa),st' = ⟨tt,g,false⟩∧tt.length = 58∧lkp tt 0 = .lst (ms.map qdO) .no∧lkp tt 4 = .int .i64 (i:Nat)∧lkp tt 5 = vn∧lkp tt 6 = .bool done∧h.length ≤ g.length∧g.take h.length = h∧PL h.length nx g vn∧nx.length ≤ o.length + 1∧((done = false∧nx ++ [ms[i]] = qfH ms[i] o)∨(done = true∧nx = qfH ms[i] o))) ?_
 rintro q st ⟨tt,k,done,nx,g,vo,vn,rfl,ht,e0,e3,e4,e5,e6,e7,hkq,hgl,hgt,hpo,hpn,hap,hnl,hhalf⟩
 obtain ⟨od,ow,ol⟩:=hpo.facts
 obtain ⟨nd,nw,_⟩:=hpn.facts
 generalize he:qy h.length Wd qr2 _ = r
 have hgi:(ms.map qdO)[i]? = some (qdO ms[i]):=by rw [List.getElem?_map,List.getElem?_eq_getElem hi];rfl
 rcases Nat.lt_or_ge k o.length with hk | hk
 ·have c1:ilt (k:Int) (o.length:Int) = true:=by rw [qr];simp;omega
  have w:=qP (n:=k) (by omega)
  obtain ⟨id,y1,y2,y3⟩:=hpo.at hk
  have hok3:=hoo _ (List.getElem_mem hk)
  have hless:=qk1 hx3 hok3 g
  have hdrop:o.drop k = o[k] :: o.drop (k + 1):=List.drop_eq_getElem_cons hk
  have htake:o.take (k + 1) = o.take k ++ [o[k]]:=List.take_succ_eq_append_getElem hk
  generalize o[k] = yk at *
  generalize ms[i] = xi at *
  obtain ⟨px,kx,nx',sx,lx⟩:=xi
  obtain ⟨py,ky,ny,sy,ly⟩:=yk
  have exi:=qcD px kx nx' sx lx
  have eyk:=qcD py ky ny sy ly
  rw [exi] at hgi
  rw [eyk] at y3
  rw [exi,eyk] at hless
  have hx1:qbr 5 (.lst (ms.map qdO) .no) (.int .i64 (i:Nat)) = some (.iptr [.str px,.int .i64 kx,.int .i64 nx',.str sx,.lst (lx.map qal) .no] 0):=qbi hgi rfl
  have hlitY:∀(b:Nat) (G:List qg),hop b (.lit 5 [.str [],.int .i64 0,.int .i64 0,.str [],.lst [] .full] 1 [0]) [.agg [.str py,.int .i64 ky,.int .i64 ny,.str sy,.lst (ly.map qal) .no]] G = some (.sl G.length 0 1 1 0,G ++ [.cells [.str py,.int .i64 ky,.int .i64 ny,.str sy,.lst (ly.map qal) .no]],false):=fun b G=>by
   have:=qxS (base:=b) (G:=G) (qbn ⟨py,.mk ky ny sy ly⟩) (qaD _) (qbs _)
   rwa [qax] at this
  have hlitX:∀(b:Nat) (G:List qg),hop b (.lit 5 [.str [],.int .i64 0,.int .i64 0,.str [],.lst [] .full] 1 [0]) [.agg [.str px,.int .i64 kx,.int .i64 nx',.str sx,.lst (lx.map qal) .no]] G = some (.sl G.length 0 1 1 0,G ++ [.cells [.str px,.int .i64 kx,.int .i64 nx',.str sx,.lst (lx.map qal) .no]],false):=fun b G=>by
   have:=qxS (base:=b) (G:=G) (qbn ⟨px,.mk kx nx' sx lx⟩) (qaD _) (qbs _)
   rwa [qax] at this
  have plain:∀(done':Bool),((done' = true)∨(done' = false∧¬ qbP ⟨px,.mk kx nx' sx lx⟩ ⟨py,.mk ky ny sy ly⟩ < 0))→qxY ⟨px,.mk kx nx' sx lx⟩ o nx k done'→qxY ⟨px,.mk kx nx' sx lx⟩ o (nx ++ [⟨py,.mk ky ny sy ly⟩]) (k + 1) done':=by
   rintro done' hd (⟨rfl,rfl,h2⟩ | ⟨rfl,h2⟩)
   ·rcases hd with hd | ⟨_,hc⟩
    ·cases hd
    ·refine .inl ⟨rfl,by rw [htake],?_⟩
     rw [←h2,htake,hdrop,qfH,if_neg hc]
     simp
   ·exact .inr ⟨rfl,by rw [←h2,hdrop];simp⟩
  obtain ⟨v1,g1,a1,a2,a3,a4,a5⟩:=hpn.app (by omega) hgl ⟨py,.mk ky ny sy ly⟩ h.length
  rw [qax] at a1
  obtain ⟨a6,a7⟩:=a5 _ _ hpo hap
  obtain ⟨n1d,n1w,_⟩:=a2.facts
  rcases Bool.eq_false_or_eq_true done with rfl | rfl
  ·simp only [qr2,sT.1,sC.1,sTA.1,sCA.1,qd,qaZ,qa0,Src.isTmp,qad,Src.hangs,ql.isT,qaW,qc,Nat.testBit,bne,simprocAttr,-Int.reduceNatCast',qe4,qaP,qaV,qbu,qaQ,qA,qo,ht,e0,e3,e4,e5,e6,e7,ol,od,ow,nd,nw,n1d,n1w,c1,w,y1,y2,y3,hlitY,a1,qg4] at he
   subst he
   refine .inl ⟨_,q - 1,rfl,by omega,_,k + 1,true,nx ++ [⟨py,.mk ky ny sy ly⟩],g1,vo,v1,rfl,by simp only [qi,ht],?_,?_,?_,?_,?_,?_,by omega,a3,by rw [a4,hgt],a6,a2,a7,by simp;omega,plain true (.inl rfl) hhalf⟩
   ·simp only [sT.1,sC.1,qd,qc,Nat.testBit,simprocAttr,-Int.reduceNatCast',ht,e0]
   ·simp only [sT.1,sC.1,qd,qc,Nat.testBit,simprocAttr,-Int.reduceNatCast',ht,e3]
   ·simp only [sT.1,sC.1,qd,qc,Nat.testBit,simprocAttr,-Int.reduceNatCast',ht,e4]
   ·simp only [sT.1,sC.1,qd,qc,Nat.testBit,simprocAttr,-Int.reduceNatCast',ht]
   ·simp only [sT.1,sC.1,qd,qc,Nat.testBit,simprocAttr,-Int.reduceNatCast',ht,e6]
   ·simp only [sT.1,sC.1,qd,qc,Nat.testBit,simprocAttr,-Int.reduceNatCast',ht]
  ·by_cases hc:qbP ⟨px,.mk kx nx' sx lx⟩ ⟨py,.mk ky ny sy ly⟩ < 0
   ·
    have hd1:decide (qbP ⟨px,.mk kx nx' sx lx⟩ ⟨py,.mk ky ny sy ly⟩ < 0) = true:=by simpa using hc
    rw [hd1] at hless
    obtain ⟨v2,g2,b1,b2,b3,b4,b5⟩:=hpn.app (by omega) hgl ⟨px,.mk kx nx' sx lx⟩ h.length
    rw [qax] at b1
    obtain ⟨b6,b7⟩:=b5 _ _ hpo hap
    obtain ⟨n2d,n2w,_⟩:=b2.facts
    obtain ⟨v3,g3,d1,d2,d3,d4,d5⟩:=b2.app (by simp;omega) b3 ⟨py,.mk ky ny sy ly⟩ h.length
    rw [qax] at d1
    obtain ⟨d6,d7⟩:=d5 _ _ b6 b7
    obtain ⟨n3d,n3w,_⟩:=d2.facts
    obtain ⟨id',z1,z2,z3⟩:=b6.at hk
    have hid:id' = id∧True:=by
     rw [y1] at z1
     cases z1
     exact ⟨rfl,trivial⟩
    obtain ⟨rfl,_⟩:=hid
    simp only [qr2,sT.1,sC.1,sTA.1,sCA.1,qd,qaZ,qa0,Src.isTmp,qad,Src.hangs,ql.isT,qaW,qc,Nat.testBit,bne,simprocAttr,-Int.reduceNatCast',qe4,qaP,qaV,qbu,qaQ,qA,qo,ht,e0,e3,e4,e5,e6,e7,ol,od,ow,nd,nw,n2d,n2w,n3d,n3w,c1,w,y1,y2,y3,z2,hx1,hless,hlitY,hlitX,b1,d1,qeG] at he
    subst he
    refine .inl ⟨_,q - 1,rfl,by omega,_,k + 1,true,(nx ++ [⟨px,.mk kx nx' sx lx⟩]) ++ [⟨py,.mk ky ny sy ly⟩],g3,vo,v3,rfl,by simp only [qi,ht],?_,?_,?_,?_,?_,?_,by omega,d3,by rw [d4,b4,hgt],d6,d2,d7,?_,?_⟩
    ·simp only [sT.1,sC.1,qd,qc,Nat.testBit,simprocAttr,-Int.reduceNatCast',ht,e0]
    ·simp only [sT.1,sC.1,qd,qc,Nat.testBit,simprocAttr,-Int.reduceNatCast',ht,e3]
    ·simp only [sT.1,sC.1,qd,qc,Nat.testBit,simprocAttr,-Int.reduceNatCast',ht,e4]
    ·simp only [sT.1,sC.1,qd,qc,Nat.testBit,simprocAttr,-Int.reduceNatCast',ht]
    ·simp only [sT.1,sC.1,qd,qc,Nat.testBit,simprocAttr,-Int.reduceNatCast',ht]
    ·simp only [sT.1,sC.1,qd,qc,Nat.testBit,simprocAttr,-Int.reduceNatCast',ht]
    ·rcases hhalf with ⟨_,rfl,_⟩ | ⟨h1,_⟩
     ·simp;omega
     ·cases h1
    ·rcases hhalf with ⟨_,rfl,h2⟩ | ⟨h1,_⟩
     ·refine .inr ⟨rfl,?_⟩
      rw [←h2,hdrop,qfH,if_pos hc]
      simp
     ·cases h1
   ·have hd1:decide (qbP ⟨px,.mk kx nx' sx lx⟩ ⟨py,.mk ky ny sy ly⟩ < 0) = false:=by simpa using hc
    rw [hd1] at hless
    simp only [qr2,sT.1,sC.1,sTA.1,sCA.1,qd,qaZ,qa0,Src.isTmp,qad,Src.hangs,ql.isT,qaW,qc,Nat.testBit,bne,simprocAttr,-Int.reduceNatCast',qe4,qaP,qaV,qbu,qaQ,qA,qo,ht,e0,e3,e4,e5,e6,e7,ol,od,ow,nd,nw,n1d,n1w,c1,w,y1,y2,y3,hx1,hless,hlitY,a1,qeG] at he
    subst he
    refine .inl ⟨_,q - 1,rfl,by omega,_,k + 1,false,nx ++ [⟨py,.mk ky ny sy ly⟩],g1,vo,v1,rfl,by simp only [qi,ht],?_,?_,?_,?_,?_,?_,by omega,a3,by rw [a4,hgt],a6,a2,a7,by simp;omega,plain false (.inr ⟨rfl,hc⟩) hhalf⟩
    ·simp only [sT.1,sC.1,qd,qc,Nat.testBit,simprocAttr,-Int.reduceNatCast',ht,e0]
    ·simp only [sT.1,sC.1,qd,qc,Nat.testBit,simprocAttr,-Int.reduceNatCast',ht,e3]
    ·simp only [sT.1,sC.1,qd,qc,Nat.testBit,simprocAttr,-Int.reduceNatCast',ht,e4]
    ·simp only [sT.1,sC.1,qd,qc,Nat.testBit,simprocAttr,-Int.reduceNatCast',ht]
    ·simp only [sT.1,sC.1,qd,qc,Nat.testBit,simprocAttr,-Int.reduceNatCast',ht,e6]
    ·simp only [sT.1,sC.1,qd,qc,Nat.testBit,simprocAttr,-Int.reduceNatCast',ht]
 ·have c1:ilt (k:Int) (o.length:Int) = false:=by rw [qr];simp;omega
  simp only [qr2,sT.1,sC.1,qd,qc,Nat.testBit,simprocAttr,-Int.reduceNatCast',ht,e3,e7,ol,od,ow,c1] at he
  subst he
  refine .inr ⟨_,_,rfl,by simp,rfl,_,done,nx,g,vn,rfl,by simp only [qi,ht],?_,?_,?_,?_,hgl,hgt,hpn,by omega,?_⟩
  ·simp only [sT.1,sC.1,qd,qc,Nat.testBit,simprocAttr,-Int.reduceNatCast',ht,e0]
  ·simp only [sT.1,sC.1,qd,qc,Nat.testBit,simprocAttr,-Int.reduceNatCast',ht,e4]
  ·simp only [sT.1,sC.1,qd,qc,Nat.testBit,simprocAttr,-Int.reduceNatCast',ht,e5]
  ·simp only [sT.1,sC.1,qd,qc,Nat.testBit,simprocAttr,-Int.reduceNatCast',ht,e6]
  ·rcases hhalf with ⟨rfl,rfl,h2⟩ | ⟨rfl,h2⟩
   ·refine .inl ⟨rfl,?_⟩
    rw [←h2,List.drop_eq_nil_of_le hk]
    rfl
   ·refine .inr ⟨rfl,?_⟩
    rw [←h2,List.drop_eq_nil_of_le hk,List.append_nil]
end Go.Proofs.YtnlhdflceelacaaGreatDoor.AE
