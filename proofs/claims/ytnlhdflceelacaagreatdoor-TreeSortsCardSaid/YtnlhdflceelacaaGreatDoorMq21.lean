/- A part of the proof: the abstract executor and what goes through it (part 21). No condition. -/
import Derived.Test.YtnlhdflceelacaaGreatDoorMq20
set_option maxRecDepth 100000
namespace Go.Proofs.YtnlhdflceelacaaGreatDoor.AE
open Go.AE
structure Msg where
 p:Str
 v:Val
def qdO (m:Msg):qa:=.agg (.str m.p :: m.v.enc)
theorem qcD (p:Str) (k n:Int) (s:Str) (l:List Val):qdO ⟨p,.mk k n s l⟩ = .agg [.str p,.int .i64 k,.int .i64 n,.str s,.lst (l.map qal) .no]:=by rw [qdO,qfE]
def qhR (xs:List qa):qa:=.agg [.bool false,.int .i64 0,.int .i64 0,.lst xs .no,.str [],.lst [] .full]
set_option maxHeartbeats 1000000 in
theorem qrx (ms:List Msg) (h:List qg):∃r:Int,Wd (.fn 5 [] []) [.lst [qhR (ms.map qdO)] .full] h = some (.ret (.int .i64 r),h,false)∧(r = 0∨(r = 1∧ms.length ≤ 30∧∀m ∈ ms,OK 3 m.v)):=by
 obtain ⟨xs,hxs⟩ :∃xs,xs = ms.map qdO:=⟨_,rfl⟩
 have hxl:xs.length = ms.length:=by rw [hxs,List.length_map]
 rw [←hxs]
 have z1:((1:Nat):Int) = 1:=by kernel_rfl
 have z8:(ilt 8 ((0:Nat):Int) || ilt 300 ((0:Nat):Int)) = false:=by kernel_rfl
 have z30:ilt 30 1 = false:=by kernel_rfl
 have z01:ilt 0 1 = true:=by kernel_rfl
 have z11:ilt 1 1 = false:=by kernel_rfl
 have w0:IntKind.i64.wrap 1 = 1:=by kernel_rfl
 have zz:((0:Nat):Int) = 0:=by kernel_rfl
 have hx0:qbr 6 (.lst [.agg [.bool false,.int .i64 0,.int .i64 0,.lst xs .no,.str [],.lst [] .full]] .full) (.int .i64 0) = some (.iptr [.bool false,.int .i64 0,.int .i64 0,.lst xs .no,.str [],.lst [] .full] 0):=by kernel_rfl
 have inner:xs.length ≤ 30→∀m st,(∃tt i g,st = ⟨tt,g,false⟩∧tt.length = 74∧lkp tt 0 = .lst [qhR xs] .full∧lkp tt 3 = .int .i64 0∧lkp tt 4 = .int .i64 (i:Nat)∧i + m = xs.length∧h.length ≤ g.length∧g.take h.length = h∧∀j (hj:j < ms.length),j < i→OK 3 ms[j].v)→
   ∃x st',qy h.length Wd (.loop qr1) st = some (x,st')∧(∃tt g,st' = ⟨tt,g,false⟩∧tt.length = 74∧lkp tt 0 = .lst [qhR xs] .full∧lkp tt 3 = .int .i64 0∧h.length ≤ g.length∧g.take h.length = h∧((x = .exit 2∧∀j (hj:j < ms.length),OK 3 ms[j].v)∨(x = .ret∧lkp tt 2 = .int .i64 0))):=by
  intro hl
  refine qK _ (fun x st'=>∃tt g,st' = ⟨tt,g,false⟩∧tt.length = 74∧lkp tt 0 = .lst [qhR xs] .full∧lkp tt 3 = .int .i64 0∧h.length ≤ g.length∧g.take h.length = h∧((x = .exit 2∧∀j (hj:j < ms.length),OK 3 ms[j].v)∨(x = .ret∧lkp tt 2 = .int .i64 0))) ?_
  rintro m st ⟨tt,i,g,rfl,ht,e0,e3,e4,him,hg1,hg2,hgood⟩
  rw [qhR] at e0
  generalize he:qy h.length Wd qr1 _ = r
  rcases Nat.lt_or_ge i xs.length with hi | hi
  ·have c1:ilt (i:Int) (xs.length:Int) = true:=by rw [qr];simp;omega
   have w:=qP (n:=i) (by omega)
   have hi2:i < ms.length:=by omega
   have hg:xs[i]? = some (qdO ms[i]):=by rw [hxs,List.getElem?_map,List.getElem?_eq_getElem hi2];rfl
   have hgood2:OK 3 ms[i].v→∀j (hj:j < ms.length),j < i + 1→OK 3 ms[j].v:=fun hq j hj hji=>by
    by_cases e:j = i
    ·subst e
     exact hq
    ·exact hgood j hj (by omega)
   generalize ms[i] = y at hg hgood2
   obtain ⟨p,k,n,s,l⟩:=y
   rw [qcD] at hg
   obtain ⟨ys,hys⟩ :∃ys,ys = l.map qal:=⟨_,rfl⟩
   have hx:qbr 5 (.lst xs .no) (.int .i64 (i:Nat)) = some (.iptr [.str p,.int .i64 k,.int .i64 n,.str s,.lst ys .no] 0):=by rw [hys];exact qbi hg rfl
   obtain ⟨q,hq,hq2⟩:=qrs 3 (by omega) (.mk k n s l) (g ++ [.cells [.int .i64 k,.int .i64 n,.str s,.lst ys .no]])
   rw [qam,←hys] at hq
   have c3:((3:Nat):Int) = 3:=by kernel_rfl
   rw [c3] at hq
   have hb:Nat.ble h.length g.length = true:=qcb hg1
   have e0':∀v w,lkp (up (up tt 2 v) 5 w) 0 = .lst [qhR xs] .full:=fun v w=>by simp only [sT.1,sC.1,qd,qc,Nat.testBit,simprocAttr,-Int.reduceNatCast',ht,e0,qhR]
   have hg3:h.length ≤ (g ++ [qg.cells [.int .i64 k,.int .i64 n,.str s,.lst ys .no]]).length:=by simp;omega
   have hg4:(g ++ [qg.cells [.int .i64 k,.int .i64 n,.str s,.lst ys .no]]).take h.length = h:=by rw [List.take_append_of_le_length hg1,hg2]
   cases hc:(ilt 100 (s.length:Int) || ilt 20 (ys.length:Int)) with
   | true=>
    simp only [qr1,sT.1,sC.1,qd,qc,Nat.testBit,simprocAttr,-Int.reduceNatCast',ht,e0,e3,e4,c1,w,hx0,hx,hb,hc] at he
    subst he
    refine .inr ⟨_,_,rfl,by simp,_,_,rfl,by simp only [qi,ht],?_,?_,hg3,hg4,.inr ⟨rfl,?_⟩⟩
    ·simp only [sT.1,sC.1,qd,qc,Nat.testBit,simprocAttr,-Int.reduceNatCast',ht,e0,qhR]
    ·simp only [sT.1,sC.1,qd,qc,Nat.testBit,simprocAttr,-Int.reduceNatCast',ht,e3]
    ·simp only [sT.1,sC.1,qd,qc,Nat.testBit,simprocAttr,-Int.reduceNatCast',ht]
   | false=>
    cases q with
    | true=>
     simp only [qr1,sT.1,sC.1,qd,qc,Nat.testBit,simprocAttr,-Int.reduceNatCast',ht,e0,e3,e4,c1,w,hx0,hx,hb,hc,hq] at he
     subst he
     refine .inl ⟨_,m - 1,rfl,by omega,_,i + 1,_,rfl,by simp only [qi,ht],?_,?_,?_,by omega,hg3,hg4,hgood2 (hq2 rfl)⟩
     ·simp only [sT.1,sC.1,qd,qc,Nat.testBit,simprocAttr,-Int.reduceNatCast',ht,e0,qhR]
     ·simp only [sT.1,sC.1,qd,qc,Nat.testBit,simprocAttr,-Int.reduceNatCast',ht,e3]
     ·simp only [sT.1,sC.1,qd,qc,Nat.testBit,simprocAttr,-Int.reduceNatCast',ht]
    | false=>
     simp only [qr1,sT.1,sC.1,qd,qc,Nat.testBit,simprocAttr,-Int.reduceNatCast',ht,e0,e3,e4,c1,w,hx0,hx,hb,hc,hq] at he
     subst he
     refine .inr ⟨_,_,rfl,by simp,_,_,rfl,by simp only [qi,ht],?_,?_,hg3,hg4,.inr ⟨rfl,?_⟩⟩
     ·simp only [sT.1,sC.1,qd,qc,Nat.testBit,simprocAttr,-Int.reduceNatCast',ht,e0,qhR]
     ·simp only [sT.1,sC.1,qd,qc,Nat.testBit,simprocAttr,-Int.reduceNatCast',ht,e3]
     ·simp only [sT.1,sC.1,qd,qc,Nat.testBit,simprocAttr,-Int.reduceNatCast',ht]
  ·have c1:ilt (i:Int) (xs.length:Int) = false:=by rw [qr];simp;omega
   simp only [qr1,sT.1,sC.1,qd,qc,Nat.testBit,simprocAttr,-Int.reduceNatCast',ht,e0,e3,e4,c1,hx0] at he
   subst he
   exact .inr ⟨_,_,rfl,by simp,_,g,rfl,by simp only [qi,ht],by simp only [sT.1,sC.1,qd,qc,Nat.testBit,simprocAttr,-Int.reduceNatCast',ht,e0,qhR],by simp only [sT.1,sC.1,qd,qc,Nat.testBit,simprocAttr,-Int.reduceNatCast',ht,e3],hg1,hg2,.inl ⟨rfl,fun j hj=>hgood j hj (by omega)⟩⟩
 generalize hw:Wd _ _ h = w
 rw [qab rfl (show T.get 5 = some c5 by kernel_rfl),qhR] at hw
 cases hc:ilt 30 (xs.length:Int) with
 | true=>
  simp only [c5,qar,qB6,sT.1,sC.1,qd,qc,Nat.testBit,simprocAttr,-Int.reduceNatCast',z1,z8,z30,z01,z11,w0,hx0,hc] at hw
  subst hw
  exact ⟨_,rfl,.inl rfl⟩
 | false=>
  have hl:xs.length ≤ 30:=by rw [qr] at hc;simp at hc;omega
  generalize hL:(qj.loop qr1) = L at inner
  simp only [c5,qar,qB6,hL,sT.1,sC.1,qd,qc,Nat.testBit,simprocAttr,-Int.reduceNatCast',z1,z8,z30,z01,z11,w0,hx0,hc] at hw
  generalize hr:qy h.length Wd L _ = r at hw
  obtain ⟨x,st',rfl,tt,g,rfl,ht,e0,e3,hg1,hg2,⟨rfl,hall⟩ | ⟨rfl,e2⟩⟩:=qbU hr (inner hl xs.length _ ⟨_,0,h,rfl,by simp only [sT.1,sC.1,qd,qc,Nat.testBit,simprocAttr,-Int.reduceNatCast'],by simp only [sT.1,sC.1,qd,qc,Nat.testBit,simprocAttr,-Int.reduceNatCast',qhR],by simp only [sT.1,sC.1,qd,qc,Nat.testBit,simprocAttr,-Int.reduceNatCast'],by simp only [sT.1,sC.1,qd,qc,Nat.testBit,simprocAttr,-Int.reduceNatCast',Int.natCast_zero],by omega,Nat.le_refl _,by simp,by omega⟩)
  ·rw [qhR] at e0
   simp only [qar,sT.1,sC.1,qd,qc,Nat.testBit,simprocAttr,-Int.reduceNatCast',ht,e0,e3,z1,z01,z11,w0,hg2] at hw
   subst hw
   exact ⟨_,congrArg some (qcA hg2 rfl),.inr ⟨rfl,by omega,fun m hm=>by
    obtain ⟨j,hj,rfl⟩:=List.getElem_of_mem hm
    exact hall j hj⟩⟩
  ·simp only [sT.1,sC.1,qd,qc,Nat.testBit,simprocAttr,-Int.reduceNatCast',ht,e2,hg2] at hw
   subst hw
   exact ⟨_,congrArg some (qcA hg2 rfl),.inl rfl⟩
end Go.Proofs.YtnlhdflceelacaaGreatDoor.AE
