/- A part of the proof: the abstract executor and what goes through it (part 26). No condition. -/
import Derived.Test.YtfmkpcgpkdnioaaGreatDoorMq25
set_option maxRecDepth 100000
namespace Go.Proofs.YtfmkpcgpkdnioaaGreatDoor.AE
open Go.AE
def outV (rs:List (List AVal)):AVal:=.lst (rs.map .agg) (bif rs.isEmpty then .full else .own 6)
section
variable {vs:List Vr} {ps:List Pt} {d:Nat}
set_option maxHeartbeats 4000000 in
theorem ref_loop {op n:Int} {nm sb:Str} {aS:List Exl} {b:Nat} {g:List ABox} {Hg:Nat→Option ABox} (hA:RefLow vs ps d .no) (hl:aS.length ≤ 20) (hf:∀a ∈ aS,∃k,Fit k a) (hD:∀a ∈ aS,dOK d a = true) :
  ∀q st,(∃(tt:List AVal) (i:Nat) (H:Nat→Option ABox) (G:List ABox) (out:List Nd) (rs:List (List AVal)) (ins:List Int) (I:AVal) (j:Nat),st = ⟨tt,G,false⟩∧tt.length = 84∧lkp tt 1 = .lst (vs.map vrV) .no∧lkp tt 2 = .lst (ps.map ptV) .no∧lkp tt 3 = .int .i64 (b:Nat)∧lkp tt 4 = .ptr g.length 0∧lkp tt 9 = outV rs∧lkp tt 10 = .ptr (g.length + 1) 0∧lkp tt 11 = .int .i64 (i:Nat)∧i + q = aS.length∧Lq vs ps d op n nm sb aS b g Hg i H G out rs ins I j)→
   ∃x st',execW g.length Wd (.loop l10_0) st = some (x,st')∧(x = .exit 0∧∃(tt:List AVal) (H:Nat→Option ABox) (G:List ABox) (out:List Nd) (rs:List (List AVal)) (ins:List Int) (I:AVal) (j:Nat),st' = ⟨tt,G,false⟩∧tt.length = 84∧lkp tt 1 = .lst (vs.map vrV) .no∧lkp tt 2 = .lst (ps.map ptV) .no∧lkp tt 4 = .ptr g.length 0∧lkp tt 9 = outV rs∧lkp tt 10 = .ptr (g.length + 1) 0∧Lq vs ps d op n nm sb aS b g Hg aS.length H G out rs ins I j):=by
 refine loop_rule _ (fun x st'=>x = .exit 0∧∃(tt:List AVal) (H:Nat→Option ABox) (G:List ABox) (out:List Nd) (rs:List (List AVal)) (ins:List Int) (I:AVal) (j:Nat),st' = ⟨tt,G,false⟩∧tt.length = 84∧lkp tt 1 = .lst (vs.map vrV) .no∧lkp tt 2 = .lst (ps.map ptV) .no∧lkp tt 4 = .ptr g.length 0∧lkp tt 9 = outV rs∧lkp tt 10 = .ptr (g.length + 1) 0∧Lq vs ps d op n nm sb aS b g Hg aS.length H G out rs ins I j) ?_
 rintro q st ⟨tt,i,H,G,out,rs,ins,I,j,rfl,ht,e1,e2,e3,e4,e9,e10,e11,hiq,lq⟩
 generalize he:execW g.length Wd l10_0 _ = r
 have bB:=lq.bB
 have bN:=lq.bN
 rcases Nat.lt_or_ge i aS.length with hi | hi
 ·have c1:ilt (i:Int) (aS.length:Int) = true:=iltT (by omega)
  have w:=wrap_succ (n:=i) (by omega)
  obtain ⟨hId,hIs,hIw⟩:=lq.facts
  have hGB:=lq.b2
  have hlen:=lq.len
  have hrl:=lq.rows.length
  obtain ⟨x,H2,G2,qs,out2,G3,hr,hap6,hqe,hx,hxl,hG2,b2,b3,b4,hap,lq2⟩:=lq_next lq hA hi hl hf hD
  generalize (ins ++ [x]).length = N at hap lq2
  have hg:(aS.map exV)[i]? = some (exV aS[i]):=by rw [List.getElem?_map,List.getElem?_eq_getElem hi];rfl
  generalize aS[i] = y at hr hg
  obtain ⟨op',n',nm',sb',as'⟩:=y
  rw [exV_mk] at hg hr
  have hxx:ixaV 5 (.lst (aS.map exV) .no) (.int .i64 (i:Nat)) = some (.iptr [.int .i64 op',.int .i64 n',.str nm',.str sb',.lst (as'.map exV) .no] 0):=ixaV_get hg rfl
  have hbn:Nat.ble g.length (g.length + 1) = true:=ble_true (by omega)
  have w1:IntKind.i64.wrap ((b:Int) + (rs.length:Int)) = ((b + rs.length:Nat):Int):=by rw [wrap_id (by omega) (by omega)];omega
  have lq3:∀r,r = rs.length + qs.length→IntKind.i64.wrap ((b:Int) + (r:Int)) = ((b + r:Nat):Int):=fun r hr=>by rw [List.length_append] at hxl;rw [wrap_id (by omega) (by omega)];omega
  have w2:IntKind.i64.wrap ((b:Int) + ((rs.length + qs.length:Nat):Int)) = ((b + (rs.length + qs.length):Nat):Int):=lq3 _ rfl
  have w3:IntKind.i64.wrap (((b + (rs.length + qs.length):Nat):Int) - 1) = x:=by rw [hx,List.length_append];rw [List.length_append] at hxl;exact wrap_id (by omega) (by omega)
  have hne:outV (rs ++ qs) = .lst (rs.map .agg ++ qs.map .agg) (.own 6):=by
   cases qs with
   | nil=>cases hqe
   | cons q qs=>
    have:(rs ++ q :: qs).isEmpty = false:=by cases rs <;> rfl
    simp only [outV,this,cond_false,List.map_append]
  cases rs with
  | nil=>
   have e9':lkp tt 9 = .lst [] .full:=e9
   simp only [List.map_nil,List.nil_append,List.length_nil,Nat.add_zero,Nat.zero_add,Int.natCast_zero,Int.add_zero] at hr hap6 w1 w2 w3 hne
   have w1':IntKind.i64.wrap ((b:Int) + 0) = (b:Int):=by rw [Int.add_zero];exact w1
   simp only [l10_0,sT.1,sC.1,sTA.1,sCA.1,noApp,provA,provE,Src.isTmp,provOf,Src.hangs,AOpd.isT,srcOf,lookV,Nat.testBit,bne,simprocAttr,-Int.reduceNatCast',op_hx,hxW_some,plain_hx,effs_hx,isApp_hx,dim_sl,drain_sl,stor_sl,cells_sl,lower_sl,lenV_sl,draw_on,build_look,fillS,lit1,ht,e1,e2,e3,e4,e9',e10,e11,bB,bN,c1,hxx,hbn,hr,hap6,hqe,b2,b3,b4,hap,hId,hIs,hIw,w,w1,w1',w2,w3,List.length_map,List.length_nil,Int.natCast_zero] at he
   subst he
   refine .inl ⟨_,q - 1,rfl,by omega,_,i + 1,H2,_,out2,_,_,_,_,rfl,?_,?_,?_,?_,?_,?_,?_,?_,by omega,lq2⟩
   ·simp only [length_up,ht]
   ·simp only [sT.1,sC.1,noApp,lookV,Nat.testBit,simprocAttr,-Int.reduceNatCast',ht,e1]
   ·simp only [sT.1,sC.1,noApp,lookV,Nat.testBit,simprocAttr,-Int.reduceNatCast',ht,e2]
   ·simp only [sT.1,sC.1,noApp,lookV,Nat.testBit,simprocAttr,-Int.reduceNatCast',ht,e3]
   ·simp only [sT.1,sC.1,noApp,lookV,Nat.testBit,simprocAttr,-Int.reduceNatCast',ht,e4]
   ·rw [List.nil_append,hne]
    simp only [sT.1,sC.1,sTA.1,sCA.1,noApp,provA,provE,Src.isTmp,provOf,Src.hangs,AOpd.isT,srcOf,lookV,Nat.testBit,bne,simprocAttr,-Int.reduceNatCast',ht]
   ·simp only [sT.1,sC.1,noApp,lookV,Nat.testBit,simprocAttr,-Int.reduceNatCast',ht,e10]
   ·simp only [sT.1,sC.1,noApp,lookV,Nat.testBit,simprocAttr,-Int.reduceNatCast',ht]
  | cons r0 rs=>
   have e9':lkp tt 9 = .lst ((r0 :: rs).map .agg) (.own 6):=e9
   generalize hR:r0 :: rs = R at *
   simp only [l10_0,sT.1,sC.1,sTA.1,sCA.1,noApp,provA,provE,Src.isTmp,provOf,Src.hangs,AOpd.isT,srcOf,lookV,Nat.testBit,bne,simprocAttr,-Int.reduceNatCast',op_hx,hxW_some,plain_hx,effs_hx,isApp_hx,dim_sl,drain_sl,stor_sl,cells_sl,lower_sl,lenV_sl,draw_on,build_look,fillS,lit1,ht,e1,e2,e3,e4,e9',e10,e11,bB,bN,c1,hxx,hbn,hr,hap6,hqe,b2,b3,b4,hap,hId,hIs,hIw,w,w1,w2,w3,List.length_map,List.length_append] at he
   subst he
   refine .inl ⟨_,q - 1,rfl,by omega,_,i + 1,H2,_,out2,_,_,_,_,rfl,?_,?_,?_,?_,?_,?_,?_,?_,by omega,lq2⟩
   ·simp only [length_up,ht]
   ·simp only [sT.1,sC.1,noApp,lookV,Nat.testBit,simprocAttr,-Int.reduceNatCast',ht,e1]
   ·simp only [sT.1,sC.1,noApp,lookV,Nat.testBit,simprocAttr,-Int.reduceNatCast',ht,e2]
   ·simp only [sT.1,sC.1,noApp,lookV,Nat.testBit,simprocAttr,-Int.reduceNatCast',ht,e3]
   ·simp only [sT.1,sC.1,noApp,lookV,Nat.testBit,simprocAttr,-Int.reduceNatCast',ht,e4]
   ·rw [hne]
    simp only [sT.1,sC.1,sTA.1,sCA.1,noApp,provA,provE,Src.isTmp,provOf,Src.hangs,AOpd.isT,srcOf,lookV,Nat.testBit,bne,simprocAttr,-Int.reduceNatCast',ht]
   ·simp only [sT.1,sC.1,noApp,lookV,Nat.testBit,simprocAttr,-Int.reduceNatCast',ht,e10]
   ·simp only [sT.1,sC.1,noApp,lookV,Nat.testBit,simprocAttr,-Int.reduceNatCast',ht]
 ·have c1:ilt (i:Int) (aS.length:Int) = false:=iltF (by omega)
  have:i = aS.length:=by have:=lq.inl;omega
  subst this
  simp only [l10_0,sT.1,sC.1,noApp,lookV,Nat.testBit,simprocAttr,-Int.reduceNatCast',ht,e4,e11,bB,c1,List.length_map] at he
  subst he
  refine .inr ⟨_,_,rfl,by simp,rfl,_,H,G,out,rs,ins,I,j,rfl,?_,?_,?_,?_,?_,?_,lq⟩
  ·simp only [length_up,ht]
  ·simp only [sT.1,sC.1,noApp,lookV,Nat.testBit,simprocAttr,-Int.reduceNatCast',ht,e1]
  ·simp only [sT.1,sC.1,noApp,lookV,Nat.testBit,simprocAttr,-Int.reduceNatCast',ht,e2]
  ·simp only [sT.1,sC.1,noApp,lookV,Nat.testBit,simprocAttr,-Int.reduceNatCast',ht,e4]
  ·simp only [sT.1,sC.1,noApp,lookV,Nat.testBit,simprocAttr,-Int.reduceNatCast',ht,e9]
  ·simp only [sT.1,sC.1,noApp,lookV,Nat.testBit,simprocAttr,-Int.reduceNatCast',ht,e10]
end
end Go.Proofs.YtfmkpcgpkdnioaaGreatDoor.AE
