/- A part of the proof: the abstract executor and what goes through it (part 20). No condition. -/
import Derived.Test.YtfmkpcgpkdnioaaGreatDoorMq19
set_option maxRecDepth 100000
namespace Go.Proofs.YtfmkpcgpkdnioaaGreatDoor.AE
open Go.AE
theorem build_look (t z:List AVal) (ps:List (Nat×Nat×AOpd)):pureV t (.build z ps) = (fillS z (ps.map fun (o,s,x)=>(o,s,ev t x))).map .agg:=rfl
def VS (h:List ABox) (b:Nat) (vs:List Vr) (n:Nat) (V:AVal):Prop:=(n = 0∧V = .lst [] .full)∨∃id,V = .sl id 0 n n 4∧b ≤ id∧0 < n∧h[id]? = some (.cells ((vs.take n).map vrR).flatten)
theorem VS.facts {h:List ABox} {b n:Nat} {vs:List Vr} {V:AVal} (hV:VS h b vs n V):V.dim = V∧∀i t,drainW V i t = t:=by
 rcases hV with ⟨_,rfl⟩ | ⟨id,rfl,_⟩ <;> exact ⟨rfl,fun _ _=>rfl⟩
theorem VS.next {h:List ABox} {b n base:Nat} {vs:List Vr} {V:AVal} (hV:VS h b vs n V) (hb:b ≤ h.length) (hn:n < vs.length) (hl:vs.length ≤ 100000) :
  ∃V' h',hop base (.app 4) [V,.sl h.length 0 1 1 0] (h ++ [.cells (vrR vs[n])]) = some (V',h',false)∧VS h' b vs (n + 1) V'∧h'.take b = h.take b∧b ≤ h'.length:=by
 have h2:(h ++ [ABox.cells (vrR vs[n])])[h.length]? = some (.cells (vrR vs[n])):=by rw [get_at];rfl
 have ht:((vs.take (n + 1)).map vrR).flatten = ((vs.take n).map vrR).flatten ++ vrR vs[n]:=by
  rw [List.take_succ_eq_append_getElem hn,List.map_append,List.flatten_append]
  simp only [List.map_cons,List.map_nil,List.flatten_cons,List.flatten_nil,List.append_nil]
 rcases hV with ⟨rfl,rfl⟩ | ⟨id,rfl,hid,h0,hi⟩
 ·refine ⟨_,_,app_first h2 rfl (vrR_still _),.inr ⟨_,rfl,by simp;omega,by omega,?_⟩,?_,by simp;omega⟩
  ·rw [get_at,ht]
   simp
  ·rw [List.append_assoc,List.take_append_of_le_length hb]
 ·have hlt:id < h.length:=(List.getElem?_eq_some_iff.1 hi).1
  have hi2:(h ++ [ABox.cells (vrR vs[n])])[id]? = some (.cells ((vs.take n).map vrR).flatten):=by rw [List.getElem?_append_left hlt];exact hi
  have hc:(((vs.take n).map vrR).flatten).length = n * 4:=by rw [flat_len (rows_four _),List.length_map,List.length_take,Nat.min_eq_left (by omega)]
  refine ⟨_,_,app_next hi2 h2 rfl hc (vrR_still _) (rows_still _) (by omega) (by omega),.inr ⟨_,rfl,by simp;omega,by omega,?_⟩,?_,by simp;omega⟩
  ·rw [show (h ++ [ABox.cells (vrR vs[n])]).length = ((h ++ [ABox.cells (vrR vs[n])]).set id .dead).length by simp,get_at,ht]
   rfl
  ·rw [List.take_append_of_le_length (by simp;omega),List.take_set_of_le (by omega),List.take_append_of_le_length hb]
set_option maxHeartbeats 1000000 in
theorem vars_ok (vs:List Vr) (hl:vs.length ≤ 100000) (h:List ABox):∃V g,Wd (.fn 7 [] []) [.lst (vs.map vrV) .no] h = some (.ret V,g,false)∧g.take h.length = h∧h.length ≤ g.length∧VarsAt g vs V:=by
 have loop:∀q st,(∃(tt:List AVal) (G:List ABox) (i:Nat) (V:AVal),st = ⟨tt,G,false⟩∧tt.length = 31∧G.take h.length = h∧h.length ≤ G.length∧lkp tt 0 = .lst (vs.map vrV) .no∧lkp tt 3 = V∧lkp tt 4 = .int .i64 (i:Nat)∧i + q = vs.length∧VS G h.length vs i V)→
   ∃x st',execW h.length Wd (.loop l7_0) st = some (x,st')∧(x = .exit 0∧∃(tt:List AVal) (G:List ABox) (V:AVal),st' = ⟨tt,G,false⟩∧tt.length = 31∧G.take h.length = h∧h.length ≤ G.length∧lkp tt 3 = V∧VS G h.length vs vs.length V):=by
  refine loop_rule _ (fun x st'=>x = .exit 0∧∃(tt:List AVal) (G:List ABox) (V:AVal),st' = ⟨tt,G,false⟩∧tt.length = 31∧G.take h.length = h∧h.length ≤ G.length∧lkp tt 3 = V∧VS G h.length vs vs.length V) ?_
  rintro q st ⟨tt,G,i,V,rfl,ht,hG1,hG2,e0,e3,e4,hiq,hV⟩
  obtain ⟨hVd,hVw⟩:=hV.facts
  generalize he:execW h.length Wd l7_0 _ = r
  rcases Nat.lt_or_ge i vs.length with hi | hi
  ·have c1:ilt (i:Int) (vs.length:Int) = true:=iltT (by omega)
   have w:=wrap_succ (n:=i) (by omega)
   obtain ⟨V',G',hap,hV',hG1',hG2'⟩:=hV.next (base:=h.length) hG2 hi hl
   obtain ⟨hVd',hVw'⟩:=hV'.facts
   have hg:(vs.map vrV)[i]? = some (vrV vs[i]):=by rw [List.getElem?_map,List.getElem?_eq_getElem hi];rfl
   have hx:ixaV 4 (.lst (vs.map vrV) .no) (.int .i64 (i:Nat)) = some (.iptr [.str vs[i].ta,.str vs[i].nm,.int .i64 vs[i].k,.lst vs[i].L .no] 0):=ixaV_get hg rfl
   rw [vrR] at hap
   simp only [l7_0,sT.1,sC.1,sTA.1,sCA.1,noApp,provA,provE,Src.isTmp,provOf,Src.hangs,AOpd.isT,srcOf,lookV,Nat.testBit,bne,simprocAttr,-Int.reduceNatCast',op_hx,hxW_some,plain_hx,effs_hx,isApp_hx,dim_sl,drain_sl,build_look,lit4,fillS,ht,e0,e3,e4,c1,hx,w,hVd,hVw,hap,hVd',hVw',List.length_map] at he
   subst he
   refine .inl ⟨_,q - 1,rfl,by omega,_,G',i + 1,V',rfl,?_,by rw [hG1',hG1],hG2',?_,?_,?_,by omega,hV'⟩
   ·simp only [length_up,ht]
   ·simp only [sT.1,sC.1,noApp,lookV,Nat.testBit,simprocAttr,-Int.reduceNatCast',ht,e0]
   ·simp only [sT.1,sC.1,noApp,lookV,Nat.testBit,simprocAttr,-Int.reduceNatCast',ht,hVd']
   ·simp only [sT.1,sC.1,noApp,lookV,Nat.testBit,simprocAttr,-Int.reduceNatCast',ht]
  ·have c1:ilt (i:Int) (vs.length:Int) = false:=iltF (by omega)
   simp only [l7_0,sT.1,sC.1,noApp,lookV,Nat.testBit,simprocAttr,-Int.reduceNatCast',ht,e0,e4,c1,List.length_map] at he
   subst he
   have:i = vs.length:=by omega
   subst this
   exact .inr ⟨_,_,rfl,by simp,rfl,_,_,_,rfl,by simp only [length_up,ht],hG1,hG2,by simp only [sT.1,sC.1,noApp,lookV,Nat.testBit,simprocAttr,-Int.reduceNatCast',ht,e3],hV⟩
 generalize hw:Wd _ _ h = w
 rw [Wd_fn rfl (show T.get 7 = some c7 by kernel_rfl)] at hw
 simp only [c7,sT.1,sC.1,noApp,lookV,Nat.testBit,simprocAttr,-Int.reduceNatCast'] at hw
 generalize hr:execW h.length Wd (.loop l7_0) _ = r at hw
 obtain ⟨x,st',rfl,rfl,tt,G,V,rfl,ht,hG1,hG2,e3,hV⟩:=known hr (loop vs.length _ ⟨_,_,0,.lst [] .full,rfl,by simp only [sT.1,sC.1,noApp,lookV,Nat.testBit,simprocAttr,-Int.reduceNatCast'],by simp,by simp,by simp only [sT.1,sC.1,noApp,lookV,Nat.testBit,simprocAttr,-Int.reduceNatCast'],by simp only [sT.1,sC.1,noApp,lookV,Nat.testBit,simprocAttr,-Int.reduceNatCast'],by simp only [sT.1,sC.1,noApp,lookV,Nat.testBit,simprocAttr,-Int.reduceNatCast',Int.natCast_zero],by omega,.inl ⟨rfl,rfl⟩⟩)
 obtain ⟨hVd,hVw⟩:=hV.facts
 simp only [sT.1,sC.1,noApp,lookV,Nat.testBit,simprocAttr,-Int.reduceNatCast',ht,e3,hVd,hVw] at hw
 subst hw
 rcases hV with ⟨h0,rfl⟩ | ⟨id,rfl,hid,h0,hi⟩
 ·have:vs = []:=List.length_eq_zero_iff.1 h0
  subst this
  exact ⟨_,h,congrArg some (leave_cut hG1 rfl),by simp,by simp,.inl ⟨rfl,rfl⟩⟩
 ·refine ⟨_,G,?_,hG1,hG2,.inr ⟨id,rfl,by rw [List.take_of_length_le (Nat.le_refl _)] at hi;exact hi⟩⟩
  have hbl:Nat.blt id h.length = false:=Bool.eq_false_iff.2 fun e=>by
   have:id + 1 ≤ h.length:=Nat.le_of_ble_eq_true e
   omega
  rw [leave_c,lower_sl,hbl,cond_false]
end Go.Proofs.YtfmkpcgpkdnioaaGreatDoor.AE
