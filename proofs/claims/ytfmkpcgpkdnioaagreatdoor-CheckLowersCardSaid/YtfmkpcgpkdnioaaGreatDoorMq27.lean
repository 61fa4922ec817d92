/- A part of the proof: the abstract executor and what goes through it (part 27). No condition. -/
import Derived.Test.YtfmkpcgpkdnioaaGreatDoorMq26
set_option maxRecDepth 100000
namespace Go.Proofs.YtfmkpcgpkdnioaaGreatDoor.AE
open Go.AE
theorem lowerL_snoc (n:Nat) (v:AVal):∀l:List AVal,lowerL n (l ++ [v]) = (lowerL n l && v.lower n)
 | []=>by rw [List.nil_append,lowerL_cons,lowerL_nil,Bool.and_true,Bool.true_and]
 | x :: l=>by rw [List.cons_append,lowerL_cons,lowerL_snoc n v l,lowerL_cons,Bool.and_assoc]
theorem ref_end {vs:List Vr} {ps:List Pt} {d:Nat} {op n:Int} {nm sb:Str} {aS:List Exl} {b:Nat} {g:List ABox} {Hg:Nat→Option ABox} {H:Nat→Option ABox} {G:List ABox} {out:List Nd} {rs:List (List AVal)} {ins:List Int} {I:AVal} {j:Nat} (h:Lq vs ps d op n nm sb aS b g Hg aS.length H G out rs ins I j) (hc:Cov Hg g) (x:Nd) (hx:x.ins = ins) :
  ∃(H':Nat→Option ABox) (g':List ABox),leave g.length (.ret (.lst (rs.map .agg ++ [.agg [.int .i64 x.op,.int .i64 x.n,.str x.nm,.str x.sb,.int .i64 x.pl,I]]) .no)) (G.set (g.length + 1) (.cells [.int .i64 x.op,.int .i64 x.n,.str x.nm,.str x.sb,.int .i64 x.pl,I])) false = (.ret (.lst ((rs ++ [[.int .i64 x.op,.int .i64 x.n,.str x.nm,.str x.sb,.int .i64 x.pl,I]]).map .agg) .no),g',false)∧g.length ≤ g'.length∧(∀i,i < g.length→g'[i]? = g[i]?)∧(∀i,i < g.length→H' i = Hg i)∧Cov H' g'∧Rows H' (out ++ [x]) (rs ++ [[.int .i64 x.op,.int .i64 x.n,.str x.nm,.str x.sb,.int .i64 x.pl,I]]):=by
 obtain ⟨cov,b2,bB,bN,hI,hB,keep,told,rows,gat,inl,outl,len⟩:=h
 rw [leave_c,lower_lst,lowerL_snoc,lower_agg]
 simp only [lowerL_cons,lowerL_nil]
 rcases hI with ⟨rfl,rfl⟩ | ⟨rfl,hne,hj,h1,h3⟩
 ·have has:aS = []:=List.length_eq_zero_iff.1 inl.symm
  subst has
  rw [List.drop_eq_nil_of_le (Nat.le_refl _),gather,gather] at gat
  have ho:out = []:=congrArg Prod.fst gat
  subst ho
  have hr:rs = []:=List.length_eq_zero_iff.1 rows.length
  subst hr
  have hlow:(AVal.lst [] .full).lower g.length = true:=Eq.trans rfl rfl
  have hi1:∀(k:IntKind) (x:Int),(AVal.int k x).lower g.length = true:=fun _ _=>Eq.trans rfl rfl
  have hi2:∀(x:Str),(AVal.str x).lower g.length = true:=fun _=>Eq.trans rfl rfl
  have hk:∀i,i < g.length→((G.set (g.length + 1) (.cells [.int .i64 x.op,.int .i64 x.n,.str x.nm,.str x.sb,.int .i64 x.pl,.lst [] .full])).take g.length)[i]? = g[i]?:=fun i hi=>by
   rw [List.getElem?_take,if_pos hi,List.getElem?_set_ne (by omega)]
   exact keep i hi
  refine ⟨Hg,_,?_,?_,hk,fun _ _=>rfl,fun i y hy=>?_,⟨_,rfl,.inl ⟨hx,rfl⟩⟩,trivial⟩
  ·simp only [List.map_nil,lowerL_nil,hi1,hi2,hlow,Bool.and_self,cond_true,List.nil_append,List.map_cons]
  ·rw [List.length_take,List.length_set]
   omega
  ·rw [hk i (hc.lt hy)]
   exact hc i y hy
 ·have hlow:(AVal.sl j 0 ins.length ins.length 1).lower g.length = false:=by rw [lower_sl];exact blt_ge (by omega)
  have hjl:j < G.length:=(List.getElem?_eq_some_iff.1 hj).1
  refine ⟨fun i=>if i = j then some (.cells (ins.map (.int .i64))) else H i,G.set (g.length + 1) (.cells [.int .i64 x.op,.int .i64 x.n,.str x.nm,.str x.sb,.int .i64 x.pl,.sl j 0 ins.length ins.length 1]),?_,?_,fun i hi=>?_,fun i hi=>?_,fun i y hy=>?_,Rows.snoc ⟨_,rfl,.inr ⟨j,by rw [hx],by rw [hx];exact if_pos rfl⟩⟩ (rows.mono fun i y hy=>?_)⟩
  ·simp only [hlow,Bool.and_false,Bool.false_and,cond_false,List.map_append,List.map_cons,List.map_nil]
  ·simp
   omega
  ·rw [List.getElem?_set_ne (by omega)]
   exact keep i hi
  ·exact (if_neg (by omega)).trans (told i hi)
  ·have hy':(if i = j then some (ABox.cells (ins.map (.int .i64))) else H i) = some y:=hy
   by_cases e:i = j
   ·subst e
    rw [if_pos rfl] at hy'
    cases hy'
    rw [List.getElem?_set_ne (by omega)]
    exact hj
   ·rw [if_neg e] at hy'
    rw [List.getElem?_set_ne (fun e=>by subst e;rw [hB] at hy';cases hy')]
    exact cov i y hy'
  ·have:i ≠ j:=fun e=>by subst e;rw [h3] at hy;cases hy
   exact (if_neg this).trans hy
set_option maxHeartbeats 4000000 in
theorem refs (vs:List Vr) (ps:List Pt) (hvl:vs.length ≤ 100000) (hpl:ps.length ≤ 100000):∀d,RefLow vs ps d .no:=by
 intro d
 induction d with
 | zero=>
  intro e _ hd
  rw [dOK] at hd
  cases hd
 | succ d ih=>
  rintro ⟨op,n,nm,sb,aS⟩ ⟨k,hk⟩ hd H0 g b hlen hcov
  obtain ⟨k,rfl⟩ :∃k',k = k' + 1:=by cases k with | zero=>exact hk.elim | succ k=>exact ⟨k,rfl⟩
  have hf:∀a ∈ aS,∃k,Fit k a:=fun a ha=>⟨k,hk.2 a ha⟩
  rw [dOK,List.all_eq_true] at hd
  rw [sz] at hlen
  have lq0:Lq vs ps d op n nm sb aS b g H0 0 H0 (g ++ [.cells [.int .i64 op,.int .i64 n,.str nm,.str sb,.lst (aS.map exV) .no],.cells [.int .i64 op,.int .i64 n,.str [],.str [],.int .i64 0,.lst [] .full]]) [] [] [] (.lst [] .full) 0:=by
   refine ⟨hcov.more _,by simp,by rw [get_at];rfl,?_,.inl ⟨rfl,rfl⟩,hcov.late (by omega),fun i hi=>List.getElem?_append_left hi,fun _ _=>rfl,trivial,rfl,rfl,Nat.zero_le _,?_⟩
   ·rw [List.getElem?_append_right (by omega),show g.length + 1 - g.length = 1 by omega]
    rfl
   ·simp
    omega
  generalize hw:Wd _ _ g = w
  rw [exV_mk,Wd_fn rfl (show T.get 10 = some c10 by kernel_rfl)] at hw
  simp only [c10,sT.1,sC.1,sTA.1,sCA.1,noApp,provA,provE,Src.isTmp,provOf,Src.hangs,AOpd.isT,srcOf,lookV,Nat.testBit,bne,simprocAttr,-Int.reduceNatCast',op_hx,hxW_some,plain_hx,effs_hx,isApp_hx,dim_sl,drain_sl,stor_sl,cells_sl,lower_sl,lenV_sl,draw_on,build_look,fillS,List.length_map] at hw
  generalize hr:execW g.length Wd (.loop l10_0) _ = r at hw
  obtain ⟨x,st',rfl,rfl,tt,H,G,out,rs,ins,I,j,rfl,ht,e1,e2,e4,e9,e10,lq⟩:=known hr (ref_loop ih hk.1 hf hd aS.length _ ⟨_,0,H0,_,[],[],[],.lst [] .full,0,rfl,by simp only [sT.1,sC.1,noApp,lookV,Nat.testBit,simprocAttr,-Int.reduceNatCast'],by simp only [sT.1,sC.1,noApp,lookV,Nat.testBit,simprocAttr,-Int.reduceNatCast'],by simp only [sT.1,sC.1,noApp,lookV,Nat.testBit,simprocAttr,-Int.reduceNatCast'],by simp only [sT.1,sC.1,noApp,lookV,Nat.testBit,simprocAttr,-Int.reduceNatCast'],by simp only [sT.1,sC.1,noApp,lookV,Nat.testBit,simprocAttr,-Int.reduceNatCast'],by simp only [sT.1,sC.1,noApp,lookV,Nat.testBit,simprocAttr,-Int.reduceNatCast',outV,List.map_nil,List.isEmpty_nil,cond_true],by simp only [sT.1,sC.1,noApp,lookV,Nat.testBit,simprocAttr,-Int.reduceNatCast'],by simp only [sT.1,sC.1,noApp,lookV,Nat.testBit,simprocAttr,-Int.reduceNatCast',Int.natCast_zero],by omega,lq0⟩)
  obtain ⟨hId,hIs,hIw⟩:=lq.facts
  have bB:=lq.bB
  have bN:=lq.bN
  have b2:=lq.b2
  have rV:=fun H s=>refVr_ok (h:=H) vs s hvl
  have rP:=fun H s=>refPt_ok (h:=H) ps s hpl
  have q3:Nat.ble g.length (g.length + 1) = true:=ble_true (by omega)
  have hss:∀X Y:ABox,(G.set (g.length + 1) X).set (g.length + 1) Y = G.set (g.length + 1) Y:=fun X Y=>List.set_set ..
  have f1:∀X,(G.set (g.length + 1) X)[g.length + 1]? = some X:=fun X=>List.getElem?_set_self (by omega)
  have f2:∀X,(G.set (g.length + 1) X)[g.length]? = some (.cells [.int .i64 op,.int .i64 n,.str nm,.str sb,.lst (aS.map exV) .no]):=fun X=>by rw [List.getElem?_set_ne (by omega)];exact bB
  have gat:=lq.gat
  rw [List.drop_eq_nil_of_le (Nat.le_refl _),gather] at gat
  have hlow:low (vs.map (·.nm)) (ps.map (·.nm)) (d + 1) b (.mk op n nm sb aS) = out ++ [fin (vs.map (·.nm)) (ps.map (·.nm)) op n nm sb ins]:=by rw [low,←gat]
  rw [hlow]
  have olen:=lq.len
  have rrl:=lq.rows.length
  have hls:∀(a1 a2:Int) (a3 a4:Str) (a5:Int),listV 6 [.int .i64 0,.int .i64 0,.str [],.str [],.int .i64 0,.lst [] .full] 1 [(0,.agg [.int .i64 a1,.int .i64 a2,.str a3,.str a4,.int .i64 a5,I])] = some (.lst [.agg [.int .i64 a1,.int .i64 a2,.str a3,.str a4,.int .i64 a5,I]] .full):=fun a1 a2 a3 a4 a5=>list_agg1 rfl (by decide) rfl (by simp only [List.all_cons,List.all_nil,hIs,stor_int,stor_str,Bool.and_true]) (by decide)
  have hap:∀(a1 a2:Int) (a3 a4:Str) (a5:Int),appOK 6 (rs.map .agg) [.agg [.int .i64 a1,.int .i64 a2,.str a3,.str a4,.int .i64 a5,I]] = true:=fun a1 a2 a3 a4 a5=>by
   simp only [appOK,Bool.and_eq_true,decide_eq_true_eq,List.length_map]
   refine ⟨⟨by simp only [limit,List.length_cons,List.length_nil];omega,?_⟩,?_⟩
   ·simp only [List.all_cons,List.all_nil,AVal.cells,hIs,stor_int,stor_str,Bool.and_true]
    rfl
   ·cases rs with
    | nil=>rfl
    | cons r rs=>
     have:=(lq.rows.six r List.mem_cons_self).1
     simp [AVal.cells,this]
  by_cases h3:op = 3
  ·subst h3
   have hfin:fin (vs.map (·.nm)) (ps.map (·.nm)) 3 n nm sb ins = ⟨3,n,nm,[],0,ins⟩:=rfl
   rw [hfin]
   obtain ⟨H',g',hlv,hmore,hkeep,htold,hcov',hrows⟩:=ref_end lq hcov (⟨3,n,nm,[],0,ins⟩ :Nd) rfl
   refine ⟨H',g',_,?_,hmore,hkeep,htold,hcov',hrows⟩
   cases hrs:rs with
   | nil=>
    rw [hrs] at e9 hap hlv
    have e9':lkp tt 9 = .lst [] .full:=e9
    simp only [List.map_nil,List.nil_append] at hap hlv
    simp only [sT.1,sC.1,sTA.1,sCA.1,noApp,provA,provE,Src.isTmp,provOf,Src.hangs,AOpd.isT,srcOf,lookV,Nat.testBit,bne,simprocAttr,-Int.reduceNatCast',op_hx,hxW_some,plain_hx,effs_hx,isApp_hx,dim_sl,drain_sl,stor_sl,cells_sl,lower_sl,lenV_sl,draw_on,build_look,fillS,ht,e1,e2,e4,e9',e10,bB,bN,hId,hIs,hIw,f1,f2,q3,hss,rV,rP,hls,hap,Bool.or_true,Bool.true_or,Bool.or_false,Bool.or_self,Bool.not_false,Bool.not_true] at hw
    subst hw
    exact congrArg some hlv
   | cons r0 rs0=>
    rw [hrs] at e9 hap hlv
    have e9':lkp tt 9 = .lst ((r0 :: rs0).map .agg) (.own 6):=e9
    generalize r0 :: rs0 = R at *
    simp only [sT.1,sC.1,sTA.1,sCA.1,noApp,provA,provE,Src.isTmp,provOf,Src.hangs,AOpd.isT,srcOf,lookV,Nat.testBit,bne,simprocAttr,-Int.reduceNatCast',op_hx,hxW_some,plain_hx,effs_hx,isApp_hx,dim_sl,drain_sl,stor_sl,cells_sl,lower_sl,lenV_sl,draw_on,build_look,fillS,ht,e1,e2,e4,e9',e10,bB,bN,hId,hIs,hIw,f1,f2,q3,hss,rV,rP,hls,hap,Bool.or_true,Bool.true_or,Bool.or_false,Bool.or_self,Bool.not_false,Bool.not_true] at hw
    subst hw
    exact congrArg some hlv
  by_cases h4:op = 4
  ·subst h4
   have hfin:fin (vs.map (·.nm)) (ps.map (·.nm)) 4 n nm sb ins = ⟨4,n,[],[],pos (vs.map (·.nm)) nm 0,ins⟩:=rfl
   rw [hfin]
   obtain ⟨H',g',hlv,hmore,hkeep,htold,hcov',hrows⟩:=ref_end lq hcov (⟨4,n,[],[],pos (vs.map (·.nm)) nm 0,ins⟩ :Nd) rfl
   refine ⟨H',g',_,?_,hmore,hkeep,htold,hcov',hrows⟩
   cases hrs:rs with
   | nil=>
    rw [hrs] at e9 hap hlv
    have e9':lkp tt 9 = .lst [] .full:=e9
    simp only [List.map_nil,List.nil_append] at hap hlv
    simp only [sT.1,sC.1,sTA.1,sCA.1,noApp,provA,provE,Src.isTmp,provOf,Src.hangs,AOpd.isT,srcOf,lookV,Nat.testBit,bne,simprocAttr,-Int.reduceNatCast',op_hx,hxW_some,plain_hx,effs_hx,isApp_hx,dim_sl,drain_sl,stor_sl,cells_sl,lower_sl,lenV_sl,draw_on,build_look,fillS,ht,e1,e2,e4,e9',e10,bB,bN,hId,hIs,hIw,f1,f2,q3,hss,rV,rP,hls,hap,Bool.or_true,Bool.true_or,Bool.or_false,Bool.or_self,Bool.not_false,Bool.not_true] at hw
    subst hw
    exact congrArg some hlv
   | cons r0 rs0=>
    rw [hrs] at e9 hap hlv
    have e9':lkp tt 9 = .lst ((r0 :: rs0).map .agg) (.own 6):=e9
    generalize r0 :: rs0 = R at *
    simp only [sT.1,sC.1,sTA.1,sCA.1,noApp,provA,provE,Src.isTmp,provOf,Src.hangs,AOpd.isT,srcOf,lookV,Nat.testBit,bne,simprocAttr,-Int.reduceNatCast',op_hx,hxW_some,plain_hx,effs_hx,isApp_hx,dim_sl,drain_sl,stor_sl,cells_sl,lower_sl,lenV_sl,draw_on,build_look,fillS,ht,e1,e2,e4,e9',e10,bB,bN,hId,hIs,hIw,f1,f2,q3,hss,rV,rP,hls,hap,Bool.or_true,Bool.true_or,Bool.or_false,Bool.or_self,Bool.not_false,Bool.not_true] at hw
    subst hw
    exact congrArg some hlv
  by_cases h5:op = 5
  ·subst h5
   have hfin:fin (vs.map (·.nm)) (ps.map (·.nm)) 5 n nm sb ins = ⟨5,n,nm,sb,0,ins⟩:=rfl
   rw [hfin]
   obtain ⟨H',g',hlv,hmore,hkeep,htold,hcov',hrows⟩:=ref_end lq hcov (⟨5,n,nm,sb,0,ins⟩ :Nd) rfl
   refine ⟨H',g',_,?_,hmore,hkeep,htold,hcov',hrows⟩
   cases hrs:rs with
   | nil=>
    rw [hrs] at e9 hap hlv
    have e9':lkp tt 9 = .lst [] .full:=e9
    simp only [List.map_nil,List.nil_append] at hap hlv
    simp only [sT.1,sC.1,sTA.1,sCA.1,noApp,provA,provE,Src.isTmp,provOf,Src.hangs,AOpd.isT,srcOf,lookV,Nat.testBit,bne,simprocAttr,-Int.reduceNatCast',op_hx,hxW_some,plain_hx,effs_hx,isApp_hx,dim_sl,drain_sl,stor_sl,cells_sl,lower_sl,lenV_sl,draw_on,build_look,fillS,ht,e1,e2,e4,e9',e10,bB,bN,hId,hIs,hIw,f1,f2,q3,hss,rV,rP,hls,hap,Bool.or_true,Bool.true_or,Bool.or_false,Bool.or_self,Bool.not_false,Bool.not_true] at hw
    subst hw
    exact congrArg some hlv
   | cons r0 rs0=>
    rw [hrs] at e9 hap hlv
    have e9':lkp tt 9 = .lst ((r0 :: rs0).map .agg) (.own 6):=e9
    generalize r0 :: rs0 = R at *
    simp only [sT.1,sC.1,sTA.1,sCA.1,noApp,provA,provE,Src.isTmp,provOf,Src.hangs,AOpd.isT,srcOf,lookV,Nat.testBit,bne,simprocAttr,-Int.reduceNatCast',op_hx,hxW_some,plain_hx,effs_hx,isApp_hx,dim_sl,drain_sl,stor_sl,cells_sl,lower_sl,lenV_sl,draw_on,build_look,fillS,ht,e1,e2,e4,e9',e10,bB,bN,hId,hIs,hIw,f1,f2,q3,hss,rV,rP,hls,hap,Bool.or_true,Bool.true_or,Bool.or_false,Bool.or_self,Bool.not_false,Bool.not_true] at hw
    subst hw
    exact congrArg some hlv
  by_cases h7:op = 7
  ·subst h7
   have hfin:fin (vs.map (·.nm)) (ps.map (·.nm)) 7 n nm sb ins = ⟨7,n,[],[],pos (ps.map (·.nm)) nm 0,ins⟩:=rfl
   rw [hfin]
   obtain ⟨H',g',hlv,hmore,hkeep,htold,hcov',hrows⟩:=ref_end lq hcov (⟨7,n,[],[],pos (ps.map (·.nm)) nm 0,ins⟩ :Nd) rfl
   refine ⟨H',g',_,?_,hmore,hkeep,htold,hcov',hrows⟩
   cases hrs:rs with
   | nil=>
    rw [hrs] at e9 hap hlv
    have e9':lkp tt 9 = .lst [] .full:=e9
    simp only [List.map_nil,List.nil_append] at hap hlv
    simp only [sT.1,sC.1,sTA.1,sCA.1,noApp,provA,provE,Src.isTmp,provOf,Src.hangs,AOpd.isT,srcOf,lookV,Nat.testBit,bne,simprocAttr,-Int.reduceNatCast',op_hx,hxW_some,plain_hx,effs_hx,isApp_hx,dim_sl,drain_sl,stor_sl,cells_sl,lower_sl,lenV_sl,draw_on,build_look,fillS,ht,e1,e2,e4,e9',e10,bB,bN,hId,hIs,hIw,f1,f2,q3,hss,rV,rP,hls,hap,Bool.or_true,Bool.true_or,Bool.or_false,Bool.or_self,Bool.not_false,Bool.not_true] at hw
    subst hw
    exact congrArg some hlv
   | cons r0 rs0=>
    rw [hrs] at e9 hap hlv
    have e9':lkp tt 9 = .lst ((r0 :: rs0).map .agg) (.own 6):=e9
    generalize r0 :: rs0 = R at *
    simp only [sT.1,sC.1,sTA.1,sCA.1,noApp,provA,provE,Src.isTmp,provOf,Src.hangs,AOpd.isT,srcOf,lookV,Nat.testBit,bne,simprocAttr,-Int.reduceNatCast',op_hx,hxW_some,plain_hx,effs_hx,isApp_hx,dim_sl,drain_sl,stor_sl,cells_sl,lower_sl,lenV_sl,draw_on,build_look,fillS,ht,e1,e2,e4,e9',e10,bB,bN,hId,hIs,hIw,f1,f2,q3,hss,rV,rP,hls,hap,Bool.or_true,Bool.true_or,Bool.or_false,Bool.or_self,Bool.not_false,Bool.not_true] at hw
    subst hw
    exact congrArg some hlv
  by_cases h8:op = 8
  ·subst h8
   have hfin:fin (vs.map (·.nm)) (ps.map (·.nm)) 8 n nm sb ins = ⟨8,n,[],[],pos (ps.map (·.nm)) nm 0,ins⟩:=rfl
   rw [hfin]
   obtain ⟨H',g',hlv,hmore,hkeep,htold,hcov',hrows⟩:=ref_end lq hcov (⟨8,n,[],[],pos (ps.map (·.nm)) nm 0,ins⟩ :Nd) rfl
   refine ⟨H',g',_,?_,hmore,hkeep,htold,hcov',hrows⟩
   cases hrs:rs with
   | nil=>
    rw [hrs] at e9 hap hlv
    have e9':lkp tt 9 = .lst [] .full:=e9
    simp only [List.map_nil,List.nil_append] at hap hlv
    simp only [sT.1,sC.1,sTA.1,sCA.1,noApp,provA,provE,Src.isTmp,provOf,Src.hangs,AOpd.isT,srcOf,lookV,Nat.testBit,bne,simprocAttr,-Int.reduceNatCast',op_hx,hxW_some,plain_hx,effs_hx,isApp_hx,dim_sl,drain_sl,stor_sl,cells_sl,lower_sl,lenV_sl,draw_on,build_look,fillS,ht,e1,e2,e4,e9',e10,bB,bN,hId,hIs,hIw,f1,f2,q3,hss,rV,rP,hls,hap,Bool.or_true,Bool.true_or,Bool.or_false,Bool.or_self,Bool.not_false,Bool.not_true] at hw
    subst hw
    exact congrArg some hlv
   | cons r0 rs0=>
    rw [hrs] at e9 hap hlv
    have e9':lkp tt 9 = .lst ((r0 :: rs0).map .agg) (.own 6):=e9
    generalize r0 :: rs0 = R at *
    simp only [sT.1,sC.1,sTA.1,sCA.1,noApp,provA,provE,Src.isTmp,provOf,Src.hangs,AOpd.isT,srcOf,lookV,Nat.testBit,bne,simprocAttr,-Int.reduceNatCast',op_hx,hxW_some,plain_hx,effs_hx,isApp_hx,dim_sl,drain_sl,stor_sl,cells_sl,lower_sl,lenV_sl,draw_on,build_look,fillS,ht,e1,e2,e4,e9',e10,bB,bN,hId,hIs,hIw,f1,f2,q3,hss,rV,rP,hls,hap,Bool.or_true,Bool.true_or,Bool.or_false,Bool.or_self,Bool.not_false,Bool.not_true] at hw
    subst hw
    exact congrArg some hlv
  by_cases h9:op = 9
  ·subst h9
   have hfin:fin (vs.map (·.nm)) (ps.map (·.nm)) 9 n nm sb ins = ⟨9,n,[],[],pos (ps.map (·.nm)) nm 0,ins⟩:=rfl
   rw [hfin]
   obtain ⟨H',g',hlv,hmore,hkeep,htold,hcov',hrows⟩:=ref_end lq hcov (⟨9,n,[],[],pos (ps.map (·.nm)) nm 0,ins⟩ :Nd) rfl
   refine ⟨H',g',_,?_,hmore,hkeep,htold,hcov',hrows⟩
   cases hrs:rs with
   | nil=>
    rw [hrs] at e9 hap hlv
    have e9':lkp tt 9 = .lst [] .full:=e9
    simp only [List.map_nil,List.nil_append] at hap hlv
    simp only [sT.1,sC.1,sTA.1,sCA.1,noApp,provA,provE,Src.isTmp,provOf,Src.hangs,AOpd.isT,srcOf,lookV,Nat.testBit,bne,simprocAttr,-Int.reduceNatCast',op_hx,hxW_some,plain_hx,effs_hx,isApp_hx,dim_sl,drain_sl,stor_sl,cells_sl,lower_sl,lenV_sl,draw_on,build_look,fillS,ht,e1,e2,e4,e9',e10,bB,bN,hId,hIs,hIw,f1,f2,q3,hss,rV,rP,hls,hap,Bool.or_true,Bool.true_or,Bool.or_false,Bool.or_self,Bool.not_false,Bool.not_true] at hw
    subst hw
    exact congrArg some hlv
   | cons r0 rs0=>
    rw [hrs] at e9 hap hlv
    have e9':lkp tt 9 = .lst ((r0 :: rs0).map .agg) (.own 6):=e9
    generalize r0 :: rs0 = R at *
    simp only [sT.1,sC.1,sTA.1,sCA.1,noApp,provA,provE,Src.isTmp,provOf,Src.hangs,AOpd.isT,srcOf,lookV,Nat.testBit,bne,simprocAttr,-Int.reduceNatCast',op_hx,hxW_some,plain_hx,effs_hx,isApp_hx,dim_sl,drain_sl,stor_sl,cells_sl,lower_sl,lenV_sl,draw_on,build_look,fillS,ht,e1,e2,e4,e9',e10,bB,bN,hId,hIs,hIw,f1,f2,q3,hss,rV,rP,hls,hap,Bool.or_true,Bool.true_or,Bool.or_false,Bool.or_self,Bool.not_false,Bool.not_true] at hw
    subst hw
    exact congrArg some hlv
  by_cases h10:op = 10
  ·subst h10
   have hfin:fin (vs.map (·.nm)) (ps.map (·.nm)) 10 n nm sb ins = ⟨10,n,[],[],pos (ps.map (·.nm)) nm 0,ins⟩:=rfl
   rw [hfin]
   obtain ⟨H',g',hlv,hmore,hkeep,htold,hcov',hrows⟩:=ref_end lq hcov (⟨10,n,[],[],pos (ps.map (·.nm)) nm 0,ins⟩ :Nd) rfl
   refine ⟨H',g',_,?_,hmore,hkeep,htold,hcov',hrows⟩
   cases hrs:rs with
   | nil=>
    rw [hrs] at e9 hap hlv
    have e9':lkp tt 9 = .lst [] .full:=e9
    simp only [List.map_nil,List.nil_append] at hap hlv
    simp only [sT.1,sC.1,sTA.1,sCA.1,noApp,provA,provE,Src.isTmp,provOf,Src.hangs,AOpd.isT,srcOf,lookV,Nat.testBit,bne,simprocAttr,-Int.reduceNatCast',op_hx,hxW_some,plain_hx,effs_hx,isApp_hx,dim_sl,drain_sl,stor_sl,cells_sl,lower_sl,lenV_sl,draw_on,build_look,fillS,ht,e1,e2,e4,e9',e10,bB,bN,hId,hIs,hIw,f1,f2,q3,hss,rV,rP,hls,hap,Bool.or_true,Bool.true_or,Bool.or_false,Bool.or_self,Bool.not_false,Bool.not_true] at hw
    subst hw
    exact congrArg some hlv
   | cons r0 rs0=>
    rw [hrs] at e9 hap hlv
    have e9':lkp tt 9 = .lst ((r0 :: rs0).map .agg) (.own 6):=e9
    generalize r0 :: rs0 = R at *
    simp only [sT.1,sC.1,sTA.1,sCA.1,noApp,provA,provE,Src.isTmp,provOf,Src.hangs,AOpd.isT,srcOf,lookV,Nat.testBit,bne,simprocAttr,-Int.reduceNatCast',op_hx,hxW_some,plain_hx,effs_hx,isApp_hx,dim_sl,drain_sl,stor_sl,cells_sl,lower_sl,lenV_sl,draw_on,build_look,fillS,ht,e1,e2,e4,e9',e10,bB,bN,hId,hIs,hIw,f1,f2,q3,hss,rV,rP,hls,hap,Bool.or_true,Bool.true_or,Bool.or_false,Bool.or_self,Bool.not_false,Bool.not_true] at hw
    subst hw
    exact congrArg some hlv
  have z3:(op == 3) = false:=beq_eq_false_iff_ne.2 h3
  have z4:(op == 4) = false:=beq_eq_false_iff_ne.2 h4
  have z5:(op == 5) = false:=beq_eq_false_iff_ne.2 h5
  have z7:(op == 7) = false:=beq_eq_false_iff_ne.2 h7
  have z8:(op == 8) = false:=beq_eq_false_iff_ne.2 h8
  have z9:(op == 9) = false:=beq_eq_false_iff_ne.2 h9
  have z10:(op == 10) = false:=beq_eq_false_iff_ne.2 h10
  have hfin:fin (vs.map (·.nm)) (ps.map (·.nm)) op n nm sb ins = ⟨op,n,[],[],0,ins⟩:=by simp only [fin,z3,z4,z5,z7,z8,z9,z10,cond_false]
  rw [hfin]
  obtain ⟨H',g',hlv,hmore,hkeep,htold,hcov',hrows⟩:=ref_end lq hcov (⟨op,n,[],[],0,ins⟩ :Nd) rfl
  have hGs:G.set (g.length + 1) (.cells [.int .i64 op,.int .i64 n,.str [],.str [],.int .i64 0,I]) = G:=by
   apply List.ext_getElem?
   intro i
   by_cases e:g.length + 1 = i
   ·subst e
    rw [f1]
    exact bN.symm
   ·rw [List.getElem?_set_ne e]
  rw [hGs] at hlv
  refine ⟨H',g',_,?_,hmore,hkeep,htold,hcov',hrows⟩
  cases hrs:rs with
  | nil=>
   rw [hrs] at e9 hap hlv
   have e9':lkp tt 9 = .lst [] .full:=e9
   simp only [List.map_nil,List.nil_append] at hap hlv
   simp only [sT.1,sC.1,sTA.1,sCA.1,noApp,provA,provE,Src.isTmp,provOf,Src.hangs,AOpd.isT,srcOf,lookV,Nat.testBit,bne,simprocAttr,-Int.reduceNatCast',op_hx,hxW_some,plain_hx,effs_hx,isApp_hx,dim_sl,drain_sl,stor_sl,cells_sl,lower_sl,lenV_sl,draw_on,build_look,fillS,ht,e1,e2,e4,e9',e10,bB,bN,hId,hIs,hIw,f1,f2,q3,hss,rV,rP,hls,hap,Bool.or_true,Bool.true_or,Bool.or_false,Bool.or_self,Bool.not_false,Bool.not_true,z3,z4,z5,z7,z8,z9,z10] at hw
   subst hw
   exact congrArg some hlv
  | cons r0 rs0=>
   rw [hrs] at e9 hap hlv
   have e9':lkp tt 9 = .lst ((r0 :: rs0).map .agg) (.own 6):=e9
   generalize r0 :: rs0 = R at *
   simp only [sT.1,sC.1,sTA.1,sCA.1,noApp,provA,provE,Src.isTmp,provOf,Src.hangs,AOpd.isT,srcOf,lookV,Nat.testBit,bne,simprocAttr,-Int.reduceNatCast',op_hx,hxW_some,plain_hx,effs_hx,isApp_hx,dim_sl,drain_sl,stor_sl,cells_sl,lower_sl,lenV_sl,draw_on,build_look,fillS,ht,e1,e2,e4,e9',e10,bB,bN,hId,hIs,hIw,f1,f2,q3,hss,rV,rP,hls,hap,Bool.or_true,Bool.true_or,Bool.or_false,Bool.or_self,Bool.not_false,Bool.not_true,z3,z4,z5,z7,z8,z9,z10] at hw
   subst hw
   exact congrArg some hlv
end Go.Proofs.YtfmkpcgpkdnioaaGreatDoor.AE
