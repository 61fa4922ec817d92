/- A part of the proof: the abstract executor and what goes through it (part 23). No condition. -/
import Derived.Test.YtfmkpcgpkdnioaaGreatDoorMq22
set_option maxRecDepth 100000
namespace Go.Proofs.YtfmkpcgpkdnioaaGreatDoor.AE
open Go.AE
section
variable {vs:List Vr} {ps:List Pt} {V:AVal} {L d:Nat}
set_option maxHeartbeats 2000000 in
theorem add_loop {op n:Int} {nm sb:Str} {aS:List Exl} {ns:List Nd} {g:List ABox} {t0:Nat} {Hg:Nat→Option ABox} (hA:Adds vs ps V L d) (hL:L < g.length) (hl:aS.length ≤ 20) (hf:∀a ∈ aS,∃k,Fit k a) (hD:∀a ∈ aS,dOK d a = true) :
  ∀q st,(∃(tt:List AVal) (ef:Bool) (i:Nat) (H:Nat→Option ABox) (G:List ABox) (t:Nat) (out:List Nd) (ins:List Int) (I:AVal) (j:Nat) (Tb:AVal),st = ⟨tt,G,ef⟩∧tt.length = 83∧lkp tt 0 = .ptr L 0∧lkp tt 3 = .ptr g.length 0∧lkp tt 5 = .ptr (g.length + 1) 0∧lkp tt 14 = .lst (aS.map exV) .no∧lkp tt 15 = .int .i64 (aS.length:Nat)∧lkp tt 16 = .int .i64 (i:Nat)∧i + q = aS.length∧Lp vs ps V L d op n nm sb aS ns g t0 Hg i H G t out ins I j Tb)→
   ∃x st',execW g.length Wd (.loop l19_0) st = some (x,st')∧(x = .exit 0∧∃(tt:List AVal) (ef:Bool) (H:Nat→Option ABox) (G:List ABox) (t:Nat) (out:List Nd) (ins:List Int) (I:AVal) (j:Nat) (Tb:AVal),st' = ⟨tt,G,ef⟩∧tt.length = 83∧lkp tt 0 = .ptr L 0∧lkp tt 3 = .ptr g.length 0∧lkp tt 5 = .ptr (g.length + 1) 0∧Lp vs ps V L d op n nm sb aS ns g t0 Hg aS.length H G t out ins I j Tb):=by
 refine loop_rule _ (fun x st'=>x = .exit 0∧∃(tt:List AVal) (ef:Bool) (H:Nat→Option ABox) (G:List ABox) (t:Nat) (out:List Nd) (ins:List Int) (I:AVal) (j:Nat) (Tb:AVal),st' = ⟨tt,G,ef⟩∧tt.length = 83∧lkp tt 0 = .ptr L 0∧lkp tt 3 = .ptr g.length 0∧lkp tt 5 = .ptr (g.length + 1) 0∧Lp vs ps V L d op n nm sb aS ns g t0 Hg aS.length H G t out ins I j Tb) ?_
 rintro q st ⟨tt,ef,i,H,G,t,out,ins,I,j,Tb,rfl,ht,e0,e3,e5,e14,e15,e16,hiq,lp⟩
 generalize he:execW g.length Wd l19_0 _ = r
 rcases Nat.lt_or_ge i aS.length with hi | hi
 ·have c1:ilt (i:Int) (aS.length:Int) = true:=iltT (by omega)
  have w:=wrap_succ (n:=i) (by omega)
  obtain ⟨hId,hIs,hIw⟩:=lp.facts
  have hGB:=lp.b2
  obtain ⟨x,H2,G2,t2,Tb2,out2,G3,hr,b1,b2,b3,b4,hap,lp2⟩:=lp_next lp hA hL hi hl hf hD
  generalize (ins ++ [x]).length = N at hap lp2
  have hg:(aS.map exV)[i]? = some (exV aS[i]):=by rw [List.getElem?_map,List.getElem?_eq_getElem hi];rfl
  generalize aS[i] = y at hr hg b1
  obtain ⟨op',n',nm',sb',as'⟩:=y
  rw [exV_mk] at hg
  rw [exV_mk,enc_mk] at hr
  rw [enc_mk] at b1
  have hx:ixaV 5 (.lst (aS.map exV) .no) (.int .i64 (i:Nat)) = some (.iptr [.int .i64 op',.int .i64 n',.str nm',.str sb',.lst (as'.map exV) .no] 0):=ixaV_get hg rfl
  have hbl:Nat.ble g.length G.length = true:=ble_true (by omega)
  have hbn:Nat.ble g.length (g.length + 1) = true:=ble_true (by omega)
  simp only [l19_0,sT.1,sC.1,sTA.1,sCA.1,noApp,provA,provE,Src.isTmp,provOf,Src.hangs,AOpd.isT,srcOf,lookV,Nat.testBit,bne,simprocAttr,-Int.reduceNatCast',op_hx,hxW_some,plain_hx,effs_hx,isApp_hx,dim_sl,drain_sl,stor_sl,cells_sl,lower_sl,draw_on,lit1,ht,e0,e3,e5,e14,e15,e16,c1,hx,hbl,hbn,hr,b1,b2,b3,b4,hap,hId,hIs,hIw,w,Bool.or_true,Bool.true_or,Bool.or_false] at he
  subst he
  refine .inl ⟨_,q - 1,rfl,by omega,_,_,i + 1,H2,_,t2,out2,_,_,_,Tb2,rfl,?_,?_,?_,?_,?_,?_,?_,by omega,lp2⟩
  ·simp only [length_up,ht]
  ·simp only [sT.1,sC.1,noApp,lookV,Nat.testBit,simprocAttr,-Int.reduceNatCast',ht,e0]
  ·simp only [sT.1,sC.1,noApp,lookV,Nat.testBit,simprocAttr,-Int.reduceNatCast',ht,e3]
  ·simp only [sT.1,sC.1,noApp,lookV,Nat.testBit,simprocAttr,-Int.reduceNatCast',ht,e5]
  ·simp only [sT.1,sC.1,noApp,lookV,Nat.testBit,simprocAttr,-Int.reduceNatCast',ht,e14]
  ·simp only [sT.1,sC.1,noApp,lookV,Nat.testBit,simprocAttr,-Int.reduceNatCast',ht,e15]
  ·simp only [sT.1,sC.1,noApp,lookV,Nat.testBit,simprocAttr,-Int.reduceNatCast',ht]
 ·have c1:ilt (i:Int) (aS.length:Int) = false:=iltF (by omega)
  have:i = aS.length:=by omega
  subst this
  simp only [l19_0,sT.1,sC.1,noApp,lookV,Nat.testBit,simprocAttr,-Int.reduceNatCast',ht,e0,e3,e5,e14,e15,e16,c1] at he
  subst he
  refine .inr ⟨_,_,rfl,by simp,rfl,_,ef,H,G,t,out,ins,I,j,Tb,rfl,?_,?_,?_,?_,lp⟩
  ·simp only [length_up,ht]
  ·simp only [sT.1,sC.1,noApp,lookV,Nat.testBit,simprocAttr,-Int.reduceNatCast',ht,e0]
  ·simp only [sT.1,sC.1,noApp,lookV,Nat.testBit,simprocAttr,-Int.reduceNatCast',ht,e3]
  ·simp only [sT.1,sC.1,noApp,lookV,Nat.testBit,simprocAttr,-Int.reduceNatCast',ht,e5]
theorem add_end {op n:Int} {nm sb:Str} {aS:List Exl} {ns:List Nd} {g:List ABox} {t0:Nat} {Hg:Nat→Option ABox} {H:Nat→Option ABox} {G:List ABox} {t:Nat} {out:List Nd} {ins:List Int} {I:AVal} {j:Nat} {Tb:AVal} {i:Nat} (h:Lp vs ps V L d op n nm sb aS ns g t0 Hg i H G t out ins I j Tb) (hL:L < g.length) (x:Nd) (hx:x.ins = ins) :
  ∃(H':Nat→Option ABox) (G6:List ABox),
   hop g.length (.app 6) [Tb,.sl G.length 0 1 1 0] (G.set (g.length + 1) (.cells [.int .i64 x.op,.int .i64 x.n,.str x.nm,.str x.sb,.int .i64 x.pl,I]) ++ [.cells [.int .i64 x.op,.int .i64 x.n,.str x.nm,.str x.sb,.int .i64 x.pl,I]]) = some (.sl (G.length + 1) 0 (ns ++ out ++ [x]).length (ns ++ out ++ [x]).length 6,G6,false)∧
   (∀X,(G.set (g.length + 1) X)[g.length + 1]? = some X)∧(∀X,(G.set (g.length + 1) X)[g.length]? = some (.cells [.int .i64 op,.int .i64 n,.str nm,.str sb,.lst (aS.map exV) .no]))∧(∀X,(G.set (g.length + 1) X)[L]? = some (.cells [Tb,V,.lst (ps.map ptV) .no]))∧
   (∀X Y,(G.set (g.length + 1) X ++ [Y])[g.length + 1]? = some X)∧(∀X Y,(G.set (g.length + 1) X ++ [Y])[L]? = some (.cells [Tb,V,.lst (ps.map ptV) .no]))∧
   G6[g.length + 1]? = some (.cells [.int .i64 x.op,.int .i64 x.n,.str x.nm,.str x.sb,.int .i64 x.pl,I])∧G6[L]? = some (.cells [Tb,V,.lst (ps.map ptV) .no])∧
   (∀X,(G6.set L X)[L]? = some X)∧
   Post vs V (.lst (ps.map ptV) .no) L Hg g t0 H' (G6.set L (.cells [.sl (G.length + 1) 0 (ns ++ out ++ [x]).length (ns ++ out ++ [x]).length 6,V,.lst (ps.map ptV) .no])) (G.length + 1) (ns ++ (out ++ [x])) (.sl (G.length + 1) 0 (ns ++ out ++ [x]).length (ns ++ out ++ [x]).length 6):=by
 obtain ⟨pre,b2,bB,bN,hI,tB,hB,keep,told,ty,gat,inl,len⟩:=h
 obtain ⟨H',hH',hsub,hIH,htH,hLH,hBH⟩ :∃H':Nat→Option ABox,(∀i,i < g.length→H' i = H i)∧Sub H H'∧Ins H' ins I∧H' t = none∧H' L = none∧(H' (g.length + 1) = none∧Cov H' G):=by
  rcases hI with ⟨h1,h2⟩ | ⟨rfl,hne,hj,h1,h2,h3⟩
  ·exact ⟨H,fun _ _=>rfl,fun _ _ h=>h,.inl ⟨h1,h2⟩,pre.tab.2.1,pre.hno,hB,pre.tab.1⟩
  ·refine ⟨fun i=>if i = j then some (.cells (ins.map (.int .i64))) else H i,fun i hi=>if_neg (by omega),fun i y hy=>?_,.inr ⟨j,rfl,if_pos rfl⟩,?_,?_,?_,fun i y hy=>?_⟩
   ·have:i ≠ j:=fun e=>by subst e;rw [h3] at hy;cases hy
    simp only [this,if_false,hy]
   ·exact (if_neg fun e=>h2 e.symm).trans pre.tab.2.1
   ·exact (if_neg (by omega)).trans pre.hno
   ·exact (if_neg (by omega)).trans hB
   ·have hy':(if i = j then some (ABox.cells (ins.map (.int .i64))) else H i) = some y:=hy
    by_cases e:i = j
    ·subst e
     rw [if_pos rfl] at hy'
     cases hy'
     exact hj
    ·rw [if_neg e] at hy'
     exact pre.tab.1 i y hy'
 have hlt:=pre.lt
 have tab5:∀X,Tab H' (G.set (g.length + 1) X) t (ns ++ out) Tb:=fun X=>⟨hBH.2.set hBH.1 X,htH,by
  rcases pre.tab.2.2 with e | ⟨rs,e,hne,hi,hR⟩
  ·exact .inl e
  ·exact .inr ⟨rs,e,hne,by rw [List.getElem?_set_ne (by omega)];exact hi,hR.mono hsub⟩⟩
 have hrow:RowOf H' x [.int .i64 x.op,.int .i64 x.n,.str x.nm,.str x.sb,.int .i64 x.pl,I]:=⟨I,rfl,by rw [hx];exact hIH⟩
 obtain ⟨G6,hap,l6,k6,tab6⟩:=tab_next (base:=g.length) (tab5 (.cells [.int .i64 x.op,.int .i64 x.n,.str x.nm,.str x.sb,.int .i64 x.pl,I])) (by rw [List.length_append];omega) hrow
 have gl:∀X,(G.set (g.length + 1) X).length = G.length:=fun X=>by simp
 rw [gl] at hap l6 k6 tab6
 have f1:∀X,(G.set (g.length + 1) X)[g.length + 1]? = some X:=fun X=>List.getElem?_set_self (by omega)
 have f2:∀X,(G.set (g.length + 1) X)[g.length]? = some (.cells [.int .i64 op,.int .i64 n,.str nm,.str sb,.lst (aS.map exV) .no]):=fun X=>by rw [List.getElem?_set_ne (by omega)];exact bB
 have f3:∀X,(G.set (g.length + 1) X)[L]? = some (.cells [Tb,V,.lst (ps.map ptV) .no]):=fun X=>by rw [List.getElem?_set_ne (by omega)];exact pre.box
 have tL:=pre.ne
 refine ⟨H',G6,hap,f1,f2,f3,fun X Y=>?_,fun X Y=>?_,?_,?_,fun X=>List.getElem?_set_self (by omega),?_⟩
 ·rw [List.getElem?_append_left (by rw [gl];omega)]
  exact f1 X
 ·rw [List.getElem?_append_left (by rw [gl];omega)]
  exact f3 X
 ·rw [k6 _ (by omega) fun _=>by omega]
  exact f1 _
 ·rw [k6 _ (by omega) fun _=>by omega]
  exact f3 _
 ·obtain ⟨c6,n6,t6⟩:=tab6
  rw [←List.append_assoc]
  refine ⟨⟨⟨c6.set hLH _,n6,?_⟩,List.getElem?_set_self (by omega),hLH,by omega,by simp;omega,pre.vars.mono hsub⟩,by simp;omega,fun i hi h1 h2=>?_,fun i hi=>?_,by omega⟩
  ·rcases t6 with ⟨e,_⟩ | ⟨rs,e,hne,hi,hR⟩
   ·simp at e
   ·exact .inr ⟨rs,rfl,hne,by rw [List.getElem?_set_ne (by omega)];exact hi,hR⟩
  ·rw [List.getElem?_set_ne (by omega),k6 i (by omega) (fun _=>by rcases ty with rfl | h;exact h2;omega),List.getElem?_set_ne (by omega)]
   exact keep i hi h1 h2
  ·rw [hH' i hi]
   exact told i hi
end
end Go.Proofs.YtfmkpcgpkdnioaaGreatDoor.AE
