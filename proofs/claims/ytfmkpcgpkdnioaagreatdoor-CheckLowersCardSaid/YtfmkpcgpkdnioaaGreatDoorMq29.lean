/- A part of the proof: the abstract executor and what goes through it (part 29). No condition. -/
import Derived.Test.YtfmkpcgpkdnioaaGreatDoorMq28
set_option maxRecDepth 100000
namespace Go.Proofs.YtfmkpcgpkdnioaaGreatDoor.AE
open Go.AE
set_option maxHeartbeats 2000000 in
theorem expr_sz:∀(d:Nat),d ≤ 40→∀(e:Exl) (room:Int),-1 ≤ room→room ≤ 600→∀h,∃r:Int,Wd (.fn 17 [] []) [exV e,.int .i64 (d:Nat),.int .i64 room] h = some (.ret (.int .i64 r),h,false)∧-1 ≤ r∧r ≤ 600∧(0 ≤ r→Fit d e∧r + sz d e ≤ room):=by
 intro d
 induction d with
 | zero=>
  rintro _ ⟨op,n,nm,sb,aS⟩ room h1 h2 h
  have z0:(((0:Nat):Int) == 0) = true:=by kernel_rfl
  refine ⟨-1,?_,by omega,by omega,fun h=>by omega⟩
  rw [exV_mk,Wd_fn rfl (show T.get 17 = some c17 by kernel_rfl)]
  simp only [c17,sT.1,sC.1,noApp,lookV,Nat.testBit,simprocAttr,-Int.reduceNatCast',z0,Bool.true_or]
 | succ d ih=>
  rintro hd ⟨op,n,nm,sb,aS⟩ room h1 h2 h
  have z0:(((d + 1:Nat):Int) == 0) = false:=by rw [beq_eq_false_iff_ne];omega
  obtain ⟨G,hG⟩ :∃G,G = h ++ [ABox.cells [.int .i64 op,.int .i64 n,.str nm,.str sb,.lst (aS.map exV) .no]]:=⟨_,rfl⟩
  have hbx:G[h.length]? = some (.cells [.int .i64 op,.int .i64 n,.str nm,.str sb,.lst (aS.map exV) .no]):=by rw [hG,get_at];rfl
  have hlt:h.length < G.length:=by rw [hG];simp
  have htk:G.take h.length = h:=by rw [hG];simp
  rw [exV_mk]
  generalize hw:Wd _ _ h = w
  rw [Wd_fn rfl (show T.get 17 = some c17 by kernel_rfl)] at hw
  cases hc:(ilt room 1 || ilt 20 (aS.length:Int) || ilt 100 (nm.length:Int) || ilt 100 (sb.length:Int)) with
  | true=>
   simp only [c17,sT.1,sC.1,noApp,lookV,Nat.testBit,simprocAttr,-Int.reduceNatCast',z0,hc,Bool.false_or,List.length_map] at hw
   subst hw
   exact ⟨-1,rfl,by omega,by omega,fun h=>by omega⟩
  | false=>
   have hroom:1 ≤ room∧aS.length ≤ 20:=by
    simp only [Bool.or_eq_false_iff,ilt_eq,decide_eq_false_iff_not] at hc
    omega
   have loop:∀q st,(∃(tt:List AVal) (i:Nat) (rm:Int),st = ⟨tt,G,false⟩∧tt.length = 55∧lkp tt 1 = .int .i64 (d + 1:Nat)∧lkp tt 2 = .int .i64 rm∧lkp tt 3 = .ptr h.length 0∧lkp tt 7 = .int .i64 (i:Nat)∧i + q = aS.length∧-1 ≤ rm∧rm ≤ 600∧(0 ≤ rm→(∀j (hj:j < aS.length),j < i→Fit d aS[j])∧rm + (((aS.take i).map (sz d)).sum:Nat) ≤ room - 1))→
     ∃x st',execW h.length Wd (.loop l17_0) st = some (x,st')∧(x = .exit 0∧∃(tt:List AVal) (rm:Int),st' = ⟨tt,G,false⟩∧tt.length = 55∧lkp tt 2 = .int .i64 rm∧-1 ≤ rm∧rm ≤ 600∧(0 ≤ rm→(∀j (hj:j < aS.length),Fit d aS[j])∧rm + ((aS.map (sz d)).sum:Nat) ≤ room - 1)):=by
    refine loop_rule _ (fun x st'=>x = .exit 0∧∃(tt:List AVal) (rm:Int),st' = ⟨tt,G,false⟩∧tt.length = 55∧lkp tt 2 = .int .i64 rm∧-1 ≤ rm∧rm ≤ 600∧(0 ≤ rm→(∀j (hj:j < aS.length),Fit d aS[j])∧rm + ((aS.map (sz d)).sum:Nat) ≤ room - 1)) ?_
    rintro q st ⟨tt,i,rm,rfl,ht,e1,e2,e3,e7,hiq,hr1,hr2,hfit⟩
    generalize he:execW h.length Wd l17_0 _ = r
    rcases Nat.lt_or_ge i aS.length with hi | hi
    ·have c1:ilt (i:Int) (aS.length:Int) = true:=by rw [ilt_eq];simp;omega
     by_cases hrm:0 ≤ rm
     ·have c2:ile 0 rm = true:=by rw [ile_eq];simpa using hrm
      have w:=wrap_succ (n:=i) (by omega)
      have wd:IntKind.i64.wrap (((d + 1:Nat):Int) - 1) = ((d:Nat):Int):=by rw [wrap_id (by omega) (by omega)];omega
      obtain ⟨r',hr',b1,b2,b3⟩:=ih (by omega) aS[i] rm hr1 hr2 G
      have hg:(aS.map exV)[i]? = some (exV aS[i]):=by rw [List.getElem?_map,List.getElem?_eq_getElem hi];rfl
      have hfit2:0 ≤ r'→(∀j (hj:j < aS.length),j < i + 1→Fit d aS[j])∧r' + (((aS.take (i + 1)).map (sz d)).sum:Nat) ≤ room - 1:=fun h0=>by
       refine ⟨fun j hj hji=>?_,?_⟩
       ·by_cases e:j = i
        ·subst e
         exact (b3 h0).1
        ·exact (hfit hrm).1 j hj (by omega)
       ·have:=(b3 h0).2
        have:=(hfit hrm).2
        rw [List.take_succ_eq_append_getElem hi,List.map_append,List.sum_append]
        simp only [List.map_cons,List.map_nil,List.sum_cons,List.sum_nil]
        omega
      generalize aS[i] = y at hr' hg
      obtain ⟨op',n',nm',sb',as'⟩:=y
      rw [exV_mk] at hr' hg
      have hx:ixaV 5 (.lst (aS.map exV) .no) (.int .i64 (i:Nat)) = some (.iptr [.int .i64 op',.int .i64 n',.str nm',.str sb',.lst (as'.map exV) .no] 0):=ixaV_get hg rfl
      simp only [l17_0,sT.1,sC.1,noApp,lookV,Nat.testBit,simprocAttr,-Int.reduceNatCast',ht,e1,e2,e3,e7,c1,c2,w,wd,hx,hbx,hr',List.length_map] at he
      subst he
      refine .inl ⟨_,q - 1,rfl,by omega,_,i + 1,r',rfl,by simp only [length_up,ht],?_,?_,?_,?_,by omega,b1,b2,hfit2⟩
      ·simp only [sT.1,sC.1,noApp,lookV,Nat.testBit,simprocAttr,-Int.reduceNatCast',ht,e1]
      ·simp only [sT.1,sC.1,noApp,lookV,Nat.testBit,simprocAttr,-Int.reduceNatCast',ht]
      ·simp only [sT.1,sC.1,noApp,lookV,Nat.testBit,simprocAttr,-Int.reduceNatCast',ht,e3]
      ·simp only [sT.1,sC.1,noApp,lookV,Nat.testBit,simprocAttr,-Int.reduceNatCast',ht]
     ·have c2:ile 0 rm = false:=by rw [ile_eq];simpa using hrm
      simp only [l17_0,sT.1,sC.1,noApp,lookV,Nat.testBit,simprocAttr,-Int.reduceNatCast',ht,e1,e2,e3,e7,c1,c2,hbx,List.length_map] at he
      subst he
      exact .inr ⟨_,_,rfl,by simp,rfl,_,rm,rfl,by simp only [length_up,ht],by simp only [sT.1,sC.1,noApp,lookV,Nat.testBit,simprocAttr,-Int.reduceNatCast',ht,e2],hr1,hr2,fun h0=>absurd h0 hrm⟩
    ·have c1:ilt (i:Int) (aS.length:Int) = false:=by rw [ilt_eq];simp;omega
     simp only [l17_0,sT.1,sC.1,noApp,lookV,Nat.testBit,simprocAttr,-Int.reduceNatCast',ht,e1,e2,e3,e7,c1,hbx,List.length_map] at he
     subst he
     exact .inr ⟨_,_,rfl,by simp,rfl,_,rm,rfl,by simp only [length_up,ht],by simp only [sT.1,sC.1,noApp,lookV,Nat.testBit,simprocAttr,-Int.reduceNatCast',ht,e2],hr1,hr2,fun h0=>⟨fun j hj=>(hfit h0).1 j hj (by omega),by have:=(hfit h0).2;rw [List.take_of_length_le hi] at this;exact this⟩⟩
   have wr:IntKind.i64.wrap (room - 1) = room - 1:=wrap_id (by omega) (by omega)
   simp only [c17,sT.1,sC.1,noApp,lookV,Nat.testBit,simprocAttr,-Int.reduceNatCast',z0,hc,Bool.false_or,List.length_map,wr] at hw
   generalize hr:execW h.length Wd (.loop l17_0) _ = r at hw
   obtain ⟨x,st',rfl,rfl,tt,rm,rfl,ht,e2,b1,b2,b3⟩:=known hr (loop aS.length _ ⟨_,0,room - 1,by rw [hG],by simp only [sT.1,sC.1,noApp,lookV,Nat.testBit,simprocAttr,-Int.reduceNatCast'],by simp only [sT.1,sC.1,noApp,lookV,Nat.testBit,simprocAttr,-Int.reduceNatCast'],by simp only [sT.1,sC.1,noApp,lookV,Nat.testBit,simprocAttr,-Int.reduceNatCast'],by simp only [sT.1,sC.1,noApp,lookV,Nat.testBit,simprocAttr,-Int.reduceNatCast'],by simp only [sT.1,sC.1,noApp,lookV,Nat.testBit,simprocAttr,-Int.reduceNatCast',Int.natCast_zero],by omega,by omega,by omega,fun _=>⟨fun j _ h=>absurd h (by omega),by simp⟩⟩)
   simp only [sT.1,sC.1,noApp,lookV,Nat.testBit,simprocAttr,-Int.reduceNatCast',ht,e2] at hw
   subst hw
   refine ⟨rm,congrArg some (leave_cut htk rfl),b1,b2,fun h0=>⟨⟨hroom.2,fun a ha=>?_⟩,?_⟩⟩
   ·obtain ⟨j,hj,rfl⟩:=List.getElem_of_mem ha
    exact (b3 h0).1 j hj
   ·have:=(b3 h0).2
    rw [sz]
    omega
set_option maxHeartbeats 2000000 in
theorem small_sz (e:Exl) (h:List ABox):∃r:Int,Wd (.fn 5 [] []) [.agg [.lst [modV e] .full,.str []]] h = some (.ret (.int .i64 r),h,false)∧(r = 0∨(r = 1∧Fit 40 e∧sz 40 e ≤ 600)):=by
 have w600:IntKind.i64.wrap (600 - 1) = 599:=by kernel_rfl
 have x599:IntKind.i64.wrap 599 = 599:=by kernel_rfl
 have g1:ilt 60 1 = false:=Eq.trans rfl rfl
 have g2:ilt 100 0 = false:=Eq.trans rfl rfl
 have g3:ilt 300 0 = false:=Eq.trans rfl rfl
 have g4:ilt 100 1 = false:=Eq.trans rfl rfl
 have g5:ile 0 600 = true:=Eq.trans rfl rfl
 have g6:ile 0 599 = true:=Eq.trans rfl rfl
 have c40:((40:Nat):Int) = 40:=Eq.trans rfl rfl
 obtain ⟨op,n,nm,sb,aS⟩:=e
 rw [modV,exV_mk]
 obtain ⟨r,hr,r1,r2,r3⟩:=expr_sz 40 (by omega) (.mk op n nm sb aS) 599 (by omega) (by omega) (h ++ [.cells [.lst [.agg [.str [],.bool false,.lst [] .full,.lst [] .full,.lst [] .full,.lst [.agg [.int .i64 op,.int .i64 n,.str nm,.str sb,.lst (aS.map exV) .no]] .full,.lst [] .full,.lst [] .full,.lst [] .full,.int .i64 0,.lst [] .full,.lst [] .full,.lst [] .full,.lst [] .full]] .full,.str []],.cells [.str [],.bool false,.lst [] .full,.lst [] .full,.lst [] .full,.lst [.agg [.int .i64 op,.int .i64 n,.str nm,.str sb,.lst (aS.map exV) .no]] .full,.lst [] .full,.lst [] .full,.lst [] .full,.int .i64 0,.lst [] .full,.lst [] .full,.lst [] .full,.lst [] .full]])
 rw [exV_mk,c40] at hr
 have hp:=fun r g=>ports_nil r g
 have hs:=fun r g=>sets_nil r g
 have i1:∀cs:List AVal,ixaV 14 (.lst [.agg cs] .full) (.int .i64 0) = if cs.length = 14 then some (.iptr cs 0) else none:=fun cs=>rfl
 have i2:∀cs:List AVal,ixaV 5 (.lst [.agg cs] .full) (.int .i64 0) = if cs.length = 5 then some (.iptr cs 0) else none:=fun cs=>rfl
 have l1:∀x:AVal,[x].length = 1:=fun _=>rfl
 generalize hw:Wd _ _ h = w
 rw [Wd_fn rfl (show T.get 5 = some c5 by kernel_rfl)] at hw
 by_cases h0:0 ≤ r
 ·have c0:ile 0 r = true:=by rw [ile_eq];simpa using h0
  have c1:ilt r 0 = false:=by rw [ilt_eq];simpa using h0
  simp only [c5,l5_0,l5_1,l5_2,l5_3,l5_4,execW_loop,sT.1,sC.1,sTA.1,sCA.1,noApp,provA,provE,Src.isTmp,provOf,Src.hangs,AOpd.isT,srcOf,lookV,Nat.testBit,bne,simprocAttr,-Int.reduceNatCast',draw_on,w600,x599,g1,g2,g3,g4,g5,g6,ble_true (Nat.le_succ _),Bool.true_or,Bool.not_true,z00,z01,z11,cc1,cc0,w01,w1,len0,l1,i1,i2,hp,hs,hr,c0,c1] at hw
  subst hw
  exact ⟨1,rfl,.inr ⟨rfl,(r3 h0).1,by have:=(r3 h0).2;omega⟩⟩
 ·have c0:ile 0 r = false:=by rw [ile_eq];simpa using h0
  have c1:ilt r 0 = true:=by rw [ilt_eq];simpa using h0
  simp only [c5,l5_0,l5_1,l5_2,l5_3,l5_4,execW_loop,sT.1,sC.1,sTA.1,sCA.1,noApp,provA,provE,Src.isTmp,provOf,Src.hangs,AOpd.isT,srcOf,lookV,Nat.testBit,bne,simprocAttr,-Int.reduceNatCast',draw_on,w600,x599,g1,g2,g3,g4,g5,g6,ble_true (Nat.le_succ _),Bool.true_or,Bool.not_true,z00,z01,z11,cc1,cc0,w01,w1,len0,l1,i1,i2,hp,hs,hr,c0,c1] at hw
  subst hw
  exact ⟨0,rfl,.inl rfl⟩
end Go.Proofs.YtfmkpcgpkdnioaaGreatDoor.AE
