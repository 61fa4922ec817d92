/- A part of the proof: the abstract executor and what goes through it (part 12). No condition. -/
import Derived.Test.YtkmlapholimbcaaGreatDoorMs7
import Derived.Test.YtkmlapholimbcaaGreatDoorMs11
set_option maxRecDepth 100000
namespace Go.Proofs.YtkmlapholimbcaaGreatDoor.AE
open Go.AE
set_option maxHeartbeats 2000000 in
theorem expr_sz:∀(d:Nat),d ≤ 40→∀(e:Exl) (room:Int),-1 ≤ room→room ≤ 600→∀h,∃r:Int,Wd (.fn 28 [] []) [exV e,.int .i64 (d:Nat),.int .i64 room] h = some (.ret (.int .i64 r),h,false)∧-1 ≤ r∧r ≤ 600∧(0 ≤ r→Fit d e∧r + sz d e ≤ room):=by
 intro d
 induction d with
 | zero=>
  rintro _ ⟨op,n,nm,sb,aS⟩ room h1 h2 h
  have z0:(((0:Nat):Int) == 0) = true:=by kernel_rfl
  refine ⟨-1,?_,by omega,by omega,fun h=>by omega⟩
  rw [exV_mk,Wd_fn rfl (show T.get 28 = some c28 by kernel_rfl)]
  simp only [c28,sT.1,sC.1,noApp,lookV,Nat.testBit,simprocAttr,-Int.reduceNatCast',z0,Bool.true_or]
 | succ d ih=>
  rintro hd ⟨op,n,nm,sb,aS⟩ room h1 h2 h
  have z0:(((d + 1:Nat):Int) == 0) = false:=by rw [beq_eq_false_iff_ne];omega
  obtain ⟨G,hG⟩ :∃G,G = h ++ [ABox.cells [.int .i64 op,.int .i64 n,.str nm,.str sb,.lst (aS.map exV) .no]]:=⟨_,rfl⟩
  have hbx:G[h.length]? = some (.cells [.int .i64 op,.int .i64 n,.str nm,.str sb,.lst (aS.map exV) .no]):=by rw [hG,get_at];rfl
  have hlt:h.length < G.length:=by rw [hG];simp
  have htk:G.take h.length = h:=by rw [hG];simp
  rw [exV_mk]
  generalize hw:Wd _ _ h = w
  rw [Wd_fn rfl (show T.get 28 = some c28 by kernel_rfl)] at hw
  cases hc:(ilt room 1 || ilt 20 (aS.length:Int) || ilt 100 (nm.length:Int) || ilt 100 (sb.length:Int)) with
  | true=>
   simp only [c28,sT.1,sC.1,noApp,lookV,Nat.testBit,simprocAttr,-Int.reduceNatCast',z0,hc,Bool.false_or,List.length_map] at hw
   subst hw
   exact ⟨-1,rfl,by omega,by omega,fun h=>by omega⟩
  | false=>
   have hroom:1 ≤ room∧aS.length ≤ 20:=by
    simp only [Bool.or_eq_false_iff,ilt_eq,decide_eq_false_iff_not] at hc
    omega
   have loop:∀q st,(∃(tt:List AVal) (i:Nat) (rm:Int),st = ⟨tt,G,false⟩∧tt.length = 55∧lkp tt 1 = .int .i64 (d + 1:Nat)∧lkp tt 2 = .int .i64 rm∧lkp tt 3 = .ptr h.length 0∧lkp tt 7 = .int .i64 (i:Nat)∧i + q = aS.length∧-1 ≤ rm∧rm ≤ 600∧(0 ≤ rm→(∀j (hj:j < aS.length),j < i→Fit d aS[j])∧rm + (((aS.take i).map (sz d)).sum:Nat) ≤ room - 1))→
     ∃x st',execW h.length Wd (.loop l28_0) st = some (x,st')∧(x = .exit 0∧∃(tt:List AVal) (rm:Int),st' = ⟨tt,G,false⟩∧tt.length = 55∧lkp tt 2 = .int .i64 rm∧-1 ≤ rm∧rm ≤ 600∧(0 ≤ rm→(∀j (hj:j < aS.length),Fit d aS[j])∧rm + ((aS.map (sz d)).sum:Nat) ≤ room - 1)):=by
    refine loop_rule _ (fun x st'=>x = .exit 0∧∃(tt:List AVal) (rm:Int),st' = ⟨tt,G,false⟩∧tt.length = 55∧lkp tt 2 = .int .i64 rm∧-1 ≤ rm∧rm ≤ 600∧(0 ≤ rm→(∀j (hj:j < aS.length),Fit d aS[j])∧rm + ((aS.map (sz d)).sum:Nat) ≤ room - 1)) ?_
    rintro q st ⟨tt,i,rm,rfl,ht,e1,e2,e3,e7,hiq,hr1,hr2,hfit⟩
    generalize he:execW h.length Wd l28_0 _ = r
    rcases Nat.lt_or_ge i aS.length with hi | hi
    ·have c1:ilt (i:Int) (aS.length:Int) = true:=by rw [ilt_eq];simp;omega
     by_cases hrm:0 ≤ rm
     ·have c2:ile 0 rm = true:=by rw [ile_eq];simpa using hrm
      have w:=wrap_succ (n:=i) (by omega)
      have wd:IntKind.i64.wrap (((d + 1:Nat):Int) - 1) = ((d:Nat):Int):=by rw [wrap_id (by omega) (by omega)];omega
      obtain ⟨r',hr',b1,b2,b3⟩:=ih (by omega) aS[i] rm hr1 hr2 G
      have hg:(aS.map exV)[i]? = some (exV aS[i]):=by rw [List.getElem?_map,List.getElem?_eq_getElem hi];rfl
      have hfit2:0 ≤ r'→(∀j (hj:j < aS.length),j < i + 1→Fit d aS[j])∧r' + (((aS.take (i + 1)).map (sz d)).sum:Nat) ≤ room - 1:=fun h0=>by
       refine ⟨fun j hj hji=>?_,?_⟩
       ·by_cases e:j = i
        ·subst e
         exact (b3 h0).1
        ·exact (hfit hrm).1 j hj (by omega)
       ·have:=(b3 h0).2
        have:=(hfit hrm).2
        rw [List.take_succ_eq_append_getElem hi,List.map_append,List.sum_append]
        simp only [List.map_cons,List.map_nil,List.sum_cons,List.sum_nil]
        omega
      generalize aS[i] = y at hr' hg
      obtain ⟨op',n',nm',sb',as'⟩:=y
      rw [exV_mk] at hr' hg
      have hx:ixaV 5 (.lst (aS.map exV) .no) (.int .i64 (i:Nat)) = some (.iptr [.int .i64 op',.int .i64 n',.str nm',.str sb',.lst (as'.map exV) .no] 0):=ixaV_get hg rfl
      simp only [l28_0,sT.1,sC.1,noApp,lookV,Nat.testBit,simprocAttr,-Int.reduceNatCast',ht,e1,e2,e3,e7,c1,c2,w,wd,hx,hbx,hr',List.length_map] at he
      subst he
      refine .inl ⟨_,q - 1,rfl,by omega,_,i + 1,r',rfl,by simp only [length_up,ht],?_,?_,?_,?_,by omega,b1,b2,hfit2⟩
      ·simp only [sT.1,sC.1,noApp,lookV,Nat.testBit,simprocAttr,-Int.reduceNatCast',ht,e1]
      ·simp only [sT.1,sC.1,noApp,lookV,Nat.testBit,simprocAttr,-Int.reduceNatCast',ht]
      ·simp only [sT.1,sC.1,noApp,lookV,Nat.testBit,simprocAttr,-Int.reduceNatCast',ht,e3]
      ·simp only [sT.1,sC.1,noApp,lookV,Nat.testBit,simprocAttr,-Int.reduceNatCast',ht]
     ·have c2:ile 0 rm = false:=by rw [ile_eq];simpa using hrm
      simp only [l28_0,sT.1,sC.1,noApp,lookV,Nat.testBit,simprocAttr,-Int.reduceNatCast',ht,e1,e2,e3,e7,c1,c2,hbx,List.length_map] at he
      subst he
      exact .inr ⟨_,_,rfl,by simp,rfl,_,rm,rfl,by simp only [length_up,ht],by simp only [sT.1,sC.1,noApp,lookV,Nat.testBit,simprocAttr,-Int.reduceNatCast',ht,e2],hr1,hr2,fun h0=>absurd h0 hrm⟩
    ·have c1:ilt (i:Int) (aS.length:Int) = false:=by rw [ilt_eq];simp;omega
     simp only [l28_0,sT.1,sC.1,noApp,lookV,Nat.testBit,simprocAttr,-Int.reduceNatCast',ht,e1,e2,e3,e7,c1,hbx,List.length_map] at he
     subst he
     exact .inr ⟨_,_,rfl,by simp,rfl,_,rm,rfl,by simp only [length_up,ht],by simp only [sT.1,sC.1,noApp,lookV,Nat.testBit,simprocAttr,-Int.reduceNatCast',ht,e2],hr1,hr2,fun h0=>⟨fun j hj=>(hfit h0).1 j hj (by omega),by have:=(hfit h0).2;rw [List.take_of_length_le hi] at this;exact this⟩⟩
   have wr:IntKind.i64.wrap (room - 1) = room - 1:=wrap_id (by omega) (by omega)
   simp only [c28,sT.1,sC.1,noApp,lookV,Nat.testBit,simprocAttr,-Int.reduceNatCast',z0,hc,Bool.false_or,List.length_map,wr] at hw
   generalize hr:execW h.length Wd (.loop l28_0) _ = r at hw
   obtain ⟨x,st',rfl,rfl,tt,rm,rfl,ht,e2,b1,b2,b3⟩:=known hr (loop aS.length _ ⟨_,0,room - 1,by rw [hG],by simp only [sT.1,sC.1,noApp,lookV,Nat.testBit,simprocAttr,-Int.reduceNatCast'],by simp only [sT.1,sC.1,noApp,lookV,Nat.testBit,simprocAttr,-Int.reduceNatCast'],by simp only [sT.1,sC.1,noApp,lookV,Nat.testBit,simprocAttr,-Int.reduceNatCast'],by simp only [sT.1,sC.1,noApp,lookV,Nat.testBit,simprocAttr,-Int.reduceNatCast'],by simp only [sT.1,sC.1,noApp,lookV,Nat.testBit,simprocAttr,-Int.reduceNatCast',Int.natCast_zero],by omega,by omega,by omega,fun _=>⟨fun j _ h=>absurd h (by omega),by simp⟩⟩)
   simp only [sT.1,sC.1,noApp,lookV,Nat.testBit,simprocAttr,-Int.reduceNatCast',ht,e2] at hw
   subst hw
   refine ⟨rm,congrArg some (leave_cut htk rfl),b1,b2,fun h0=>⟨⟨hroom.2,fun a ha=>?_⟩,?_⟩⟩
   ·obtain ⟨j,hj,rfl⟩:=List.getElem_of_mem ha
    exact (b3 h0).1 j hj
   ·have:=(b3 h0).2
    rw [sz]
    omega
end Go.Proofs.YtkmlapholimbcaaGreatDoor.AE
namespace Go.Proofs.YtkmlapholimbcaaGreatDoor.AE
open Go.AE
set_option maxHeartbeats 2000000 in
theorem kind_sz:∀(d:Nat),d ≤ 10→∀(e:Tp) (room:Int),-1 ≤ room→room ≤ 600→∀h,∃r:Int,Wd (.fn 45 [] []) [tpV e,.int .i64 (d:Nat),.int .i64 room] h = some (.ret (.int .i64 r),h,false)∧-1 ≤ r∧r ≤ 600∧(0 ≤ r→r + 1 ≤ room):=by
 intro d
 induction d with
 | zero=>
  rintro _ ⟨k,aS⟩ room h1 h2 h
  have z0:(((0:Nat):Int) == 0) = true:=by kernel_rfl
  refine ⟨-1,?_,by omega,by omega,fun h=>by omega⟩
  rw [tpV_mk,Wd_fn rfl (show T.get 45 = some c45 by kernel_rfl)]
  simp only [c45,sT.1,sC.1,noApp,lookV,Nat.testBit,simprocAttr,-Int.reduceNatCast',z0,Bool.true_or]
 | succ d ih=>
  rintro hd ⟨k,aS⟩ room h1 h2 h
  have z0:(((d + 1:Nat):Int) == 0) = false:=by rw [beq_eq_false_iff_ne];omega
  obtain ⟨G,hG⟩ :∃G,G = h ++ [ABox.cells [.int .i64 k,.lst (aS.map tpV) .no]]:=⟨_,rfl⟩
  have hbx:G[h.length]? = some (.cells [.int .i64 k,.lst (aS.map tpV) .no]):=by rw [hG,get_at];rfl
  have hlt:h.length < G.length:=by rw [hG];simp
  have htk:G.take h.length = h:=by rw [hG];simp
  rw [tpV_mk]
  generalize hw:Wd _ _ h = w
  rw [Wd_fn rfl (show T.get 45 = some c45 by kernel_rfl)] at hw
  cases hc:(ilt room 1 || ilt 20 (aS.length:Int)) with
  | true=>
   simp only [c45,sT.1,sC.1,noApp,lookV,Nat.testBit,simprocAttr,-Int.reduceNatCast',z0,hc,Bool.false_or,List.length_map] at hw
   subst hw
   exact ⟨-1,rfl,by omega,by omega,fun h=>by omega⟩
  | false=>
   have hroom:1 ≤ room∧aS.length ≤ 20:=by
    simp only [Bool.or_eq_false_iff,ilt_eq,decide_eq_false_iff_not] at hc
    omega
   have loop:∀q st,(∃(tt:List AVal) (i:Nat) (rm:Int),st = ⟨tt,G,false⟩∧tt.length = 43∧lkp tt 1 = .int .i64 (d + 1:Nat)∧lkp tt 2 = .int .i64 rm∧lkp tt 3 = .ptr h.length 0∧lkp tt 7 = .int .i64 (i:Nat)∧i + q = aS.length∧-1 ≤ rm∧rm ≤ 600∧(0 ≤ rm→rm ≤ room - 1))→
     ∃x st',execW h.length Wd (.loop l45_0) st = some (x,st')∧(x = .exit 0∧∃(tt:List AVal) (rm:Int),st' = ⟨tt,G,false⟩∧tt.length = 43∧lkp tt 2 = .int .i64 rm∧-1 ≤ rm∧rm ≤ 600∧(0 ≤ rm→rm ≤ room - 1)):=by
    refine loop_rule _ (fun x st'=>x = .exit 0∧∃(tt:List AVal) (rm:Int),st' = ⟨tt,G,false⟩∧tt.length = 43∧lkp tt 2 = .int .i64 rm∧-1 ≤ rm∧rm ≤ 600∧(0 ≤ rm→rm ≤ room - 1)) ?_
    rintro q st ⟨tt,i,rm,rfl,ht,e1,e2,e3,e7,hiq,hr1,hr2,hfit⟩
    generalize he:execW h.length Wd l45_0 _ = r
    rcases Nat.lt_or_ge i aS.length with hi | hi
    ·have c1:ilt (i:Int) (aS.length:Int) = true:=iltT (by omega)
     by_cases hrm:0 ≤ rm
     ·have c2:ile 0 rm = true:=ileT hrm
      have w:=wrap_succ (n:=i) (by omega)
      have wd:IntKind.i64.wrap (((d + 1:Nat):Int) - 1) = ((d:Nat):Int):=by rw [wrap_id (by omega) (by omega)];omega
      obtain ⟨r',hr',b1,b2,b3⟩:=ih (by omega) aS[i] rm hr1 hr2 G
      have hg:(aS.map tpV)[i]? = some (tpV aS[i]):=by rw [List.getElem?_map,List.getElem?_eq_getElem hi];rfl
      generalize aS[i] = y at hr' hg
      obtain ⟨k',as'⟩:=y
      rw [tpV_mk] at hr' hg
      have hx:ixaV 2 (.lst (aS.map tpV) .no) (.int .i64 (i:Nat)) = some (.iptr [.int .i64 k',.lst (as'.map tpV) .no] 0):=ixaV_get hg rfl
      simp only [l45_0,sT.1,sC.1,noApp,lookV,Nat.testBit,simprocAttr,-Int.reduceNatCast',ht,e1,e2,e3,e7,c1,c2,w,wd,hx,hbx,hr',List.length_map] at he
      subst he
      refine .inl ⟨_,q - 1,rfl,by omega,_,i + 1,r',rfl,by simp only [length_up,ht],?_,?_,?_,?_,by omega,b1,b2,fun h0=>by have:=b3 h0;have:=hfit hrm;omega⟩
      all_goals simp only [sT.1,sC.1,noApp,lookV,Nat.testBit,simprocAttr,-Int.reduceNatCast',ht,e1,e3]
     ·have c2:ile 0 rm = false:=ileF hrm
      simp only [l45_0,sT.1,sC.1,noApp,lookV,Nat.testBit,simprocAttr,-Int.reduceNatCast',ht,e1,e2,e3,e7,c1,c2,hbx,List.length_map] at he
      subst he
      exact .inr ⟨_,_,rfl,by simp,rfl,_,rm,rfl,by simp only [length_up,ht],by simp only [sT.1,sC.1,noApp,lookV,Nat.testBit,simprocAttr,-Int.reduceNatCast',ht,e2],hr1,hr2,fun h0=>absurd h0 hrm⟩
    ·have c1:ilt (i:Int) (aS.length:Int) = false:=iltF (by omega)
     simp only [l45_0,sT.1,sC.1,noApp,lookV,Nat.testBit,simprocAttr,-Int.reduceNatCast',ht,e1,e2,e3,e7,c1,hbx,List.length_map] at he
     subst he
     exact .inr ⟨_,_,rfl,by simp,rfl,_,rm,rfl,by simp only [length_up,ht],by simp only [sT.1,sC.1,noApp,lookV,Nat.testBit,simprocAttr,-Int.reduceNatCast',ht,e2],hr1,hr2,hfit⟩
   have wr:IntKind.i64.wrap (room - 1) = room - 1:=wrap_id (by omega) (by omega)
   simp only [c45,sT.1,sC.1,noApp,lookV,Nat.testBit,simprocAttr,-Int.reduceNatCast',z0,hc,Bool.false_or,List.length_map,wr] at hw
   generalize hr:execW h.length Wd (.loop l45_0) _ = r at hw
   obtain ⟨x,st',rfl,rfl,tt,rm,rfl,ht,e2,b1,b2,b3⟩:=known hr (loop aS.length _ ⟨_,0,room - 1,by rw [hG],by simp only [sT.1,sC.1,noApp,lookV,Nat.testBit,simprocAttr,-Int.reduceNatCast'],by simp only [sT.1,sC.1,noApp,lookV,Nat.testBit,simprocAttr,-Int.reduceNatCast'],by simp only [sT.1,sC.1,noApp,lookV,Nat.testBit,simprocAttr,-Int.reduceNatCast'],by simp only [sT.1,sC.1,noApp,lookV,Nat.testBit,simprocAttr,-Int.reduceNatCast'],by simp only [sT.1,sC.1,noApp,lookV,Nat.testBit,simprocAttr,-Int.reduceNatCast',Int.natCast_zero],by omega,by omega,by omega,fun _=>by omega⟩)
   simp only [sT.1,sC.1,noApp,lookV,Nat.testBit,simprocAttr,-Int.reduceNatCast',ht,e2] at hw
   subst hw
   exact ⟨rm,congrArg some (leave_cut htk rfl),b1,b2,fun h0=>by have:=b3 h0;omega⟩
def Go1 (e:Exl):Prop:=Fit 40 e∧sz 40 e ≤ 600
theorem sz_pos (d:Nat) (e:Exl):1 ≤ sz (d + 1) e:=by obtain ⟨_,_,_,_,_⟩:=e;rw [sz];omega
theorem e40 (e:Exl) {room:Int} (h1:-1 ≤ room) (h2:room ≤ 600) (h:List ABox):∃r:Int,Wd (.fn 28 [] []) [exV e,.int .i64 40,.int .i64 room] h = some (.ret (.int .i64 r),h,false)∧-1 ≤ r∧r ≤ 600∧(0 ≤ r→Go1 e∧r + 1 ≤ room):=by
 obtain ⟨r,e1,e2,e3,e4⟩:=expr_sz 40 (by omega) e room h1 h2 h
 have c:((40:Nat):Int) = 40:=by kernel_rfl
 rw [c] at e1
 exact ⟨r,e1,e2,e3,fun h0=>by have f:=e4 h0;have g:1 ≤ sz 40 e:=sz_pos 39 e;exact ⟨⟨f.1,by omega⟩,by omega⟩⟩
theorem k10 (e:Tp) {room:Int} (h1:-1 ≤ room) (h2:room ≤ 600) (h:List ABox):∃r:Int,Wd (.fn 45 [] []) [tpV e,.int .i64 10,.int .i64 room] h = some (.ret (.int .i64 r),h,false)∧-1 ≤ r∧r ≤ 600∧(0 ≤ r→r + 1 ≤ room):=by
 have:=kind_sz 10 (by omega) e room h1 h2 h
 have c:((10:Nat):Int) = 10:=by kernel_rfl
 rwa [c] at this
def StrN {α:Type} (l:List α):Prop:=l.length ≤ 9223372036854775807
set_option maxHeartbeats 1000000 in
theorem sets_sz {l:List SetD} (hl:StrN l) {room:Int} (h1:-1 ≤ room) (h2:room ≤ 600) (h:List ABox):∃r:Int,Wd (.fn 27 [] []) [.lst (l.map SetD.enc) .no,.int .i64 room] h = some (.ret (.int .i64 r),h,false)∧-1 ≤ r∧r ≤ 600∧(0 ≤ r→(∀s ∈ l,Go1 s.e)∧r + l.length ≤ room):=by
 have loop:∀q st,(∃(tt:List AVal) (i:Nat) (rm:Int),st = ⟨tt,h,false⟩∧tt.length = 24∧lkp tt 0 = .lst (l.map SetD.enc) .no∧lkp tt 1 = .int .i64 rm∧lkp tt 5 = .int .i64 (i:Nat)∧i + q = l.length∧-1 ≤ rm∧rm ≤ 600∧(0 ≤ rm→(∀s ∈ l.take i,Go1 s.e)∧rm + i ≤ room))→
   ∃x st',execW h.length Wd (.loop l27_0) st = some (x,st')∧(x = .exit 0∧∃(tt:List AVal) (rm:Int),st' = ⟨tt,h,false⟩∧tt.length = 24∧lkp tt 1 = .int .i64 rm∧-1 ≤ rm∧rm ≤ 600∧(0 ≤ rm→(∀s ∈ l,Go1 s.e)∧rm + l.length ≤ room)):=by
  refine loop_rule _ (fun x st'=>x = .exit 0∧∃(tt:List AVal) (rm:Int),st' = ⟨tt,h,false⟩∧tt.length = 24∧lkp tt 1 = .int .i64 rm∧-1 ≤ rm∧rm ≤ 600∧(0 ≤ rm→(∀s ∈ l,Go1 s.e)∧rm + l.length ≤ room)) ?_
  rintro q st ⟨tt,i,rm,rfl,ht,e0,e1,e5,hiq,hr1,hr2,hfit⟩
  generalize he:execW h.length Wd l27_0 _ = r
  rcases Nat.lt_or_ge i l.length with hi | hi
  ·have c1:ilt (i:Int) (l.length:Int) = true:=iltT (by omega)
   by_cases hrm:0 ≤ rm
   ·have c2:ile 0 rm = true:=ileT hrm
    have w:=wrap_succ (n:=i) (by have:=hl;unfold StrN at this;omega)
    obtain ⟨r',hr',b1,b2,b3⟩:=e40 l[i].e hr1 hr2 h
    have hfit2:0 ≤ r'→(∀s ∈ l.take (i + 1),Go1 s.e)∧r' + ((i + 1:Nat):Int) ≤ room:=fun h0=>by
     have f1:=hfit hrm
     have f2:=b3 h0
     rw [List.take_succ_eq_append_getElem hi]
     refine ⟨fun s hs=>?_,by omega⟩
     rcases List.mem_append.1 hs with hs | hs
     ·exact f1.1 s hs
     ·rw [List.mem_singleton] at hs
      subst hs
      first | exact f2.1 | trivial
    have hg:(l.map SetD.enc)[i]? = some (SetD.enc l[i]):=by rw [List.getElem?_map,List.getElem?_eq_getElem hi];rfl
    generalize l[i] = y at hr' hg
    obtain ⟨nm,op,n,m2,sb,aS⟩:=y
    rw [exV_mk] at hr'
    rw [SetD.enc,exC] at hg
    have hx:=ixaV_get (k:=6) (f:=.no) (j:=.i64) hg rfl
    change ixaV 6 (.lst (l.map SetD.enc) .no) _ = _ at hx
    simp only [l27_0,sT.1,sC.1,noApp,lookV,Nat.testBit,simprocAttr,-Int.reduceNatCast',ht,e0,e1,e5,c1,c2,w,hx,hr',List.length_map,AVal.cells] at he
    subst he
    refine .inl ⟨_,q - 1,rfl,by omega,_,i + 1,r',rfl,by simp only [length_up,ht],?_,?_,?_,by omega,b1,b2,hfit2⟩
    all_goals simp only [sT.1,sC.1,noApp,lookV,Nat.testBit,simprocAttr,-Int.reduceNatCast',ht,e0]
   ·have c2:ile 0 rm = false:=ileF hrm
    simp only [l27_0,sT.1,sC.1,noApp,lookV,Nat.testBit,simprocAttr,-Int.reduceNatCast',ht,e0,e1,e5,c1,c2,List.length_map] at he
    subst he
    exact .inr ⟨_,_,rfl,by simp,rfl,_,rm,rfl,by simp only [length_up,ht],by simp only [sT.1,sC.1,noApp,lookV,Nat.testBit,simprocAttr,-Int.reduceNatCast',ht,e1],hr1,hr2,fun h0=>absurd h0 hrm⟩
  ·have c1:ilt (i:Int) (l.length:Int) = false:=iltF (by omega)
   rw [List.take_of_length_le hi] at hfit
   simp only [l27_0,sT.1,sC.1,noApp,lookV,Nat.testBit,simprocAttr,-Int.reduceNatCast',ht,e0,e1,e5,c1,List.length_map] at he
   subst he
   exact .inr ⟨_,_,rfl,by simp,rfl,_,rm,rfl,by simp only [length_up,ht],by simp only [sT.1,sC.1,noApp,lookV,Nat.testBit,simprocAttr,-Int.reduceNatCast',ht,e1],hr1,hr2,fun h0=>⟨(hfit h0).1,by have:=(hfit h0).2;omega⟩⟩
 generalize hw:Wd _ _ h = w
 rw [Wd_fn rfl (show T.get 27 = some c27 by kernel_rfl)] at hw
 simp only [c27,sT.1,sC.1,noApp,lookV,Nat.testBit,simprocAttr,-Int.reduceNatCast'] at hw
 generalize hr:execW h.length Wd (.loop l27_0) _ = r at hw
 obtain ⟨x,st',rfl,rfl,tt,rm,rfl,ht,e1,b1,b2,b3⟩:=known hr (loop l.length _ ⟨_,0,room,rfl,by simp only [sT.1,sC.1,noApp,lookV,Nat.testBit,simprocAttr,-Int.reduceNatCast'],by simp only [sT.1,sC.1,noApp,lookV,Nat.testBit,simprocAttr,-Int.reduceNatCast'],by simp only [sT.1,sC.1,noApp,lookV,Nat.testBit,simprocAttr,-Int.reduceNatCast'],by simp only [sT.1,sC.1,noApp,lookV,Nat.testBit,simprocAttr,-Int.reduceNatCast',Int.natCast_zero],by omega,h1,h2,fun _=>⟨by simp,by omega⟩⟩)
 simp only [sT.1,sC.1,noApp,lookV,Nat.testBit,simprocAttr,-Int.reduceNatCast',ht,e1] at hw
 subst hw
 exact ⟨rm,rfl,b1,b2,b3⟩
set_option maxHeartbeats 1000000 in
theorem ports_sz {l:List PortD} (hl:StrN l) {room:Int} (h1:-1 ≤ room) (h2:room ≤ 600) (h:List ABox):∃r:Int,Wd (.fn 26 [] []) [.lst (l.map PortD.enc) .no,.int .i64 room] h = some (.ret (.int .i64 r),h,false)∧-1 ≤ r∧r ≤ 600∧(0 ≤ r→(∀s ∈ l,True)∧r + l.length ≤ room):=by
 have loop:∀q st,(∃(tt:List AVal) (i:Nat) (rm:Int),st = ⟨tt,h,false⟩∧tt.length = 24∧lkp tt 0 = .lst (l.map PortD.enc) .no∧lkp tt 1 = .int .i64 rm∧lkp tt 5 = .int .i64 (i:Nat)∧i + q = l.length∧-1 ≤ rm∧rm ≤ 600∧(0 ≤ rm→(∀s ∈ l.take i,True)∧rm + i ≤ room))→
   ∃x st',execW h.length Wd (.loop l26_0) st = some (x,st')∧(x = .exit 0∧∃(tt:List AVal) (rm:Int),st' = ⟨tt,h,false⟩∧tt.length = 24∧lkp tt 1 = .int .i64 rm∧-1 ≤ rm∧rm ≤ 600∧(0 ≤ rm→(∀s ∈ l,True)∧rm + l.length ≤ room)):=by
  refine loop_rule _ (fun x st'=>x = .exit 0∧∃(tt:List AVal) (rm:Int),st' = ⟨tt,h,false⟩∧tt.length = 24∧lkp tt 1 = .int .i64 rm∧-1 ≤ rm∧rm ≤ 600∧(0 ≤ rm→(∀s ∈ l,True)∧rm + l.length ≤ room)) ?_
  rintro q st ⟨tt,i,rm,rfl,ht,e0,e1,e5,hiq,hr1,hr2,hfit⟩
  generalize he:execW h.length Wd l26_0 _ = r
  rcases Nat.lt_or_ge i l.length with hi | hi
  ·have c1:ilt (i:Int) (l.length:Int) = true:=iltT (by omega)
   by_cases hrm:0 ≤ rm
   ·have c2:ile 0 rm = true:=ileT hrm
    have w:=wrap_succ (n:=i) (by have:=hl;unfold StrN at this;omega)
    obtain ⟨r',hr',b1,b2,b3⟩:=k10 l[i].t hr1 hr2 h
    have hfit2:0 ≤ r'→(∀s ∈ l.take (i + 1),True)∧r' + ((i + 1:Nat):Int) ≤ room:=fun h0=>by
     have f1:=hfit hrm
     have f2:=b3 h0
     rw [List.take_succ_eq_append_getElem hi]
     refine ⟨fun s hs=>?_,by omega⟩
     rcases List.mem_append.1 hs with hs | hs
     ·exact f1.1 s hs
     ·rw [List.mem_singleton] at hs
      subst hs
      first | exact f2.1 | trivial
    have hg:(l.map PortD.enc)[i]? = some (PortD.enc l[i]):=by rw [List.getElem?_map,List.getElem?_eq_getElem hi];rfl
    generalize l[i] = y at hr' hg
    obtain ⟨nm,k,aS⟩:=y
    rw [tpV_mk] at hr'
    rw [PortD.enc,Tp.enc,show (aS.map fun v=>AVal.agg v.enc) = aS.map tpV from rfl] at hg
    have hx:=ixaV_get (k:=3) (f:=.no) (j:=.i64) hg rfl
    change ixaV 3 (.lst (l.map PortD.enc) .no) _ = _ at hx
    simp only [l26_0,sT.1,sC.1,noApp,lookV,Nat.testBit,simprocAttr,-Int.reduceNatCast',ht,e0,e1,e5,c1,c2,w,hx,hr',List.length_map,AVal.cells] at he
    subst he
    refine .inl ⟨_,q - 1,rfl,by omega,_,i + 1,r',rfl,by simp only [length_up,ht],?_,?_,?_,by omega,b1,b2,hfit2⟩
    all_goals simp only [sT.1,sC.1,noApp,lookV,Nat.testBit,simprocAttr,-Int.reduceNatCast',ht,e0]
   ·have c2:ile 0 rm = false:=ileF hrm
    simp only [l26_0,sT.1,sC.1,noApp,lookV,Nat.testBit,simprocAttr,-Int.reduceNatCast',ht,e0,e1,e5,c1,c2,List.length_map] at he
    subst he
    exact .inr ⟨_,_,rfl,by simp,rfl,_,rm,rfl,by simp only [length_up,ht],by simp only [sT.1,sC.1,noApp,lookV,Nat.testBit,simprocAttr,-Int.reduceNatCast',ht,e1],hr1,hr2,fun h0=>absurd h0 hrm⟩
  ·have c1:ilt (i:Int) (l.length:Int) = false:=iltF (by omega)
   rw [List.take_of_length_le hi] at hfit
   simp only [l26_0,sT.1,sC.1,noApp,lookV,Nat.testBit,simprocAttr,-Int.reduceNatCast',ht,e0,e1,e5,c1,List.length_map] at he
   subst he
   exact .inr ⟨_,_,rfl,by simp,rfl,_,rm,rfl,by simp only [length_up,ht],by simp only [sT.1,sC.1,noApp,lookV,Nat.testBit,simprocAttr,-Int.reduceNatCast',ht,e1],hr1,hr2,fun h0=>⟨(hfit h0).1,by have:=(hfit h0).2;omega⟩⟩
 generalize hw:Wd _ _ h = w
 rw [Wd_fn rfl (show T.get 26 = some c26 by kernel_rfl)] at hw
 simp only [c26,sT.1,sC.1,noApp,lookV,Nat.testBit,simprocAttr,-Int.reduceNatCast'] at hw
 generalize hr:execW h.length Wd (.loop l26_0) _ = r at hw
 obtain ⟨x,st',rfl,rfl,tt,rm,rfl,ht,e1,b1,b2,b3⟩:=known hr (loop l.length _ ⟨_,0,room,rfl,by simp only [sT.1,sC.1,noApp,lookV,Nat.testBit,simprocAttr,-Int.reduceNatCast'],by simp only [sT.1,sC.1,noApp,lookV,Nat.testBit,simprocAttr,-Int.reduceNatCast'],by simp only [sT.1,sC.1,noApp,lookV,Nat.testBit,simprocAttr,-Int.reduceNatCast'],by simp only [sT.1,sC.1,noApp,lookV,Nat.testBit,simprocAttr,-Int.reduceNatCast',Int.natCast_zero],by omega,h1,h2,fun _=>⟨by simp,by omega⟩⟩)
 simp only [sT.1,sC.1,noApp,lookV,Nat.testBit,simprocAttr,-Int.reduceNatCast',ht,e1] at hw
 subst hw
 exact ⟨rm,rfl,b1,b2,b3⟩
end Go.Proofs.YtkmlapholimbcaaGreatDoor.AE
namespace Go.Proofs.YtkmlapholimbcaaGreatDoor.AE
open Go.AE
theorem sz_up:∀(d:Nat) (e:Exl),sz d e ≤ sz (d + 1) e:=by
 intro d
 induction d with
 | zero=>intro e;rw [sz];omega
 | succ d ih=>
  rintro ⟨op,n,nm,sb,aS⟩
  rw [sz,sz]
  have:(aS.map (sz d)).sum ≤ (aS.map (sz (d + 1))).sum:=by
   induction aS with
   | nil=>simp
   | cons a aS iha=>have:=ih a;simp only [List.map_cons,List.sum_cons];omega
  omega
theorem sz_le {d d':Nat} (h:d ≤ d') (e:Exl):sz d e ≤ sz d' e:=by
 induction h with
 | refl=>exact Nat.le_refl _
 | step _ ih=>exact Nat.le_trans ih (sz_up _ _)
def ExG (e:Exl):Prop:=Go1 e∧OkN e
theorem ExG.ok {e:Exl} (h:ExG e) (hr:right 20 e = true):ExOk e:=⟨hr,h.2,by have:=sz_le (show 20 ≤ 40 by omega) e;have:=h.1.2;omega⟩
structure ExprsM (Q:Exl→Prop) (m:ModelD):Prop where
 vars:∀s ∈ m.vars,Q s.e
 ta:∀e ∈ m.ta,Q e
 emits:∀x ∈ m.emits,Q x.e∧∀e ∈ x.ifs,Q e
 int:∀s ∈ m.int,Q s.e
 ext:∀s ∈ m.ext,Q s.e
 own:∀s ∈ m.own,Q s.e
 rules:∀r ∈ m.rules,Q r.e
structure SizesM (m:ModelD):Prop where
 ins:m.ins.length ≤ 600
 outs:m.outs.length ≤ 600
 vars:m.vars.length ≤ 600
 ta:m.ta.length ≤ 600
 emits:m.emits.length ≤ 600∧∀x ∈ m.emits,x.ifs.length ≤ 600
 int:m.int.length ≤ 600
 ext:m.ext.length ≤ 600
 own:m.own.length ≤ 600
 parts:m.parts.length ≤ 600
 links:m.links.length ≤ 600
 rules:m.rules.length ≤ 600∧∀r ∈ m.rules,r.acts.length ≤ 600
def ActsM (m:ModelD):Prop:=∀r ∈ m.rules,∀a ∈ r.acts,ActS a
theorem Go1.fit {e:Exl} (h:Go1 e):ExF e:=⟨40,h.1⟩
theorem modelS_of {m:ModelD} (hs:SizesM m) (he:ExprsM ExG m) (ha:ActsM m):ModelS m where
 ins:=by have:=hs.ins;omega
 outs:=by have:=hs.outs;omega
 vars:=⟨by have:=hs.vars;omega,fun s h=>(he.vars s h).1.fit⟩
 ta:=⟨by have:=hs.ta;omega,fun s h=>(he.ta s h).1.fit⟩
 emits:=⟨by have:=hs.emits.1;omega,fun x h=>⟨(he.emits x h).1.1.fit,by have:=hs.emits.2 x h;omega,fun e hx=>((he.emits x h).2 e hx).1.fit⟩⟩
 int:=⟨by have:=hs.int;omega,fun s h=>(he.int s h).1.fit⟩
 ext:=⟨by have:=hs.ext;omega,fun s h=>(he.ext s h).1.fit⟩
 own:=⟨by have:=hs.own;omega,fun s h=>(he.own s h).1.fit⟩
 parts:=by have:=hs.parts;omega
 links:=by have:=hs.links;omega
 rules:=⟨by have:=hs.rules.1;omega,fun r h=>⟨(he.rules r h).1.fit,by have:=hs.rules.2 r h;omega,ha r h⟩⟩
theorem name_len {s:Str} (h:isName s = true):s.length ≤ 16:=by
 simp only [isName,vName,Bool.and_eq_true,decide_eq_true_eq] at h
 exact h.1.1.2
theorem ile_le {a b:Int} (h:ile a b = true):a ≤ b:=by rw [ile_eq] at h;exact of_decide_eq_true h
theorem ilt_ge {a b:Int} (h:ilt a b = false):b ≤ a:=by rw [ilt_eq,decide_eq_false_iff_not] at h;omega
theorem setB_of {s:SetD} (h:setB s = true) (hg:ExG s.e):SetOk s:=by
 simp only [setB,Bool.and_eq_true] at h
 exact ⟨name_len h.1,hg.ok h.2⟩
theorem portB_of {s:PortD} (h:portB s = true):PortOk s:=by
 simp only [portB,Bool.and_eq_true] at h
 exact ⟨name_len h.1,h.2⟩
theorem emitB_of {x:EmitD} (h:emitB x = true) (hg:ExG x.e) (hi:∀e ∈ x.ifs,ExG e):EmitOk x:=by
 simp only [emitB,Bool.and_eq_true,List.all_eq_true] at h
 exact ⟨name_len h.1.1.1,hg.ok h.1.2,by have:=ile_le h.1.1.2;omega,fun e he=>(hi e he).ok (h.2 e he)⟩
theorem partB_of {s:PartD} (h:partB s = true):PartOk s:=by
 simp only [partB,Bool.and_eq_true] at h
 exact ⟨name_len h.1,name_len h.2⟩
theorem endB_of {s:EndD} (h:endB s = true):s.short:=by
 simp only [endB,Bool.and_eq_true,Bool.or_eq_true,beq_iff_eq] at h
 exact ⟨h.2.elim (fun e=>by rw [e];simp) name_len,name_len h.1⟩
theorem linkB_of {s:LinkD} (h:linkB s = true):LinkOk s:=by
 simp only [linkB,Bool.and_eq_true] at h
 exact ⟨endB_of h.1,endB_of h.2⟩
theorem actB_of {a:ActD} (h:actB a = true):a.short:=by
 unfold actB at h
 cases k0:a.kind == 0 with
 | true=>
  rw [k0,cond_true] at h
  simp only [Bool.and_eq_true] at h
  exact ⟨name_len h.1.1,name_len h.1.2,fun e=>absurd (by simpa using k0) e⟩
 | false=>
  rw [k0,cond_false] at h
  cases k1:a.kind == 1 with
  | true=>
   rw [k1,cond_true] at h
   simp only [Bool.and_eq_true,beq_iff_eq] at h
   exact ⟨name_len h.1.1,by rw [h.1.2];simp,fun _ e=>absurd (by simpa using k1) e⟩
  | false=>
   rw [k1,cond_false] at h
   simp only [Bool.and_eq_true,beq_iff_eq] at h
   have:=linkB_of h.2.2
   exact ⟨by rw [h.2.1.1];simp,by rw [h.2.1.2];simp,fun _ _=>this⟩
theorem ruleB_of {r:RuleD} (h:ruleB r = true) (hg:ExG r.e):RuleOk r∧r.acts.length ≤ 5:=by
 simp only [ruleB,Bool.and_eq_true,List.all_eq_true] at h
 have h5:=ile_le h.1.1
 exact ⟨⟨hg.ok h.1.2,by omega,fun a ha=>actB_of (h.2 a ha)⟩,by omega⟩
theorem len_nil {α:Type} {l:List α} (h:ilt 0 (l.length:Nat) = false):l = []:=List.length_eq_zero_iff.1 (by have:=ilt_ge h;omega)
theorem rules_sum {l:List RuleD} (h:∀r ∈ l,r.acts.length ≤ 5):(l.map fun r=>r.acts.length + 2).sum ≤ l.length * 7:=by
 induction l with
 | nil=>simp
 | cons r l ih=>
  have h1:=h r (by simp)
  have h2:=ih fun x hx=>h x (by simp [hx])
  simp only [List.map_cons,List.sum_cons,List.length_cons]
  omega
theorem okL_of {l:List SetD} (h:okL l = true) (hg:∀s ∈ l,ExG s.e):l.length ≤ 10∧∀s ∈ l,SetOk s:=by
 simp only [okL,Bool.and_eq_true,Bool.not_eq_true',List.all_eq_true] at h
 exact ⟨by have:=ilt_ge h.1;omega,fun s hs=>setB_of (h.2 s hs) (hg s hs)⟩
theorem modelB_of {m:ModelD} (h:modelB m = true) (he:ExprsM ExG m):ModelOk m:=by
 obtain ⟨nm,cp,ins,outs,vars,ta,emits,int,ext,con,own,parts,links,rules⟩:=m
 obtain ⟨e1,e2,e3,e4,e5,e6,e7⟩:=he
 simp only at e1 e2 e3 e4 e5 e6 e7
 simp only [modelB,Bool.and_eq_true,Bool.not_eq_true',Bool.or_eq_false_iff,Bool.not_eq_false',List.all_eq_true] at h
 obtain ⟨⟨hn,hi,ho⟩,⟨pi,po⟩,hb⟩:=h
 have hi:=ilt_ge hi
 have ho:=ilt_ge ho
 have pi:∀s ∈ ins,PortOk s:=fun s hs=>portB_of (pi s hs)
 have po:∀s ∈ outs,PortOk s:=fun s hs=>portB_of (po s hs)
 cases cp with
 | true=>
  rw [cond_true] at hb
  simp only [coupB,Bool.and_eq_true,Bool.not_eq_true',Bool.or_eq_false_iff,List.all_eq_true] at hb
  obtain ⟨⟨z1,z2,z3,_⟩,⟨z4,z5,z6⟩,p1,p2,p3,p4,p5,p6⟩:=hb
  obtain rfl:=len_nil z1
  obtain rfl:=len_nil z2
  obtain rfl:=len_nil z3
  obtain rfl:=len_nil z4
  obtain rfl:=len_nil z5
  obtain rfl:=len_nil z6
  have p1:=ile_le p1
  have p3:=ile_le p3
  have p5:=ile_le p5
  have hr:=fun r hr=>ruleB_of (p6 r hr) (e7 r hr)
  have hs:=rules_sum fun r h=>(hr r h).2
  exact ⟨name_len hn,⟨by simp only;omega,pi⟩,⟨by simp only;omega,po⟩,⟨by simp,by simp⟩,⟨by simp,by simp⟩,⟨by simp,by simp⟩,⟨by simp,by simp⟩,⟨by simp,by simp⟩,⟨by simp,by simp⟩,⟨by simp only;omega,fun s hs=>partB_of (p2 s hs)⟩,⟨by simp only;omega,fun s hs=>linkB_of (p4 s hs)⟩,⟨by simp only;omega,fun s hs=>(hr s hs).1⟩,by simp only [List.length_nil];omega⟩
 | false=>
  rw [cond_false] at hb
  simp only [atomB,Bool.and_eq_true,Bool.not_eq_true',Bool.or_eq_false_iff,List.all_eq_true,beq_iff_eq] at hb
  obtain ⟨⟨z1,z2,z3,_,_⟩,_,o1,o2,o3,o4,t1,t2,t3,t4⟩:=hb
  obtain rfl:=len_nil z1
  obtain rfl:=len_nil z2
  obtain rfl:=len_nil z3
  obtain ⟨l1,q1⟩:=okL_of o1 e1
  obtain ⟨l2,q2⟩:=okL_of o2 e4
  obtain ⟨l3,q3⟩:=okL_of o3 e5
  obtain ⟨l4,q4⟩:=okL_of o4 e6
  have t3:=ile_le t3
  exact ⟨name_len hn,⟨by simp only;omega,pi⟩,⟨by simp only;omega,po⟩,⟨by simp only;omega,q1⟩,⟨by simp only;omega,fun s hs=>(e2 s hs).ok (t2 s hs)⟩,⟨by simp only;omega,fun s hs=>emitB_of (t4 s hs) (e3 s hs).1 (e3 s hs).2⟩,⟨by simp only;omega,q2⟩,⟨by simp only;omega,q3⟩,⟨by simp only;omega,q4⟩,⟨by simp,by simp⟩,⟨by simp,by simp⟩,⟨by simp,by simp⟩,by simp only [List.length_nil,List.map_nil,List.sum_nil];omega⟩
theorem progB_of {p:ProgD} (h:progB p = true) (he:∀m ∈ p.models,ExprsM ExG m):ProgOk p:=by
 simp only [progB,Bool.and_eq_true,List.all_eq_true] at h
 exact ⟨⟨by have:=ile_le h.2.1;omega,fun m hm=>modelB_of (h.2.2.2 m hm) (he m hm)⟩,name_len h.2.2.1⟩
end Go.Proofs.YtkmlapholimbcaaGreatDoor.AE
namespace Go.Proofs.YtkmlapholimbcaaGreatDoor.AE
open Go.AE
structure Smr (P A:Nat) (i:Nat) (tt:List AVal):Prop where
 len:tt.length = 171
 r1:lkp tt 1 = .ptr P 0
 r4:lkp tt 4 = .int .i64 (i:Nat)
 r5:lkp tt 5 = .ptr A 0
section
variable {P A j:Nat} {G:List ABox} {m:ModelD}
set_option maxHeartbeats 2000000 in
theorem small_ta (hG:G[A]? = some (.cells m.cs)) (hn:StrN m.ta) {room:Int} :
  ∀q st,(∃(tt:List AVal) (i:Nat) (rm:Int),st = ⟨tt,G,false⟩∧Smr P A j tt∧lkp tt 3 = .int .i64 rm∧lkp tt 6 = .int .i64 (i:Nat)∧i + q = m.ta.length∧-1 ≤ rm∧rm ≤ 600∧(0 ≤ rm→(∀e ∈ m.ta.take i,Go1 e)∧rm + i ≤ room))→
   ∃x st',execW P Wd (.loop l13_0) st = some (x,st')∧(x = .exit 2∧∃(tt:List AVal) (rm:Int),st' = ⟨tt,G,false⟩∧Smr P A j tt∧lkp tt 3 = .int .i64 rm∧-1 ≤ rm∧rm ≤ 600∧(0 ≤ rm→(∀e ∈ m.ta,Go1 e)∧rm + m.ta.length ≤ room)):=by
 refine loop_rule _ (fun x st'=>x = .exit 2∧∃(tt:List AVal) (rm:Int),st' = ⟨tt,G,false⟩∧Smr P A j tt∧lkp tt 3 = .int .i64 rm∧-1 ≤ rm∧rm ≤ 600∧(0 ≤ rm→(∀e ∈ m.ta,Go1 e)∧rm + m.ta.length ≤ room)) ?_
 rintro q st ⟨tt,i,rm,rfl,⟨ht,e1,e4,e5⟩,e3,e6,hiq,hr1,hr2,hfit⟩
 have hA:=(List.getElem?_eq_some_iff.1 hG).1
 rw [ModelD.cs] at hG
 generalize he:execW P Wd l13_0 _ = r
 rcases Nat.lt_or_ge i m.ta.length with hi | hi
 ·have c1:ilt (i:Int) (m.ta.length:Int) = true:=iltT (by omega)
  by_cases hrm:0 ≤ rm
  ·have c2:ile 0 rm = true:=ileT hrm
   have w:=wrap_succ (n:=i) (by have:=hn;unfold StrN at this;omega)
   obtain ⟨r',hr',b1,b2,b3⟩:=e40 m.ta[i] hr1 hr2 G
   have hfit2:0 ≤ r'→(∀e ∈ m.ta.take (i + 1),Go1 e)∧r' + ((i + 1:Nat):Int) ≤ room:=fun h0=>by
    have f1:=hfit hrm
    have f2:=b3 h0
    rw [List.take_succ_eq_append_getElem hi]
    refine ⟨fun s hs=>?_,by omega⟩
    rcases List.mem_append.1 hs with hs | hs
    ·exact f1.1 s hs
    ·rw [List.mem_singleton] at hs
     subst hs
     exact f2.1
   have hg:(m.ta.map exV)[i]? = some (exV m.ta[i]):=by rw [List.getElem?_map,List.getElem?_eq_getElem hi];rfl
   generalize m.ta[i] = y at hr' hg
   obtain ⟨op,n,m2,sb,aS⟩:=y
   rw [exV_mk] at hr' hg
   have hx:ixaV 5 (.lst (m.ta.map exV) .no) (.int .i64 (i:Nat)) = some (.iptr [.int .i64 op,.int .i64 n,.str m2,.str sb,.lst (aS.map exV) .no] 0):=ixaV_get hg rfl
   simp only [l13_0,sT.1,sC.1,noApp,lookV,Nat.testBit,simprocAttr,-Int.reduceNatCast',ht,e1,e3,e4,e5,e6,c1,c2,w,hx,hG,hr',List.length_map] at he
   subst he
   refine .inl ⟨_,q - 1,rfl,by omega,_,i + 1,r',rfl,⟨by simp only [length_up,ht],?_,?_,?_⟩,?_,?_,by omega,b1,b2,hfit2⟩
   all_goals simp only [sT.1,sC.1,noApp,lookV,Nat.testBit,simprocAttr,-Int.reduceNatCast',ht,e1,e4,e5]
  ·have c2:ile 0 rm = false:=ileF hrm
   simp only [l13_0,sT.1,sC.1,noApp,lookV,Nat.testBit,simprocAttr,-Int.reduceNatCast',ht,e1,e3,e4,e5,e6,c1,c2,hG,List.length_map] at he
   subst he
   exact .inr ⟨_,_,rfl,by simp,rfl,_,rm,rfl,⟨by simp only [length_up,ht],by simp only [sT.1,sC.1,noApp,lookV,Nat.testBit,simprocAttr,-Int.reduceNatCast',ht,e1],by simp only [sT.1,sC.1,noApp,lookV,Nat.testBit,simprocAttr,-Int.reduceNatCast',ht,e4],by simp only [sT.1,sC.1,noApp,lookV,Nat.testBit,simprocAttr,-Int.reduceNatCast',ht,e5]⟩,by simp only [sT.1,sC.1,noApp,lookV,Nat.testBit,simprocAttr,-Int.reduceNatCast',ht,e3],hr1,hr2,fun h0=>absurd h0 hrm⟩
 ·have c1:ilt (i:Int) (m.ta.length:Int) = false:=iltF (by omega)
  rw [List.take_of_length_le hi] at hfit
  simp only [l13_0,sT.1,sC.1,noApp,lookV,Nat.testBit,simprocAttr,-Int.reduceNatCast',ht,e1,e3,e4,e5,e6,c1,hG,List.length_map] at he
  subst he
  exact .inr ⟨_,_,rfl,by simp,rfl,_,rm,rfl,⟨by simp only [length_up,ht],by simp only [sT.1,sC.1,noApp,lookV,Nat.testBit,simprocAttr,-Int.reduceNatCast',ht,e1],by simp only [sT.1,sC.1,noApp,lookV,Nat.testBit,simprocAttr,-Int.reduceNatCast',ht,e4],by simp only [sT.1,sC.1,noApp,lookV,Nat.testBit,simprocAttr,-Int.reduceNatCast',ht,e5]⟩,by simp only [sT.1,sC.1,noApp,lookV,Nat.testBit,simprocAttr,-Int.reduceNatCast',ht,e3],hr1,hr2,fun h0=>⟨(hfit h0).1,by have:=(hfit h0).2;omega⟩⟩
set_option maxHeartbeats 2000000 in
theorem small_ifs (hG:G[A]? = some (.cells m.cs)) {k:Nat} {pt:Str} {op n:Int} {m2 sb:Str} {aS:List AVal} {l:List Exl} (hx7:ixaV 7 (.lst (m.emits.map EmitD.enc) .no) (.int .i64 (k:Nat)) = some (.iptr [.str pt,.int .i64 op,.int .i64 n,.str m2,.str sb,.lst aS .no,.lst (l.map exV) .no] 0)) (hn:StrN l) {room:Int} :
  ∀q st,(∃(tt:List AVal) (i:Nat) (rm:Int),st = ⟨tt,G,false⟩∧Smr P A j tt∧lkp tt 3 = .int .i64 rm∧lkp tt 7 = .int .i64 (k:Nat)∧lkp tt 8 = .int .i64 (i:Nat)∧i + q = l.length∧-1 ≤ rm∧rm ≤ 600∧(0 ≤ rm→(∀e ∈ l.take i,Go1 e)∧rm + i ≤ room))→
   ∃x st',execW P Wd (.loop l13_1) st = some (x,st')∧(x = .exit 6∧∃(tt:List AVal) (rm:Int),st' = ⟨tt,G,false⟩∧Smr P A j tt∧lkp tt 3 = .int .i64 rm∧lkp tt 7 = .int .i64 (k:Nat)∧-1 ≤ rm∧rm ≤ 600∧(0 ≤ rm→(∀e ∈ l,Go1 e)∧rm + l.length ≤ room)):=by
 refine loop_rule _ (fun x st'=>x = .exit 6∧∃(tt:List AVal) (rm:Int),st' = ⟨tt,G,false⟩∧Smr P A j tt∧lkp tt 3 = .int .i64 rm∧lkp tt 7 = .int .i64 (k:Nat)∧-1 ≤ rm∧rm ≤ 600∧(0 ≤ rm→(∀e ∈ l,Go1 e)∧rm + l.length ≤ room)) ?_
 rintro q st ⟨tt,i,rm,rfl,⟨ht,e1,e4,e5⟩,e3,e7,e8,hiq,hr1,hr2,hfit⟩
 have hA:=(List.getElem?_eq_some_iff.1 hG).1
 rw [ModelD.cs] at hG
 generalize he:execW P Wd l13_1 _ = r
 rcases Nat.lt_or_ge i l.length with hi | hi
 ·have c1:ilt (i:Int) (l.length:Int) = true:=iltT (by omega)
  by_cases hrm:0 ≤ rm
  ·have c2:ile 0 rm = true:=ileT hrm
   have w:=wrap_succ (n:=i) (by have:=hn;unfold StrN at this;omega)
   obtain ⟨r',hr',b1,b2,b3⟩:=e40 l[i] hr1 hr2 G
   have hfit2:0 ≤ r'→(∀e ∈ l.take (i + 1),Go1 e)∧r' + ((i + 1:Nat):Int) ≤ room:=fun h0=>by
    have f1:=hfit hrm
    have f2:=b3 h0
    rw [List.take_succ_eq_append_getElem hi]
    refine ⟨fun s hs=>?_,by omega⟩
    rcases List.mem_append.1 hs with hs | hs
    ·exact f1.1 s hs
    ·rw [List.mem_singleton] at hs
     subst hs
     exact f2.1
   have hg:(l.map exV)[i]? = some (exV l[i]):=by rw [List.getElem?_map,List.getElem?_eq_getElem hi];rfl
   generalize l[i] = y at hr' hg
   obtain ⟨op,n,m2,sb,aS⟩:=y
   rw [exV_mk] at hr' hg
   have hx:ixaV 5 (.lst (l.map exV) .no) (.int .i64 (i:Nat)) = some (.iptr [.int .i64 op,.int .i64 n,.str m2,.str sb,.lst (aS.map exV) .no] 0):=ixaV_get hg rfl
   simp only [l13_1,sT.1,sC.1,noApp,lookV,Nat.testBit,simprocAttr,-Int.reduceNatCast',ht,e1,e3,e4,e5,e7,e8,c1,c2,w,hx,hx7,hG,hr',List.length_map] at he
   subst he
   refine .inl ⟨_,q - 1,rfl,by omega,_,i + 1,r',rfl,⟨by simp only [length_up,ht],?_,?_,?_⟩,?_,?_,?_,by omega,b1,b2,hfit2⟩
   all_goals simp only [sT.1,sC.1,noApp,lookV,Nat.testBit,simprocAttr,-Int.reduceNatCast',ht,e1,e4,e5,e7]
  ·have c2:ile 0 rm = false:=ileF hrm
   simp only [l13_1,sT.1,sC.1,noApp,lookV,Nat.testBit,simprocAttr,-Int.reduceNatCast',ht,e1,e3,e4,e5,e7,e8,c1,c2,hx7,hG,List.length_map] at he
   subst he
   exact .inr ⟨_,_,rfl,by simp,rfl,_,rm,rfl,⟨by simp only [length_up,ht],by simp only [sT.1,sC.1,noApp,lookV,Nat.testBit,simprocAttr,-Int.reduceNatCast',ht,e1],by simp only [sT.1,sC.1,noApp,lookV,Nat.testBit,simprocAttr,-Int.reduceNatCast',ht,e4],by simp only [sT.1,sC.1,noApp,lookV,Nat.testBit,simprocAttr,-Int.reduceNatCast',ht,e5]⟩,by simp only [sT.1,sC.1,noApp,lookV,Nat.testBit,simprocAttr,-Int.reduceNatCast',ht,e3],by simp only [sT.1,sC.1,noApp,lookV,Nat.testBit,simprocAttr,-Int.reduceNatCast',ht,e7],hr1,hr2,fun h0=>absurd h0 hrm⟩
 ·have c1:ilt (i:Int) (l.length:Int) = false:=iltF (by omega)
  rw [List.take_of_length_le hi] at hfit
  simp only [l13_1,sT.1,sC.1,noApp,lookV,Nat.testBit,simprocAttr,-Int.reduceNatCast',ht,e1,e3,e4,e5,e7,e8,c1,hx7,hG,List.length_map] at he
  subst he
  exact .inr ⟨_,_,rfl,by simp,rfl,_,rm,rfl,⟨by simp only [length_up,ht],by simp only [sT.1,sC.1,noApp,lookV,Nat.testBit,simprocAttr,-Int.reduceNatCast',ht,e1],by simp only [sT.1,sC.1,noApp,lookV,Nat.testBit,simprocAttr,-Int.reduceNatCast',ht,e4],by simp only [sT.1,sC.1,noApp,lookV,Nat.testBit,simprocAttr,-Int.reduceNatCast',ht,e5]⟩,by simp only [sT.1,sC.1,noApp,lookV,Nat.testBit,simprocAttr,-Int.reduceNatCast',ht,e3],by simp only [sT.1,sC.1,noApp,lookV,Nat.testBit,simprocAttr,-Int.reduceNatCast',ht,e7],hr1,hr2,fun h0=>⟨(hfit h0).1,by have:=(hfit h0).2;omega⟩⟩
set_option maxHeartbeats 2000000 in
theorem small_rules (hG:G[A]? = some (.cells m.cs)) (hn:StrN m.rules) {room:Int} :
  ∀q st,(∃(tt:List AVal) (i:Nat) (rm:Int),st = ⟨tt,G,false⟩∧Smr P A j tt∧lkp tt 3 = .int .i64 rm∧lkp tt 9 = .int .i64 (i:Nat)∧i + q = m.rules.length∧-1 ≤ rm∧rm ≤ 600∧(0 ≤ rm→(∀r ∈ m.rules.take i,Go1 r.e∧r.acts.length ≤ 100)∧rm + i ≤ room))→
   ∃x st',execW P Wd (.loop l13_3) st = some (x,st')∧((x = .exit 8∧∃(tt:List AVal) (rm:Int),st' = ⟨tt,G,false⟩∧Smr P A j tt∧lkp tt 3 = .int .i64 rm∧-1 ≤ rm∧rm ≤ 600∧(0 ≤ rm→(∀r ∈ m.rules,Go1 r.e∧r.acts.length ≤ 100)∧rm + m.rules.length ≤ room))∨(x = .ret∧∃tt,st' = ⟨tt,G,false⟩∧tt.length = 171∧lkp tt 2 = .int .i64 0)):=by
 refine loop_rule _ (fun x st'=>(x = .exit 8∧∃(tt:List AVal) (rm:Int),st' = ⟨tt,G,false⟩∧Smr P A j tt∧lkp tt 3 = .int .i64 rm∧-1 ≤ rm∧rm ≤ 600∧(0 ≤ rm→(∀r ∈ m.rules,Go1 r.e∧r.acts.length ≤ 100)∧rm + m.rules.length ≤ room))∨(x = .ret∧∃tt,st' = ⟨tt,G,false⟩∧tt.length = 171∧lkp tt 2 = .int .i64 0)) ?_
 rintro q st ⟨tt,i,rm,rfl,⟨ht,e1,e4,e5⟩,e3,e9,hiq,hr1,hr2,hfit⟩
 have hA:=(List.getElem?_eq_some_iff.1 hG).1
 rw [ModelD.cs] at hG
 generalize he:execW P Wd l13_3 _ = r
 rcases Nat.lt_or_ge i m.rules.length with hi | hi
 ·have c1:ilt (i:Int) (m.rules.length:Int) = true:=iltT (by omega)
  by_cases hrm:0 ≤ rm
  ·have c2:ile 0 rm = true:=ileT hrm
   have w:=wrap_succ (n:=i) (by have:=hn;unfold StrN at this;omega)
   obtain ⟨r',hr',b1,b2,b3⟩:=e40 m.rules[i].e hr1 hr2 G
   have hfit2:0 ≤ r'→m.rules[i].acts.length ≤ 100→(∀r ∈ m.rules.take (i + 1),Go1 r.e∧r.acts.length ≤ 100)∧r' + ((i + 1:Nat):Int) ≤ room:=fun h0 ha=>by
    have f1:=hfit hrm
    have f2:=b3 h0
    rw [List.take_succ_eq_append_getElem hi]
    refine ⟨fun s hs=>?_,by omega⟩
    rcases List.mem_append.1 hs with hs | hs
    ·exact f1.1 s hs
    ·rw [List.mem_singleton] at hs
     subst hs
     exact ⟨f2.1,ha⟩
   have hg:(m.rules.map RuleD.enc)[i]? = some m.rules[i].enc:=by rw [List.getElem?_map,List.getElem?_eq_getElem hi];rfl
   generalize m.rules[i] = y at hr' hg hfit2
   obtain ⟨⟨op,n,m2,sb,aS⟩,acts⟩:=y
   rw [exV_mk] at hr'
   rw [RuleD.enc,exC] at hg
   have hx:=ixaV_get (k:=6) (f:=.no) (j:=.i64) hg rfl
   change ixaV 6 (.lst (m.rules.map RuleD.enc) .no) _ = _ at hx
   cases c3:ilt 100 (acts.length:Nat) with
   | true=>
    simp only [l13_3,sT.1,sC.1,noApp,lookV,Nat.testBit,simprocAttr,-Int.reduceNatCast',ht,e1,e3,e4,e5,e9,c1,c2,c3,w,hx,hG,hr',List.length_map,AVal.cells] at he
    subst he
    exact .inr ⟨_,_,rfl,by simp,.inr ⟨rfl,_,rfl,by simp only [length_up,ht],by simp only [sT.1,sC.1,noApp,lookV,Nat.testBit,simprocAttr,-Int.reduceNatCast',ht]⟩⟩
   | false=>
    have ha:=ilt_ge c3
    simp only [l13_3,sT.1,sC.1,noApp,lookV,Nat.testBit,simprocAttr,-Int.reduceNatCast',ht,e1,e3,e4,e5,e9,c1,c2,c3,w,hx,hG,hr',List.length_map,AVal.cells] at he
    subst he
    refine .inl ⟨_,q - 1,rfl,by omega,_,i + 1,r',rfl,⟨by simp only [length_up,ht],?_,?_,?_⟩,?_,?_,by omega,b1,b2,fun h0=>hfit2 h0 (by simp only;omega)⟩
    all_goals simp only [sT.1,sC.1,noApp,lookV,Nat.testBit,simprocAttr,-Int.reduceNatCast',ht,e1,e4,e5]
  ·have c2:ile 0 rm = false:=ileF hrm
   simp only [l13_3,sT.1,sC.1,noApp,lookV,Nat.testBit,simprocAttr,-Int.reduceNatCast',ht,e1,e3,e4,e5,e9,c1,c2,hG,List.length_map] at he
   subst he
   exact .inr ⟨_,_,rfl,by simp,.inl ⟨rfl,_,rm,rfl,⟨by simp only [length_up,ht],by simp only [sT.1,sC.1,noApp,lookV,Nat.testBit,simprocAttr,-Int.reduceNatCast',ht,e1],by simp only [sT.1,sC.1,noApp,lookV,Nat.testBit,simprocAttr,-Int.reduceNatCast',ht,e4],by simp only [sT.1,sC.1,noApp,lookV,Nat.testBit,simprocAttr,-Int.reduceNatCast',ht,e5]⟩,by simp only [sT.1,sC.1,noApp,lookV,Nat.testBit,simprocAttr,-Int.reduceNatCast',ht,e3],hr1,hr2,fun h0=>absurd h0 hrm⟩⟩
 ·have c1:ilt (i:Int) (m.rules.length:Int) = false:=iltF (by omega)
  rw [List.take_of_length_le hi] at hfit
  simp only [l13_3,sT.1,sC.1,noApp,lookV,Nat.testBit,simprocAttr,-Int.reduceNatCast',ht,e1,e3,e4,e5,e9,c1,hG,List.length_map] at he
  subst he
  exact .inr ⟨_,_,rfl,by simp,.inl ⟨rfl,_,rm,rfl,⟨by simp only [length_up,ht],by simp only [sT.1,sC.1,noApp,lookV,Nat.testBit,simprocAttr,-Int.reduceNatCast',ht,e1],by simp only [sT.1,sC.1,noApp,lookV,Nat.testBit,simprocAttr,-Int.reduceNatCast',ht,e4],by simp only [sT.1,sC.1,noApp,lookV,Nat.testBit,simprocAttr,-Int.reduceNatCast',ht,e5]⟩,by simp only [sT.1,sC.1,noApp,lookV,Nat.testBit,simprocAttr,-Int.reduceNatCast',ht,e3],hr1,hr2,fun h0=>⟨(hfit h0).1,by have:=(hfit h0).2;omega⟩⟩⟩
end
end Go.Proofs.YtkmlapholimbcaaGreatDoor.AE
namespace Go.Proofs.YtkmlapholimbcaaGreatDoor.AE
open Go.AE
section
variable {P A j:Nat} {G:List ABox} {m:ModelD}
def EmitG (x:EmitD):Prop:=Go1 x.e∧(∀e ∈ x.ifs,Go1 e)∧x.ifs.length ≤ 600
set_option maxHeartbeats 2000000 in
theorem small_emits (hG:G[A]? = some (.cells m.cs)) (hn:StrN m.emits) (hi2:∀x ∈ m.emits,StrN x.ifs) {room:Int} (hroom:room ≤ 600) :
  ∀q st,(∃(tt:List AVal) (i:Nat) (rm:Int),st = ⟨tt,G,false⟩∧Smr P A j tt∧lkp tt 3 = .int .i64 rm∧lkp tt 7 = .int .i64 (i:Nat)∧i + q = m.emits.length∧-1 ≤ rm∧rm ≤ 600∧(0 ≤ rm→(∀x ∈ m.emits.take i,EmitG x)∧rm + i ≤ room))→
   ∃x st',execW P Wd (.loop l13_2) st = some (x,st')∧(x = .exit 4∧∃(tt:List AVal) (rm:Int),st' = ⟨tt,G,false⟩∧Smr P A j tt∧lkp tt 3 = .int .i64 rm∧-1 ≤ rm∧rm ≤ 600∧(0 ≤ rm→(∀x ∈ m.emits,EmitG x)∧rm + m.emits.length ≤ room)):=by
 refine loop_rule _ (fun x st'=>x = .exit 4∧∃(tt:List AVal) (rm:Int),st' = ⟨tt,G,false⟩∧Smr P A j tt∧lkp tt 3 = .int .i64 rm∧-1 ≤ rm∧rm ≤ 600∧(0 ≤ rm→(∀x ∈ m.emits,EmitG x)∧rm + m.emits.length ≤ room)) ?_
 rintro q st ⟨tt,i,rm,rfl,⟨ht,e1,e4,e5⟩,e3,e7,hiq,hr1,hr2,hfit⟩
 have hA:=(List.getElem?_eq_some_iff.1 hG).1
 have hG':=hG
 rw [ModelD.cs] at hG
 generalize he:execW P Wd l13_2 _ = r
 rcases Nat.lt_or_ge i m.emits.length with hi | hi
 ·have c1:ilt (i:Int) (m.emits.length:Int) = true:=iltT (by omega)
  by_cases hrm:0 ≤ rm
  ·have c2:ile 0 rm = true:=ileT hrm
   have w:=wrap_succ (n:=i) (by have:=hn;unfold StrN at this;omega)
   have hni:=hi2 m.emits[i] (List.getElem_mem hi)
   obtain ⟨r',hr',b1,b2,b3⟩:=e40 m.emits[i].e hr1 hr2 G
   have hstep:∀r'':Int,(0 ≤ r''→(∀e ∈ m.emits[i].ifs,Go1 e)∧r'' + m.emits[i].ifs.length ≤ r')→(0 ≤ r''→(∀x ∈ m.emits.take (i + 1),EmitG x)∧r'' + ((i + 1:Nat):Int) ≤ room):=fun r'' hq h0=>by
    have f1:=hfit hrm
    have f3:=hq h0
    have f2:=b3 (by omega)
    rw [List.take_succ_eq_append_getElem hi]
    refine ⟨fun s hs=>?_,by omega⟩
    rcases List.mem_append.1 hs with hs | hs
    ·exact f1.1 s hs
    ·rw [List.mem_singleton] at hs
     subst hs
     exact ⟨f2.1,f3.1,by omega⟩
   have hg:(m.emits.map EmitD.enc)[i]? = some m.emits[i].enc:=by rw [List.getElem?_map,List.getElem?_eq_getElem hi];rfl
   generalize m.emits[i] = y at hr' hg hstep hni
   obtain ⟨pt,⟨op,n,m2,sb,aS⟩,ifs⟩:=y
   rw [exV_mk] at hr'
   rw [EmitD.enc,exC] at hg
   have hx:=ixaV_get (k:=7) (f:=.no) (j:=.i64) hg rfl
   change ixaV 7 (.lst (m.emits.map EmitD.enc) .no) _ = _ at hx
   simp only [AVal.cells,List.cons_append,List.nil_append] at hx
   simp only [l13_2,sT.1,sC.1,noApp,lookV,Nat.testBit,simprocAttr,-Int.reduceNatCast',ht,e1,e3,e4,e5,e7,c1,c2,w,hx,hG,hr',List.length_map] at he
   generalize hr:execW P Wd (.loop l13_1) _ = r2 at he
   obtain ⟨x,st',rfl,rfl,tt2,rm2,rfl,⟨ht2,f1,f4,f5⟩,f3,f7,d1,d2,d3⟩:=known hr (small_ifs (j:=j) (m:=m) hG' hx hni (room:=r') ifs.length _ ⟨_,0,r',rfl,⟨by simp only [length_up,ht],by simp only [sT.1,sC.1,noApp,lookV,Nat.testBit,simprocAttr,-Int.reduceNatCast',ht,e1],by simp only [sT.1,sC.1,noApp,lookV,Nat.testBit,simprocAttr,-Int.reduceNatCast',ht,e4],by simp only [sT.1,sC.1,noApp,lookV,Nat.testBit,simprocAttr,-Int.reduceNatCast',ht,e5]⟩,by simp only [sT.1,sC.1,noApp,lookV,Nat.testBit,simprocAttr,-Int.reduceNatCast',ht],by simp only [sT.1,sC.1,noApp,lookV,Nat.testBit,simprocAttr,-Int.reduceNatCast',ht,e7],by simp only [sT.1,sC.1,noApp,lookV,Nat.testBit,simprocAttr,-Int.reduceNatCast',ht,Int.natCast_zero],by omega,b1,b2,fun _=>⟨by simp,by omega⟩⟩)
   simp only [sT.1,sC.1,noApp,lookV,Nat.testBit,simprocAttr,-Int.reduceNatCast',ht2,f1,f3,f4,f5,f7,w] at he
   subst he
   refine .inl ⟨_,q - 1,rfl,by omega,_,i + 1,rm2,rfl,⟨by simp only [length_up,ht2],?_,?_,?_⟩,?_,?_,by omega,d1,d2,hstep rm2 d3⟩
   all_goals simp only [sT.1,sC.1,noApp,lookV,Nat.testBit,simprocAttr,-Int.reduceNatCast',ht2,f1,f3,f4,f5]
  ·have c2:ile 0 rm = false:=ileF hrm
   simp only [l13_2,sT.1,sC.1,noApp,lookV,Nat.testBit,simprocAttr,-Int.reduceNatCast',ht,e1,e3,e4,e5,e7,c1,c2,hG,List.length_map] at he
   subst he
   exact .inr ⟨_,_,rfl,by simp,rfl,_,rm,rfl,⟨by simp only [length_up,ht],by simp only [sT.1,sC.1,noApp,lookV,Nat.testBit,simprocAttr,-Int.reduceNatCast',ht,e1],by simp only [sT.1,sC.1,noApp,lookV,Nat.testBit,simprocAttr,-Int.reduceNatCast',ht,e4],by simp only [sT.1,sC.1,noApp,lookV,Nat.testBit,simprocAttr,-Int.reduceNatCast',ht,e5]⟩,by simp only [sT.1,sC.1,noApp,lookV,Nat.testBit,simprocAttr,-Int.reduceNatCast',ht,e3],hr1,hr2,fun h0=>absurd h0 hrm⟩
 ·have c1:ilt (i:Int) (m.emits.length:Int) = false:=iltF (by omega)
  rw [List.take_of_length_le hi] at hfit
  simp only [l13_2,sT.1,sC.1,noApp,lookV,Nat.testBit,simprocAttr,-Int.reduceNatCast',ht,e1,e3,e4,e5,e7,c1,hG,List.length_map] at he
  subst he
  exact .inr ⟨_,_,rfl,by simp,rfl,_,rm,rfl,⟨by simp only [length_up,ht],by simp only [sT.1,sC.1,noApp,lookV,Nat.testBit,simprocAttr,-Int.reduceNatCast',ht,e1],by simp only [sT.1,sC.1,noApp,lookV,Nat.testBit,simprocAttr,-Int.reduceNatCast',ht,e4],by simp only [sT.1,sC.1,noApp,lookV,Nat.testBit,simprocAttr,-Int.reduceNatCast',ht,e5]⟩,by simp only [sT.1,sC.1,noApp,lookV,Nat.testBit,simprocAttr,-Int.reduceNatCast',ht,e3],hr1,hr2,fun h0=>⟨(hfit h0).1,by have:=(hfit h0).2;omega⟩⟩
end
end Go.Proofs.YtkmlapholimbcaaGreatDoor.AE
namespace Go.Proofs.YtkmlapholimbcaaGreatDoor.AE
open Go.AE
structure NumM (m:ModelD):Prop where
 ins:StrN m.ins
 outs:StrN m.outs
 vars:StrN m.vars
 ta:StrN m.ta
 emits:StrN m.emits∧∀x ∈ m.emits,StrN x.ifs
 int:StrN m.int
 ext:StrN m.ext
 own:StrN m.own
 rules:StrN m.rules
def MG (m:ModelD):Prop:=SizesM m∧ExprsM Go1 m
section
variable {h:List ABox}
set_option maxHeartbeats 4000000 in
theorem small_loop {l:List ModelD} (hl:l.length ≤ 60) (hN:∀m ∈ l,NumM m) {root:Str} :
  ∀q st,(∃(tt:List AVal) (i:Nat) (rm:Int) (junk:List ABox),st = ⟨tt,h ++ .cells [.lst (l.map ModelD.enc) .no,.str root] :: junk,false⟩∧tt.length = 171∧lkp tt 1 = .ptr h.length 0∧lkp tt 3 = .int .i64 rm∧lkp tt 4 = .int .i64 (i:Nat)∧i + q = l.length∧-1 ≤ rm∧rm ≤ 600∧(0 ≤ rm→∀m ∈ l.take i,MG m))→
   ∃x st',execW h.length Wd (.loop l13_4) st = some (x,st')∧(∃(tt:List AVal) (junk:List ABox),st' = ⟨tt,h ++ .cells [.lst (l.map ModelD.enc) .no,.str root] :: junk,false⟩∧tt.length = 171∧((x = .exit 0∧∃rm:Int,lkp tt 3 = .int .i64 rm∧(0 ≤ rm→∀m ∈ l,MG m))∨(x = .ret∧lkp tt 2 = .int .i64 0))):=by
 refine loop_rule _ (fun x st'=>∃(tt:List AVal) (junk:List ABox),st' = ⟨tt,h ++ .cells [.lst (l.map ModelD.enc) .no,.str root] :: junk,false⟩∧tt.length = 171∧((x = .exit 0∧∃rm:Int,lkp tt 3 = .int .i64 rm∧(0 ≤ rm→∀m ∈ l,MG m))∨(x = .ret∧lkp tt 2 = .int .i64 0))) ?_
 rintro q st ⟨tt,i,rm,junk,rfl,ht,e1,e3,e4,hiq,hr1,hr2,hfit⟩
 generalize he:execW h.length Wd l13_4 _ = r
 obtain ⟨pb,hpb⟩ :∃pb,pb = ABox.cells [.lst (l.map ModelD.enc) .no,.str root]:=⟨_,rfl⟩
 rcases Nat.lt_or_ge i l.length with hi | hi
 ·have c1:ilt (i:Int) (l.length:Int) = true:=iltT (by omega)
  by_cases hrm:0 ≤ rm
  ·have c2:ile 0 rm = true:=ileT hrm
   have w:=wrap_succ (n:=i) (by omega)
   have wr:IntKind.i64.wrap (rm - 1) = rm - 1:=wrap_id (by omega) (by omega)
   have hM:=hN l[i] (List.getElem_mem hi)
   have hg:(l.map ModelD.enc)[i]? = some l[i].enc:=by rw [List.getElem?_map,List.getElem?_eq_getElem hi];rfl
   have hstep:MG l[i]→∀m ∈ l.take (i + 1),MG m:=fun h0=>by
    rw [List.take_succ_eq_append_getElem hi]
    intro s hs
    rcases List.mem_append.1 hs with hs | hs
    ·exact hfit hrm s hs
    ·rw [List.mem_singleton] at hs
     subst hs
     exact h0
   generalize l[i] = m at hM hg hstep
   obtain ⟨G,hG⟩ :∃G,G = h ++ .cells [.lst (l.map ModelD.enc) .no,.str root] :: (junk ++ [.cells m.cs]):=⟨_,rfl⟩
   have hA:G[h.length + (junk.length + 1)]? = some (.cells m.cs):=by rw [hG,get_past];simp
   obtain ⟨r1,x1,y1,z1,f1⟩:=ports_sz hM.ins (show -1 ≤ rm - 1 by omega) (by omega) G
   obtain ⟨r2,x2,y2,z2,f2⟩:=ports_sz hM.outs y1 z1 G
   obtain ⟨r3,x3,y3,z3,f3⟩:=sets_sz hM.vars y2 z2 G
   obtain ⟨r4,x4,y4,z4,f4⟩:=sets_sz hM.int y3 z3 G
   obtain ⟨r5,x5,y5,z5,f5⟩:=sets_sz hM.ext y4 z4 G
   obtain ⟨r6,x6,y6,z6,f6⟩:=sets_sz hM.own y5 z5 G
   have L0:=small_ta (P:=h.length) (A:=h.length + (junk.length + 1)) (j:=i) hA hM.ta (room:=r6)
   have L2:=fun r7 (z:r7 ≤ 600)=>small_emits (P:=h.length) (A:=h.length + (junk.length + 1)) (j:=i) hA hM.emits.1 hM.emits.2 (room:=r7) z
   have L3:=fun r8=>small_rules (P:=h.length) (A:=h.length + (junk.length + 1)) (j:=i) hA hM.rules (room:=r8)
   have hb1:Nat.ble h.length (h.length + (junk.length + 1)) = true:=ble_true (by omega)
   have hln:∀b:ABox,(h ++ b :: junk).length = h.length + (junk.length + 1):=fun b=>by simp
   obtain ⟨nm,cp,ins,outs,vars,ta,emits,int,ext,con,own,parts,links,rules⟩:=m
   rw [ModelD.enc] at hg
   simp only [ModelD.cs] at hg hA hG L0 L2 L3
   have hx:=ixaV_get (k:=14) (f:=.no) (j:=.i64) hg rfl
   change ixaV 14 (.lst (l.map ModelD.enc) .no) _ = _ at hx
   simp only [AVal.cells] at hx
   simp only at x1 x2 x3 x4 x5 x6 f1 f2 f3 f4 f5 f6
   rw [hG] at x1 x2 x3 x4 x5 x6 L0 L2 L3
   cases c5:(ilt 100 (parts.length:Nat) || (ilt 300 (links.length:Nat) || (ilt 100 (rules.length:Nat) || (ilt 100 (emits.length:Nat) || ilt 100 (ta.length:Nat))))) with
   | true=>
    simp only [l13_4,sT.1,sC.1,sTA.1,sCA.1,noApp,provA,provE,Src.isTmp,provOf,Src.hangs,AOpd.isT,srcOf,lookV,Nat.testBit,bne,simprocAttr,-Int.reduceNatCast',ht,e1,e3,e4,c1,c2,hx,hln,hb1,c5,Bool.or_assoc,Bool.true_or,List.append_assoc,List.length_map] at he
    subst he
    exact .inr ⟨_,_,rfl,by simp,_,_,rfl,by simp only [length_up,ht],.inr ⟨rfl,by simp only [sT.1,sC.1,sTA.1,sCA.1,noApp,provA,provE,Src.isTmp,provOf,Src.hangs,AOpd.isT,srcOf,lookV,Nat.testBit,bne,simprocAttr,-Int.reduceNatCast',ht]⟩⟩
   | false=>
    simp only [l13_4,sT.1,sC.1,sTA.1,sCA.1,noApp,provA,provE,Src.isTmp,provOf,Src.hangs,AOpd.isT,srcOf,lookV,Nat.testBit,bne,simprocAttr,-Int.reduceNatCast',ht,e1,e3,e4,c1,c2,w,wr,hx,hln,hb1,c5,x1,x2,x3,x4,x5,x6,Bool.or_assoc,Bool.true_or,List.append_assoc,List.length_map] at he
    generalize hq:execW h.length Wd (.loop l13_0) _ = q1 at he
    obtain ⟨x,st',rfl,rfl,t1,r7,rfl,⟨ht1,g1,g4,g5⟩,g3,y7,z7,f7⟩:=known hq (L0 ta.length _ ⟨_,0,r6,rfl,⟨by simp only [length_up,ht],by simp only [sT.1,sC.1,sTA.1,sCA.1,noApp,provA,provE,Src.isTmp,provOf,Src.hangs,AOpd.isT,srcOf,lookV,Nat.testBit,bne,simprocAttr,-Int.reduceNatCast',ht,e1],by simp only [sT.1,sC.1,sTA.1,sCA.1,noApp,provA,provE,Src.isTmp,provOf,Src.hangs,AOpd.isT,srcOf,lookV,Nat.testBit,bne,simprocAttr,-Int.reduceNatCast',ht,e4],by simp only [sT.1,sC.1,sTA.1,sCA.1,noApp,provA,provE,Src.isTmp,provOf,Src.hangs,AOpd.isT,srcOf,lookV,Nat.testBit,bne,simprocAttr,-Int.reduceNatCast',ht]⟩,by simp only [sT.1,sC.1,sTA.1,sCA.1,noApp,provA,provE,Src.isTmp,provOf,Src.hangs,AOpd.isT,srcOf,lookV,Nat.testBit,bne,simprocAttr,-Int.reduceNatCast',ht],by simp only [sT.1,sC.1,sTA.1,sCA.1,noApp,provA,provE,Src.isTmp,provOf,Src.hangs,AOpd.isT,srcOf,lookV,Nat.testBit,bne,simprocAttr,-Int.reduceNatCast',ht,Int.natCast_zero],by omega,y6,z6,fun _=>⟨by simp,by omega⟩⟩)
    simp only [sT.1,sC.1,sTA.1,sCA.1,noApp,provA,provE,Src.isTmp,provOf,Src.hangs,AOpd.isT,srcOf,lookV,Nat.testBit,bne,simprocAttr,-Int.reduceNatCast',ht1,g1,g3,g4,g5] at he
    generalize hq2:execW h.length Wd (.loop l13_2) _ = q2 at he
    obtain ⟨x,st',rfl,rfl,t2,r8,rfl,⟨ht2,k1,k4,k5⟩,k3,y8,z8,f8⟩:=known hq2 (L2 r7 z7 emits.length _ ⟨_,0,r7,rfl,⟨by simp only [length_up,ht1],by simp only [sT.1,sC.1,sTA.1,sCA.1,noApp,provA,provE,Src.isTmp,provOf,Src.hangs,AOpd.isT,srcOf,lookV,Nat.testBit,bne,simprocAttr,-Int.reduceNatCast',ht1,g1],by simp only [sT.1,sC.1,sTA.1,sCA.1,noApp,provA,provE,Src.isTmp,provOf,Src.hangs,AOpd.isT,srcOf,lookV,Nat.testBit,bne,simprocAttr,-Int.reduceNatCast',ht1,g4],by simp only [sT.1,sC.1,sTA.1,sCA.1,noApp,provA,provE,Src.isTmp,provOf,Src.hangs,AOpd.isT,srcOf,lookV,Nat.testBit,bne,simprocAttr,-Int.reduceNatCast',ht1,g5]⟩,by simp only [sT.1,sC.1,sTA.1,sCA.1,noApp,provA,provE,Src.isTmp,provOf,Src.hangs,AOpd.isT,srcOf,lookV,Nat.testBit,bne,simprocAttr,-Int.reduceNatCast',ht1,g3],by simp only [sT.1,sC.1,sTA.1,sCA.1,noApp,provA,provE,Src.isTmp,provOf,Src.hangs,AOpd.isT,srcOf,lookV,Nat.testBit,bne,simprocAttr,-Int.reduceNatCast',ht1,Int.natCast_zero],by omega,y7,z7,fun _=>⟨by simp,by omega⟩⟩)
    simp only [sT.1,sC.1,sTA.1,sCA.1,noApp,provA,provE,Src.isTmp,provOf,Src.hangs,AOpd.isT,srcOf,lookV,Nat.testBit,bne,simprocAttr,-Int.reduceNatCast',ht2,k1,k3,k4,k5] at he
    generalize hq3:execW h.length Wd (.loop l13_3) _ = q3 at he
    obtain ⟨x,st',rfl,hR⟩:=known hq3 (L3 r8 rules.length _ ⟨_,0,r8,rfl,⟨by simp only [length_up,ht2],by simp only [sT.1,sC.1,sTA.1,sCA.1,noApp,provA,provE,Src.isTmp,provOf,Src.hangs,AOpd.isT,srcOf,lookV,Nat.testBit,bne,simprocAttr,-Int.reduceNatCast',ht2,k1],by simp only [sT.1,sC.1,sTA.1,sCA.1,noApp,provA,provE,Src.isTmp,provOf,Src.hangs,AOpd.isT,srcOf,lookV,Nat.testBit,bne,simprocAttr,-Int.reduceNatCast',ht2,k4],by simp only [sT.1,sC.1,sTA.1,sCA.1,noApp,provA,provE,Src.isTmp,provOf,Src.hangs,AOpd.isT,srcOf,lookV,Nat.testBit,bne,simprocAttr,-Int.reduceNatCast',ht2,k5]⟩,by simp only [sT.1,sC.1,sTA.1,sCA.1,noApp,provA,provE,Src.isTmp,provOf,Src.hangs,AOpd.isT,srcOf,lookV,Nat.testBit,bne,simprocAttr,-Int.reduceNatCast',ht2,k3],by simp only [sT.1,sC.1,sTA.1,sCA.1,noApp,provA,provE,Src.isTmp,provOf,Src.hangs,AOpd.isT,srcOf,lookV,Nat.testBit,bne,simprocAttr,-Int.reduceNatCast',ht2,Int.natCast_zero],by omega,y8,z8,fun _=>⟨by simp,by omega⟩⟩)
    rcases hR with ⟨rfl,t3,r9,rfl,⟨ht3,n1,n4,n5⟩,n3,y9,z9,f9⟩ | ⟨rfl,t3,rfl,ht3,n2⟩
    ·simp only [sT.1,sC.1,sTA.1,sCA.1,noApp,provA,provE,Src.isTmp,provOf,Src.hangs,AOpd.isT,srcOf,lookV,Nat.testBit,bne,simprocAttr,-Int.reduceNatCast',ht3,n1,n3,n4,w] at he
     subst he
     refine .inl ⟨_,q - 1,rfl,by omega,_,i + 1,r9,_,rfl,by simp only [length_up,ht3],?_,?_,?_,by omega,y9,z9,fun h0=>hstep ?_⟩
     ·simp only [sT.1,sC.1,sTA.1,sCA.1,noApp,provA,provE,Src.isTmp,provOf,Src.hangs,AOpd.isT,srcOf,lookV,Nat.testBit,bne,simprocAttr,-Int.reduceNatCast',ht3,n1]
     ·simp only [sT.1,sC.1,sTA.1,sCA.1,noApp,provA,provE,Src.isTmp,provOf,Src.hangs,AOpd.isT,srcOf,lookV,Nat.testBit,bne,simprocAttr,-Int.reduceNatCast',ht3,n3]
     ·simp only [sT.1,sC.1,sTA.1,sCA.1,noApp,provA,provE,Src.isTmp,provOf,Src.hangs,AOpd.isT,srcOf,lookV,Nat.testBit,bne,simprocAttr,-Int.reduceNatCast',ht3]
     ·have f9:=f9 h0
      have f8:=f8 (by omega)
      have f7:=f7 (by omega)
      have f6:=f6 (by omega)
      have f5:=f5 (by omega)
      have f4:=f4 (by omega)
      have f3:=f3 (by omega)
      have f2:=f2 (by omega)
      have f1:=f1 (by omega)
      simp only [Bool.or_eq_false_iff] at c5
      have p1:=ilt_ge c5.1
      have p2:=ilt_ge c5.2.1
      exact ⟨⟨by simp only;omega,by simp only;omega,by simp only;omega,by simp only;omega,⟨by simp only;omega,fun x hx=>(f8.1 x hx).2.2⟩,by simp only;omega,by simp only;omega,by simp only;omega,by simp only;omega,by simp only;omega,⟨by simp only;omega,fun r hr=>by have:=(f9.1 r hr).2;omega⟩⟩,⟨f3.1,f7.1,fun x hx=>⟨(f8.1 x hx).1,(f8.1 x hx).2.1⟩,f4.1,f5.1,f6.1,fun r hr=>(f9.1 r hr).1⟩⟩
    ·simp only [sT.1,sC.1,sTA.1,sCA.1,noApp,provA,provE,Src.isTmp,provOf,Src.hangs,AOpd.isT,srcOf,lookV,Nat.testBit,bne,simprocAttr,-Int.reduceNatCast',ht3,n2] at he
     subst he
     exact .inr ⟨_,_,rfl,by simp,_,_,rfl,ht3,.inr ⟨rfl,n2⟩⟩
  ·have c2:ile 0 rm = false:=ileF hrm
   simp only [l13_4,sT.1,sC.1,sTA.1,sCA.1,noApp,provA,provE,Src.isTmp,provOf,Src.hangs,AOpd.isT,srcOf,lookV,Nat.testBit,bne,simprocAttr,-Int.reduceNatCast',ht,e1,e3,e4,c1,c2,List.length_map] at he
   subst he
   exact .inr ⟨_,_,rfl,by simp,_,junk,rfl,by simp only [length_up,ht],.inl ⟨rfl,rm,by simp only [sT.1,sC.1,sTA.1,sCA.1,noApp,provA,provE,Src.isTmp,provOf,Src.hangs,AOpd.isT,srcOf,lookV,Nat.testBit,bne,simprocAttr,-Int.reduceNatCast',ht,e3],fun h0=>absurd h0 hrm⟩⟩
 ·have c1:ilt (i:Int) (l.length:Int) = false:=iltF (by omega)
  rw [List.take_of_length_le hi] at hfit
  simp only [l13_4,sT.1,sC.1,sTA.1,sCA.1,noApp,provA,provE,Src.isTmp,provOf,Src.hangs,AOpd.isT,srcOf,lookV,Nat.testBit,bne,simprocAttr,-Int.reduceNatCast',ht,e1,e3,e4,c1,List.length_map] at he
  subst he
  exact .inr ⟨_,_,rfl,by simp,_,junk,rfl,by simp only [length_up,ht],.inl ⟨rfl,rm,by simp only [sT.1,sC.1,sTA.1,sCA.1,noApp,provA,provE,Src.isTmp,provOf,Src.hangs,AOpd.isT,srcOf,lookV,Nat.testBit,bne,simprocAttr,-Int.reduceNatCast',ht,e3],hfit⟩⟩
end
end Go.Proofs.YtkmlapholimbcaaGreatDoor.AE
