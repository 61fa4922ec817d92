/- A part of the proof: the abstract executor and what goes through it (part 17). No condition. -/
import Derived.Test.YtfmkpcgpkdnioaaGreatDoorMq16
set_option maxRecDepth 100000
namespace Go.Proofs.YtfmkpcgpkdnioaaGreatDoor.AE
open Go.AE
theorem iltT {a b:Int} (h:a < b):ilt a b = true:=by rw [ilt_eq];exact decide_eq_true h
theorem iltF {a b:Int} (h:¬ a < b):ilt a b = false:=by rw [ilt_eq];exact decide_eq_false h
theorem ileT {a b:Int} (h:a ≤ b):ile a b = true:=by rw [ile_eq];exact decide_eq_true h
theorem ileF {a b:Int} (h:¬ a ≤ b):ile a b = false:=by rw [ile_eq];exact decide_eq_false h
def dOK:Nat→Exl→Bool
 | 0,_=>false
 | m + 1,.mk _ _ _ _ aS=>aS.all (dOK m)
theorem right_deep:∀(d:Nat) (e:Exl),right d e = true→dOK d e = true
 | 0,_,h=>by rw [right] at h;cases h
 | d + 1,.mk op n nm sub aS,h=>by
  rw [right,Bool.and_eq_true,List.all_eq_true] at h
  rw [dOK,List.all_eq_true]
  exact fun a ha=>right_deep d a (h.2 a ha)
set_option maxHeartbeats 1000000 in
theorem nest:∀(m:Nat),m ≤ 100→∀(e:Exl) (h:List ABox),(∃k,Fit k e)→∃v:Nat,Wd (.fn 34 [] []) [exV e,.int .i64 (m:Nat)] h = some (.ret (.int .i64 (v:Nat)),h,false)∧1 ≤ v∧v ≤ m + 1∧decide (v ≤ m) = dOK m e:=by
 intro m
 induction m with
 | zero=>
  rintro _ ⟨op,n,nm,sub,aS⟩ h _
  have z0:ile ((0:Nat):Int) 0 = true:=by kernel_rfl
  have w0:IntKind.i64.wrap (((0:Nat):Int) + 1) = ((1:Nat):Int):=by kernel_rfl
  refine ⟨1,?_,by omega,by omega,by rw [dOK];rfl⟩
  rw [exV_mk,Wd_fn rfl (show T.get 34 = some c34 by kernel_rfl)]
  simp only [c34,sT.1,sC.1,noApp,lookV,Nat.testBit,simprocAttr,-Int.reduceNatCast',z0,w0]
 | succ m ih=>
  rintro hm ⟨op,n,nm,sub,aS⟩ h ⟨k,hk⟩
  have ih:=ih (by omega)
  obtain ⟨k,rfl⟩ :∃k',k = k' + 1:=by cases k with | zero=>exact hk.elim | succ k=>exact ⟨k,rfl⟩
  have hl:aS.length ≤ 20:=hk.1
  have hf:∀a ∈ aS,∃k,Fit k a:=fun a ha=>⟨k,hk.2 a ha⟩
  have z0:ile ((m + 1:Nat):Int) 0 = false:=ileF (by omega)
  have z1:IntKind.i64.wrap (((m + 1:Nat):Int) - 1) = ((m:Nat):Int):=by rw [wrap_id (by omega) (by omega)];omega
  rw [dOK,exV_mk]
  have loop:∀q st,(∃(tt:List AVal) (G:List ABox) (i deep:Nat),st = ⟨tt,G,false⟩∧tt.length = 32∧G.take h.length = h∧h.length ≤ G.length∧lkp tt 1 = .int .i64 (m + 1:Nat)∧lkp tt 5 = .int .i64 (deep:Nat)∧lkp tt 13 = .lst (aS.map exV) .no∧lkp tt 14 = .int .i64 (aS.length:Nat)∧lkp tt 15 = .int .i64 (i:Nat)∧i + q = aS.length∧1 ≤ deep∧deep ≤ m + 1∧(aS.drop i).all (dOK m) = aS.all (dOK m))→
    ∃x st',execW h.length Wd (.loop l34_0) st = some (x,st')∧(∃(tt:List AVal) (G:List ABox),st' = ⟨tt,G,false⟩∧tt.length = 32∧G.take h.length = h∧((x = .exit 0∧aS.all (dOK m) = true∧∃deep:Nat,lkp tt 5 = .int .i64 (deep:Nat)∧1 ≤ deep∧deep ≤ m + 1)∨(x = .ret∧aS.all (dOK m) = false∧lkp tt 4 = .int .i64 (m + 2:Nat)))):=by
   refine loop_rule _ (fun x st'=>∃(tt:List AVal) (G:List ABox),st' = ⟨tt,G,false⟩∧tt.length = 32∧G.take h.length = h∧((x = .exit 0∧aS.all (dOK m) = true∧∃deep:Nat,lkp tt 5 = .int .i64 (deep:Nat)∧1 ≤ deep∧deep ≤ m + 1)∨(x = .ret∧aS.all (dOK m) = false∧lkp tt 4 = .int .i64 (m + 2:Nat)))) ?_
   rintro q st ⟨tt,G,i,deep,rfl,ht,hG1,hG2,e1,e5,e13,e14,e15,hiq,hd1,hd2,hR⟩
   generalize he:execW h.length Wd l34_0 _ = r
   rcases Nat.lt_or_ge i aS.length with hi | hi
   ·have c1:ilt (i:Int) (aS.length:Int) = true:=iltT (by omega)
    have w:=wrap_succ (n:=i) (by omega)
    obtain ⟨v,hv,v1,v2,v3⟩:=ih aS[i] (G ++ [.cells (aS[i]).enc]) (hf _ (List.getElem_mem hi))
    have hg:(aS.map exV)[i]? = some (exV aS[i]):=by rw [List.getElem?_map,List.getElem?_eq_getElem hi];rfl
    rw [List.drop_eq_getElem_cons hi,List.all_cons,←v3] at hR
    generalize aS[i] = y at hv hg
    obtain ⟨op',n',nm',sb',as'⟩:=y
    rw [exV_mk] at hg
    rw [exV_mk,enc_mk] at hv
    have hx:ixaV 5 (.lst (aS.map exV) .no) (.int .i64 (i:Nat)) = some (.iptr [.int .i64 op',.int .i64 n',.str nm',.str sb',.lst (as'.map exV) .no] 0):=ixaV_get hg rfl
    have hbl:Nat.ble h.length G.length = true:=ble_true hG2
    have w1:IntKind.i64.wrap (1 + (v:Int)) = ((v + 1:Nat):Int):=by rw [wrap_id (by omega) (by omega)];omega
    have mx:(if ((v + 1:Nat):Int) > (deep:Int) then ((v + 1:Nat):Int) else (deep:Int)) = ((max deep (v + 1):Nat):Int):=by split <;> omega
    cases hb:decide (v ≤ m) with
    | true=>
     have hvm:v ≤ m:=of_decide_eq_true hb
     rw [hb,Bool.true_and] at hR
     have c2:ilt ((m + 1:Nat):Int) ((max deep (v + 1):Nat):Int) = false:=iltF (by omega)
     simp only [l34_0,sT.1,sC.1,noApp,lookV,Nat.testBit,simprocAttr,-Int.reduceNatCast',ht,e1,e5,e13,e14,e15,c1,hx,hbl,hv,z1,w1,mx,mmV_max,c2,w] at he
     subst he
     refine .inl ⟨_,q - 1,rfl,by omega,_,_,i + 1,max deep (v + 1),rfl,by simp only [length_up,ht],by rw [List.take_append_of_le_length hG2,hG1],by simp;omega,?_,?_,?_,?_,?_,by omega,by omega,by omega,hR⟩
     ·simp only [sT.1,sC.1,noApp,lookV,Nat.testBit,simprocAttr,-Int.reduceNatCast',ht,e1]
     ·simp only [sT.1,sC.1,noApp,lookV,Nat.testBit,simprocAttr,-Int.reduceNatCast',ht]
     ·simp only [sT.1,sC.1,noApp,lookV,Nat.testBit,simprocAttr,-Int.reduceNatCast',ht,e13]
     ·simp only [sT.1,sC.1,noApp,lookV,Nat.testBit,simprocAttr,-Int.reduceNatCast',ht,e14]
     ·simp only [sT.1,sC.1,noApp,lookV,Nat.testBit,simprocAttr,-Int.reduceNatCast',ht]
    | false=>
     have hvm:¬ v ≤ m:=of_decide_eq_false hb
     rw [hb,Bool.false_and] at hR
     have hmx:max deep (v + 1) = m + 2:=by omega
     have c2:ilt ((m + 1:Nat):Int) ((max deep (v + 1):Nat):Int) = true:=iltT (by omega)
     simp only [l34_0,sT.1,sC.1,noApp,lookV,Nat.testBit,simprocAttr,-Int.reduceNatCast',ht,e1,e5,e13,e14,e15,c1,hx,hbl,hv,z1,w1,mx,mmV_max,c2,w] at he
     subst he
     refine .inr ⟨_,_,rfl,by simp,_,_,rfl,?_,?_,.inr ⟨rfl,hR.symm,?_⟩⟩
     ·simp only [length_up,ht]
     ·rw [List.take_append_of_le_length hG2,hG1]
     ·simp only [sT.1,sC.1,noApp,lookV,Nat.testBit,simprocAttr,-Int.reduceNatCast',ht,hmx]
   ·have c1:ilt (i:Int) (aS.length:Int) = false:=iltF (by omega)
    rw [List.drop_eq_nil_of_le hi,List.all_nil] at hR
    simp only [l34_0,sT.1,sC.1,noApp,lookV,Nat.testBit,simprocAttr,-Int.reduceNatCast',ht,e1,e5,e13,e14,e15,c1] at he
    subst he
    exact .inr ⟨_,_,rfl,by simp,_,_,rfl,by simp only [length_up,ht],hG1,.inl ⟨rfl,hR.symm,deep,by simp only [sT.1,sC.1,noApp,lookV,Nat.testBit,simprocAttr,-Int.reduceNatCast',ht,e5],hd1,hd2⟩⟩
  generalize hw:Wd _ _ h = w
  rw [Wd_fn rfl (show T.get 34 = some c34 by kernel_rfl)] at hw
  simp only [c34,sT.1,sC.1,noApp,lookV,Nat.testBit,simprocAttr,-Int.reduceNatCast',z0,List.length_map] at hw
  generalize hr:execW h.length Wd (.loop l34_0) _ = r at hw
  obtain ⟨x,st',rfl,tt,G,rfl,ht,hG,hq⟩:=known hr (loop aS.length _ ⟨_,_,0,1,rfl,by simp only [sT.1,sC.1,noApp,lookV,Nat.testBit,simprocAttr,-Int.reduceNatCast'],by simp,by simp,by simp only [sT.1,sC.1,noApp,lookV,Nat.testBit,simprocAttr,-Int.reduceNatCast'],by simp only [sT.1,sC.1,noApp,lookV,Nat.testBit,simprocAttr,-Int.reduceNatCast'];rfl,by simp only [sT.1,sC.1,noApp,lookV,Nat.testBit,simprocAttr,-Int.reduceNatCast'],by simp only [sT.1,sC.1,noApp,lookV,Nat.testBit,simprocAttr,-Int.reduceNatCast'],by simp only [sT.1,sC.1,noApp,lookV,Nat.testBit,simprocAttr,-Int.reduceNatCast',Int.natCast_zero],by omega,by omega,by omega,rfl⟩)
  rcases hq with ⟨rfl,hall,deep,e5,b1,b2⟩ | ⟨rfl,hall,e4⟩
  ·simp only [sT.1,sC.1,noApp,lookV,Nat.testBit,simprocAttr,-Int.reduceNatCast',ht,e5] at hw
   subst hw
   refine ⟨deep,congrArg some (leave_cut hG rfl),b1,by omega,?_⟩
   rw [hall]
   exact decide_eq_true (by omega)
  ·simp only [sT.1,sC.1,noApp,lookV,Nat.testBit,simprocAttr,-Int.reduceNatCast',ht,e4] at hw
   subst hw
   refine ⟨m + 2,congrArg some (leave_cut hG rfl),by omega,by omega,?_⟩
   rw [hall]
   exact decide_eq_false (by omega)
def Nodes (d:Nat):Prop:=∀(e:Exl) (h:List ABox),(∃k,Fit k e)→dOK d e = true→Wd (.fn 35 [] []) [exV e] h = some (.ret (.bool (right d e)),h,false)
theorem alls {d:Nat} (hn:Nodes d) (aS:List Exl) (hl:aS.length ≤ 20) (hf:∀a ∈ aS,∃k,Fit k a) (hD:∀a ∈ aS,dOK d a = true) (h:List ABox) :
  Wd (.fn 63 [] []) [.lst (aS.map exV) .no,.fn 35 [] []] h = some (.ret (.bool (aS.all (right d))),h,false):=by
 have loop:∀q st,(∃(tt:List AVal) (G:List ABox) (i:Nat),st = ⟨tt,G,false⟩∧tt.length = 18∧G.take h.length = h∧h.length ≤ G.length∧lkp tt 1 = .fn 35 [] []∧lkp tt 7 = .lst (aS.map exV) .no∧lkp tt 8 = .int .i64 (aS.length:Nat)∧lkp tt 9 = .int .i64 (i:Nat)∧i + q = aS.length∧(aS.drop i).all (right d) = aS.all (right d))→
   ∃x st',execW h.length Wd (.loop l63_0) st = some (x,st')∧(∃(tt:List AVal) (G:List ABox),st' = ⟨tt,G,false⟩∧tt.length = 18∧G.take h.length = h∧((x = .exit 0∧aS.all (right d) = true)∨(x = .ret∧aS.all (right d) = false∧lkp tt 4 = .bool false))):=by
  refine loop_rule _ (fun x st'=>∃(tt:List AVal) (G:List ABox),st' = ⟨tt,G,false⟩∧tt.length = 18∧G.take h.length = h∧((x = .exit 0∧aS.all (right d) = true)∨(x = .ret∧aS.all (right d) = false∧lkp tt 4 = .bool false))) ?_
  rintro q st ⟨tt,G,i,rfl,ht,hG1,hG2,e1,e7,e8,e9,hiq,hR⟩
  generalize he:execW h.length Wd l63_0 _ = r
  rcases Nat.lt_or_ge i aS.length with hi | hi
  ·have c1:ilt (i:Int) (aS.length:Int) = true:=iltT (by omega)
   have w:=wrap_succ (n:=i) (by omega)
   have hv:=hn aS[i] (G ++ [.cells (aS[i]).enc]) (hf _ (List.getElem_mem hi)) (hD _ (List.getElem_mem hi))
   have hg:(aS.map exV)[i]? = some (exV aS[i]):=by rw [List.getElem?_map,List.getElem?_eq_getElem hi];rfl
   rw [List.drop_eq_getElem_cons hi,List.all_cons] at hR
   generalize aS[i] = y at hv hg hR
   obtain ⟨op',n',nm',sb',as'⟩:=y
   rw [exV_mk] at hg
   rw [exV_mk,enc_mk] at hv
   have hx:ixaV 5 (.lst (aS.map exV) .no) (.int .i64 (i:Nat)) = some (.iptr [.int .i64 op',.int .i64 n',.str nm',.str sb',.lst (as'.map exV) .no] 0):=ixaV_get hg rfl
   have hbl:Nat.ble h.length G.length = true:=ble_true hG2
   cases hb:right d (.mk op' n' nm' sb' as') with
   | true=>
    rw [hb,Bool.true_and] at hR
    rw [hb] at hv
    simp only [l63_0,sT.1,sC.1,noApp,lookV,Nat.testBit,simprocAttr,-Int.reduceNatCast',ht,e1,e7,e8,e9,c1,hx,hbl,hv,w] at he
    subst he
    refine .inl ⟨_,q - 1,rfl,by omega,_,_,i + 1,rfl,by simp only [length_up,ht],by rw [List.take_append_of_le_length hG2,hG1],by simp;omega,?_,?_,?_,?_,by omega,hR⟩
    ·simp only [sT.1,sC.1,noApp,lookV,Nat.testBit,simprocAttr,-Int.reduceNatCast',ht,e1]
    ·simp only [sT.1,sC.1,noApp,lookV,Nat.testBit,simprocAttr,-Int.reduceNatCast',ht,e7]
    ·simp only [sT.1,sC.1,noApp,lookV,Nat.testBit,simprocAttr,-Int.reduceNatCast',ht,e8]
    ·simp only [sT.1,sC.1,noApp,lookV,Nat.testBit,simprocAttr,-Int.reduceNatCast',ht]
   | false=>
    rw [hb,Bool.false_and] at hR
    rw [hb] at hv
    simp only [l63_0,sT.1,sC.1,noApp,lookV,Nat.testBit,simprocAttr,-Int.reduceNatCast',ht,e1,e7,e8,e9,c1,hx,hbl,hv,w] at he
    subst he
    refine .inr ⟨_,_,rfl,by simp,_,_,rfl,?_,?_,.inr ⟨rfl,hR.symm,?_⟩⟩
    ·simp only [length_up,ht]
    ·rw [List.take_append_of_le_length hG2,hG1]
    ·simp only [sT.1,sC.1,noApp,lookV,Nat.testBit,simprocAttr,-Int.reduceNatCast',ht]
  ·have c1:ilt (i:Int) (aS.length:Int) = false:=iltF (by omega)
   rw [List.drop_eq_nil_of_le hi,List.all_nil] at hR
   simp only [l63_0,sT.1,sC.1,noApp,lookV,Nat.testBit,simprocAttr,-Int.reduceNatCast',ht,e1,e7,e8,e9,c1] at he
   subst he
   exact .inr ⟨_,_,rfl,by simp,_,_,rfl,by simp only [length_up,ht],hG1,.inl ⟨rfl,hR.symm⟩⟩
 generalize hw:Wd _ _ h = w
 rw [Wd_fn rfl (show T.get 63 = some c63 by kernel_rfl)] at hw
 simp only [c63,sT.1,sC.1,noApp,lookV,Nat.testBit,simprocAttr,-Int.reduceNatCast',List.length_map] at hw
 generalize hr:execW h.length Wd (.loop l63_0) _ = r at hw
 obtain ⟨x,st',rfl,tt,G,rfl,ht,hG,hq⟩:=known hr (loop aS.length _ ⟨_,_,0,rfl,by simp only [sT.1,sC.1,noApp,lookV,Nat.testBit,simprocAttr,-Int.reduceNatCast'],by simp,by simp,by simp only [sT.1,sC.1,noApp,lookV,Nat.testBit,simprocAttr,-Int.reduceNatCast'],by simp only [sT.1,sC.1,noApp,lookV,Nat.testBit,simprocAttr,-Int.reduceNatCast'],by simp only [sT.1,sC.1,noApp,lookV,Nat.testBit,simprocAttr,-Int.reduceNatCast'],by simp only [sT.1,sC.1,noApp,lookV,Nat.testBit,simprocAttr,-Int.reduceNatCast',Int.natCast_zero],by omega,rfl⟩)
 rcases hq with ⟨rfl,hall⟩ | ⟨rfl,hall,e4⟩
 ·simp only [sT.1,sC.1,noApp,lookV,Nat.testBit,simprocAttr,-Int.reduceNatCast',ht] at hw
  subst hw
  rw [hall]
  exact congrArg some (leave_cut hG rfl)
 ·simp only [sT.1,sC.1,noApp,lookV,Nat.testBit,simprocAttr,-Int.reduceNatCast',ht,e4] at hw
  subst hw
  rw [hall]
  exact congrArg some (leave_cut hG rfl)
theorem nodes:∀d,Nodes d:=by
 intro d
 induction d with
 | zero=>
  rintro e h _ hd
  rw [dOK] at hd
  cases hd
 | succ d ih=>
  rintro ⟨op,n,nm,sub,aS⟩ h ⟨k,hk⟩ hd
  obtain ⟨k,rfl⟩ :∃k',k = k' + 1:=by cases k with | zero=>exact hk.elim | succ k=>exact ⟨k,rfl⟩
  have hf:∀a ∈ aS,∃k,Fit k a:=fun a ha=>⟨k,hk.2 a ha⟩
  rw [dOK,List.all_eq_true] at hd
  have ha:=fun g=>alls ih aS hk.1 hf hd g
  have hn:=fun g=>node_x (h:=g) op n nm sub (aS.map exV)
  rw [List.length_map] at hn
  rw [exV_mk,right,Wd_fn rfl (show T.get 35 = some c35 by kernel_rfl)]
  cases hb:nodeB op n nm sub aS.length with
  | false=>simp only [c35,sT.1,sC.1,noApp,lookV,Nat.testBit,simprocAttr,-Int.reduceNatCast',hn,hb]
  | true=>simp only [c35,sT.1,sC.1,noApp,lookV,Nat.testBit,simprocAttr,-Int.reduceNatCast',hn,hb,ha]
theorem exprs (e:Exl) (h:List ABox) (hk:∃k,Fit k e):Wd (.fn 18 [] []) [exV e] h = some (.ret (.bool (right 20 e)),h,false):=by
 obtain ⟨v,hv,v1,v2,v3⟩:=nest 20 (by omega) e (h ++ [.cells e.enc]) hk
 have hn:=fun hd g=>nodes 20 e g hk hd
 have c20:((20:Nat):Int) = 20:=Eq.trans rfl rfl
 rw [c20] at hv
 cases hd:dOK 20 e with
 | false=>
  rw [hd] at v3
  have hr:right 20 e = false:=by
   cases hr:right 20 e with
   | false=>rfl
   | true=>rw [right_deep _ _ hr] at hd;cases hd
  have c1:ile (v:Int) 20 = false:=by have:=of_decide_eq_false v3;exact ileF (by omega)
  rw [hr]
  obtain ⟨op,n,nm,sub,aS⟩:=e
  rw [exV_mk,enc_mk] at hv
  rw [exV_mk,Wd_fn rfl (show T.get 18 = some c18 by kernel_rfl)]
  simp only [c18,sT.1,sC.1,noApp,lookV,Nat.testBit,simprocAttr,-Int.reduceNatCast',hv,c1]
 | true=>
  have hn:=hn hd
  rw [hd] at v3
  have c1:ile (v:Int) 20 = true:=by have:=of_decide_eq_true v3;exact ileT (by omega)
  obtain ⟨op,n,nm,sub,aS⟩:=e
  rw [exV_mk,enc_mk] at hv
  rw [exV_mk] at hn
  rw [exV_mk,Wd_fn rfl (show T.get 18 = some c18 by kernel_rfl)]
  simp only [c18,sT.1,sC.1,noApp,lookV,Nat.testBit,simprocAttr,-Int.reduceNatCast',hv,c1,hn]
end Go.Proofs.YtfmkpcgpkdnioaaGreatDoor.AE
