/- A part of the proof: the abstract executor and what goes through it (part 35). No condition. -/
import Derived.Test.YtfmkpcgpkdnioaaGreatDoorMq16
import Derived.Test.YtfmkpcgpkdnioaaGreatDoorMq33
import Derived.Test.YtfmkpcgpkdnioaaGreatDoorMq34
set_option maxRecDepth 100000
namespace Go.Proofs.YtfmkpcgpkdnioaaGreatDoor.AE
open Go.AE
section
variable {d:Nat} {h:List ABox}
theorem q_18 (n:Int) (nm sub:Str) (aS:List Exl):(!(n == 0) || !(nm == []) || !(sub == []) || ilt (aS.length:Int) 2 || ilt 2 (aS.length:Int)) = !(nB18 n nm sub aS.length):=by
 simp only [nB18,fB,ile3]
 rw [ilt_not,ilt_not]
 generalize ile 2 (aS.length:Int) = a1
 generalize ile (aS.length:Int) 2 = a2
 generalize (n == 0) = a3
 generalize (nm == []) = a4
 generalize (sub == []) = a5
 generalize ile 0 n = a6
 generalize ile n 3 = a7
 generalize vName nm = a8
 generalize isName nm = a9
 generalize isName sub = b1
 revert a1 a2 a3 a4 a5 a6 a7 a8 a9 b1
 decide
set_option maxHeartbeats 1000000 in
theorem ex_18 (hd:d < 100) (ih:Asks d) (n:Int) (nm sub:Str) (aS:List Exl) (hl:aS.length < 1000000000) (hf:∀a ∈ aS,∃k,Fit k a):Wd (.fn 8 [] []) [exV (.mk 18 n nm sub aS),.int .i64 (d + 1:Nat)] h = some (.ret (.bool (nB18 n nm sub aS.length && aS.all (right d))),h,false):=by
 have z0:(((d + 1:Nat):Int) == 0) = false:=by rw [beq_eq_false_iff_ne];omega
 have z1:ilt 18 0 = false:=by kernel_rfl
 have z2:ilt 25 18 = false:=by kernel_rfl
 have q:=q_18 n nm sub aS
 rw [exV_mk]
 generalize hw:Wd _ _ h = w
 rw [Wd_fn rfl (show T.get 8 = some c8 by kernel_rfl)] at hw
 cases hb:nB18 n nm sub aS.length with
 | false=>
  rw [hb,Bool.not_false] at q
  simp only [c8,sT.1,sC.1,noApp,lookV,Nat.testBit,simprocAttr,-Int.reduceNatCast',z0,z1,z2,List.length_map,r_name02,r_name09,q] at hw
  exact hw.symm
 | true=>
  rw [hb,Bool.not_true] at q
  simp only [c8,sT.1,sC.1,noApp,lookV,Nat.testBit,simprocAttr,-Int.reduceNatCast',z0,z1,z2,List.length_map,r_name02,r_name09,q] at hw
  generalize hr:execW h.length Wd (.loop l8_0) _ = r at hw
  obtain ⟨x,st',rfl,tt,rfl,ht,hq⟩:=known hr (ex_loop hd ih hl hf aS.length _ ⟨_,0,rfl,by simp only [sT.1,sC.1,noApp,lookV,Nat.testBit,simprocAttr,-Int.reduceNatCast'],by simp only [sT.1,sC.1,noApp,lookV,Nat.testBit,simprocAttr,-Int.reduceNatCast'],by simp only [sT.1,sC.1,noApp,lookV,Nat.testBit,simprocAttr,-Int.reduceNatCast'],by simp only [sT.1,sC.1,noApp,lookV,Nat.testBit,simprocAttr,-Int.reduceNatCast',Int.natCast_zero],by omega,rfl⟩)
  rcases hq with ⟨rfl,hall⟩ | ⟨rfl,hall,e4⟩
  ·simp only [sT.1,sC.1,noApp,lookV,Nat.testBit,simprocAttr,-Int.reduceNatCast',ht] at hw
   rw [hall]
   exact hw.symm
  ·simp only [sT.1,sC.1,noApp,lookV,Nat.testBit,simprocAttr,-Int.reduceNatCast',ht,e4] at hw
   rw [hall]
   exact hw.symm
theorem q_19 (n:Int) (nm sub:Str) (aS:List Exl):(!(n == 0) || !(nm == []) || !(sub == []) || ilt (aS.length:Int) 2 || ilt 2 (aS.length:Int)) = !(nB19 n nm sub aS.length):=by
 simp only [nB19,fB,ile3]
 rw [ilt_not,ilt_not]
 generalize ile 2 (aS.length:Int) = a1
 generalize ile (aS.length:Int) 2 = a2
 generalize (n == 0) = a3
 generalize (nm == []) = a4
 generalize (sub == []) = a5
 generalize ile 0 n = a6
 generalize ile n 3 = a7
 generalize vName nm = a8
 generalize isName nm = a9
 generalize isName sub = b1
 revert a1 a2 a3 a4 a5 a6 a7 a8 a9 b1
 decide
set_option maxHeartbeats 1000000 in
theorem ex_19 (hd:d < 100) (ih:Asks d) (n:Int) (nm sub:Str) (aS:List Exl) (hl:aS.length < 1000000000) (hf:∀a ∈ aS,∃k,Fit k a):Wd (.fn 8 [] []) [exV (.mk 19 n nm sub aS),.int .i64 (d + 1:Nat)] h = some (.ret (.bool (nB19 n nm sub aS.length && aS.all (right d))),h,false):=by
 have z0:(((d + 1:Nat):Int) == 0) = false:=by rw [beq_eq_false_iff_ne];omega
 have z1:ilt 19 0 = false:=by kernel_rfl
 have z2:ilt 25 19 = false:=by kernel_rfl
 have q:=q_19 n nm sub aS
 rw [exV_mk]
 generalize hw:Wd _ _ h = w
 rw [Wd_fn rfl (show T.get 8 = some c8 by kernel_rfl)] at hw
 cases hb:nB19 n nm sub aS.length with
 | false=>
  rw [hb,Bool.not_false] at q
  simp only [c8,sT.1,sC.1,noApp,lookV,Nat.testBit,simprocAttr,-Int.reduceNatCast',z0,z1,z2,List.length_map,r_name02,r_name09,q] at hw
  exact hw.symm
 | true=>
  rw [hb,Bool.not_true] at q
  simp only [c8,sT.1,sC.1,noApp,lookV,Nat.testBit,simprocAttr,-Int.reduceNatCast',z0,z1,z2,List.length_map,r_name02,r_name09,q] at hw
  generalize hr:execW h.length Wd (.loop l8_0) _ = r at hw
  obtain ⟨x,st',rfl,tt,rfl,ht,hq⟩:=known hr (ex_loop hd ih hl hf aS.length _ ⟨_,0,rfl,by simp only [sT.1,sC.1,noApp,lookV,Nat.testBit,simprocAttr,-Int.reduceNatCast'],by simp only [sT.1,sC.1,noApp,lookV,Nat.testBit,simprocAttr,-Int.reduceNatCast'],by simp only [sT.1,sC.1,noApp,lookV,Nat.testBit,simprocAttr,-Int.reduceNatCast'],by simp only [sT.1,sC.1,noApp,lookV,Nat.testBit,simprocAttr,-Int.reduceNatCast',Int.natCast_zero],by omega,rfl⟩)
  rcases hq with ⟨rfl,hall⟩ | ⟨rfl,hall,e4⟩
  ·simp only [sT.1,sC.1,noApp,lookV,Nat.testBit,simprocAttr,-Int.reduceNatCast',ht] at hw
   rw [hall]
   exact hw.symm
  ·simp only [sT.1,sC.1,noApp,lookV,Nat.testBit,simprocAttr,-Int.reduceNatCast',ht,e4] at hw
   rw [hall]
   exact hw.symm
theorem q_20 (n:Int) (nm sub:Str) (aS:List Exl):(!(n == 0) || !(nm == []) || !(sub == []) || ilt (aS.length:Int) 2 || ilt 2 (aS.length:Int)) = !(nB20 n nm sub aS.length):=by
 simp only [nB20,fB,ile3]
 rw [ilt_not,ilt_not]
 generalize ile 2 (aS.length:Int) = a1
 generalize ile (aS.length:Int) 2 = a2
 generalize (n == 0) = a3
 generalize (nm == []) = a4
 generalize (sub == []) = a5
 generalize ile 0 n = a6
 generalize ile n 3 = a7
 generalize vName nm = a8
 generalize isName nm = a9
 generalize isName sub = b1
 revert a1 a2 a3 a4 a5 a6 a7 a8 a9 b1
 decide
set_option maxHeartbeats 1000000 in
theorem ex_20 (hd:d < 100) (ih:Asks d) (n:Int) (nm sub:Str) (aS:List Exl) (hl:aS.length < 1000000000) (hf:∀a ∈ aS,∃k,Fit k a):Wd (.fn 8 [] []) [exV (.mk 20 n nm sub aS),.int .i64 (d + 1:Nat)] h = some (.ret (.bool (nB20 n nm sub aS.length && aS.all (right d))),h,false):=by
 have z0:(((d + 1:Nat):Int) == 0) = false:=by rw [beq_eq_false_iff_ne];omega
 have z1:ilt 20 0 = false:=by kernel_rfl
 have z2:ilt 25 20 = false:=by kernel_rfl
 have q:=q_20 n nm sub aS
 rw [exV_mk]
 generalize hw:Wd _ _ h = w
 rw [Wd_fn rfl (show T.get 8 = some c8 by kernel_rfl)] at hw
 cases hb:nB20 n nm sub aS.length with
 | false=>
  rw [hb,Bool.not_false] at q
  simp only [c8,sT.1,sC.1,noApp,lookV,Nat.testBit,simprocAttr,-Int.reduceNatCast',z0,z1,z2,List.length_map,r_name02,r_name09,q] at hw
  exact hw.symm
 | true=>
  rw [hb,Bool.not_true] at q
  simp only [c8,sT.1,sC.1,noApp,lookV,Nat.testBit,simprocAttr,-Int.reduceNatCast',z0,z1,z2,List.length_map,r_name02,r_name09,q] at hw
  generalize hr:execW h.length Wd (.loop l8_0) _ = r at hw
  obtain ⟨x,st',rfl,tt,rfl,ht,hq⟩:=known hr (ex_loop hd ih hl hf aS.length _ ⟨_,0,rfl,by simp only [sT.1,sC.1,noApp,lookV,Nat.testBit,simprocAttr,-Int.reduceNatCast'],by simp only [sT.1,sC.1,noApp,lookV,Nat.testBit,simprocAttr,-Int.reduceNatCast'],by simp only [sT.1,sC.1,noApp,lookV,Nat.testBit,simprocAttr,-Int.reduceNatCast'],by simp only [sT.1,sC.1,noApp,lookV,Nat.testBit,simprocAttr,-Int.reduceNatCast',Int.natCast_zero],by omega,rfl⟩)
  rcases hq with ⟨rfl,hall⟩ | ⟨rfl,hall,e4⟩
  ·simp only [sT.1,sC.1,noApp,lookV,Nat.testBit,simprocAttr,-Int.reduceNatCast',ht] at hw
   rw [hall]
   exact hw.symm
  ·simp only [sT.1,sC.1,noApp,lookV,Nat.testBit,simprocAttr,-Int.reduceNatCast',ht,e4] at hw
   rw [hall]
   exact hw.symm
theorem q_21 (n:Int) (nm sub:Str) (aS:List Exl):(!(n == 0) || !(nm == []) || !(sub == []) || ilt (aS.length:Int) 2 || ilt 2 (aS.length:Int)) = !(nB21 n nm sub aS.length):=by
 simp only [nB21,fB,ile3]
 rw [ilt_not,ilt_not]
 generalize ile 2 (aS.length:Int) = a1
 generalize ile (aS.length:Int) 2 = a2
 generalize (n == 0) = a3
 generalize (nm == []) = a4
 generalize (sub == []) = a5
 generalize ile 0 n = a6
 generalize ile n 3 = a7
 generalize vName nm = a8
 generalize isName nm = a9
 generalize isName sub = b1
 revert a1 a2 a3 a4 a5 a6 a7 a8 a9 b1
 decide
set_option maxHeartbeats 1000000 in
theorem ex_21 (hd:d < 100) (ih:Asks d) (n:Int) (nm sub:Str) (aS:List Exl) (hl:aS.length < 1000000000) (hf:∀a ∈ aS,∃k,Fit k a):Wd (.fn 8 [] []) [exV (.mk 21 n nm sub aS),.int .i64 (d + 1:Nat)] h = some (.ret (.bool (nB21 n nm sub aS.length && aS.all (right d))),h,false):=by
 have z0:(((d + 1:Nat):Int) == 0) = false:=by rw [beq_eq_false_iff_ne];omega
 have z1:ilt 21 0 = false:=by kernel_rfl
 have z2:ilt 25 21 = false:=by kernel_rfl
 have q:=q_21 n nm sub aS
 rw [exV_mk]
 generalize hw:Wd _ _ h = w
 rw [Wd_fn rfl (show T.get 8 = some c8 by kernel_rfl)] at hw
 cases hb:nB21 n nm sub aS.length with
 | false=>
  rw [hb,Bool.not_false] at q
  simp only [c8,sT.1,sC.1,noApp,lookV,Nat.testBit,simprocAttr,-Int.reduceNatCast',z0,z1,z2,List.length_map,r_name02,r_name09,q] at hw
  exact hw.symm
 | true=>
  rw [hb,Bool.not_true] at q
  simp only [c8,sT.1,sC.1,noApp,lookV,Nat.testBit,simprocAttr,-Int.reduceNatCast',z0,z1,z2,List.length_map,r_name02,r_name09,q] at hw
  generalize hr:execW h.length Wd (.loop l8_0) _ = r at hw
  obtain ⟨x,st',rfl,tt,rfl,ht,hq⟩:=known hr (ex_loop hd ih hl hf aS.length _ ⟨_,0,rfl,by simp only [sT.1,sC.1,noApp,lookV,Nat.testBit,simprocAttr,-Int.reduceNatCast'],by simp only [sT.1,sC.1,noApp,lookV,Nat.testBit,simprocAttr,-Int.reduceNatCast'],by simp only [sT.1,sC.1,noApp,lookV,Nat.testBit,simprocAttr,-Int.reduceNatCast'],by simp only [sT.1,sC.1,noApp,lookV,Nat.testBit,simprocAttr,-Int.reduceNatCast',Int.natCast_zero],by omega,rfl⟩)
  rcases hq with ⟨rfl,hall⟩ | ⟨rfl,hall,e4⟩
  ·simp only [sT.1,sC.1,noApp,lookV,Nat.testBit,simprocAttr,-Int.reduceNatCast',ht] at hw
   rw [hall]
   exact hw.symm
  ·simp only [sT.1,sC.1,noApp,lookV,Nat.testBit,simprocAttr,-Int.reduceNatCast',ht,e4] at hw
   rw [hall]
   exact hw.symm
theorem q_22 (n:Int) (nm sub:Str) (aS:List Exl):(!(n == 0) || !(nm == []) || !(sub == []) || ilt (aS.length:Int) 2 || ilt 2 (aS.length:Int)) = !(nB22 n nm sub aS.length):=by
 simp only [nB22,fB,ile3]
 rw [ilt_not,ilt_not]
 generalize ile 2 (aS.length:Int) = a1
 generalize ile (aS.length:Int) 2 = a2
 generalize (n == 0) = a3
 generalize (nm == []) = a4
 generalize (sub == []) = a5
 generalize ile 0 n = a6
 generalize ile n 3 = a7
 generalize vName nm = a8
 generalize isName nm = a9
 generalize isName sub = b1
 revert a1 a2 a3 a4 a5 a6 a7 a8 a9 b1
 decide
set_option maxHeartbeats 1000000 in
theorem ex_22 (hd:d < 100) (ih:Asks d) (n:Int) (nm sub:Str) (aS:List Exl) (hl:aS.length < 1000000000) (hf:∀a ∈ aS,∃k,Fit k a):Wd (.fn 8 [] []) [exV (.mk 22 n nm sub aS),.int .i64 (d + 1:Nat)] h = some (.ret (.bool (nB22 n nm sub aS.length && aS.all (right d))),h,false):=by
 have z0:(((d + 1:Nat):Int) == 0) = false:=by rw [beq_eq_false_iff_ne];omega
 have z1:ilt 22 0 = false:=by kernel_rfl
 have z2:ilt 25 22 = false:=by kernel_rfl
 have q:=q_22 n nm sub aS
 rw [exV_mk]
 generalize hw:Wd _ _ h = w
 rw [Wd_fn rfl (show T.get 8 = some c8 by kernel_rfl)] at hw
 cases hb:nB22 n nm sub aS.length with
 | false=>
  rw [hb,Bool.not_false] at q
  simp only [c8,sT.1,sC.1,noApp,lookV,Nat.testBit,simprocAttr,-Int.reduceNatCast',z0,z1,z2,List.length_map,r_name02,r_name09,q] at hw
  exact hw.symm
 | true=>
  rw [hb,Bool.not_true] at q
  simp only [c8,sT.1,sC.1,noApp,lookV,Nat.testBit,simprocAttr,-Int.reduceNatCast',z0,z1,z2,List.length_map,r_name02,r_name09,q] at hw
  generalize hr:execW h.length Wd (.loop l8_0) _ = r at hw
  obtain ⟨x,st',rfl,tt,rfl,ht,hq⟩:=known hr (ex_loop hd ih hl hf aS.length _ ⟨_,0,rfl,by simp only [sT.1,sC.1,noApp,lookV,Nat.testBit,simprocAttr,-Int.reduceNatCast'],by simp only [sT.1,sC.1,noApp,lookV,Nat.testBit,simprocAttr,-Int.reduceNatCast'],by simp only [sT.1,sC.1,noApp,lookV,Nat.testBit,simprocAttr,-Int.reduceNatCast'],by simp only [sT.1,sC.1,noApp,lookV,Nat.testBit,simprocAttr,-Int.reduceNatCast',Int.natCast_zero],by omega,rfl⟩)
  rcases hq with ⟨rfl,hall⟩ | ⟨rfl,hall,e4⟩
  ·simp only [sT.1,sC.1,noApp,lookV,Nat.testBit,simprocAttr,-Int.reduceNatCast',ht] at hw
   rw [hall]
   exact hw.symm
  ·simp only [sT.1,sC.1,noApp,lookV,Nat.testBit,simprocAttr,-Int.reduceNatCast',ht,e4] at hw
   rw [hall]
   exact hw.symm
theorem q_23 (n:Int) (nm sub:Str) (aS:List Exl):(!(n == 0) || !(nm == []) || !(sub == []) || ilt (aS.length:Int) 2 || ilt 2 (aS.length:Int)) = !(nB23 n nm sub aS.length):=by
 simp only [nB23,fB,ile3]
 rw [ilt_not,ilt_not]
 generalize ile 2 (aS.length:Int) = a1
 generalize ile (aS.length:Int) 2 = a2
 generalize (n == 0) = a3
 generalize (nm == []) = a4
 generalize (sub == []) = a5
 generalize ile 0 n = a6
 generalize ile n 3 = a7
 generalize vName nm = a8
 generalize isName nm = a9
 generalize isName sub = b1
 revert a1 a2 a3 a4 a5 a6 a7 a8 a9 b1
 decide
set_option maxHeartbeats 1000000 in
theorem ex_23 (hd:d < 100) (ih:Asks d) (n:Int) (nm sub:Str) (aS:List Exl) (hl:aS.length < 1000000000) (hf:∀a ∈ aS,∃k,Fit k a):Wd (.fn 8 [] []) [exV (.mk 23 n nm sub aS),.int .i64 (d + 1:Nat)] h = some (.ret (.bool (nB23 n nm sub aS.length && aS.all (right d))),h,false):=by
 have z0:(((d + 1:Nat):Int) == 0) = false:=by rw [beq_eq_false_iff_ne];omega
 have z1:ilt 23 0 = false:=by kernel_rfl
 have z2:ilt 25 23 = false:=by kernel_rfl
 have q:=q_23 n nm sub aS
 rw [exV_mk]
 generalize hw:Wd _ _ h = w
 rw [Wd_fn rfl (show T.get 8 = some c8 by kernel_rfl)] at hw
 cases hb:nB23 n nm sub aS.length with
 | false=>
  rw [hb,Bool.not_false] at q
  simp only [c8,sT.1,sC.1,noApp,lookV,Nat.testBit,simprocAttr,-Int.reduceNatCast',z0,z1,z2,List.length_map,r_name02,r_name09,q] at hw
  exact hw.symm
 | true=>
  rw [hb,Bool.not_true] at q
  simp only [c8,sT.1,sC.1,noApp,lookV,Nat.testBit,simprocAttr,-Int.reduceNatCast',z0,z1,z2,List.length_map,r_name02,r_name09,q] at hw
  generalize hr:execW h.length Wd (.loop l8_0) _ = r at hw
  obtain ⟨x,st',rfl,tt,rfl,ht,hq⟩:=known hr (ex_loop hd ih hl hf aS.length _ ⟨_,0,rfl,by simp only [sT.1,sC.1,noApp,lookV,Nat.testBit,simprocAttr,-Int.reduceNatCast'],by simp only [sT.1,sC.1,noApp,lookV,Nat.testBit,simprocAttr,-Int.reduceNatCast'],by simp only [sT.1,sC.1,noApp,lookV,Nat.testBit,simprocAttr,-Int.reduceNatCast'],by simp only [sT.1,sC.1,noApp,lookV,Nat.testBit,simprocAttr,-Int.reduceNatCast',Int.natCast_zero],by omega,rfl⟩)
  rcases hq with ⟨rfl,hall⟩ | ⟨rfl,hall,e4⟩
  ·simp only [sT.1,sC.1,noApp,lookV,Nat.testBit,simprocAttr,-Int.reduceNatCast',ht] at hw
   rw [hall]
   exact hw.symm
  ·simp only [sT.1,sC.1,noApp,lookV,Nat.testBit,simprocAttr,-Int.reduceNatCast',ht,e4] at hw
   rw [hall]
   exact hw.symm
theorem q_24 (n:Int) (nm sub:Str) (aS:List Exl):(!(n == 0) || !(nm == []) || !(sub == []) || ilt (aS.length:Int) 2 || ilt 2 (aS.length:Int)) = !(nB24 n nm sub aS.length):=by
 simp only [nB24,fB,ile3]
 rw [ilt_not,ilt_not]
 generalize ile 2 (aS.length:Int) = a1
 generalize ile (aS.length:Int) 2 = a2
 generalize (n == 0) = a3
 generalize (nm == []) = a4
 generalize (sub == []) = a5
 generalize ile 0 n = a6
 generalize ile n 3 = a7
 generalize vName nm = a8
 generalize isName nm = a9
 generalize isName sub = b1
 revert a1 a2 a3 a4 a5 a6 a7 a8 a9 b1
 decide
set_option maxHeartbeats 1000000 in
theorem ex_24 (hd:d < 100) (ih:Asks d) (n:Int) (nm sub:Str) (aS:List Exl) (hl:aS.length < 1000000000) (hf:∀a ∈ aS,∃k,Fit k a):Wd (.fn 8 [] []) [exV (.mk 24 n nm sub aS),.int .i64 (d + 1:Nat)] h = some (.ret (.bool (nB24 n nm sub aS.length && aS.all (right d))),h,false):=by
 have z0:(((d + 1:Nat):Int) == 0) = false:=by rw [beq_eq_false_iff_ne];omega
 have z1:ilt 24 0 = false:=by kernel_rfl
 have z2:ilt 25 24 = false:=by kernel_rfl
 have q:=q_24 n nm sub aS
 rw [exV_mk]
 generalize hw:Wd _ _ h = w
 rw [Wd_fn rfl (show T.get 8 = some c8 by kernel_rfl)] at hw
 cases hb:nB24 n nm sub aS.length with
 | false=>
  rw [hb,Bool.not_false] at q
  simp only [c8,sT.1,sC.1,noApp,lookV,Nat.testBit,simprocAttr,-Int.reduceNatCast',z0,z1,z2,List.length_map,r_name02,r_name09,q] at hw
  exact hw.symm
 | true=>
  rw [hb,Bool.not_true] at q
  simp only [c8,sT.1,sC.1,noApp,lookV,Nat.testBit,simprocAttr,-Int.reduceNatCast',z0,z1,z2,List.length_map,r_name02,r_name09,q] at hw
  generalize hr:execW h.length Wd (.loop l8_0) _ = r at hw
  obtain ⟨x,st',rfl,tt,rfl,ht,hq⟩:=known hr (ex_loop hd ih hl hf aS.length _ ⟨_,0,rfl,by simp only [sT.1,sC.1,noApp,lookV,Nat.testBit,simprocAttr,-Int.reduceNatCast'],by simp only [sT.1,sC.1,noApp,lookV,Nat.testBit,simprocAttr,-Int.reduceNatCast'],by simp only [sT.1,sC.1,noApp,lookV,Nat.testBit,simprocAttr,-Int.reduceNatCast'],by simp only [sT.1,sC.1,noApp,lookV,Nat.testBit,simprocAttr,-Int.reduceNatCast',Int.natCast_zero],by omega,rfl⟩)
  rcases hq with ⟨rfl,hall⟩ | ⟨rfl,hall,e4⟩
  ·simp only [sT.1,sC.1,noApp,lookV,Nat.testBit,simprocAttr,-Int.reduceNatCast',ht] at hw
   rw [hall]
   exact hw.symm
  ·simp only [sT.1,sC.1,noApp,lookV,Nat.testBit,simprocAttr,-Int.reduceNatCast',ht,e4] at hw
   rw [hall]
   exact hw.symm
theorem q_25 (n:Int) (nm sub:Str) (aS:List Exl):(!(n == 0) || !(nm == []) || !(sub == []) || ilt (aS.length:Int) 3 || ilt 3 (aS.length:Int)) = !(nB25 n nm sub aS.length):=by
 simp only [nB25,fB,ile3]
 rw [ilt_not,ilt_not]
 generalize ile 3 (aS.length:Int) = a1
 generalize ile (aS.length:Int) 3 = a2
 generalize (n == 0) = a3
 generalize (nm == []) = a4
 generalize (sub == []) = a5
 generalize ile 0 n = a6
 generalize ile n 3 = a7
 generalize vName nm = a8
 generalize isName nm = a9
 generalize isName sub = b1
 revert a1 a2 a3 a4 a5 a6 a7 a8 a9 b1
 decide
set_option maxHeartbeats 1000000 in
theorem ex_25 (hd:d < 100) (ih:Asks d) (n:Int) (nm sub:Str) (aS:List Exl) (hl:aS.length < 1000000000) (hf:∀a ∈ aS,∃k,Fit k a):Wd (.fn 8 [] []) [exV (.mk 25 n nm sub aS),.int .i64 (d + 1:Nat)] h = some (.ret (.bool (nB25 n nm sub aS.length && aS.all (right d))),h,false):=by
 have z0:(((d + 1:Nat):Int) == 0) = false:=by rw [beq_eq_false_iff_ne];omega
 have z1:ilt 25 0 = false:=by kernel_rfl
 have z2:ilt 25 25 = false:=by kernel_rfl
 have q:=q_25 n nm sub aS
 rw [exV_mk]
 generalize hw:Wd _ _ h = w
 rw [Wd_fn rfl (show T.get 8 = some c8 by kernel_rfl)] at hw
 cases hb:nB25 n nm sub aS.length with
 | false=>
  rw [hb,Bool.not_false] at q
  simp only [c8,sT.1,sC.1,noApp,lookV,Nat.testBit,simprocAttr,-Int.reduceNatCast',z0,z1,z2,List.length_map,r_name02,r_name09,q] at hw
  exact hw.symm
 | true=>
  rw [hb,Bool.not_true] at q
  simp only [c8,sT.1,sC.1,noApp,lookV,Nat.testBit,simprocAttr,-Int.reduceNatCast',z0,z1,z2,List.length_map,r_name02,r_name09,q] at hw
  generalize hr:execW h.length Wd (.loop l8_0) _ = r at hw
  obtain ⟨x,st',rfl,tt,rfl,ht,hq⟩:=known hr (ex_loop hd ih hl hf aS.length _ ⟨_,0,rfl,by simp only [sT.1,sC.1,noApp,lookV,Nat.testBit,simprocAttr,-Int.reduceNatCast'],by simp only [sT.1,sC.1,noApp,lookV,Nat.testBit,simprocAttr,-Int.reduceNatCast'],by simp only [sT.1,sC.1,noApp,lookV,Nat.testBit,simprocAttr,-Int.reduceNatCast'],by simp only [sT.1,sC.1,noApp,lookV,Nat.testBit,simprocAttr,-Int.reduceNatCast',Int.natCast_zero],by omega,rfl⟩)
  rcases hq with ⟨rfl,hall⟩ | ⟨rfl,hall,e4⟩
  ·simp only [sT.1,sC.1,noApp,lookV,Nat.testBit,simprocAttr,-Int.reduceNatCast',ht] at hw
   rw [hall]
   exact hw.symm
  ·simp only [sT.1,sC.1,noApp,lookV,Nat.testBit,simprocAttr,-Int.reduceNatCast',ht,e4] at hw
   rw [hall]
   exact hw.symm
end
set_option maxHeartbeats 1000000 in
theorem ex_no {d:Nat} {h:List ABox} {op:Int} (ho:¬ (0 ≤ op∧op ≤ 25)) (n:Int) (nm sub:Str) (aS:List Exl):Wd (.fn 8 [] []) [exV (.mk op n nm sub aS),.int .i64 (d + 1:Nat)] h = some (.ret (.bool false),h,false):=by
 have z0:(((d + 1:Nat):Int) == 0) = false:=by rw [beq_eq_false_iff_ne];omega
 rw [exV_mk,Wd_fn rfl (show T.get 8 = some c8 by kernel_rfl)]
 by_cases h1:op < 0
 ·have z1:ilt op 0 = true:=by rw [ilt_eq];simpa using h1
  simp only [c8,sT.1,sC.1,noApp,lookV,Nat.testBit,simprocAttr,-Int.reduceNatCast',z0,z1]
 ·have z1:ilt op 0 = false:=by rw [ilt_eq];simpa using h1
  have z2:ilt 25 op = true:=by rw [ilt_eq];simp;omega
  simp only [c8,sT.1,sC.1,noApp,lookV,Nat.testBit,simprocAttr,-Int.reduceNatCast',z0,z1,z2]
theorem asks:∀d,d ≤ 100→Asks d:=by
 intro d
 induction d with
 | zero=>
  rintro _ ⟨op,n,nm,sub,aS⟩ h _
  have z0:(((0:Nat):Int) == 0) = true:=by kernel_rfl
  rw [exV_mk,Wd_fn rfl (show T.get 8 = some c8 by kernel_rfl),right]
  simp only [c8,sT.1,sC.1,noApp,lookV,Nat.testBit,simprocAttr,-Int.reduceNatCast',z0]
 | succ d ih=>
  rintro hd ⟨op,n,nm,sub,aS⟩ h ⟨k,hk⟩
  have ih:=ih (by omega)
  have hd:d < 100:=by omega
  obtain ⟨k,rfl⟩ :∃k',k = k' + 1:=by cases k with | zero=>exact hk.elim | succ k=>exact ⟨k,rfl⟩
  have hl:aS.length < 1000000000:=by have:=hk.1;omega
  have hf:∀a ∈ aS,∃k,Fit k a:=fun a ha=>⟨k,hk.2 a ha⟩
  rw [right]
  by_cases ho:0 ≤ op∧op ≤ 25
  ·have:op = 0∨op = 1∨op = 2∨op = 3∨op = 4∨op = 5∨op = 6∨op = 7∨op = 8∨op = 9∨op = 10∨op = 11∨op = 12∨op = 13∨op = 14∨op = 15∨op = 16∨op = 17∨op = 18∨op = 19∨op = 20∨op = 21∨op = 22∨op = 23∨op = 24∨op = 25:=by omega
   rcases this with rfl | rfl | rfl | rfl | rfl | rfl | rfl | rfl | rfl | rfl | rfl | rfl | rfl | rfl | rfl | rfl | rfl | rfl | rfl | rfl | rfl | rfl | rfl | rfl | rfl | rfl
   ·exact ex_0 hd ih n nm sub aS hl hf
   ·exact ex_1 hd ih n nm sub aS hl hf
   ·exact ex_2 hd ih n nm sub aS hl hf
   ·exact ex_3 hd ih n nm sub aS hl hf
   ·exact ex_4 hd ih n nm sub aS hl hf
   ·exact ex_5 hd ih n nm sub aS hl hf
   ·exact ex_6 hd ih n nm sub aS hl hf
   ·exact ex_7 hd ih n nm sub aS hl hf
   ·exact ex_8 hd ih n nm sub aS hl hf
   ·exact ex_9 hd ih n nm sub aS hl hf
   ·exact ex_10 hd ih n nm sub aS hl hf
   ·exact ex_11 hd ih n nm sub aS hl hf
   ·exact ex_12 hd ih n nm sub aS hl hf
   ·exact ex_13 hd ih n nm sub aS hl hf
   ·exact ex_14 hd ih n nm sub aS hl hf
   ·exact ex_15 hd ih n nm sub aS hl hf
   ·exact ex_16 hd ih n nm sub aS hl hf
   ·exact ex_17 hd ih n nm sub aS hl hf
   ·exact ex_18 hd ih n nm sub aS hl hf
   ·exact ex_19 hd ih n nm sub aS hl hf
   ·exact ex_20 hd ih n nm sub aS hl hf
   ·exact ex_21 hd ih n nm sub aS hl hf
   ·exact ex_22 hd ih n nm sub aS hl hf
   ·exact ex_23 hd ih n nm sub aS hl hf
   ·exact ex_24 hd ih n nm sub aS hl hf
   ·exact ex_25 hd ih n nm sub aS hl hf
  ·rw [nodeB_no ho,Bool.false_and]
   exact ex_no ho n nm sub aS
end Go.Proofs.YtfmkpcgpkdnioaaGreatDoor.AE
