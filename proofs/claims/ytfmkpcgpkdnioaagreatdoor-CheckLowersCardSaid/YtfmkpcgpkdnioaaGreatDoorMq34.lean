/- A part of the proof: the abstract executor and what goes through it (part 34). No condition. -/
import Derived.Test.YtfmkpcgpkdnioaaGreatDoorMq16
set_option maxRecDepth 100000
namespace Go.Proofs.YtfmkpcgpkdnioaaGreatDoor.AE
open Go.AE
section
variable {d:Nat} {h:List ABox}
theorem q_9 (n:Int) (nm sub:Str) (aS:List Exl):(!(n == 0) || !isName nm || !(sub == []) || ilt (aS.length:Int) 0 || ilt 0 (aS.length:Int)) = !(nB9 n nm sub aS.length):=by
 simp only [nB9,fB,ile3]
 rw [ilt_not,ilt_not]
 generalize ile 0 (aS.length:Int) = a1
 generalize ile (aS.length:Int) 0 = a2
 generalize (n == 0) = a3
 generalize (nm == []) = a4
 generalize (sub == []) = a5
 generalize ile 0 n = a6
 generalize ile n 3 = a7
 generalize vName nm = a8
 generalize isName nm = a9
 generalize isName sub = b1
 revert a1 a2 a3 a4 a5 a6 a7 a8 a9 b1
 decide
set_option maxHeartbeats 1000000 in
theorem ex_9 (hd:d < 100) (ih:Asks d) (n:Int) (nm sub:Str) (aS:List Exl) (hl:aS.length < 1000000000) (hf:∀a ∈ aS,∃k,Fit k a):Wd (.fn 8 [] []) [exV (.mk 9 n nm sub aS),.int .i64 (d + 1:Nat)] h = some (.ret (.bool (nB9 n nm sub aS.length && aS.all (right d))),h,false):=by
 have z0:(((d + 1:Nat):Int) == 0) = false:=by rw [beq_eq_false_iff_ne];omega
 have z1:ilt 9 0 = false:=by kernel_rfl
 have z2:ilt 25 9 = false:=by kernel_rfl
 have q:=q_9 n nm sub aS
 rw [exV_mk]
 generalize hw:Wd _ _ h = w
 rw [Wd_fn rfl (show T.get 8 = some c8 by kernel_rfl)] at hw
 cases hb:nB9 n nm sub aS.length with
 | false=>
  rw [hb,Bool.not_false] at q
  simp only [c8,sT.1,sC.1,noApp,lookV,Nat.testBit,simprocAttr,-Int.reduceNatCast',z0,z1,z2,List.length_map,r_name02,r_name09,q] at hw
  exact hw.symm
 | true=>
  rw [hb,Bool.not_true] at q
  simp only [c8,sT.1,sC.1,noApp,lookV,Nat.testBit,simprocAttr,-Int.reduceNatCast',z0,z1,z2,List.length_map,r_name02,r_name09,q] at hw
  generalize hr:execW h.length Wd (.loop l8_0) _ = r at hw
  obtain ⟨x,st',rfl,tt,rfl,ht,hq⟩:=known hr (ex_loop hd ih hl hf aS.length _ ⟨_,0,rfl,by simp only [sT.1,sC.1,noApp,lookV,Nat.testBit,simprocAttr,-Int.reduceNatCast'],by simp only [sT.1,sC.1,noApp,lookV,Nat.testBit,simprocAttr,-Int.reduceNatCast'],by simp only [sT.1,sC.1,noApp,lookV,Nat.testBit,simprocAttr,-Int.reduceNatCast'],by simp only [sT.1,sC.1,noApp,lookV,Nat.testBit,simprocAttr,-Int.reduceNatCast',Int.natCast_zero],by omega,rfl⟩)
  rcases hq with ⟨rfl,hall⟩ | ⟨rfl,hall,e4⟩
  ·simp only [sT.1,sC.1,noApp,lookV,Nat.testBit,simprocAttr,-Int.reduceNatCast',ht] at hw
   rw [hall]
   exact hw.symm
  ·simp only [sT.1,sC.1,noApp,lookV,Nat.testBit,simprocAttr,-Int.reduceNatCast',ht,e4] at hw
   rw [hall]
   exact hw.symm
theorem q_10 (n:Int) (nm sub:Str) (aS:List Exl):(!(n == 0) || !isName nm || !(sub == []) || ilt (aS.length:Int) 1 || ilt 1 (aS.length:Int)) = !(nB10 n nm sub aS.length):=by
 simp only [nB10,fB,ile3]
 rw [ilt_not,ilt_not]
 generalize ile 1 (aS.length:Int) = a1
 generalize ile (aS.length:Int) 1 = a2
 generalize (n == 0) = a3
 generalize (nm == []) = a4
 generalize (sub == []) = a5
 generalize ile 0 n = a6
 generalize ile n 3 = a7
 generalize vName nm = a8
 generalize isName nm = a9
 generalize isName sub = b1
 revert a1 a2 a3 a4 a5 a6 a7 a8 a9 b1
 decide
set_option maxHeartbeats 1000000 in
theorem ex_10 (hd:d < 100) (ih:Asks d) (n:Int) (nm sub:Str) (aS:List Exl) (hl:aS.length < 1000000000) (hf:∀a ∈ aS,∃k,Fit k a):Wd (.fn 8 [] []) [exV (.mk 10 n nm sub aS),.int .i64 (d + 1:Nat)] h = some (.ret (.bool (nB10 n nm sub aS.length && aS.all (right d))),h,false):=by
 have z0:(((d + 1:Nat):Int) == 0) = false:=by rw [beq_eq_false_iff_ne];omega
 have z1:ilt 10 0 = false:=by kernel_rfl
 have z2:ilt 25 10 = false:=by kernel_rfl
 have q:=q_10 n nm sub aS
 rw [exV_mk]
 generalize hw:Wd _ _ h = w
 rw [Wd_fn rfl (show T.get 8 = some c8 by kernel_rfl)] at hw
 cases hb:nB10 n nm sub aS.length with
 | false=>
  rw [hb,Bool.not_false] at q
  simp only [c8,sT.1,sC.1,noApp,lookV,Nat.testBit,simprocAttr,-Int.reduceNatCast',z0,z1,z2,List.length_map,r_name02,r_name09,q] at hw
  exact hw.symm
 | true=>
  rw [hb,Bool.not_true] at q
  simp only [c8,sT.1,sC.1,noApp,lookV,Nat.testBit,simprocAttr,-Int.reduceNatCast',z0,z1,z2,List.length_map,r_name02,r_name09,q] at hw
  generalize hr:execW h.length Wd (.loop l8_0) _ = r at hw
  obtain ⟨x,st',rfl,tt,rfl,ht,hq⟩:=known hr (ex_loop hd ih hl hf aS.length _ ⟨_,0,rfl,by simp only [sT.1,sC.1,noApp,lookV,Nat.testBit,simprocAttr,-Int.reduceNatCast'],by simp only [sT.1,sC.1,noApp,lookV,Nat.testBit,simprocAttr,-Int.reduceNatCast'],by simp only [sT.1,sC.1,noApp,lookV,Nat.testBit,simprocAttr,-Int.reduceNatCast'],by simp only [sT.1,sC.1,noApp,lookV,Nat.testBit,simprocAttr,-Int.reduceNatCast',Int.natCast_zero],by omega,rfl⟩)
  rcases hq with ⟨rfl,hall⟩ | ⟨rfl,hall,e4⟩
  ·simp only [sT.1,sC.1,noApp,lookV,Nat.testBit,simprocAttr,-Int.reduceNatCast',ht] at hw
   rw [hall]
   exact hw.symm
  ·simp only [sT.1,sC.1,noApp,lookV,Nat.testBit,simprocAttr,-Int.reduceNatCast',ht,e4] at hw
   rw [hall]
   exact hw.symm
theorem q_11 (n:Int) (nm sub:Str) (aS:List Exl):(!(n == 0) || !(nm == []) || !(sub == []) || ilt (aS.length:Int) 0 || ilt 0 (aS.length:Int)) = !(nB11 n nm sub aS.length):=by
 simp only [nB11,fB,ile3]
 rw [ilt_not,ilt_not]
 generalize ile 0 (aS.length:Int) = a1
 generalize ile (aS.length:Int) 0 = a2
 generalize (n == 0) = a3
 generalize (nm == []) = a4
 generalize (sub == []) = a5
 generalize ile 0 n = a6
 generalize ile n 3 = a7
 generalize vName nm = a8
 generalize isName nm = a9
 generalize isName sub = b1
 revert a1 a2 a3 a4 a5 a6 a7 a8 a9 b1
 decide
set_option maxHeartbeats 1000000 in
theorem ex_11 (hd:d < 100) (ih:Asks d) (n:Int) (nm sub:Str) (aS:List Exl) (hl:aS.length < 1000000000) (hf:∀a ∈ aS,∃k,Fit k a):Wd (.fn 8 [] []) [exV (.mk 11 n nm sub aS),.int .i64 (d + 1:Nat)] h = some (.ret (.bool (nB11 n nm sub aS.length && aS.all (right d))),h,false):=by
 have z0:(((d + 1:Nat):Int) == 0) = false:=by rw [beq_eq_false_iff_ne];omega
 have z1:ilt 11 0 = false:=by kernel_rfl
 have z2:ilt 25 11 = false:=by kernel_rfl
 have q:=q_11 n nm sub aS
 rw [exV_mk]
 generalize hw:Wd _ _ h = w
 rw [Wd_fn rfl (show T.get 8 = some c8 by kernel_rfl)] at hw
 cases hb:nB11 n nm sub aS.length with
 | false=>
  rw [hb,Bool.not_false] at q
  simp only [c8,sT.1,sC.1,noApp,lookV,Nat.testBit,simprocAttr,-Int.reduceNatCast',z0,z1,z2,List.length_map,r_name02,r_name09,q] at hw
  exact hw.symm
 | true=>
  rw [hb,Bool.not_true] at q
  simp only [c8,sT.1,sC.1,noApp,lookV,Nat.testBit,simprocAttr,-Int.reduceNatCast',z0,z1,z2,List.length_map,r_name02,r_name09,q] at hw
  generalize hr:execW h.length Wd (.loop l8_0) _ = r at hw
  obtain ⟨x,st',rfl,tt,rfl,ht,hq⟩:=known hr (ex_loop hd ih hl hf aS.length _ ⟨_,0,rfl,by simp only [sT.1,sC.1,noApp,lookV,Nat.testBit,simprocAttr,-Int.reduceNatCast'],by simp only [sT.1,sC.1,noApp,lookV,Nat.testBit,simprocAttr,-Int.reduceNatCast'],by simp only [sT.1,sC.1,noApp,lookV,Nat.testBit,simprocAttr,-Int.reduceNatCast'],by simp only [sT.1,sC.1,noApp,lookV,Nat.testBit,simprocAttr,-Int.reduceNatCast',Int.natCast_zero],by omega,rfl⟩)
  rcases hq with ⟨rfl,hall⟩ | ⟨rfl,hall,e4⟩
  ·simp only [sT.1,sC.1,noApp,lookV,Nat.testBit,simprocAttr,-Int.reduceNatCast',ht] at hw
   rw [hall]
   exact hw.symm
  ·simp only [sT.1,sC.1,noApp,lookV,Nat.testBit,simprocAttr,-Int.reduceNatCast',ht,e4] at hw
   rw [hall]
   exact hw.symm
theorem q_12 (n:Int) (nm sub:Str) (aS:List Exl):(!(ile 0 n && ile n 3) || !(nm == []) || !(sub == []) || ilt (aS.length:Int) 1 || ilt 1 (aS.length:Int)) = !(nB12 n nm sub aS.length):=by
 simp only [nB12,fB,ile3]
 rw [ilt_not,ilt_not]
 generalize ile 1 (aS.length:Int) = a1
 generalize ile (aS.length:Int) 1 = a2
 generalize (n == 0) = a3
 generalize (nm == []) = a4
 generalize (sub == []) = a5
 generalize ile 0 n = a6
 generalize ile n 3 = a7
 generalize vName nm = a8
 generalize isName nm = a9
 generalize isName sub = b1
 revert a1 a2 a3 a4 a5 a6 a7 a8 a9 b1
 decide
set_option maxHeartbeats 1000000 in
theorem ex_12 (hd:d < 100) (ih:Asks d) (n:Int) (nm sub:Str) (aS:List Exl) (hl:aS.length < 1000000000) (hf:∀a ∈ aS,∃k,Fit k a):Wd (.fn 8 [] []) [exV (.mk 12 n nm sub aS),.int .i64 (d + 1:Nat)] h = some (.ret (.bool (nB12 n nm sub aS.length && aS.all (right d))),h,false):=by
 have z0:(((d + 1:Nat):Int) == 0) = false:=by rw [beq_eq_false_iff_ne];omega
 have z1:ilt 12 0 = false:=by kernel_rfl
 have z2:ilt 25 12 = false:=by kernel_rfl
 have q:=q_12 n nm sub aS
 rw [exV_mk]
 generalize hw:Wd _ _ h = w
 rw [Wd_fn rfl (show T.get 8 = some c8 by kernel_rfl)] at hw
 cases hb:nB12 n nm sub aS.length with
 | false=>
  rw [hb,Bool.not_false] at q
  simp only [c8,sT.1,sC.1,noApp,lookV,Nat.testBit,simprocAttr,-Int.reduceNatCast',z0,z1,z2,List.length_map,r_name02,r_name09,q] at hw
  exact hw.symm
 | true=>
  rw [hb,Bool.not_true] at q
  simp only [c8,sT.1,sC.1,noApp,lookV,Nat.testBit,simprocAttr,-Int.reduceNatCast',z0,z1,z2,List.length_map,r_name02,r_name09,q] at hw
  generalize hr:execW h.length Wd (.loop l8_0) _ = r at hw
  obtain ⟨x,st',rfl,tt,rfl,ht,hq⟩:=known hr (ex_loop hd ih hl hf aS.length _ ⟨_,0,rfl,by simp only [sT.1,sC.1,noApp,lookV,Nat.testBit,simprocAttr,-Int.reduceNatCast'],by simp only [sT.1,sC.1,noApp,lookV,Nat.testBit,simprocAttr,-Int.reduceNatCast'],by simp only [sT.1,sC.1,noApp,lookV,Nat.testBit,simprocAttr,-Int.reduceNatCast'],by simp only [sT.1,sC.1,noApp,lookV,Nat.testBit,simprocAttr,-Int.reduceNatCast',Int.natCast_zero],by omega,rfl⟩)
  rcases hq with ⟨rfl,hall⟩ | ⟨rfl,hall,e4⟩
  ·simp only [sT.1,sC.1,noApp,lookV,Nat.testBit,simprocAttr,-Int.reduceNatCast',ht] at hw
   rw [hall]
   exact hw.symm
  ·simp only [sT.1,sC.1,noApp,lookV,Nat.testBit,simprocAttr,-Int.reduceNatCast',ht,e4] at hw
   rw [hall]
   exact hw.symm
theorem q_13 (n:Int) (nm sub:Str) (aS:List Exl):(!(n == 0) || !(nm == []) || !(sub == []) || ilt (aS.length:Int) 1 || ilt 1 (aS.length:Int)) = !(nB13 n nm sub aS.length):=by
 simp only [nB13,fB,ile3]
 rw [ilt_not,ilt_not]
 generalize ile 1 (aS.length:Int) = a1
 generalize ile (aS.length:Int) 1 = a2
 generalize (n == 0) = a3
 generalize (nm == []) = a4
 generalize (sub == []) = a5
 generalize ile 0 n = a6
 generalize ile n 3 = a7
 generalize vName nm = a8
 generalize isName nm = a9
 generalize isName sub = b1
 revert a1 a2 a3 a4 a5 a6 a7 a8 a9 b1
 decide
set_option maxHeartbeats 1000000 in
theorem ex_13 (hd:d < 100) (ih:Asks d) (n:Int) (nm sub:Str) (aS:List Exl) (hl:aS.length < 1000000000) (hf:∀a ∈ aS,∃k,Fit k a):Wd (.fn 8 [] []) [exV (.mk 13 n nm sub aS),.int .i64 (d + 1:Nat)] h = some (.ret (.bool (nB13 n nm sub aS.length && aS.all (right d))),h,false):=by
 have z0:(((d + 1:Nat):Int) == 0) = false:=by rw [beq_eq_false_iff_ne];omega
 have z1:ilt 13 0 = false:=by kernel_rfl
 have z2:ilt 25 13 = false:=by kernel_rfl
 have q:=q_13 n nm sub aS
 rw [exV_mk]
 generalize hw:Wd _ _ h = w
 rw [Wd_fn rfl (show T.get 8 = some c8 by kernel_rfl)] at hw
 cases hb:nB13 n nm sub aS.length with
 | false=>
  rw [hb,Bool.not_false] at q
  simp only [c8,sT.1,sC.1,noApp,lookV,Nat.testBit,simprocAttr,-Int.reduceNatCast',z0,z1,z2,List.length_map,r_name02,r_name09,q] at hw
  exact hw.symm
 | true=>
  rw [hb,Bool.not_true] at q
  simp only [c8,sT.1,sC.1,noApp,lookV,Nat.testBit,simprocAttr,-Int.reduceNatCast',z0,z1,z2,List.length_map,r_name02,r_name09,q] at hw
  generalize hr:execW h.length Wd (.loop l8_0) _ = r at hw
  obtain ⟨x,st',rfl,tt,rfl,ht,hq⟩:=known hr (ex_loop hd ih hl hf aS.length _ ⟨_,0,rfl,by simp only [sT.1,sC.1,noApp,lookV,Nat.testBit,simprocAttr,-Int.reduceNatCast'],by simp only [sT.1,sC.1,noApp,lookV,Nat.testBit,simprocAttr,-Int.reduceNatCast'],by simp only [sT.1,sC.1,noApp,lookV,Nat.testBit,simprocAttr,-Int.reduceNatCast'],by simp only [sT.1,sC.1,noApp,lookV,Nat.testBit,simprocAttr,-Int.reduceNatCast',Int.natCast_zero],by omega,rfl⟩)
  rcases hq with ⟨rfl,hall⟩ | ⟨rfl,hall,e4⟩
  ·simp only [sT.1,sC.1,noApp,lookV,Nat.testBit,simprocAttr,-Int.reduceNatCast',ht] at hw
   rw [hall]
   exact hw.symm
  ·simp only [sT.1,sC.1,noApp,lookV,Nat.testBit,simprocAttr,-Int.reduceNatCast',ht,e4] at hw
   rw [hall]
   exact hw.symm
theorem q_14 (n:Int) (nm sub:Str) (aS:List Exl):(!(n == 0) || !(nm == []) || !(sub == []) || ilt (aS.length:Int) 1 || ilt 1 (aS.length:Int)) = !(nB14 n nm sub aS.length):=by
 simp only [nB14,fB,ile3]
 rw [ilt_not,ilt_not]
 generalize ile 1 (aS.length:Int) = a1
 generalize ile (aS.length:Int) 1 = a2
 generalize (n == 0) = a3
 generalize (nm == []) = a4
 generalize (sub == []) = a5
 generalize ile 0 n = a6
 generalize ile n 3 = a7
 generalize vName nm = a8
 generalize isName nm = a9
 generalize isName sub = b1
 revert a1 a2 a3 a4 a5 a6 a7 a8 a9 b1
 decide
set_option maxHeartbeats 1000000 in
theorem ex_14 (hd:d < 100) (ih:Asks d) (n:Int) (nm sub:Str) (aS:List Exl) (hl:aS.length < 1000000000) (hf:∀a ∈ aS,∃k,Fit k a):Wd (.fn 8 [] []) [exV (.mk 14 n nm sub aS),.int .i64 (d + 1:Nat)] h = some (.ret (.bool (nB14 n nm sub aS.length && aS.all (right d))),h,false):=by
 have z0:(((d + 1:Nat):Int) == 0) = false:=by rw [beq_eq_false_iff_ne];omega
 have z1:ilt 14 0 = false:=by kernel_rfl
 have z2:ilt 25 14 = false:=by kernel_rfl
 have q:=q_14 n nm sub aS
 rw [exV_mk]
 generalize hw:Wd _ _ h = w
 rw [Wd_fn rfl (show T.get 8 = some c8 by kernel_rfl)] at hw
 cases hb:nB14 n nm sub aS.length with
 | false=>
  rw [hb,Bool.not_false] at q
  simp only [c8,sT.1,sC.1,noApp,lookV,Nat.testBit,simprocAttr,-Int.reduceNatCast',z0,z1,z2,List.length_map,r_name02,r_name09,q] at hw
  exact hw.symm
 | true=>
  rw [hb,Bool.not_true] at q
  simp only [c8,sT.1,sC.1,noApp,lookV,Nat.testBit,simprocAttr,-Int.reduceNatCast',z0,z1,z2,List.length_map,r_name02,r_name09,q] at hw
  generalize hr:execW h.length Wd (.loop l8_0) _ = r at hw
  obtain ⟨x,st',rfl,tt,rfl,ht,hq⟩:=known hr (ex_loop hd ih hl hf aS.length _ ⟨_,0,rfl,by simp only [sT.1,sC.1,noApp,lookV,Nat.testBit,simprocAttr,-Int.reduceNatCast'],by simp only [sT.1,sC.1,noApp,lookV,Nat.testBit,simprocAttr,-Int.reduceNatCast'],by simp only [sT.1,sC.1,noApp,lookV,Nat.testBit,simprocAttr,-Int.reduceNatCast'],by simp only [sT.1,sC.1,noApp,lookV,Nat.testBit,simprocAttr,-Int.reduceNatCast',Int.natCast_zero],by omega,rfl⟩)
  rcases hq with ⟨rfl,hall⟩ | ⟨rfl,hall,e4⟩
  ·simp only [sT.1,sC.1,noApp,lookV,Nat.testBit,simprocAttr,-Int.reduceNatCast',ht] at hw
   rw [hall]
   exact hw.symm
  ·simp only [sT.1,sC.1,noApp,lookV,Nat.testBit,simprocAttr,-Int.reduceNatCast',ht,e4] at hw
   rw [hall]
   exact hw.symm
theorem q_15 (n:Int) (nm sub:Str) (aS:List Exl):(!(n == 0) || !(nm == []) || !(sub == []) || ilt (aS.length:Int) 2 || ilt 2 (aS.length:Int)) = !(nB15 n nm sub aS.length):=by
 simp only [nB15,fB,ile3]
 rw [ilt_not,ilt_not]
 generalize ile 2 (aS.length:Int) = a1
 generalize ile (aS.length:Int) 2 = a2
 generalize (n == 0) = a3
 generalize (nm == []) = a4
 generalize (sub == []) = a5
 generalize ile 0 n = a6
 generalize ile n 3 = a7
 generalize vName nm = a8
 generalize isName nm = a9
 generalize isName sub = b1
 revert a1 a2 a3 a4 a5 a6 a7 a8 a9 b1
 decide
set_option maxHeartbeats 1000000 in
theorem ex_15 (hd:d < 100) (ih:Asks d) (n:Int) (nm sub:Str) (aS:List Exl) (hl:aS.length < 1000000000) (hf:∀a ∈ aS,∃k,Fit k a):Wd (.fn 8 [] []) [exV (.mk 15 n nm sub aS),.int .i64 (d + 1:Nat)] h = some (.ret (.bool (nB15 n nm sub aS.length && aS.all (right d))),h,false):=by
 have z0:(((d + 1:Nat):Int) == 0) = false:=by rw [beq_eq_false_iff_ne];omega
 have z1:ilt 15 0 = false:=by kernel_rfl
 have z2:ilt 25 15 = false:=by kernel_rfl
 have q:=q_15 n nm sub aS
 rw [exV_mk]
 generalize hw:Wd _ _ h = w
 rw [Wd_fn rfl (show T.get 8 = some c8 by kernel_rfl)] at hw
 cases hb:nB15 n nm sub aS.length with
 | false=>
  rw [hb,Bool.not_false] at q
  simp only [c8,sT.1,sC.1,noApp,lookV,Nat.testBit,simprocAttr,-Int.reduceNatCast',z0,z1,z2,List.length_map,r_name02,r_name09,q] at hw
  exact hw.symm
 | true=>
  rw [hb,Bool.not_true] at q
  simp only [c8,sT.1,sC.1,noApp,lookV,Nat.testBit,simprocAttr,-Int.reduceNatCast',z0,z1,z2,List.length_map,r_name02,r_name09,q] at hw
  generalize hr:execW h.length Wd (.loop l8_0) _ = r at hw
  obtain ⟨x,st',rfl,tt,rfl,ht,hq⟩:=known hr (ex_loop hd ih hl hf aS.length _ ⟨_,0,rfl,by simp only [sT.1,sC.1,noApp,lookV,Nat.testBit,simprocAttr,-Int.reduceNatCast'],by simp only [sT.1,sC.1,noApp,lookV,Nat.testBit,simprocAttr,-Int.reduceNatCast'],by simp only [sT.1,sC.1,noApp,lookV,Nat.testBit,simprocAttr,-Int.reduceNatCast'],by simp only [sT.1,sC.1,noApp,lookV,Nat.testBit,simprocAttr,-Int.reduceNatCast',Int.natCast_zero],by omega,rfl⟩)
  rcases hq with ⟨rfl,hall⟩ | ⟨rfl,hall,e4⟩
  ·simp only [sT.1,sC.1,noApp,lookV,Nat.testBit,simprocAttr,-Int.reduceNatCast',ht] at hw
   rw [hall]
   exact hw.symm
  ·simp only [sT.1,sC.1,noApp,lookV,Nat.testBit,simprocAttr,-Int.reduceNatCast',ht,e4] at hw
   rw [hall]
   exact hw.symm
theorem q_16 (n:Int) (nm sub:Str) (aS:List Exl):(!(n == 0) || !(nm == []) || !(sub == []) || ilt (aS.length:Int) 2 || ilt 2 (aS.length:Int)) = !(nB16 n nm sub aS.length):=by
 simp only [nB16,fB,ile3]
 rw [ilt_not,ilt_not]
 generalize ile 2 (aS.length:Int) = a1
 generalize ile (aS.length:Int) 2 = a2
 generalize (n == 0) = a3
 generalize (nm == []) = a4
 generalize (sub == []) = a5
 generalize ile 0 n = a6
 generalize ile n 3 = a7
 generalize vName nm = a8
 generalize isName nm = a9
 generalize isName sub = b1
 revert a1 a2 a3 a4 a5 a6 a7 a8 a9 b1
 decide
set_option maxHeartbeats 1000000 in
theorem ex_16 (hd:d < 100) (ih:Asks d) (n:Int) (nm sub:Str) (aS:List Exl) (hl:aS.length < 1000000000) (hf:∀a ∈ aS,∃k,Fit k a):Wd (.fn 8 [] []) [exV (.mk 16 n nm sub aS),.int .i64 (d + 1:Nat)] h = some (.ret (.bool (nB16 n nm sub aS.length && aS.all (right d))),h,false):=by
 have z0:(((d + 1:Nat):Int) == 0) = false:=by rw [beq_eq_false_iff_ne];omega
 have z1:ilt 16 0 = false:=by kernel_rfl
 have z2:ilt 25 16 = false:=by kernel_rfl
 have q:=q_16 n nm sub aS
 rw [exV_mk]
 generalize hw:Wd _ _ h = w
 rw [Wd_fn rfl (show T.get 8 = some c8 by kernel_rfl)] at hw
 cases hb:nB16 n nm sub aS.length with
 | false=>
  rw [hb,Bool.not_false] at q
  simp only [c8,sT.1,sC.1,noApp,lookV,Nat.testBit,simprocAttr,-Int.reduceNatCast',z0,z1,z2,List.length_map,r_name02,r_name09,q] at hw
  exact hw.symm
 | true=>
  rw [hb,Bool.not_true] at q
  simp only [c8,sT.1,sC.1,noApp,lookV,Nat.testBit,simprocAttr,-Int.reduceNatCast',z0,z1,z2,List.length_map,r_name02,r_name09,q] at hw
  generalize hr:execW h.length Wd (.loop l8_0) _ = r at hw
  obtain ⟨x,st',rfl,tt,rfl,ht,hq⟩:=known hr (ex_loop hd ih hl hf aS.length _ ⟨_,0,rfl,by simp only [sT.1,sC.1,noApp,lookV,Nat.testBit,simprocAttr,-Int.reduceNatCast'],by simp only [sT.1,sC.1,noApp,lookV,Nat.testBit,simprocAttr,-Int.reduceNatCast'],by simp only [sT.1,sC.1,noApp,lookV,Nat.testBit,simprocAttr,-Int.reduceNatCast'],by simp only [sT.1,sC.1,noApp,lookV,Nat.testBit,simprocAttr,-Int.reduceNatCast',Int.natCast_zero],by omega,rfl⟩)
  rcases hq with ⟨rfl,hall⟩ | ⟨rfl,hall,e4⟩
  ·simp only [sT.1,sC.1,noApp,lookV,Nat.testBit,simprocAttr,-Int.reduceNatCast',ht] at hw
   rw [hall]
   exact hw.symm
  ·simp only [sT.1,sC.1,noApp,lookV,Nat.testBit,simprocAttr,-Int.reduceNatCast',ht,e4] at hw
   rw [hall]
   exact hw.symm
theorem q_17 (n:Int) (nm sub:Str) (aS:List Exl):(!(n == 0) || !(nm == []) || !(sub == []) || ilt (aS.length:Int) 2 || ilt 2 (aS.length:Int)) = !(nB17 n nm sub aS.length):=by
 simp only [nB17,fB,ile3]
 rw [ilt_not,ilt_not]
 generalize ile 2 (aS.length:Int) = a1
 generalize ile (aS.length:Int) 2 = a2
 generalize (n == 0) = a3
 generalize (nm == []) = a4
 generalize (sub == []) = a5
 generalize ile 0 n = a6
 generalize ile n 3 = a7
 generalize vName nm = a8
 generalize isName nm = a9
 generalize isName sub = b1
 revert a1 a2 a3 a4 a5 a6 a7 a8 a9 b1
 decide
set_option maxHeartbeats 1000000 in
theorem ex_17 (hd:d < 100) (ih:Asks d) (n:Int) (nm sub:Str) (aS:List Exl) (hl:aS.length < 1000000000) (hf:∀a ∈ aS,∃k,Fit k a):Wd (.fn 8 [] []) [exV (.mk 17 n nm sub aS),.int .i64 (d + 1:Nat)] h = some (.ret (.bool (nB17 n nm sub aS.length && aS.all (right d))),h,false):=by
 have z0:(((d + 1:Nat):Int) == 0) = false:=by rw [beq_eq_false_iff_ne];omega
 have z1:ilt 17 0 = false:=by kernel_rfl
 have z2:ilt 25 17 = false:=by kernel_rfl
 have q:=q_17 n nm sub aS
 rw [exV_mk]
 generalize hw:Wd _ _ h = w
 rw [Wd_fn rfl (show T.get 8 = some c8 by kernel_rfl)] at hw
 cases hb:nB17 n nm sub aS.length with
 | false=>
  rw [hb,Bool.not_false] at q
  simp only [c8,sT.1,sC.1,noApp,lookV,Nat.testBit,simprocAttr,-Int.reduceNatCast',z0,z1,z2,List.length_map,r_name02,r_name09,q] at hw
  exact hw.symm
 | true=>
  rw [hb,Bool.not_true] at q
  simp only [c8,sT.1,sC.1,noApp,lookV,Nat.testBit,simprocAttr,-Int.reduceNatCast',z0,z1,z2,List.length_map,r_name02,r_name09,q] at hw
  generalize hr:execW h.length Wd (.loop l8_0) _ = r at hw
  obtain ⟨x,st',rfl,tt,rfl,ht,hq⟩:=known hr (ex_loop hd ih hl hf aS.length _ ⟨_,0,rfl,by simp only [sT.1,sC.1,noApp,lookV,Nat.testBit,simprocAttr,-Int.reduceNatCast'],by simp only [sT.1,sC.1,noApp,lookV,Nat.testBit,simprocAttr,-Int.reduceNatCast'],by simp only [sT.1,sC.1,noApp,lookV,Nat.testBit,simprocAttr,-Int.reduceNatCast'],by simp only [sT.1,sC.1,noApp,lookV,Nat.testBit,simprocAttr,-Int.reduceNatCast',Int.natCast_zero],by omega,rfl⟩)
  rcases hq with ⟨rfl,hall⟩ | ⟨rfl,hall,e4⟩
  ·simp only [sT.1,sC.1,noApp,lookV,Nat.testBit,simprocAttr,-Int.reduceNatCast',ht] at hw
   rw [hall]
   exact hw.symm
  ·simp only [sT.1,sC.1,noApp,lookV,Nat.testBit,simprocAttr,-Int.reduceNatCast',ht,e4] at hw
   rw [hall]
   exact hw.symm
end
end Go.Proofs.YtfmkpcgpkdnioaaGreatDoor.AE
