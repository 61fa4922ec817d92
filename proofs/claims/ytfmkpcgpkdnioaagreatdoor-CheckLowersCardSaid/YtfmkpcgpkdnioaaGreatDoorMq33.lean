/- A part of the proof: the abstract executor and what goes through it (part 33). No condition. -/
import Derived.Test.YtfmkpcgpkdnioaaGreatDoorMq16
set_option maxRecDepth 100000
namespace Go.Proofs.YtfmkpcgpkdnioaaGreatDoor.AE
open Go.AE
section
variable {d:Nat} {h:List ABox}
theorem q_0 (n:Int) (nm sub:Str) (aS:List Exl):(!ile 0 n || !(nm == []) || !(sub == []) || ilt (aS.length:Int) 0 || ilt 0 (aS.length:Int)) = !(nB0 n nm sub aS.length):=by
 simp only [nB0,fB,ile3]
 rw [ilt_not,ilt_not]
 generalize ile 0 (aS.length:Int) = a1
 generalize ile (aS.length:Int) 0 = a2
 generalize (n == 0) = a3
 generalize (nm == []) = a4
 generalize (sub == []) = a5
 generalize ile 0 n = a6
 generalize ile n 3 = a7
 generalize vName nm = a8
 generalize isName nm = a9
 generalize isName sub = b1
 revert a1 a2 a3 a4 a5 a6 a7 a8 a9 b1
 decide
set_option maxHeartbeats 1000000 in
theorem ex_0 (hd:d < 100) (ih:Asks d) (n:Int) (nm sub:Str) (aS:List Exl) (hl:aS.length < 1000000000) (hf:∀a ∈ aS,∃k,Fit k a):Wd (.fn 8 [] []) [exV (.mk 0 n nm sub aS),.int .i64 (d + 1:Nat)] h = some (.ret (.bool (nB0 n nm sub aS.length && aS.all (right d))),h,false):=by
 have z0:(((d + 1:Nat):Int) == 0) = false:=by rw [beq_eq_false_iff_ne];omega
 have z1:ilt 0 0 = false:=by kernel_rfl
 have z2:ilt 25 0 = false:=by kernel_rfl
 have q:=q_0 n nm sub aS
 rw [exV_mk]
 generalize hw:Wd _ _ h = w
 rw [Wd_fn rfl (show T.get 8 = some c8 by kernel_rfl)] at hw
 cases hb:nB0 n nm sub aS.length with
 | false=>
  rw [hb,Bool.not_false] at q
  simp only [c8,sT.1,sC.1,noApp,lookV,Nat.testBit,simprocAttr,-Int.reduceNatCast',z0,z1,z2,List.length_map,r_name02,r_name09,q] at hw
  exact hw.symm
 | true=>
  rw [hb,Bool.not_true] at q
  simp only [c8,sT.1,sC.1,noApp,lookV,Nat.testBit,simprocAttr,-Int.reduceNatCast',z0,z1,z2,List.length_map,r_name02,r_name09,q] at hw
  generalize hr:execW h.length Wd (.loop l8_0) _ = r at hw
  obtain ⟨x,st',rfl,tt,rfl,ht,hq⟩:=known hr (ex_loop hd ih hl hf aS.length _ ⟨_,0,rfl,by simp only [sT.1,sC.1,noApp,lookV,Nat.testBit,simprocAttr,-Int.reduceNatCast'],by simp only [sT.1,sC.1,noApp,lookV,Nat.testBit,simprocAttr,-Int.reduceNatCast'],by simp only [sT.1,sC.1,noApp,lookV,Nat.testBit,simprocAttr,-Int.reduceNatCast'],by simp only [sT.1,sC.1,noApp,lookV,Nat.testBit,simprocAttr,-Int.reduceNatCast',Int.natCast_zero],by omega,rfl⟩)
  rcases hq with ⟨rfl,hall⟩ | ⟨rfl,hall,e4⟩
  ·simp only [sT.1,sC.1,noApp,lookV,Nat.testBit,simprocAttr,-Int.reduceNatCast',ht] at hw
   rw [hall]
   exact hw.symm
  ·simp only [sT.1,sC.1,noApp,lookV,Nat.testBit,simprocAttr,-Int.reduceNatCast',ht,e4] at hw
   rw [hall]
   exact hw.symm
theorem q_1 (n:Int) (nm sub:Str) (aS:List Exl):(!(n == 0) || !(nm == []) || !(sub == []) || ilt (aS.length:Int) 0 || ilt 0 (aS.length:Int)) = !(nB1 n nm sub aS.length):=by
 simp only [nB1,fB,ile3]
 rw [ilt_not,ilt_not]
 generalize ile 0 (aS.length:Int) = a1
 generalize ile (aS.length:Int) 0 = a2
 generalize (n == 0) = a3
 generalize (nm == []) = a4
 generalize (sub == []) = a5
 generalize ile 0 n = a6
 generalize ile n 3 = a7
 generalize vName nm = a8
 generalize isName nm = a9
 generalize isName sub = b1
 revert a1 a2 a3 a4 a5 a6 a7 a8 a9 b1
 decide
set_option maxHeartbeats 1000000 in
theorem ex_1 (hd:d < 100) (ih:Asks d) (n:Int) (nm sub:Str) (aS:List Exl) (hl:aS.length < 1000000000) (hf:∀a ∈ aS,∃k,Fit k a):Wd (.fn 8 [] []) [exV (.mk 1 n nm sub aS),.int .i64 (d + 1:Nat)] h = some (.ret (.bool (nB1 n nm sub aS.length && aS.all (right d))),h,false):=by
 have z0:(((d + 1:Nat):Int) == 0) = false:=by rw [beq_eq_false_iff_ne];omega
 have z1:ilt 1 0 = false:=by kernel_rfl
 have z2:ilt 25 1 = false:=by kernel_rfl
 have q:=q_1 n nm sub aS
 rw [exV_mk]
 generalize hw:Wd _ _ h = w
 rw [Wd_fn rfl (show T.get 8 = some c8 by kernel_rfl)] at hw
 cases hb:nB1 n nm sub aS.length with
 | false=>
  rw [hb,Bool.not_false] at q
  simp only [c8,sT.1,sC.1,noApp,lookV,Nat.testBit,simprocAttr,-Int.reduceNatCast',z0,z1,z2,List.length_map,r_name02,r_name09,q] at hw
  exact hw.symm
 | true=>
  rw [hb,Bool.not_true] at q
  simp only [c8,sT.1,sC.1,noApp,lookV,Nat.testBit,simprocAttr,-Int.reduceNatCast',z0,z1,z2,List.length_map,r_name02,r_name09,q] at hw
  generalize hr:execW h.length Wd (.loop l8_0) _ = r at hw
  obtain ⟨x,st',rfl,tt,rfl,ht,hq⟩:=known hr (ex_loop hd ih hl hf aS.length _ ⟨_,0,rfl,by simp only [sT.1,sC.1,noApp,lookV,Nat.testBit,simprocAttr,-Int.reduceNatCast'],by simp only [sT.1,sC.1,noApp,lookV,Nat.testBit,simprocAttr,-Int.reduceNatCast'],by simp only [sT.1,sC.1,noApp,lookV,Nat.testBit,simprocAttr,-Int.reduceNatCast'],by simp only [sT.1,sC.1,noApp,lookV,Nat.testBit,simprocAttr,-Int.reduceNatCast',Int.natCast_zero],by omega,rfl⟩)
  rcases hq with ⟨rfl,hall⟩ | ⟨rfl,hall,e4⟩
  ·simp only [sT.1,sC.1,noApp,lookV,Nat.testBit,simprocAttr,-Int.reduceNatCast',ht] at hw
   rw [hall]
   exact hw.symm
  ·simp only [sT.1,sC.1,noApp,lookV,Nat.testBit,simprocAttr,-Int.reduceNatCast',ht,e4] at hw
   rw [hall]
   exact hw.symm
theorem q_2 (n:Int) (nm sub:Str) (aS:List Exl):(!(n == 0) || !(nm == []) || !(sub == []) || ilt (aS.length:Int) 0 || ilt 0 (aS.length:Int)) = !(nB2 n nm sub aS.length):=by
 simp only [nB2,fB,ile3]
 rw [ilt_not,ilt_not]
 generalize ile 0 (aS.length:Int) = a1
 generalize ile (aS.length:Int) 0 = a2
 generalize (n == 0) = a3
 generalize (nm == []) = a4
 generalize (sub == []) = a5
 generalize ile 0 n = a6
 generalize ile n 3 = a7
 generalize vName nm = a8
 generalize isName nm = a9
 generalize isName sub = b1
 revert a1 a2 a3 a4 a5 a6 a7 a8 a9 b1
 decide
set_option maxHeartbeats 1000000 in
theorem ex_2 (hd:d < 100) (ih:Asks d) (n:Int) (nm sub:Str) (aS:List Exl) (hl:aS.length < 1000000000) (hf:∀a ∈ aS,∃k,Fit k a):Wd (.fn 8 [] []) [exV (.mk 2 n nm sub aS),.int .i64 (d + 1:Nat)] h = some (.ret (.bool (nB2 n nm sub aS.length && aS.all (right d))),h,false):=by
 have z0:(((d + 1:Nat):Int) == 0) = false:=by rw [beq_eq_false_iff_ne];omega
 have z1:ilt 2 0 = false:=by kernel_rfl
 have z2:ilt 25 2 = false:=by kernel_rfl
 have q:=q_2 n nm sub aS
 rw [exV_mk]
 generalize hw:Wd _ _ h = w
 rw [Wd_fn rfl (show T.get 8 = some c8 by kernel_rfl)] at hw
 cases hb:nB2 n nm sub aS.length with
 | false=>
  rw [hb,Bool.not_false] at q
  simp only [c8,sT.1,sC.1,noApp,lookV,Nat.testBit,simprocAttr,-Int.reduceNatCast',z0,z1,z2,List.length_map,r_name02,r_name09,q] at hw
  exact hw.symm
 | true=>
  rw [hb,Bool.not_true] at q
  simp only [c8,sT.1,sC.1,noApp,lookV,Nat.testBit,simprocAttr,-Int.reduceNatCast',z0,z1,z2,List.length_map,r_name02,r_name09,q] at hw
  generalize hr:execW h.length Wd (.loop l8_0) _ = r at hw
  obtain ⟨x,st',rfl,tt,rfl,ht,hq⟩:=known hr (ex_loop hd ih hl hf aS.length _ ⟨_,0,rfl,by simp only [sT.1,sC.1,noApp,lookV,Nat.testBit,simprocAttr,-Int.reduceNatCast'],by simp only [sT.1,sC.1,noApp,lookV,Nat.testBit,simprocAttr,-Int.reduceNatCast'],by simp only [sT.1,sC.1,noApp,lookV,Nat.testBit,simprocAttr,-Int.reduceNatCast'],by simp only [sT.1,sC.1,noApp,lookV,Nat.testBit,simprocAttr,-Int.reduceNatCast',Int.natCast_zero],by omega,rfl⟩)
  rcases hq with ⟨rfl,hall⟩ | ⟨rfl,hall,e4⟩
  ·simp only [sT.1,sC.1,noApp,lookV,Nat.testBit,simprocAttr,-Int.reduceNatCast',ht] at hw
   rw [hall]
   exact hw.symm
  ·simp only [sT.1,sC.1,noApp,lookV,Nat.testBit,simprocAttr,-Int.reduceNatCast',ht,e4] at hw
   rw [hall]
   exact hw.symm
theorem q_3 (n:Int) (nm sub:Str) (aS:List Exl):(!(n == 0) || !vName nm || !(sub == []) || ilt (aS.length:Int) 0 || ilt 0 (aS.length:Int)) = !(nB3 n nm sub aS.length):=by
 simp only [nB3,fB,ile3]
 rw [ilt_not,ilt_not]
 generalize ile 0 (aS.length:Int) = a1
 generalize ile (aS.length:Int) 0 = a2
 generalize (n == 0) = a3
 generalize (nm == []) = a4
 generalize (sub == []) = a5
 generalize ile 0 n = a6
 generalize ile n 3 = a7
 generalize vName nm = a8
 generalize isName nm = a9
 generalize isName sub = b1
 revert a1 a2 a3 a4 a5 a6 a7 a8 a9 b1
 decide
set_option maxHeartbeats 1000000 in
theorem ex_3 (hd:d < 100) (ih:Asks d) (n:Int) (nm sub:Str) (aS:List Exl) (hl:aS.length < 1000000000) (hf:∀a ∈ aS,∃k,Fit k a):Wd (.fn 8 [] []) [exV (.mk 3 n nm sub aS),.int .i64 (d + 1:Nat)] h = some (.ret (.bool (nB3 n nm sub aS.length && aS.all (right d))),h,false):=by
 have z0:(((d + 1:Nat):Int) == 0) = false:=by rw [beq_eq_false_iff_ne];omega
 have z1:ilt 3 0 = false:=by kernel_rfl
 have z2:ilt 25 3 = false:=by kernel_rfl
 have q:=q_3 n nm sub aS
 rw [exV_mk]
 generalize hw:Wd _ _ h = w
 rw [Wd_fn rfl (show T.get 8 = some c8 by kernel_rfl)] at hw
 cases hb:nB3 n nm sub aS.length with
 | false=>
  rw [hb,Bool.not_false] at q
  simp only [c8,sT.1,sC.1,noApp,lookV,Nat.testBit,simprocAttr,-Int.reduceNatCast',z0,z1,z2,List.length_map,r_name02,r_name09,q] at hw
  exact hw.symm
 | true=>
  rw [hb,Bool.not_true] at q
  simp only [c8,sT.1,sC.1,noApp,lookV,Nat.testBit,simprocAttr,-Int.reduceNatCast',z0,z1,z2,List.length_map,r_name02,r_name09,q] at hw
  generalize hr:execW h.length Wd (.loop l8_0) _ = r at hw
  obtain ⟨x,st',rfl,tt,rfl,ht,hq⟩:=known hr (ex_loop hd ih hl hf aS.length _ ⟨_,0,rfl,by simp only [sT.1,sC.1,noApp,lookV,Nat.testBit,simprocAttr,-Int.reduceNatCast'],by simp only [sT.1,sC.1,noApp,lookV,Nat.testBit,simprocAttr,-Int.reduceNatCast'],by simp only [sT.1,sC.1,noApp,lookV,Nat.testBit,simprocAttr,-Int.reduceNatCast'],by simp only [sT.1,sC.1,noApp,lookV,Nat.testBit,simprocAttr,-Int.reduceNatCast',Int.natCast_zero],by omega,rfl⟩)
  rcases hq with ⟨rfl,hall⟩ | ⟨rfl,hall,e4⟩
  ·simp only [sT.1,sC.1,noApp,lookV,Nat.testBit,simprocAttr,-Int.reduceNatCast',ht] at hw
   rw [hall]
   exact hw.symm
  ·simp only [sT.1,sC.1,noApp,lookV,Nat.testBit,simprocAttr,-Int.reduceNatCast',ht,e4] at hw
   rw [hall]
   exact hw.symm
theorem q_4 (n:Int) (nm sub:Str) (aS:List Exl):(!(n == 0) || !isName nm || !(sub == []) || ilt (aS.length:Int) 0 || ilt 0 (aS.length:Int)) = !(nB4 n nm sub aS.length):=by
 simp only [nB4,fB,ile3]
 rw [ilt_not,ilt_not]
 generalize ile 0 (aS.length:Int) = a1
 generalize ile (aS.length:Int) 0 = a2
 generalize (n == 0) = a3
 generalize (nm == []) = a4
 generalize (sub == []) = a5
 generalize ile 0 n = a6
 generalize ile n 3 = a7
 generalize vName nm = a8
 generalize isName nm = a9
 generalize isName sub = b1
 revert a1 a2 a3 a4 a5 a6 a7 a8 a9 b1
 decide
set_option maxHeartbeats 1000000 in
theorem ex_4 (hd:d < 100) (ih:Asks d) (n:Int) (nm sub:Str) (aS:List Exl) (hl:aS.length < 1000000000) (hf:∀a ∈ aS,∃k,Fit k a):Wd (.fn 8 [] []) [exV (.mk 4 n nm sub aS),.int .i64 (d + 1:Nat)] h = some (.ret (.bool (nB4 n nm sub aS.length && aS.all (right d))),h,false):=by
 have z0:(((d + 1:Nat):Int) == 0) = false:=by rw [beq_eq_false_iff_ne];omega
 have z1:ilt 4 0 = false:=by kernel_rfl
 have z2:ilt 25 4 = false:=by kernel_rfl
 have q:=q_4 n nm sub aS
 rw [exV_mk]
 generalize hw:Wd _ _ h = w
 rw [Wd_fn rfl (show T.get 8 = some c8 by kernel_rfl)] at hw
 cases hb:nB4 n nm sub aS.length with
 | false=>
  rw [hb,Bool.not_false] at q
  simp only [c8,sT.1,sC.1,noApp,lookV,Nat.testBit,simprocAttr,-Int.reduceNatCast',z0,z1,z2,List.length_map,r_name02,r_name09,q] at hw
  exact hw.symm
 | true=>
  rw [hb,Bool.not_true] at q
  simp only [c8,sT.1,sC.1,noApp,lookV,Nat.testBit,simprocAttr,-Int.reduceNatCast',z0,z1,z2,List.length_map,r_name02,r_name09,q] at hw
  generalize hr:execW h.length Wd (.loop l8_0) _ = r at hw
  obtain ⟨x,st',rfl,tt,rfl,ht,hq⟩:=known hr (ex_loop hd ih hl hf aS.length _ ⟨_,0,rfl,by simp only [sT.1,sC.1,noApp,lookV,Nat.testBit,simprocAttr,-Int.reduceNatCast'],by simp only [sT.1,sC.1,noApp,lookV,Nat.testBit,simprocAttr,-Int.reduceNatCast'],by simp only [sT.1,sC.1,noApp,lookV,Nat.testBit,simprocAttr,-Int.reduceNatCast'],by simp only [sT.1,sC.1,noApp,lookV,Nat.testBit,simprocAttr,-Int.reduceNatCast',Int.natCast_zero],by omega,rfl⟩)
  rcases hq with ⟨rfl,hall⟩ | ⟨rfl,hall,e4⟩
  ·simp only [sT.1,sC.1,noApp,lookV,Nat.testBit,simprocAttr,-Int.reduceNatCast',ht] at hw
   rw [hall]
   exact hw.symm
  ·simp only [sT.1,sC.1,noApp,lookV,Nat.testBit,simprocAttr,-Int.reduceNatCast',ht,e4] at hw
   rw [hall]
   exact hw.symm
theorem q_5 (n:Int) (nm sub:Str) (aS:List Exl):(!(n == 0) || !isName nm || !isName sub || ilt (aS.length:Int) 0 || ilt 0 (aS.length:Int)) = !(nB5 n nm sub aS.length):=by
 simp only [nB5,fB,ile3]
 rw [ilt_not,ilt_not]
 generalize ile 0 (aS.length:Int) = a1
 generalize ile (aS.length:Int) 0 = a2
 generalize (n == 0) = a3
 generalize (nm == []) = a4
 generalize (sub == []) = a5
 generalize ile 0 n = a6
 generalize ile n 3 = a7
 generalize vName nm = a8
 generalize isName nm = a9
 generalize isName sub = b1
 revert a1 a2 a3 a4 a5 a6 a7 a8 a9 b1
 decide
set_option maxHeartbeats 1000000 in
theorem ex_5 (hd:d < 100) (ih:Asks d) (n:Int) (nm sub:Str) (aS:List Exl) (hl:aS.length < 1000000000) (hf:∀a ∈ aS,∃k,Fit k a):Wd (.fn 8 [] []) [exV (.mk 5 n nm sub aS),.int .i64 (d + 1:Nat)] h = some (.ret (.bool (nB5 n nm sub aS.length && aS.all (right d))),h,false):=by
 have z0:(((d + 1:Nat):Int) == 0) = false:=by rw [beq_eq_false_iff_ne];omega
 have z1:ilt 5 0 = false:=by kernel_rfl
 have z2:ilt 25 5 = false:=by kernel_rfl
 have q:=q_5 n nm sub aS
 rw [exV_mk]
 generalize hw:Wd _ _ h = w
 rw [Wd_fn rfl (show T.get 8 = some c8 by kernel_rfl)] at hw
 cases hb:nB5 n nm sub aS.length with
 | false=>
  rw [hb,Bool.not_false] at q
  simp only [c8,sT.1,sC.1,noApp,lookV,Nat.testBit,simprocAttr,-Int.reduceNatCast',z0,z1,z2,List.length_map,r_name02,r_name09,q] at hw
  exact hw.symm
 | true=>
  rw [hb,Bool.not_true] at q
  simp only [c8,sT.1,sC.1,noApp,lookV,Nat.testBit,simprocAttr,-Int.reduceNatCast',z0,z1,z2,List.length_map,r_name02,r_name09,q] at hw
  generalize hr:execW h.length Wd (.loop l8_0) _ = r at hw
  obtain ⟨x,st',rfl,tt,rfl,ht,hq⟩:=known hr (ex_loop hd ih hl hf aS.length _ ⟨_,0,rfl,by simp only [sT.1,sC.1,noApp,lookV,Nat.testBit,simprocAttr,-Int.reduceNatCast'],by simp only [sT.1,sC.1,noApp,lookV,Nat.testBit,simprocAttr,-Int.reduceNatCast'],by simp only [sT.1,sC.1,noApp,lookV,Nat.testBit,simprocAttr,-Int.reduceNatCast'],by simp only [sT.1,sC.1,noApp,lookV,Nat.testBit,simprocAttr,-Int.reduceNatCast',Int.natCast_zero],by omega,rfl⟩)
  rcases hq with ⟨rfl,hall⟩ | ⟨rfl,hall,e4⟩
  ·simp only [sT.1,sC.1,noApp,lookV,Nat.testBit,simprocAttr,-Int.reduceNatCast',ht] at hw
   rw [hall]
   exact hw.symm
  ·simp only [sT.1,sC.1,noApp,lookV,Nat.testBit,simprocAttr,-Int.reduceNatCast',ht,e4] at hw
   rw [hall]
   exact hw.symm
theorem q_6 (n:Int) (nm sub:Str) (aS:List Exl):(!(n == 0) || !(nm == []) || !(sub == []) || ilt (aS.length:Int) 1 || ilt 4 (aS.length:Int)) = !(nB6 n nm sub aS.length):=by
 simp only [nB6,fB,ile3]
 rw [ilt_not,ilt_not]
 generalize ile 1 (aS.length:Int) = a1
 generalize ile (aS.length:Int) 4 = a2
 generalize (n == 0) = a3
 generalize (nm == []) = a4
 generalize (sub == []) = a5
 generalize ile 0 n = a6
 generalize ile n 3 = a7
 generalize vName nm = a8
 generalize isName nm = a9
 generalize isName sub = b1
 revert a1 a2 a3 a4 a5 a6 a7 a8 a9 b1
 decide
set_option maxHeartbeats 1000000 in
theorem ex_6 (hd:d < 100) (ih:Asks d) (n:Int) (nm sub:Str) (aS:List Exl) (hl:aS.length < 1000000000) (hf:∀a ∈ aS,∃k,Fit k a):Wd (.fn 8 [] []) [exV (.mk 6 n nm sub aS),.int .i64 (d + 1:Nat)] h = some (.ret (.bool (nB6 n nm sub aS.length && aS.all (right d))),h,false):=by
 have z0:(((d + 1:Nat):Int) == 0) = false:=by rw [beq_eq_false_iff_ne];omega
 have z1:ilt 6 0 = false:=by kernel_rfl
 have z2:ilt 25 6 = false:=by kernel_rfl
 have q:=q_6 n nm sub aS
 rw [exV_mk]
 generalize hw:Wd _ _ h = w
 rw [Wd_fn rfl (show T.get 8 = some c8 by kernel_rfl)] at hw
 cases hb:nB6 n nm sub aS.length with
 | false=>
  rw [hb,Bool.not_false] at q
  simp only [c8,sT.1,sC.1,noApp,lookV,Nat.testBit,simprocAttr,-Int.reduceNatCast',z0,z1,z2,List.length_map,r_name02,r_name09,q] at hw
  exact hw.symm
 | true=>
  rw [hb,Bool.not_true] at q
  simp only [c8,sT.1,sC.1,noApp,lookV,Nat.testBit,simprocAttr,-Int.reduceNatCast',z0,z1,z2,List.length_map,r_name02,r_name09,q] at hw
  generalize hr:execW h.length Wd (.loop l8_0) _ = r at hw
  obtain ⟨x,st',rfl,tt,rfl,ht,hq⟩:=known hr (ex_loop hd ih hl hf aS.length _ ⟨_,0,rfl,by simp only [sT.1,sC.1,noApp,lookV,Nat.testBit,simprocAttr,-Int.reduceNatCast'],by simp only [sT.1,sC.1,noApp,lookV,Nat.testBit,simprocAttr,-Int.reduceNatCast'],by simp only [sT.1,sC.1,noApp,lookV,Nat.testBit,simprocAttr,-Int.reduceNatCast'],by simp only [sT.1,sC.1,noApp,lookV,Nat.testBit,simprocAttr,-Int.reduceNatCast',Int.natCast_zero],by omega,rfl⟩)
  rcases hq with ⟨rfl,hall⟩ | ⟨rfl,hall,e4⟩
  ·simp only [sT.1,sC.1,noApp,lookV,Nat.testBit,simprocAttr,-Int.reduceNatCast',ht] at hw
   rw [hall]
   exact hw.symm
  ·simp only [sT.1,sC.1,noApp,lookV,Nat.testBit,simprocAttr,-Int.reduceNatCast',ht,e4] at hw
   rw [hall]
   exact hw.symm
theorem q_7 (n:Int) (nm sub:Str) (aS:List Exl):(!(n == 0) || !isName nm || !(sub == []) || ilt (aS.length:Int) 0 || ilt 0 (aS.length:Int)) = !(nB7 n nm sub aS.length):=by
 simp only [nB7,fB,ile3]
 rw [ilt_not,ilt_not]
 generalize ile 0 (aS.length:Int) = a1
 generalize ile (aS.length:Int) 0 = a2
 generalize (n == 0) = a3
 generalize (nm == []) = a4
 generalize (sub == []) = a5
 generalize ile 0 n = a6
 generalize ile n 3 = a7
 generalize vName nm = a8
 generalize isName nm = a9
 generalize isName sub = b1
 revert a1 a2 a3 a4 a5 a6 a7 a8 a9 b1
 decide
set_option maxHeartbeats 1000000 in
theorem ex_7 (hd:d < 100) (ih:Asks d) (n:Int) (nm sub:Str) (aS:List Exl) (hl:aS.length < 1000000000) (hf:∀a ∈ aS,∃k,Fit k a):Wd (.fn 8 [] []) [exV (.mk 7 n nm sub aS),.int .i64 (d + 1:Nat)] h = some (.ret (.bool (nB7 n nm sub aS.length && aS.all (right d))),h,false):=by
 have z0:(((d + 1:Nat):Int) == 0) = false:=by rw [beq_eq_false_iff_ne];omega
 have z1:ilt 7 0 = false:=by kernel_rfl
 have z2:ilt 25 7 = false:=by kernel_rfl
 have q:=q_7 n nm sub aS
 rw [exV_mk]
 generalize hw:Wd _ _ h = w
 rw [Wd_fn rfl (show T.get 8 = some c8 by kernel_rfl)] at hw
 cases hb:nB7 n nm sub aS.length with
 | false=>
  rw [hb,Bool.not_false] at q
  simp only [c8,sT.1,sC.1,noApp,lookV,Nat.testBit,simprocAttr,-Int.reduceNatCast',z0,z1,z2,List.length_map,r_name02,r_name09,q] at hw
  exact hw.symm
 | true=>
  rw [hb,Bool.not_true] at q
  simp only [c8,sT.1,sC.1,noApp,lookV,Nat.testBit,simprocAttr,-Int.reduceNatCast',z0,z1,z2,List.length_map,r_name02,r_name09,q] at hw
  generalize hr:execW h.length Wd (.loop l8_0) _ = r at hw
  obtain ⟨x,st',rfl,tt,rfl,ht,hq⟩:=known hr (ex_loop hd ih hl hf aS.length _ ⟨_,0,rfl,by simp only [sT.1,sC.1,noApp,lookV,Nat.testBit,simprocAttr,-Int.reduceNatCast'],by simp only [sT.1,sC.1,noApp,lookV,Nat.testBit,simprocAttr,-Int.reduceNatCast'],by simp only [sT.1,sC.1,noApp,lookV,Nat.testBit,simprocAttr,-Int.reduceNatCast'],by simp only [sT.1,sC.1,noApp,lookV,Nat.testBit,simprocAttr,-Int.reduceNatCast',Int.natCast_zero],by omega,rfl⟩)
  rcases hq with ⟨rfl,hall⟩ | ⟨rfl,hall,e4⟩
  ·simp only [sT.1,sC.1,noApp,lookV,Nat.testBit,simprocAttr,-Int.reduceNatCast',ht] at hw
   rw [hall]
   exact hw.symm
  ·simp only [sT.1,sC.1,noApp,lookV,Nat.testBit,simprocAttr,-Int.reduceNatCast',ht,e4] at hw
   rw [hall]
   exact hw.symm
theorem q_8 (n:Int) (nm sub:Str) (aS:List Exl):(!(n == 0) || !isName nm || !(sub == []) || ilt (aS.length:Int) 0 || ilt 0 (aS.length:Int)) = !(nB8 n nm sub aS.length):=by
 simp only [nB8,fB,ile3]
 rw [ilt_not,ilt_not]
 generalize ile 0 (aS.length:Int) = a1
 generalize ile (aS.length:Int) 0 = a2
 generalize (n == 0) = a3
 generalize (nm == []) = a4
 generalize (sub == []) = a5
 generalize ile 0 n = a6
 generalize ile n 3 = a7
 generalize vName nm = a8
 generalize isName nm = a9
 generalize isName sub = b1
 revert a1 a2 a3 a4 a5 a6 a7 a8 a9 b1
 decide
set_option maxHeartbeats 1000000 in
theorem ex_8 (hd:d < 100) (ih:Asks d) (n:Int) (nm sub:Str) (aS:List Exl) (hl:aS.length < 1000000000) (hf:∀a ∈ aS,∃k,Fit k a):Wd (.fn 8 [] []) [exV (.mk 8 n nm sub aS),.int .i64 (d + 1:Nat)] h = some (.ret (.bool (nB8 n nm sub aS.length && aS.all (right d))),h,false):=by
 have z0:(((d + 1:Nat):Int) == 0) = false:=by rw [beq_eq_false_iff_ne];omega
 have z1:ilt 8 0 = false:=by kernel_rfl
 have z2:ilt 25 8 = false:=by kernel_rfl
 have q:=q_8 n nm sub aS
 rw [exV_mk]
 generalize hw:Wd _ _ h = w
 rw [Wd_fn rfl (show T.get 8 = some c8 by kernel_rfl)] at hw
 cases hb:nB8 n nm sub aS.length with
 | false=>
  rw [hb,Bool.not_false] at q
  simp only [c8,sT.1,sC.1,noApp,lookV,Nat.testBit,simprocAttr,-Int.reduceNatCast',z0,z1,z2,List.length_map,r_name02,r_name09,q] at hw
  exact hw.symm
 | true=>
  rw [hb,Bool.not_true] at q
  simp only [c8,sT.1,sC.1,noApp,lookV,Nat.testBit,simprocAttr,-Int.reduceNatCast',z0,z1,z2,List.length_map,r_name02,r_name09,q] at hw
  generalize hr:execW h.length Wd (.loop l8_0) _ = r at hw
  obtain ⟨x,st',rfl,tt,rfl,ht,hq⟩:=known hr (ex_loop hd ih hl hf aS.length _ ⟨_,0,rfl,by simp only [sT.1,sC.1,noApp,lookV,Nat.testBit,simprocAttr,-Int.reduceNatCast'],by simp only [sT.1,sC.1,noApp,lookV,Nat.testBit,simprocAttr,-Int.reduceNatCast'],by simp only [sT.1,sC.1,noApp,lookV,Nat.testBit,simprocAttr,-Int.reduceNatCast'],by simp only [sT.1,sC.1,noApp,lookV,Nat.testBit,simprocAttr,-Int.reduceNatCast',Int.natCast_zero],by omega,rfl⟩)
  rcases hq with ⟨rfl,hall⟩ | ⟨rfl,hall,e4⟩
  ·simp only [sT.1,sC.1,noApp,lookV,Nat.testBit,simprocAttr,-Int.reduceNatCast',ht] at hw
   rw [hall]
   exact hw.symm
  ·simp only [sT.1,sC.1,noApp,lookV,Nat.testBit,simprocAttr,-Int.reduceNatCast',ht,e4] at hw
   rw [hall]
   exact hw.symm
end
end Go.Proofs.YtfmkpcgpkdnioaaGreatDoor.AE
