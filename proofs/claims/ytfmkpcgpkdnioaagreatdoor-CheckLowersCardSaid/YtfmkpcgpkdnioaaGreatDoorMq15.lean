/- A part of the proof: the abstract executor and what goes through it (part 15). No condition. -/
import Derived.Test.YtfmkpcgpkdnioaaGreatDoorMq14
set_option maxRecDepth 100000
namespace Go.Proofs.YtfmkpcgpkdnioaaGreatDoor.AE
open Go.AE
def fB (nb mb sb:Bool) (lo hi n:Int) (nm sub:Str) (k:Nat):Bool:=(nb || n == 0) && ((mb || nm == []) && ((sb || sub == []) && (ile lo (k:Int) && ile (k:Int) hi)))
section
variable {h:List ABox}
set_option maxHeartbeats 1000000 in
theorem fields_x (op n:Int) (nm sub:Str) (aS:List AVal) (nb mb sb:Bool) (lo hi:Int) :
  Wd (.fn 106 [] []) [.agg [.int .i64 op,.int .i64 n,.str nm,.str sub,.lst aS .no],.bool nb,.bool mb,.bool sb,.int .i64 lo,.int .i64 hi] h = some (.ret (.bool (fB nb mb sb lo hi n nm sub aS.length)),h,false):=by
 rw [Wd_fn rfl (show T.get 106 = some c106 by kernel_rfl)]
 by_cases a1:nb = true∨(nb = false∧(n == 0) = true)
 ·by_cases a2:mb = true∨(mb = false∧(nm == []) = true)
  ·by_cases a3:sb = true∨(sb = false∧(sub == []) = true)
   ·cases c1:ile lo (aS.length:Int) <;>
    rcases a1 with rfl | ⟨rfl,b1⟩ <;> rcases a2 with rfl | ⟨rfl,b2⟩ <;> rcases a3 with rfl | ⟨rfl,b3⟩ <;> simp only [c106,sT.1,sC.1,noApp,lookV,Nat.testBit,simprocAttr,-Int.reduceNatCast',fB, *]
   ·have e3:sb = false:=by cases sb <;> simp_all
    subst e3
    have b3:(sub == []) = false:=by cases hq:(sub == []) <;> simp_all
    rcases a1 with rfl | ⟨rfl,b1⟩ <;> rcases a2 with rfl | ⟨rfl,b2⟩ <;> simp only [c106,sT.1,sC.1,noApp,lookV,Nat.testBit,simprocAttr,-Int.reduceNatCast',fB, *]
  ·have e3:mb = false:=by cases mb <;> simp_all
   subst e3
   have b3:(nm == []) = false:=by cases hq:(nm == []) <;> simp_all
   rcases a1 with rfl | ⟨rfl,b1⟩ <;> simp only [c106,sT.1,sC.1,noApp,lookV,Nat.testBit,simprocAttr,-Int.reduceNatCast',fB, *]
 ·have e3:nb = false:=by cases nb <;> simp_all
  subst e3
  have b3:(n == 0) = false:=by cases hq:(n == 0) <;> simp_all
  simp only [c106,sT.1,sC.1,noApp,lookV,Nat.testBit,simprocAttr,-Int.reduceNatCast',fB, *]
def nB0 (n:Int) (nm sub:Str) (k:Nat):Bool:=fB true false false 0 0 n nm sub k && ile 0 n
def nB1 (n:Int) (nm sub:Str) (k:Nat):Bool:=fB false false false 0 0 n nm sub k
def nB2 (n:Int) (nm sub:Str) (k:Nat):Bool:=fB false false false 0 0 n nm sub k
def nB3 (n:Int) (nm sub:Str) (k:Nat):Bool:=fB false true false 0 0 n nm sub k && vName nm
def nB4 (n:Int) (nm sub:Str) (k:Nat):Bool:=fB false true false 0 0 n nm sub k && isName nm
def nB5 (n:Int) (nm sub:Str) (k:Nat):Bool:=fB false true true 0 0 n nm sub k && (isName nm && isName sub)
def nB6 (n:Int) (nm sub:Str) (k:Nat):Bool:=fB false false false 1 4 n nm sub k
def nB7 (n:Int) (nm sub:Str) (k:Nat):Bool:=fB false true false 0 0 n nm sub k && isName nm
def nB8 (n:Int) (nm sub:Str) (k:Nat):Bool:=fB false true false 0 0 n nm sub k && isName nm
def nB9 (n:Int) (nm sub:Str) (k:Nat):Bool:=fB false true false 0 0 n nm sub k && isName nm
def nB10 (n:Int) (nm sub:Str) (k:Nat):Bool:=fB false true false 1 1 n nm sub k && isName nm
def nB11 (n:Int) (nm sub:Str) (k:Nat):Bool:=fB false false false 0 0 n nm sub k
def nB12 (n:Int) (nm sub:Str) (k:Nat):Bool:=fB true false false 1 1 n nm sub k && (ile 0 n && ilt n 4)
def nB13 (n:Int) (nm sub:Str) (k:Nat):Bool:=fB false false false 1 1 n nm sub k
def nB14 (n:Int) (nm sub:Str) (k:Nat):Bool:=fB false false false 1 1 n nm sub k
def nB15 (n:Int) (nm sub:Str) (k:Nat):Bool:=fB false false false 2 2 n nm sub k
def nB16 (n:Int) (nm sub:Str) (k:Nat):Bool:=fB false false false 2 2 n nm sub k
def nB17 (n:Int) (nm sub:Str) (k:Nat):Bool:=fB false false false 2 2 n nm sub k
def nB18 (n:Int) (nm sub:Str) (k:Nat):Bool:=fB false false false 2 2 n nm sub k
def nB19 (n:Int) (nm sub:Str) (k:Nat):Bool:=fB false false false 2 2 n nm sub k
def nB20 (n:Int) (nm sub:Str) (k:Nat):Bool:=fB false false false 2 2 n nm sub k
def nB21 (n:Int) (nm sub:Str) (k:Nat):Bool:=fB false false false 2 2 n nm sub k
def nB22 (n:Int) (nm sub:Str) (k:Nat):Bool:=fB false false false 2 2 n nm sub k
def nB23 (n:Int) (nm sub:Str) (k:Nat):Bool:=fB false false false 2 2 n nm sub k
def nB24 (n:Int) (nm sub:Str) (k:Nat):Bool:=fB false false false 2 2 n nm sub k
def nB25 (n:Int) (nm sub:Str) (k:Nat):Bool:=fB false false false 3 3 n nm sub k
def nodeB (op n:Int) (nm sub:Str) (k:Nat):Bool:=
 bif op == 0 then nB0 n nm sub k else 
 bif op == 1 then nB1 n nm sub k else 
 bif op == 2 then nB2 n nm sub k else 
 bif op == 3 then nB3 n nm sub k else 
 bif op == 4 then nB4 n nm sub k else 
 bif op == 5 then nB5 n nm sub k else 
 bif op == 6 then nB6 n nm sub k else 
 bif op == 7 then nB7 n nm sub k else 
 bif op == 8 then nB8 n nm sub k else 
 bif op == 9 then nB9 n nm sub k else 
 bif op == 10 then nB10 n nm sub k else 
 bif op == 11 then nB11 n nm sub k else 
 bif op == 12 then nB12 n nm sub k else 
 bif op == 13 then nB13 n nm sub k else 
 bif op == 14 then nB14 n nm sub k else 
 bif op == 15 then nB15 n nm sub k else 
 bif op == 16 then nB16 n nm sub k else 
 bif op == 17 then nB17 n nm sub k else 
 bif op == 18 then nB18 n nm sub k else 
 bif op == 19 then nB19 n nm sub k else 
 bif op == 20 then nB20 n nm sub k else 
 bif op == 21 then nB21 n nm sub k else 
 bif op == 22 then nB22 n nm sub k else 
 bif op == 23 then nB23 n nm sub k else 
 bif op == 24 then nB24 n nm sub k else 
 bif op == 25 then nB25 n nm sub k else false
set_option maxHeartbeats 1000000 in
theorem node_0 (n:Int) (nm sub:Str) (aS:List AVal):Wd (.fn 62 [] []) [.agg [.int .i64 0,.int .i64 n,.str nm,.str sub,.lst aS .no]] h = some (.ret (.bool (nB0 n nm sub aS.length)),h,false):=by
 have hf:=fun (h:List ABox)=>fields_x (h:=h) 0 n nm sub aS true false false 0 0
 rw [Wd_fn rfl (show T.get 62 = some c62 by kernel_rfl)]
 cases hF:fB true false false 0 0 n nm sub aS.length <;> simp only [c62,sT.1,sC.1,noApp,lookV,Nat.testBit,simprocAttr,-Int.reduceNatCast',hf,hF,nB0,vName_ok,isName_ok]
set_option maxHeartbeats 1000000 in
theorem node_1 (n:Int) (nm sub:Str) (aS:List AVal):Wd (.fn 62 [] []) [.agg [.int .i64 1,.int .i64 n,.str nm,.str sub,.lst aS .no]] h = some (.ret (.bool (nB1 n nm sub aS.length)),h,false):=by
 have hf:=fun (h:List ABox)=>fields_x (h:=h) 1 n nm sub aS false false false 0 0
 rw [Wd_fn rfl (show T.get 62 = some c62 by kernel_rfl)]
 cases hF:fB false false false 0 0 n nm sub aS.length <;> simp only [c62,sT.1,sC.1,noApp,lookV,Nat.testBit,simprocAttr,-Int.reduceNatCast',hf,hF,nB1,vName_ok,isName_ok]
set_option maxHeartbeats 1000000 in
theorem node_2 (n:Int) (nm sub:Str) (aS:List AVal):Wd (.fn 62 [] []) [.agg [.int .i64 2,.int .i64 n,.str nm,.str sub,.lst aS .no]] h = some (.ret (.bool (nB2 n nm sub aS.length)),h,false):=by
 have hf:=fun (h:List ABox)=>fields_x (h:=h) 2 n nm sub aS false false false 0 0
 rw [Wd_fn rfl (show T.get 62 = some c62 by kernel_rfl)]
 cases hF:fB false false false 0 0 n nm sub aS.length <;> simp only [c62,sT.1,sC.1,noApp,lookV,Nat.testBit,simprocAttr,-Int.reduceNatCast',hf,hF,nB2,vName_ok,isName_ok]
set_option maxHeartbeats 1000000 in
theorem node_3 (n:Int) (nm sub:Str) (aS:List AVal):Wd (.fn 62 [] []) [.agg [.int .i64 3,.int .i64 n,.str nm,.str sub,.lst aS .no]] h = some (.ret (.bool (nB3 n nm sub aS.length)),h,false):=by
 have hf:=fun (h:List ABox)=>fields_x (h:=h) 3 n nm sub aS false true false 0 0
 rw [Wd_fn rfl (show T.get 62 = some c62 by kernel_rfl)]
 cases hF:fB false true false 0 0 n nm sub aS.length <;> simp only [c62,sT.1,sC.1,noApp,lookV,Nat.testBit,simprocAttr,-Int.reduceNatCast',hf,hF,nB3,vName_ok,isName_ok]
set_option maxHeartbeats 1000000 in
theorem node_4 (n:Int) (nm sub:Str) (aS:List AVal):Wd (.fn 62 [] []) [.agg [.int .i64 4,.int .i64 n,.str nm,.str sub,.lst aS .no]] h = some (.ret (.bool (nB4 n nm sub aS.length)),h,false):=by
 have hf:=fun (h:List ABox)=>fields_x (h:=h) 4 n nm sub aS false true false 0 0
 rw [Wd_fn rfl (show T.get 62 = some c62 by kernel_rfl)]
 cases hF:fB false true false 0 0 n nm sub aS.length <;> simp only [c62,sT.1,sC.1,noApp,lookV,Nat.testBit,simprocAttr,-Int.reduceNatCast',hf,hF,nB4,vName_ok,isName_ok]
set_option maxHeartbeats 1000000 in
theorem node_5 (n:Int) (nm sub:Str) (aS:List AVal):Wd (.fn 62 [] []) [.agg [.int .i64 5,.int .i64 n,.str nm,.str sub,.lst aS .no]] h = some (.ret (.bool (nB5 n nm sub aS.length)),h,false):=by
 have hf:=fun (h:List ABox)=>fields_x (h:=h) 5 n nm sub aS false true true 0 0
 rw [Wd_fn rfl (show T.get 62 = some c62 by kernel_rfl)]
 cases hF:fB false true true 0 0 n nm sub aS.length <;> cases h1:isName nm <;> simp only [c62,sT.1,sC.1,noApp,lookV,Nat.testBit,simprocAttr,-Int.reduceNatCast',hf,hF,nB5,vName_ok,isName_ok,h1]
set_option maxHeartbeats 1000000 in
theorem node_6 (n:Int) (nm sub:Str) (aS:List AVal):Wd (.fn 62 [] []) [.agg [.int .i64 6,.int .i64 n,.str nm,.str sub,.lst aS .no]] h = some (.ret (.bool (nB6 n nm sub aS.length)),h,false):=by
 have hf:=fun (h:List ABox)=>fields_x (h:=h) 6 n nm sub aS false false false 1 4
 rw [Wd_fn rfl (show T.get 62 = some c62 by kernel_rfl)]
 cases hF:fB false false false 1 4 n nm sub aS.length <;> simp only [c62,sT.1,sC.1,noApp,lookV,Nat.testBit,simprocAttr,-Int.reduceNatCast',hf,hF,nB6,vName_ok,isName_ok]
set_option maxHeartbeats 1000000 in
theorem node_7 (n:Int) (nm sub:Str) (aS:List AVal):Wd (.fn 62 [] []) [.agg [.int .i64 7,.int .i64 n,.str nm,.str sub,.lst aS .no]] h = some (.ret (.bool (nB7 n nm sub aS.length)),h,false):=by
 have hf:=fun (h:List ABox)=>fields_x (h:=h) 7 n nm sub aS false true false 0 0
 rw [Wd_fn rfl (show T.get 62 = some c62 by kernel_rfl)]
 cases hF:fB false true false 0 0 n nm sub aS.length <;> simp only [c62,sT.1,sC.1,noApp,lookV,Nat.testBit,simprocAttr,-Int.reduceNatCast',hf,hF,nB7,vName_ok,isName_ok]
set_option maxHeartbeats 1000000 in
theorem node_8 (n:Int) (nm sub:Str) (aS:List AVal):Wd (.fn 62 [] []) [.agg [.int .i64 8,.int .i64 n,.str nm,.str sub,.lst aS .no]] h = some (.ret (.bool (nB8 n nm sub aS.length)),h,false):=by
 have hf:=fun (h:List ABox)=>fields_x (h:=h) 8 n nm sub aS false true false 0 0
 rw [Wd_fn rfl (show T.get 62 = some c62 by kernel_rfl)]
 cases hF:fB false true false 0 0 n nm sub aS.length <;> simp only [c62,sT.1,sC.1,noApp,lookV,Nat.testBit,simprocAttr,-Int.reduceNatCast',hf,hF,nB8,vName_ok,isName_ok]
set_option maxHeartbeats 1000000 in
theorem node_9 (n:Int) (nm sub:Str) (aS:List AVal):Wd (.fn 62 [] []) [.agg [.int .i64 9,.int .i64 n,.str nm,.str sub,.lst aS .no]] h = some (.ret (.bool (nB9 n nm sub aS.length)),h,false):=by
 have hf:=fun (h:List ABox)=>fields_x (h:=h) 9 n nm sub aS false true false 0 0
 rw [Wd_fn rfl (show T.get 62 = some c62 by kernel_rfl)]
 cases hF:fB false true false 0 0 n nm sub aS.length <;> simp only [c62,sT.1,sC.1,noApp,lookV,Nat.testBit,simprocAttr,-Int.reduceNatCast',hf,hF,nB9,vName_ok,isName_ok]
set_option maxHeartbeats 1000000 in
theorem node_10 (n:Int) (nm sub:Str) (aS:List AVal):Wd (.fn 62 [] []) [.agg [.int .i64 10,.int .i64 n,.str nm,.str sub,.lst aS .no]] h = some (.ret (.bool (nB10 n nm sub aS.length)),h,false):=by
 have hf:=fun (h:List ABox)=>fields_x (h:=h) 10 n nm sub aS false true false 1 1
 rw [Wd_fn rfl (show T.get 62 = some c62 by kernel_rfl)]
 cases hF:fB false true false 1 1 n nm sub aS.length <;> simp only [c62,sT.1,sC.1,noApp,lookV,Nat.testBit,simprocAttr,-Int.reduceNatCast',hf,hF,nB10,vName_ok,isName_ok]
set_option maxHeartbeats 1000000 in
theorem node_11 (n:Int) (nm sub:Str) (aS:List AVal):Wd (.fn 62 [] []) [.agg [.int .i64 11,.int .i64 n,.str nm,.str sub,.lst aS .no]] h = some (.ret (.bool (nB11 n nm sub aS.length)),h,false):=by
 have hf:=fun (h:List ABox)=>fields_x (h:=h) 11 n nm sub aS false false false 0 0
 rw [Wd_fn rfl (show T.get 62 = some c62 by kernel_rfl)]
 cases hF:fB false false false 0 0 n nm sub aS.length <;> simp only [c62,sT.1,sC.1,noApp,lookV,Nat.testBit,simprocAttr,-Int.reduceNatCast',hf,hF,nB11,vName_ok,isName_ok]
set_option maxHeartbeats 1000000 in
theorem node_12 (n:Int) (nm sub:Str) (aS:List AVal):Wd (.fn 62 [] []) [.agg [.int .i64 12,.int .i64 n,.str nm,.str sub,.lst aS .no]] h = some (.ret (.bool (nB12 n nm sub aS.length)),h,false):=by
 have hf:=fun (h:List ABox)=>fields_x (h:=h) 12 n nm sub aS true false false 1 1
 rw [Wd_fn rfl (show T.get 62 = some c62 by kernel_rfl)]
 cases hF:fB true false false 1 1 n nm sub aS.length <;> cases h1:ile 0 n <;> simp only [c62,sT.1,sC.1,noApp,lookV,Nat.testBit,simprocAttr,-Int.reduceNatCast',hf,hF,nB12,vName_ok,isName_ok,h1]
set_option maxHeartbeats 1000000 in
theorem node_13 (n:Int) (nm sub:Str) (aS:List AVal):Wd (.fn 62 [] []) [.agg [.int .i64 13,.int .i64 n,.str nm,.str sub,.lst aS .no]] h = some (.ret (.bool (nB13 n nm sub aS.length)),h,false):=by
 have hf:=fun (h:List ABox)=>fields_x (h:=h) 13 n nm sub aS false false false 1 1
 rw [Wd_fn rfl (show T.get 62 = some c62 by kernel_rfl)]
 cases hF:fB false false false 1 1 n nm sub aS.length <;> simp only [c62,sT.1,sC.1,noApp,lookV,Nat.testBit,simprocAttr,-Int.reduceNatCast',hf,hF,nB13,vName_ok,isName_ok]
set_option maxHeartbeats 1000000 in
theorem node_14 (n:Int) (nm sub:Str) (aS:List AVal):Wd (.fn 62 [] []) [.agg [.int .i64 14,.int .i64 n,.str nm,.str sub,.lst aS .no]] h = some (.ret (.bool (nB14 n nm sub aS.length)),h,false):=by
 have hf:=fun (h:List ABox)=>fields_x (h:=h) 14 n nm sub aS false false false 1 1
 rw [Wd_fn rfl (show T.get 62 = some c62 by kernel_rfl)]
 cases hF:fB false false false 1 1 n nm sub aS.length <;> simp only [c62,sT.1,sC.1,noApp,lookV,Nat.testBit,simprocAttr,-Int.reduceNatCast',hf,hF,nB14,vName_ok,isName_ok]
set_option maxHeartbeats 1000000 in
theorem node_15 (n:Int) (nm sub:Str) (aS:List AVal):Wd (.fn 62 [] []) [.agg [.int .i64 15,.int .i64 n,.str nm,.str sub,.lst aS .no]] h = some (.ret (.bool (nB15 n nm sub aS.length)),h,false):=by
 have hf:=fun (h:List ABox)=>fields_x (h:=h) 15 n nm sub aS false false false 2 2
 rw [Wd_fn rfl (show T.get 62 = some c62 by kernel_rfl)]
 cases hF:fB false false false 2 2 n nm sub aS.length <;> simp only [c62,sT.1,sC.1,noApp,lookV,Nat.testBit,simprocAttr,-Int.reduceNatCast',hf,hF,nB15,vName_ok,isName_ok]
set_option maxHeartbeats 1000000 in
theorem node_16 (n:Int) (nm sub:Str) (aS:List AVal):Wd (.fn 62 [] []) [.agg [.int .i64 16,.int .i64 n,.str nm,.str sub,.lst aS .no]] h = some (.ret (.bool (nB16 n nm sub aS.length)),h,false):=by
 have hf:=fun (h:List ABox)=>fields_x (h:=h) 16 n nm sub aS false false false 2 2
 rw [Wd_fn rfl (show T.get 62 = some c62 by kernel_rfl)]
 cases hF:fB false false false 2 2 n nm sub aS.length <;> simp only [c62,sT.1,sC.1,noApp,lookV,Nat.testBit,simprocAttr,-Int.reduceNatCast',hf,hF,nB16,vName_ok,isName_ok]
set_option maxHeartbeats 1000000 in
theorem node_17 (n:Int) (nm sub:Str) (aS:List AVal):Wd (.fn 62 [] []) [.agg [.int .i64 17,.int .i64 n,.str nm,.str sub,.lst aS .no]] h = some (.ret (.bool (nB17 n nm sub aS.length)),h,false):=by
 have hf:=fun (h:List ABox)=>fields_x (h:=h) 17 n nm sub aS false false false 2 2
 rw [Wd_fn rfl (show T.get 62 = some c62 by kernel_rfl)]
 cases hF:fB false false false 2 2 n nm sub aS.length <;> simp only [c62,sT.1,sC.1,noApp,lookV,Nat.testBit,simprocAttr,-Int.reduceNatCast',hf,hF,nB17,vName_ok,isName_ok]
set_option maxHeartbeats 1000000 in
theorem node_18 (n:Int) (nm sub:Str) (aS:List AVal):Wd (.fn 62 [] []) [.agg [.int .i64 18,.int .i64 n,.str nm,.str sub,.lst aS .no]] h = some (.ret (.bool (nB18 n nm sub aS.length)),h,false):=by
 have hf:=fun (h:List ABox)=>fields_x (h:=h) 18 n nm sub aS false false false 2 2
 rw [Wd_fn rfl (show T.get 62 = some c62 by kernel_rfl)]
 cases hF:fB false false false 2 2 n nm sub aS.length <;> simp only [c62,sT.1,sC.1,noApp,lookV,Nat.testBit,simprocAttr,-Int.reduceNatCast',hf,hF,nB18,vName_ok,isName_ok]
set_option maxHeartbeats 1000000 in
theorem node_19 (n:Int) (nm sub:Str) (aS:List AVal):Wd (.fn 62 [] []) [.agg [.int .i64 19,.int .i64 n,.str nm,.str sub,.lst aS .no]] h = some (.ret (.bool (nB19 n nm sub aS.length)),h,false):=by
 have hf:=fun (h:List ABox)=>fields_x (h:=h) 19 n nm sub aS false false false 2 2
 rw [Wd_fn rfl (show T.get 62 = some c62 by kernel_rfl)]
 cases hF:fB false false false 2 2 n nm sub aS.length <;> simp only [c62,sT.1,sC.1,noApp,lookV,Nat.testBit,simprocAttr,-Int.reduceNatCast',hf,hF,nB19,vName_ok,isName_ok]
set_option maxHeartbeats 1000000 in
theorem node_20 (n:Int) (nm sub:Str) (aS:List AVal):Wd (.fn 62 [] []) [.agg [.int .i64 20,.int .i64 n,.str nm,.str sub,.lst aS .no]] h = some (.ret (.bool (nB20 n nm sub aS.length)),h,false):=by
 have hf:=fun (h:List ABox)=>fields_x (h:=h) 20 n nm sub aS false false false 2 2
 rw [Wd_fn rfl (show T.get 62 = some c62 by kernel_rfl)]
 cases hF:fB false false false 2 2 n nm sub aS.length <;> simp only [c62,sT.1,sC.1,noApp,lookV,Nat.testBit,simprocAttr,-Int.reduceNatCast',hf,hF,nB20,vName_ok,isName_ok]
set_option maxHeartbeats 1000000 in
theorem node_21 (n:Int) (nm sub:Str) (aS:List AVal):Wd (.fn 62 [] []) [.agg [.int .i64 21,.int .i64 n,.str nm,.str sub,.lst aS .no]] h = some (.ret (.bool (nB21 n nm sub aS.length)),h,false):=by
 have hf:=fun (h:List ABox)=>fields_x (h:=h) 21 n nm sub aS false false false 2 2
 rw [Wd_fn rfl (show T.get 62 = some c62 by kernel_rfl)]
 cases hF:fB false false false 2 2 n nm sub aS.length <;> simp only [c62,sT.1,sC.1,noApp,lookV,Nat.testBit,simprocAttr,-Int.reduceNatCast',hf,hF,nB21,vName_ok,isName_ok]
set_option maxHeartbeats 1000000 in
theorem node_22 (n:Int) (nm sub:Str) (aS:List AVal):Wd (.fn 62 [] []) [.agg [.int .i64 22,.int .i64 n,.str nm,.str sub,.lst aS .no]] h = some (.ret (.bool (nB22 n nm sub aS.length)),h,false):=by
 have hf:=fun (h:List ABox)=>fields_x (h:=h) 22 n nm sub aS false false false 2 2
 rw [Wd_fn rfl (show T.get 62 = some c62 by kernel_rfl)]
 cases hF:fB false false false 2 2 n nm sub aS.length <;> simp only [c62,sT.1,sC.1,noApp,lookV,Nat.testBit,simprocAttr,-Int.reduceNatCast',hf,hF,nB22,vName_ok,isName_ok]
set_option maxHeartbeats 1000000 in
theorem node_23 (n:Int) (nm sub:Str) (aS:List AVal):Wd (.fn 62 [] []) [.agg [.int .i64 23,.int .i64 n,.str nm,.str sub,.lst aS .no]] h = some (.ret (.bool (nB23 n nm sub aS.length)),h,false):=by
 have hf:=fun (h:List ABox)=>fields_x (h:=h) 23 n nm sub aS false false false 2 2
 rw [Wd_fn rfl (show T.get 62 = some c62 by kernel_rfl)]
 cases hF:fB false false false 2 2 n nm sub aS.length <;> simp only [c62,sT.1,sC.1,noApp,lookV,Nat.testBit,simprocAttr,-Int.reduceNatCast',hf,hF,nB23,vName_ok,isName_ok]
set_option maxHeartbeats 1000000 in
theorem node_24 (n:Int) (nm sub:Str) (aS:List AVal):Wd (.fn 62 [] []) [.agg [.int .i64 24,.int .i64 n,.str nm,.str sub,.lst aS .no]] h = some (.ret (.bool (nB24 n nm sub aS.length)),h,false):=by
 have hf:=fun (h:List ABox)=>fields_x (h:=h) 24 n nm sub aS false false false 2 2
 rw [Wd_fn rfl (show T.get 62 = some c62 by kernel_rfl)]
 cases hF:fB false false false 2 2 n nm sub aS.length <;> simp only [c62,sT.1,sC.1,noApp,lookV,Nat.testBit,simprocAttr,-Int.reduceNatCast',hf,hF,nB24,vName_ok,isName_ok]
set_option maxHeartbeats 1000000 in
theorem node_25 (n:Int) (nm sub:Str) (aS:List AVal):Wd (.fn 62 [] []) [.agg [.int .i64 25,.int .i64 n,.str nm,.str sub,.lst aS .no]] h = some (.ret (.bool (nB25 n nm sub aS.length)),h,false):=by
 have hf:=fun (h:List ABox)=>fields_x (h:=h) 25 n nm sub aS false false false 3 3
 rw [Wd_fn rfl (show T.get 62 = some c62 by kernel_rfl)]
 cases hF:fB false false false 3 3 n nm sub aS.length <;> simp only [c62,sT.1,sC.1,noApp,lookV,Nat.testBit,simprocAttr,-Int.reduceNatCast',hf,hF,nB25,vName_ok,isName_ok]
theorem nodeB_no {op:Int} (ho:¬ (0 ≤ op∧op ≤ 25)) (n:Int) (nm sub:Str) (k:Nat):nodeB op n nm sub k = false:=by
 have e0:(op == 0) = false:=by rw [beq_eq_false_iff_ne];omega
 have e1:(op == 1) = false:=by rw [beq_eq_false_iff_ne];omega
 have e2:(op == 2) = false:=by rw [beq_eq_false_iff_ne];omega
 have e3:(op == 3) = false:=by rw [beq_eq_false_iff_ne];omega
 have e4:(op == 4) = false:=by rw [beq_eq_false_iff_ne];omega
 have e5:(op == 5) = false:=by rw [beq_eq_false_iff_ne];omega
 have e6:(op == 6) = false:=by rw [beq_eq_false_iff_ne];omega
 have e7:(op == 7) = false:=by rw [beq_eq_false_iff_ne];omega
 have e8:(op == 8) = false:=by rw [beq_eq_false_iff_ne];omega
 have e9:(op == 9) = false:=by rw [beq_eq_false_iff_ne];omega
 have e10:(op == 10) = false:=by rw [beq_eq_false_iff_ne];omega
 have e11:(op == 11) = false:=by rw [beq_eq_false_iff_ne];omega
 have e12:(op == 12) = false:=by rw [beq_eq_false_iff_ne];omega
 have e13:(op == 13) = false:=by rw [beq_eq_false_iff_ne];omega
 have e14:(op == 14) = false:=by rw [beq_eq_false_iff_ne];omega
 have e15:(op == 15) = false:=by rw [beq_eq_false_iff_ne];omega
 have e16:(op == 16) = false:=by rw [beq_eq_false_iff_ne];omega
 have e17:(op == 17) = false:=by rw [beq_eq_false_iff_ne];omega
 have e18:(op == 18) = false:=by rw [beq_eq_false_iff_ne];omega
 have e19:(op == 19) = false:=by rw [beq_eq_false_iff_ne];omega
 have e20:(op == 20) = false:=by rw [beq_eq_false_iff_ne];omega
 have e21:(op == 21) = false:=by rw [beq_eq_false_iff_ne];omega
 have e22:(op == 22) = false:=by rw [beq_eq_false_iff_ne];omega
 have e23:(op == 23) = false:=by rw [beq_eq_false_iff_ne];omega
 have e24:(op == 24) = false:=by rw [beq_eq_false_iff_ne];omega
 have e25:(op == 25) = false:=by rw [beq_eq_false_iff_ne];omega
 simp only [nodeB,e0,e1,e2,e3,e4,e5,e6,e7,e8,e9,e10,e11,e12,e13,e14,e15,e16,e17,e18,e19,e20,e21,e22,e23,e24,e25,cond_false]
set_option maxHeartbeats 1000000 in
theorem node_no {op:Int} (ho:¬ (0 ≤ op∧op ≤ 25)) (n:Int) (nm sub:Str) (aS:List AVal):Wd (.fn 62 [] []) [.agg [.int .i64 op,.int .i64 n,.str nm,.str sub,.lst aS .no]] h = some (.ret (.bool false),h,false):=by
 have e0:(op == 0) = false:=by rw [beq_eq_false_iff_ne];omega
 have e1:(op == 1) = false:=by rw [beq_eq_false_iff_ne];omega
 have e2:(op == 2) = false:=by rw [beq_eq_false_iff_ne];omega
 have e3:(op == 3) = false:=by rw [beq_eq_false_iff_ne];omega
 have e4:(op == 4) = false:=by rw [beq_eq_false_iff_ne];omega
 have e5:(op == 5) = false:=by rw [beq_eq_false_iff_ne];omega
 have e6:(op == 6) = false:=by rw [beq_eq_false_iff_ne];omega
 have e7:(op == 7) = false:=by rw [beq_eq_false_iff_ne];omega
 have e8:(op == 8) = false:=by rw [beq_eq_false_iff_ne];omega
 have e9:(op == 9) = false:=by rw [beq_eq_false_iff_ne];omega
 have e10:(op == 10) = false:=by rw [beq_eq_false_iff_ne];omega
 have e11:(op == 11) = false:=by rw [beq_eq_false_iff_ne];omega
 have e12:(op == 12) = false:=by rw [beq_eq_false_iff_ne];omega
 have e13:(op == 13) = false:=by rw [beq_eq_false_iff_ne];omega
 have e14:(op == 14) = false:=by rw [beq_eq_false_iff_ne];omega
 have e15:(op == 15) = false:=by rw [beq_eq_false_iff_ne];omega
 have e16:(op == 16) = false:=by rw [beq_eq_false_iff_ne];omega
 have e17:(op == 17) = false:=by rw [beq_eq_false_iff_ne];omega
 have e18:(op == 18) = false:=by rw [beq_eq_false_iff_ne];omega
 have e19:(op == 19) = false:=by rw [beq_eq_false_iff_ne];omega
 have e20:(op == 20) = false:=by rw [beq_eq_false_iff_ne];omega
 have e21:(op == 21) = false:=by rw [beq_eq_false_iff_ne];omega
 have e22:(op == 22) = false:=by rw [beq_eq_false_iff_ne];omega
 have e23:(op == 23) = false:=by rw [beq_eq_false_iff_ne];omega
 have e24:(op == 24) = false:=by rw [beq_eq_false_iff_ne];omega
 have e25:(op == 25) = false:=by rw [beq_eq_false_iff_ne];omega
 rw [Wd_fn rfl (show T.get 62 = some c62 by kernel_rfl)]
 simp only [c62,sT.1,sC.1,noApp,lookV,Nat.testBit,simprocAttr,-Int.reduceNatCast',e0,e1,e2,e3,e4,e5,e6,e7,e8,e9,e10,e11,e12,e13,e14,e15,e16,e17,e18,e19,e20,e21,e22,e23,e24,e25]
theorem node_x (op n:Int) (nm sub:Str) (aS:List AVal):Wd (.fn 62 [] []) [.agg [.int .i64 op,.int .i64 n,.str nm,.str sub,.lst aS .no]] h = some (.ret (.bool (nodeB op n nm sub aS.length)),h,false):=by
 by_cases ho:0 ≤ op∧op ≤ 25
 ·have:op = 0∨op = 1∨op = 2∨op = 3∨op = 4∨op = 5∨op = 6∨op = 7∨op = 8∨op = 9∨op = 10∨op = 11∨op = 12∨op = 13∨op = 14∨op = 15∨op = 16∨op = 17∨op = 18∨op = 19∨op = 20∨op = 21∨op = 22∨op = 23∨op = 24∨op = 25:=by omega
  rcases this with rfl | rfl | rfl | rfl | rfl | rfl | rfl | rfl | rfl | rfl | rfl | rfl | rfl | rfl | rfl | rfl | rfl | rfl | rfl | rfl | rfl | rfl | rfl | rfl | rfl | rfl
  ·exact node_0 n nm sub aS
  ·exact node_1 n nm sub aS
  ·exact node_2 n nm sub aS
  ·exact node_3 n nm sub aS
  ·exact node_4 n nm sub aS
  ·exact node_5 n nm sub aS
  ·exact node_6 n nm sub aS
  ·exact node_7 n nm sub aS
  ·exact node_8 n nm sub aS
  ·exact node_9 n nm sub aS
  ·exact node_10 n nm sub aS
  ·exact node_11 n nm sub aS
  ·exact node_12 n nm sub aS
  ·exact node_13 n nm sub aS
  ·exact node_14 n nm sub aS
  ·exact node_15 n nm sub aS
  ·exact node_16 n nm sub aS
  ·exact node_17 n nm sub aS
  ·exact node_18 n nm sub aS
  ·exact node_19 n nm sub aS
  ·exact node_20 n nm sub aS
  ·exact node_21 n nm sub aS
  ·exact node_22 n nm sub aS
  ·exact node_23 n nm sub aS
  ·exact node_24 n nm sub aS
  ·exact node_25 n nm sub aS
 ·rw [nodeB_no ho]
  exact node_no ho n nm sub aS
end
end Go.Proofs.YtfmkpcgpkdnioaaGreatDoor.AE
