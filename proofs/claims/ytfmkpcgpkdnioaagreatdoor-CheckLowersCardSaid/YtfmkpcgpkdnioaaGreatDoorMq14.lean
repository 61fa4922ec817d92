/- A part of the proof: the abstract executor and what goes through it (part 14). No condition. -/
import Derived.Test.YtfmkpcgpkdnioaaGreatDoorMq13
import Derived.Test.YtfmkpcgpkdnioaaGreatDoorMq3
set_option maxRecDepth 100000
namespace Go.Proofs.YtfmkpcgpkdnioaaGreatDoor.AE
open Go.AE
section
variable {base:Nat} {call:AE.Call} {dsts:List Nat} {s:St} {pend:List (Nat×Chk)}
theorem draw_on {d:Option Nat} {o:AOp} {ix cl j:Nat} {b:Bool} {ds:List DOper} (h:lkp s.t j = .bool b):runDraw base call dsts (⟨⟨d,o,some (j,b)⟩,ix,cl⟩ :: ds) pend s = runDraw base call dsts (⟨⟨d,o,none⟩,ix,cl⟩ :: ds) pend s:=by
 have e:s.t.getD j .undef = .bool b:=h
 simp only [runDraw,wanted,e,beq_self_eq_true]
end
inductive Exl where
 | mk (op n:Int) (nm sb:Str) (aS:List Exl)
def Exl.enc:Exl→List AVal
 | .mk op n nm sb aS=>[.int .i64 op,.int .i64 n,.str nm,.str sb,.lst (aS.map fun e=>.agg e.enc) .no]
def exV (e:Exl):AVal:=.agg e.enc
theorem enc_mk (op n:Int) (nm sb:Str) (aS:List Exl):(Exl.mk op n nm sb aS).enc = [.int .i64 op,.int .i64 n,.str nm,.str sb,.lst (aS.map exV) .no]:=by rw [Exl.enc];rfl
theorem exV_mk (op n:Int) (nm sb:Str) (aS:List Exl):exV (.mk op n nm sb aS) = .agg [.int .i64 op,.int .i64 n,.str nm,.str sb,.lst (aS.map exV) .no]:=by rw [exV,enc_mk]
def Fit:Nat→Exl→Prop
 | 0,_=>False
 | d + 1,.mk _ _ _ _ aS=>aS.length ≤ 20∧∀a ∈ aS,Fit d a
theorem z00:ilt 0 0 = false:=Eq.trans rfl rfl
theorem z01:ilt 0 1 = true:=Eq.trans rfl rfl
theorem z11:ilt 1 1 = false:=Eq.trans rfl rfl
theorem cc1:((1:Nat):Int) = 1:=Eq.trans rfl rfl
theorem cc0:((0:Nat):Int) = 0:=Eq.trans rfl rfl
theorem w01:IntKind.i64.wrap (0 + 1) = 1:=by kernel_rfl
theorem w1:IntKind.i64.wrap 1 = 1:=by kernel_rfl
theorem len0:([]:List AVal).length = 0:=rfl
theorem ports_nil (r:Int) (h:List ABox):Wd (.fn 15 [] []) [.lst [] .full,.int .i64 r] h = some (.ret (.int .i64 r),h,false):=by
 rw [Wd_fn rfl (show T.get 15 = some c15 by kernel_rfl)]
 simp only [c15,l15_0,execW_loop,sT.1,sC.1,noApp,lookV,Nat.testBit,simprocAttr,-Int.reduceNatCast',len0,cc0,z00]
theorem sets_nil (r:Int) (h:List ABox):Wd (.fn 16 [] []) [.lst [] .full,.int .i64 r] h = some (.ret (.int .i64 r),h,false):=by
 rw [Wd_fn rfl (show T.get 16 = some c16 by kernel_rfl)]
 simp only [c16,l16_0,execW_loop,sT.1,sC.1,noApp,lookV,Nat.testBit,simprocAttr,-Int.reduceNatCast',len0,cc0,z00]
def modV (e:Exl):AVal:=.agg [.str [],.bool false,.lst [] .full,.lst [] .full,.lst [] .full,.lst [exV e] .full,.lst [] .full,.lst [] .full,.lst [] .full,.int .i64 0,.lst [] .full,.lst [] .full,.lst [] .full,.lst [] .full]
end Go.Proofs.YtfmkpcgpkdnioaaGreatDoor.AE
