/- A part of the proof: the abstract executor and what goes through it (part 10). No condition. -/
import Derived.Test.YtnibchoenjmmjaaGreatDoorMq8
import Derived.Test.YtnibchoenjmmjaaGreatDoorMq7
set_option maxRecDepth 100000
set_option maxHeartbeats 0
namespace Go.Proofs.YtnibchoenjmmjaaGreatDoor.AE
open Go.AE
def fB (nb mb sb:Bool) (lo hi n:Int) (nm sub:Str) (k:Nat):Bool:=(nb || n == 0) && ((mb || nm == []) && ((sb || sub == []) && (ile lo (k:Int) && ile (k:Int) hi)))
section
variable {h:List qb}
theorem qac (op n:Int) (nm sub:Str) (aS:List qa) (nb mb sb:Bool) (lo hi:Int) :
  Wd (.fn 113 [] []) [.agg [.int .i64 op,.int .i64 n,.str nm,.str sub,.lst aS .no],.bool nb,.bool mb,.bool sb,.int .i64 lo,.int .i64 hi] h = some (.ret (.bool (fB nb mb sb lo hi n nm sub aS.length)),h,false):=by
 rw [qr rfl (show T.get 113 = some qvP by kernel_rfl)]
 by_cases a1:nb = true∨(nb = false∧(n == 0) = true)
 ·by_cases a2:mb = true∨(mb = false∧(nm == []) = true)
  ·by_cases a3:sb = true∨(sb = false∧(sub == []) = true)
   ·cases cq1:ile lo (aS.length:Int) <;>
    rcases a1 with rfl | ⟨rfl,b1⟩ <;> rcases a2 with rfl | ⟨rfl,b2⟩ <;> rcases a3 with rfl | ⟨rfl,b3⟩ <;> simp only [sB.1,qvP,simprocAttr,-Int.reduceNatCast',fB, *]
   ·have e3:sb = false:=by cases sb <;> simp_all
    subst e3
    have b3:(sub == []) = false:=by cases hq:(sub == []) <;> simp_all
    rcases a1 with rfl | ⟨rfl,b1⟩ <;> rcases a2 with rfl | ⟨rfl,b2⟩ <;> simp only [sB.1,qvP,simprocAttr,-Int.reduceNatCast',fB, *]
  ·have e3:mb = false:=by cases mb <;> simp_all
   subst e3
   have b3:(nm == []) = false:=by cases hq:(nm == []) <;> simp_all
   rcases a1 with rfl | ⟨rfl,b1⟩ <;> simp only [sB.1,qvP,simprocAttr,-Int.reduceNatCast',fB, *]
 ·have e3:nb = false:=by cases nb <;> simp_all
  subst e3
  have b3:(n == 0) = false:=by cases hq:(n == 0) <;> simp_all
  simp only [sB.1,qvP,simprocAttr,-Int.reduceNatCast',fB, *]
def nB0 (n:Int) (nm sub:Str) (k:Nat):Bool:=fB true false false 0 0 n nm sub k && ile 0 n
def nB1 (n:Int) (nm sub:Str) (k:Nat):Bool:=fB false false false 0 0 n nm sub k
def nB2 (n:Int) (nm sub:Str) (k:Nat):Bool:=fB false false false 0 0 n nm sub k
def nB3 (n:Int) (nm sub:Str) (k:Nat):Bool:=fB false true false 0 0 n nm sub k && qcZ nm
def nB4 (n:Int) (nm sub:Str) (k:Nat):Bool:=fB false true false 0 0 n nm sub k && qa4 nm
def nB5 (n:Int) (nm sub:Str) (k:Nat):Bool:=fB false true true 0 0 n nm sub k && (qa4 nm && qa4 sub)
def nB6 (n:Int) (nm sub:Str) (k:Nat):Bool:=fB false false false 1 4 n nm sub k
def nB7 (n:Int) (nm sub:Str) (k:Nat):Bool:=fB false true false 0 0 n nm sub k && qa4 nm
def nB8 (n:Int) (nm sub:Str) (k:Nat):Bool:=fB false true false 0 0 n nm sub k && qa4 nm
def nB9 (n:Int) (nm sub:Str) (k:Nat):Bool:=fB false true false 0 0 n nm sub k && qa4 nm
def qxc (n:Int) (nm sub:Str) (k:Nat):Bool:=fB false true false 1 1 n nm sub k && qa4 nm
def qxd (n:Int) (nm sub:Str) (k:Nat):Bool:=fB false false false 0 0 n nm sub k
def qxe (n:Int) (nm sub:Str) (k:Nat):Bool:=fB true false false 1 1 n nm sub k && (ile 0 n && ilt n 4)
def qxf (n:Int) (nm sub:Str) (k:Nat):Bool:=fB false false false 1 1 n nm sub k
def qxg (n:Int) (nm sub:Str) (k:Nat):Bool:=fB false false false 1 1 n nm sub k
def qxh (n:Int) (nm sub:Str) (k:Nat):Bool:=fB false false false 2 2 n nm sub k
def qxi (n:Int) (nm sub:Str) (k:Nat):Bool:=fB false false false 2 2 n nm sub k
def qxj (n:Int) (nm sub:Str) (k:Nat):Bool:=fB false false false 2 2 n nm sub k
def qxk (n:Int) (nm sub:Str) (k:Nat):Bool:=fB false false false 2 2 n nm sub k
def qxl (n:Int) (nm sub:Str) (k:Nat):Bool:=fB false false false 2 2 n nm sub k
def qxm (n:Int) (nm sub:Str) (k:Nat):Bool:=fB false false false 2 2 n nm sub k
def qxn (n:Int) (nm sub:Str) (k:Nat):Bool:=fB false false false 2 2 n nm sub k
def qxo (n:Int) (nm sub:Str) (k:Nat):Bool:=fB false false false 2 2 n nm sub k
def qxp (n:Int) (nm sub:Str) (k:Nat):Bool:=fB false false false 2 2 n nm sub k
def qxq (n:Int) (nm sub:Str) (k:Nat):Bool:=fB false false false 2 2 n nm sub k
def qxr (n:Int) (nm sub:Str) (k:Nat):Bool:=fB false false false 3 3 n nm sub k
def qjD (op n:Int) (nm sub:Str) (k:Nat):Bool:=
 bif op == 0 then nB0 n nm sub k else 
 bif op == 1 then nB1 n nm sub k else 
 bif op == 2 then nB2 n nm sub k else 
 bif op == 3 then nB3 n nm sub k else 
 bif op == 4 then nB4 n nm sub k else 
 bif op == 5 then nB5 n nm sub k else 
 bif op == 6 then nB6 n nm sub k else 
 bif op == 7 then nB7 n nm sub k else 
 bif op == 8 then nB8 n nm sub k else 
 bif op == 9 then nB9 n nm sub k else 
 bif op == 10 then qxc n nm sub k else 
 bif op == 11 then qxd n nm sub k else 
 bif op == 12 then qxe n nm sub k else 
 bif op == 13 then qxf n nm sub k else 
 bif op == 14 then qxg n nm sub k else 
 bif op == 15 then qxh n nm sub k else 
 bif op == 16 then qxi n nm sub k else 
 bif op == 17 then qxj n nm sub k else 
 bif op == 18 then qxk n nm sub k else 
 bif op == 19 then qxl n nm sub k else 
 bif op == 20 then qxm n nm sub k else 
 bif op == 21 then qxn n nm sub k else 
 bif op == 22 then qxo n nm sub k else 
 bif op == 23 then qxp n nm sub k else 
 bif op == 24 then qxq n nm sub k else 
 bif op == 25 then qxr n nm sub k else false
def ND (h:List qb) (op:Int) (B:Int→Str→Str→Nat→Bool):Prop:=∀(n:Int) (nm sub:Str) (aS:List qa),Wd (.fn 83 [] []) [.agg [.int .i64 op,.int .i64 n,.str nm,.str sub,.lst aS .no]] h = some (.ret (.bool (B n nm sub aS.length)),h,false)
theorem qzW:ND h 0 nB0:=by
 intro n nm sub aS
 have hf:=fun (h:List qb)=>qac (h:=h) 0 n nm sub aS true false false 0 0
 rw [qr rfl (show T.get 83 = some c83 by kernel_rfl)]
 cases hF:fB true false false 0 0 n nm sub aS.length <;> simp only [sB.1,c83,simprocAttr,-Int.reduceNatCast',hf,hF,nB0,qX,qT]
theorem qzX:ND h 1 nB1:=by
 intro n nm sub aS
 have hf:=fun (h:List qb)=>qac (h:=h) 1 n nm sub aS false false false 0 0
 rw [qr rfl (show T.get 83 = some c83 by kernel_rfl)]
 cases hF:fB false false false 0 0 n nm sub aS.length <;> simp only [sB.1,c83,simprocAttr,-Int.reduceNatCast',hf,hF,nB1,qX,qT]
theorem qzY:ND h 2 nB2:=by
 intro n nm sub aS
 have hf:=fun (h:List qb)=>qac (h:=h) 2 n nm sub aS false false false 0 0
 rw [qr rfl (show T.get 83 = some c83 by kernel_rfl)]
 cases hF:fB false false false 0 0 n nm sub aS.length <;> simp only [sB.1,c83,simprocAttr,-Int.reduceNatCast',hf,hF,nB2,qX,qT]
theorem qzZ:ND h 3 nB3:=by
 intro n nm sub aS
 have hf:=fun (h:List qb)=>qac (h:=h) 3 n nm sub aS false true false 0 0
 rw [qr rfl (show T.get 83 = some c83 by kernel_rfl)]
 cases hF:fB false true false 0 0 n nm sub aS.length <;> simp only [sB.1,c83,simprocAttr,-Int.reduceNatCast',hf,hF,nB3,qX,qT]
theorem qz0:ND h 4 nB4:=by
 intro n nm sub aS
 have hf:=fun (h:List qb)=>qac (h:=h) 4 n nm sub aS false true false 0 0
 rw [qr rfl (show T.get 83 = some c83 by kernel_rfl)]
 cases hF:fB false true false 0 0 n nm sub aS.length <;> simp only [sB.1,c83,simprocAttr,-Int.reduceNatCast',hf,hF,nB4,qX,qT]
theorem qz1:ND h 5 nB5:=by
 intro n nm sub aS
 have hf:=fun (h:List qb)=>qac (h:=h) 5 n nm sub aS false true true 0 0
 rw [qr rfl (show T.get 83 = some c83 by kernel_rfl)]
 cases hF:fB false true true 0 0 n nm sub aS.length <;> cases h1:qa4 nm <;> simp only [sB.1,c83,simprocAttr,-Int.reduceNatCast',hf,hF,nB5,qX,qT,h1]
theorem qz2:ND h 6 nB6:=by
 intro n nm sub aS
 have hf:=fun (h:List qb)=>qac (h:=h) 6 n nm sub aS false false false 1 4
 rw [qr rfl (show T.get 83 = some c83 by kernel_rfl)]
 cases hF:fB false false false 1 4 n nm sub aS.length <;> simp only [sB.1,c83,simprocAttr,-Int.reduceNatCast',hf,hF,nB6,qX,qT]
theorem qz3:ND h 7 nB7:=by
 intro n nm sub aS
 have hf:=fun (h:List qb)=>qac (h:=h) 7 n nm sub aS false true false 0 0
 rw [qr rfl (show T.get 83 = some c83 by kernel_rfl)]
 cases hF:fB false true false 0 0 n nm sub aS.length <;> simp only [sB.1,c83,simprocAttr,-Int.reduceNatCast',hf,hF,nB7,qX,qT]
theorem qz4:ND h 8 nB8:=by
 intro n nm sub aS
 have hf:=fun (h:List qb)=>qac (h:=h) 8 n nm sub aS false true false 0 0
 rw [qr rfl (show T.get 83 = some c83 by kernel_rfl)]
 cases hF:fB false true false 0 0 n nm sub aS.length <;> simp only [sB.1,c83,simprocAttr,-Int.reduceNatCast',hf,hF,nB8,qX,qT]
theorem qz5:ND h 9 nB9:=by
 intro n nm sub aS
 have hf:=fun (h:List qb)=>qac (h:=h) 9 n nm sub aS false true false 0 0
 rw [qr rfl (show T.get 83 = some c83 by kernel_rfl)]
 cases hF:fB false true false 0 0 n nm sub aS.length <;> simp only [sB.1,c83,simprocAttr,-Int.reduceNatCast',hf,hF,nB9,qX,qT]
theorem qxw:ND h 10 qxc:=by
 intro n nm sub aS
 have hf:=fun (h:List qb)=>qac (h:=h) 10 n nm sub aS false true false 1 1
 rw [qr rfl (show T.get 83 = some c83 by kernel_rfl)]
 cases hF:fB false true false 1 1 n nm sub aS.length <;> simp only [sB.1,c83,simprocAttr,-Int.reduceNatCast',hf,hF,qxc,qX,qT]
theorem qxx:ND h 11 qxd:=by
 intro n nm sub aS
 have hf:=fun (h:List qb)=>qac (h:=h) 11 n nm sub aS false false false 0 0
 rw [qr rfl (show T.get 83 = some c83 by kernel_rfl)]
 cases hF:fB false false false 0 0 n nm sub aS.length <;> simp only [sB.1,c83,simprocAttr,-Int.reduceNatCast',hf,hF,qxd,qX,qT]
theorem qxy:ND h 12 qxe:=by
 intro n nm sub aS
 have hf:=fun (h:List qb)=>qac (h:=h) 12 n nm sub aS true false false 1 1
 rw [qr rfl (show T.get 83 = some c83 by kernel_rfl)]
 cases hF:fB true false false 1 1 n nm sub aS.length <;> cases h1:ile 0 n <;> simp only [sB.1,c83,simprocAttr,-Int.reduceNatCast',hf,hF,qxe,qX,qT,h1]
theorem qxz:ND h 13 qxf:=by
 intro n nm sub aS
 have hf:=fun (h:List qb)=>qac (h:=h) 13 n nm sub aS false false false 1 1
 rw [qr rfl (show T.get 83 = some c83 by kernel_rfl)]
 cases hF:fB false false false 1 1 n nm sub aS.length <;> simp only [sB.1,c83,simprocAttr,-Int.reduceNatCast',hf,hF,qxf,qX,qT]
theorem qxA:ND h 14 qxg:=by
 intro n nm sub aS
 have hf:=fun (h:List qb)=>qac (h:=h) 14 n nm sub aS false false false 1 1
 rw [qr rfl (show T.get 83 = some c83 by kernel_rfl)]
 cases hF:fB false false false 1 1 n nm sub aS.length <;> simp only [sB.1,c83,simprocAttr,-Int.reduceNatCast',hf,hF,qxg,qX,qT]
theorem qxB:ND h 15 qxh:=by
 intro n nm sub aS
 have hf:=fun (h:List qb)=>qac (h:=h) 15 n nm sub aS false false false 2 2
 rw [qr rfl (show T.get 83 = some c83 by kernel_rfl)]
 cases hF:fB false false false 2 2 n nm sub aS.length <;> simp only [sB.1,c83,simprocAttr,-Int.reduceNatCast',hf,hF,qxh,qX,qT]
theorem qxC:ND h 16 qxi:=by
 intro n nm sub aS
 have hf:=fun (h:List qb)=>qac (h:=h) 16 n nm sub aS false false false 2 2
 rw [qr rfl (show T.get 83 = some c83 by kernel_rfl)]
 cases hF:fB false false false 2 2 n nm sub aS.length <;> simp only [sB.1,c83,simprocAttr,-Int.reduceNatCast',hf,hF,qxi,qX,qT]
theorem qxD:ND h 17 qxj:=by
 intro n nm sub aS
 have hf:=fun (h:List qb)=>qac (h:=h) 17 n nm sub aS false false false 2 2
 rw [qr rfl (show T.get 83 = some c83 by kernel_rfl)]
 cases hF:fB false false false 2 2 n nm sub aS.length <;> simp only [sB.1,c83,simprocAttr,-Int.reduceNatCast',hf,hF,qxj,qX,qT]
theorem qxE:ND h 18 qxk:=by
 intro n nm sub aS
 have hf:=fun (h:List qb)=>qac (h:=h) 18 n nm sub aS false false false 2 2
 rw [qr rfl (show T.get 83 = some c83 by kernel_rfl)]
 cases hF:fB false false false 2 2 n nm sub aS.length <;> simp only [sB.1,c83,simprocAttr,-Int.reduceNatCast',hf,hF,qxk,qX,qT]
theorem qxF:ND h 19 qxl:=by
 intro n nm sub aS
 have hf:=fun (h:List qb)=>qac (h:=h) 19 n nm sub aS false false false 2 2
 rw [qr rfl (show T.get 83 = some c83 by kernel_rfl)]
 cases hF:fB false false false 2 2 n nm sub aS.length <;> simp only [sB.1,c83,simprocAttr,-Int.reduceNatCast',hf,hF,qxl,qX,qT]
theorem qxG:ND h 20 qxm:=by
 intro n nm sub aS
 have hf:=fun (h:List qb)=>qac (h:=h) 20 n nm sub aS false false false 2 2
 rw [qr rfl (show T.get 83 = some c83 by kernel_rfl)]
 cases hF:fB false false false 2 2 n nm sub aS.length <;> simp only [sB.1,c83,simprocAttr,-Int.reduceNatCast',hf,hF,qxm,qX,qT]
theorem qxH:ND h 21 qxn:=by
 intro n nm sub aS
 have hf:=fun (h:List qb)=>qac (h:=h) 21 n nm sub aS false false false 2 2
 rw [qr rfl (show T.get 83 = some c83 by kernel_rfl)]
 cases hF:fB false false false 2 2 n nm sub aS.length <;> simp only [sB.1,c83,simprocAttr,-Int.reduceNatCast',hf,hF,qxn,qX,qT]
theorem qxI:ND h 22 qxo:=by
 intro n nm sub aS
 have hf:=fun (h:List qb)=>qac (h:=h) 22 n nm sub aS false false false 2 2
 rw [qr rfl (show T.get 83 = some c83 by kernel_rfl)]
 cases hF:fB false false false 2 2 n nm sub aS.length <;> simp only [sB.1,c83,simprocAttr,-Int.reduceNatCast',hf,hF,qxo,qX,qT]
theorem qxJ:ND h 23 qxp:=by
 intro n nm sub aS
 have hf:=fun (h:List qb)=>qac (h:=h) 23 n nm sub aS false false false 2 2
 rw [qr rfl (show T.get 83 = some c83 by kernel_rfl)]
 cases hF:fB false false false 2 2 n nm sub aS.length <;> simp only [sB.1,c83,simprocAttr,-Int.reduceNatCast',hf,hF,qxp,qX,qT]
theorem qxK:ND h 24 qxq:=by
 intro n nm sub aS
 have hf:=fun (h:List qb)=>qac (h:=h) 24 n nm sub aS false false false 2 2
 rw [qr rfl (show T.get 83 = some c83 by kernel_rfl)]
 cases hF:fB false false false 2 2 n nm sub aS.length <;> simp only [sB.1,c83,simprocAttr,-Int.reduceNatCast',hf,hF,qxq,qX,qT]
theorem qxL:ND h 25 qxr:=by
 intro n nm sub aS
 have hf:=fun (h:List qb)=>qac (h:=h) 25 n nm sub aS false false false 3 3
 rw [qr rfl (show T.get 83 = some c83 by kernel_rfl)]
 cases hF:fB false false false 3 3 n nm sub aS.length <;> simp only [sB.1,c83,simprocAttr,-Int.reduceNatCast',hf,hF,qxr,qX,qT]
theorem qD7 {op:Int} (ho:¬ (0 ≤ op∧op ≤ 25)):(op == 0) = false∧(op == 1) = false∧(op == 2) = false∧(op == 3) = false∧(op == 4) = false∧(op == 5) = false∧(op == 6) = false∧(op == 7) = false∧(op == 8) = false∧(op == 9) = false∧(op == 10) = false∧(op == 11) = false∧(op == 12) = false∧(op == 13) = false∧(op == 14) = false∧(op == 15) = false∧(op == 16) = false∧(op == 17) = false∧(op == 18) = false∧(op == 19) = false∧(op == 20) = false∧(op == 21) = false∧(op == 22) = false∧(op == 23) = false∧(op == 24) = false∧(op == 25) = false:=by
 refine ⟨?_,?_,?_,?_,?_,?_,?_,?_,?_,?_,?_,?_,?_,?_,?_,?_,?_,?_,?_,?_,?_,?_,?_,?_,?_,?_⟩ <;> rw [beq_eq_false_iff_ne] <;> omega
theorem qg8 {op:Int} (ho:¬ (0 ≤ op∧op ≤ 25)) (n:Int) (nm sub:Str) (k:Nat):qjD op n nm sub k = false:=by
 simp only [qjD,qD7 ho,cond_false]
theorem qxM {op:Int} (ho:¬ (0 ≤ op∧op ≤ 25)) (n:Int) (nm sub:Str) (aS:List qa):Wd (.fn 83 [] []) [.agg [.int .i64 op,.int .i64 n,.str nm,.str sub,.lst aS .no]] h = some (.ret (.bool false),h,false):=by
 rw [qr rfl (show T.get 83 = some c83 by kernel_rfl)]
 simp only [sB.1,c83,simprocAttr,-Int.reduceNatCast',qD7 ho]
theorem qz7 (op n:Int) (nm sub:Str) (aS:List qa):Wd (.fn 83 [] []) [.agg [.int .i64 op,.int .i64 n,.str nm,.str sub,.lst aS .no]] h = some (.ret (.bool (qjD op n nm sub aS.length)),h,false):=by
 by_cases ho:0 ≤ op∧op ≤ 25
 ·have:op = 0∨op = 1∨op = 2∨op = 3∨op = 4∨op = 5∨op = 6∨op = 7∨op = 8∨op = 9∨op = 10∨op = 11∨op = 12∨op = 13∨op = 14∨op = 15∨op = 16∨op = 17∨op = 18∨op = 19∨op = 20∨op = 21∨op = 22∨op = 23∨op = 24∨op = 25:=by omega
  rcases this with rfl | rfl | rfl | rfl | rfl | rfl | rfl | rfl | rfl | rfl | rfl | rfl | rfl | rfl | rfl | rfl | rfl | rfl | rfl | rfl | rfl | rfl | rfl | rfl | rfl | rfl
  ·exact qzW n nm sub aS
  ·exact qzX n nm sub aS
  ·exact qzY n nm sub aS
  ·exact qzZ n nm sub aS
  ·exact qz0 n nm sub aS
  ·exact qz1 n nm sub aS
  ·exact qz2 n nm sub aS
  ·exact qz3 n nm sub aS
  ·exact qz4 n nm sub aS
  ·exact qz5 n nm sub aS
  ·exact qxw n nm sub aS
  ·exact qxx n nm sub aS
  ·exact qxy n nm sub aS
  ·exact qxz n nm sub aS
  ·exact qxA n nm sub aS
  ·exact qxB n nm sub aS
  ·exact qxC n nm sub aS
  ·exact qxD n nm sub aS
  ·exact qxE n nm sub aS
  ·exact qxF n nm sub aS
  ·exact qxG n nm sub aS
  ·exact qxH n nm sub aS
  ·exact qxI n nm sub aS
  ·exact qxJ n nm sub aS
  ·exact qxK n nm sub aS
  ·exact qxL n nm sub aS
 ·rw [qg8 ho]
  exact qxM ho n nm sub aS
end
def right:Nat→Exl→Bool
 | 0,_=>false
 | d + 1,.mk op n nm sub aS=>qjD op n nm sub aS.length && aS.all (right d)
theorem qoR (a b:Int):ilt a b = !(ile b a):=by
 rw [qf,qaw]
 by_cases h:a < b
 ·rw [decide_eq_true h,decide_eq_false (by omega)];rfl
 ·rw [decide_eq_false h,decide_eq_true (by omega)];rfl
theorem qEv (n:Int):ilt n 4 = ile n 3:=by
 rw [qf,qaw]
 by_cases h:n < 4
 ·rw [decide_eq_true h,decide_eq_true (by omega)]
 ·rw [decide_eq_false h,decide_eq_false (by omega)]
def qdM (d:Nat):Prop:=∀(e:Exl) (h:List qb),(∃k,Fit k e)→Wd (.fn 45 [] []) [exV e,.int .i64 (d:Nat)] h = some (.ret (.bool (right d e)),h,false)
section
variable {d:Nat} {h:List qb}
theorem qwr (hd:d < 100) (ih:qdM d) {n:Int} {op:Int} {nm sub:Str} {aS:List Exl} (hl:aS.length < 1000000000) (hf:∀a ∈ aS,∃k,Fit k a):∀k st,(∃tt i,st = ⟨tt,h ++ [.cells [.int .i64 op,.int .i64 n,.str nm,.str sub,.lst (aS.map exV) .no]],false⟩∧tt.length = 126∧lkp tt 1 = .int .i64 (d + 1:Nat)∧lkp tt 2 = .ptr h.length 0∧lkp tt 10 = .int .i64 (i:Nat)∧i + k = aS.length∧(aS.drop i).all (right d) = aS.all (right d))→
  ∃x st',qm h.length Wd (.loop qh0) st = some (x,st')∧(∃tt,st' = ⟨tt,h ++ [.cells [.int .i64 op,.int .i64 n,.str nm,.str sub,.lst (aS.map exV) .no]],false⟩∧tt.length = 126∧((x = .exit 1∧aS.all (right d) = true)∨(x = .ret∧aS.all (right d) = false∧lkp tt 4 = .bool false))):=by
 obtain ⟨G,hG⟩ :∃G,G = h ++ [qb.cells [.int .i64 op,.int .i64 n,.str nm,.str sub,.lst (aS.map exV) .no]]:=⟨_,rfl⟩
 have hbx:G[h.length]? = some (.cells [.int .i64 op,.int .i64 n,.str nm,.str sub,.lst (aS.map exV) .no]):=by rw [hG,qQ];rfl
 rw [←hG]
 refine qD _ _ ?_
 rintro k st ⟨tt,i,rfl,ht,e1,e2,e10,hik,hR⟩
 generalize he:qm h.length Wd qh0 _ = r
 rcases Nat.lt_or_ge i aS.length with hi | hi
 ·have c1:ilt (i:Int) (aS.length:Int) = true:=by rw [qf];simp;omega
  have w:=qab (n:=i) (by omega)
  have wd:IntKind.i64.wrap (((d + 1:Nat):Int) - 1) = ((d:Nat):Int):=by rw [qaX (by omega) (by omega)];omega
  have hr':=ih aS[i] G (hf _ (List.getElem_mem hi))
  have hg:(aS.map exV)[i]? = some (exV aS[i]):=by rw [List.getElem?_map,List.getElem?_eq_getElem hi];rfl
  rw [List.drop_eq_getElem_cons hi,List.all_cons] at hR
  generalize aS[i] = y at hr' hg hR
  obtain ⟨op',n',nm',sb',as'⟩:=y
  rw [qN] at hr' hg
  have hx:qav 5 (.lst (aS.map exV) .no) (.int .i64 (i:Nat)) = some (.iptr [.int .i64 op',.int .i64 n',.str nm',.str sb',.lst (as'.map exV) .no] 0):=qaM hg rfl
  cases hb:right d (.mk op' n' nm' sb' as') with
  | true=>
   rw [hb,Bool.true_and] at hR
   rw [hb] at hr'
   simp only [sB.1,qh0,simprocAttr,-Int.reduceNatCast',ht,e1,e2,e10,c1,w,wd,hx,hbx,hr',List.length_map] at he
   subst he
   refine .inl ⟨_,k - 1,rfl,by omega,_,i + 1,rfl,by simp only [qc,ht],?_,?_,?_,by omega,hR⟩
   ·simp only [sB.1,simprocAttr,-Int.reduceNatCast',ht,e1]
   ·simp only [sB.1,simprocAttr,-Int.reduceNatCast',ht,e2]
   ·simp only [sB.1,simprocAttr,-Int.reduceNatCast',ht]
  | false=>
   rw [hb,Bool.false_and] at hR
   rw [hb] at hr'
   simp only [sB.1,qh0,simprocAttr,-Int.reduceNatCast',ht,e1,e2,e10,c1,w,wd,hx,hbx,hr',List.length_map] at he
   subst he
   exact .inr ⟨_,_,rfl,by simp,_,rfl,by simp only [qc,ht],.inr ⟨rfl,hR.symm,by simp only [sB.1,simprocAttr,-Int.reduceNatCast',ht]⟩⟩
 ·have c1:ilt (i:Int) (aS.length:Int) = false:=by rw [qf];simp;omega
  rw [List.drop_eq_nil_of_le hi,List.all_nil] at hR
  simp only [sB.1,qh0,simprocAttr,-Int.reduceNatCast',ht,e1,e2,e10,c1,hbx,List.length_map] at he
  subst he
  exact .inr ⟨_,_,rfl,by simp,_,rfl,by simp only [qc,ht],.inl ⟨rfl,hR.symm⟩⟩
end
theorem qyz {a b:Int} (h:a < b):ilt a b = true:=by rw [qf];exact decide_eq_true h
theorem qyy {a b:Int} (h:¬ a < b):ilt a b = false:=by rw [qf];exact decide_eq_false h
theorem qEw {a b:Int} (h:a ≤ b):ile a b = true:=by rw [qaw];exact decide_eq_true h
theorem qD4 {a b:Int} (h:¬ a ≤ b):ile a b = false:=by rw [qaw];exact decide_eq_false h
def dOK:Nat→Exl→Bool
 | 0,_=>false
 | m + 1,.mk _ _ _ _ aS=>aS.all (dOK m)
theorem qeG:∀(d:Nat) (e:Exl),right d e = true→dOK d e = true
 | 0,_,h=>by rw [right] at h;cases h
 | d + 1,.mk op n nm sub aS,h=>by
  rw [right,Bool.and_eq_true,List.all_eq_true] at h
  rw [dOK,List.all_eq_true]
  exact fun a ha=>qeG d a (h.2 a ha)
theorem qFH:∀(m:Nat),m ≤ 100→∀(e:Exl) (h:List qb),(∃k,Fit k e)→∃v:Nat,Wd (.fn 60 [] []) [exV e,.int .i64 (m:Nat)] h = some (.ret (.int .i64 (v:Nat)),h,false)∧1 ≤ v∧v ≤ m + 1∧decide (v ≤ m) = dOK m e:=by
 intro m
 induction m with
 | zero=>
  rintro _ ⟨op,n,nm,sub,aS⟩ h _
  have z0:ile ((0:Nat):Int) 0 = true:=by kernel_rfl
  have w0:IntKind.i64.wrap (((0:Nat):Int) + 1) = ((1:Nat):Int):=by kernel_rfl
  refine ⟨1,?_,by omega,by omega,by rw [dOK];rfl⟩
  rw [qN,qr rfl (show T.get 60 = some c60 by kernel_rfl)]
  simp only [sB.1,c60,simprocAttr,-Int.reduceNatCast',z0,w0]
 | succ m ih=>
  rintro hm ⟨op,n,nm,sub,aS⟩ h ⟨k,hk⟩
  have ih:=ih (by omega)
  obtain ⟨k,rfl⟩ :∃k',k = k' + 1:=by cases k with | zero=>exact hk.elim | succ k=>exact ⟨k,rfl⟩
  have hl:aS.length ≤ 20:=hk.1
  have hf:∀a ∈ aS,∃k,Fit k a:=fun a ha=>⟨k,hk.2 a ha⟩
  have z0:ile ((m + 1:Nat):Int) 0 = false:=qD4 (by omega)
  have z1:IntKind.i64.wrap (((m + 1:Nat):Int) - 1) = ((m:Nat):Int):=by rw [qaX (by omega) (by omega)];omega
  rw [dOK,qN]
  have loop:∀q st,(∃(tt:List qa) (G:List qb) (i qgS:Nat),st = ⟨tt,G,false⟩∧tt.length = 32∧G.take h.length = h∧h.length ≤ G.length∧lkp tt 1 = .int .i64 (m + 1:Nat)∧lkp tt 5 = .int .i64 (qgS:Nat)∧lkp tt 13 = .lst (aS.map exV) .no∧lkp tt 14 = .int .i64 (aS.length:Nat)∧lkp tt 15 = .int .i64 (i:Nat)∧i + q = aS.length∧1 ≤ qgS∧qgS ≤ m + 1∧(aS.drop i).all (dOK m) = aS.all (dOK m))→
    ∃x st',qm h.length Wd (.loop qjr) st = some (x,st')∧(∃(tt:List qa) (G:List qb),st' = ⟨tt,G,false⟩∧tt.length = 32∧G.take h.length = h∧((x = .exit 0∧aS.all (dOK m) = true∧∃qgS:Nat,lkp tt 5 = .int .i64 (qgS:Nat)∧1 ≤ qgS∧qgS ≤ m + 1)∨(x = .ret∧aS.all (dOK m) = false∧lkp tt 4 = .int .i64 (m + 2:Nat)))):=by
   refine qD _ _ ?_
   rintro q st ⟨tt,G,i,qgS,rfl,ht,hG1,hG2,e1,e5,e13,e14,e15,hiq,hd1,hd2,hR⟩
   generalize he:qm h.length Wd qjr _ = r
   rcases Nat.lt_or_ge i aS.length with hi | hi
   ·have c1:ilt (i:Int) (aS.length:Int) = true:=qyz (by omega)
    have w:=qab (n:=i) (by omega)
    obtain ⟨v,hv,v1,v2,v3⟩:=ih aS[i] (G ++ [.cells (aS[i]).enc]) (hf _ (List.getElem_mem hi))
    have hg:(aS.map exV)[i]? = some (exV aS[i]):=by rw [List.getElem?_map,List.getElem?_eq_getElem hi];rfl
    rw [List.drop_eq_getElem_cons hi,List.all_cons,←v3] at hR
    generalize aS[i] = y at hv hg
    obtain ⟨op',n',nm',sb',as'⟩:=y
    rw [qN] at hg
    rw [qN,qci] at hv
    have hx:qav 5 (.lst (aS.map exV) .no) (.int .i64 (i:Nat)) = some (.iptr [.int .i64 op',.int .i64 n',.str nm',.str sb',.lst (as'.map exV) .no] 0):=qaM hg rfl
    have hbl:Nat.ble h.length G.length = true:=qi hG2
    have w1:IntKind.i64.wrap (1 + (v:Int)) = ((v + 1:Nat):Int):=by rw [qaX (by omega) (by omega)];omega
    have mx:(if ((v + 1:Nat):Int) > (qgS:Int) then ((v + 1:Nat):Int) else (qgS:Int)) = ((max qgS (v + 1):Nat):Int):=by split <;> omega
    cases hb:decide (v ≤ m) with
    | true=>
     have hvm:v ≤ m:=of_decide_eq_true hb
     rw [hb,Bool.true_and] at hR
     have c2:ilt ((m + 1:Nat):Int) ((max qgS (v + 1):Nat):Int) = false:=qyy (by omega)
     simp only [sB.1,qjr,simprocAttr,-Int.reduceNatCast',ht,e1,e5,e13,e14,e15,c1,hx,hbl,hv,z1,w1,mx,qp1,c2,w] at he
     subst he
     refine .inl ⟨_,q - 1,rfl,by omega,_,_,i + 1,max qgS (v + 1),rfl,by simp only [qc,ht],by rw [List.take_append_of_le_length hG2,hG1],by simp;omega,?_,?_,?_,?_,?_,by omega,by omega,by omega,hR⟩
     ·simp only [sB.1,simprocAttr,-Int.reduceNatCast',ht,e1]
     ·simp only [sB.1,simprocAttr,-Int.reduceNatCast',ht]
     ·simp only [sB.1,simprocAttr,-Int.reduceNatCast',ht,e13]
     ·simp only [sB.1,simprocAttr,-Int.reduceNatCast',ht,e14]
     ·simp only [sB.1,simprocAttr,-Int.reduceNatCast',ht]
    | false=>
     have hvm:¬ v ≤ m:=of_decide_eq_false hb
     rw [hb,Bool.false_and] at hR
     have hmx:max qgS (v + 1) = m + 2:=by omega
     have c2:ilt ((m + 1:Nat):Int) ((max qgS (v + 1):Nat):Int) = true:=qyz (by omega)
     simp only [sB.1,qjr,simprocAttr,-Int.reduceNatCast',ht,e1,e5,e13,e14,e15,c1,hx,hbl,hv,z1,w1,mx,qp1,c2,w] at he
     subst he
     refine .inr ⟨_,_,rfl,by simp,_,_,rfl,?_,?_,.inr ⟨rfl,hR.symm,?_⟩⟩
     ·simp only [qc,ht]
     ·rw [List.take_append_of_le_length hG2,hG1]
     ·simp only [sB.1,simprocAttr,-Int.reduceNatCast',ht,hmx]
   ·have c1:ilt (i:Int) (aS.length:Int) = false:=qyy (by omega)
    rw [List.drop_eq_nil_of_le hi,List.all_nil] at hR
    simp only [sB.1,qjr,simprocAttr,-Int.reduceNatCast',ht,e1,e5,e13,e14,e15,c1] at he
    subst he
    exact .inr ⟨_,_,rfl,by simp,_,_,rfl,by simp only [qc,ht],hG1,.inl ⟨rfl,hR.symm,qgS,by simp only [sB.1,simprocAttr,-Int.reduceNatCast',ht,e5],hd1,hd2⟩⟩
  generalize hw:Wd _ _ h = w
  rw [qr rfl (show T.get 60 = some c60 by kernel_rfl)] at hw
  simp only [sB.1,c60,simprocAttr,-Int.reduceNatCast',z0,List.length_map] at hw
  generalize hr:qm h.length Wd (.loop qjr) _ = r at hw
  obtain ⟨x,st',rfl,tt,G,rfl,ht,hG,hq⟩:=qaB hr (loop aS.length _ ⟨_,_,0,1,rfl,by simp only [sB.1,simprocAttr,-Int.reduceNatCast'],by simp,by simp,by simp only [sB.1,simprocAttr,-Int.reduceNatCast'],by simp only [sB.1,simprocAttr,-Int.reduceNatCast'];rfl,by simp only [sB.1,simprocAttr,-Int.reduceNatCast'],by simp only [sB.1,simprocAttr,-Int.reduceNatCast'],by simp only [sB.1,simprocAttr,-Int.reduceNatCast',Int.natCast_zero],by omega,by omega,by omega,rfl⟩)
  rcases hq with ⟨rfl,hall,qgS,e5,b1,b2⟩ | ⟨rfl,hall,e4⟩
  ·simp only [sB.1,simprocAttr,-Int.reduceNatCast',ht,e5] at hw
   subst hw
   refine ⟨qgS,congrArg some (qH hG rfl),b1,by omega,?_⟩
   rw [hall]
   exact decide_eq_true (by omega)
  ·simp only [sB.1,simprocAttr,-Int.reduceNatCast',ht,e4] at hw
   subst hw
   refine ⟨m + 2,congrArg some (qH hG rfl),by omega,by omega,?_⟩
   rw [hall]
   exact decide_eq_false (by omega)
def qyI (d:Nat):Prop:=∀(e:Exl) (h:List qb),(∃k,Fit k e)→dOK d e = true→Wd (.fn 61 [] []) [exV e] h = some (.ret (.bool (right d e)),h,false)
theorem qEd {d:Nat} (hn:qyI d) (aS:List Exl) (hl:aS.length ≤ 20) (hf:∀a ∈ aS,∃k,Fit k a) (hD:∀a ∈ aS,dOK d a = true) (h:List qb) :
  Wd (.fn 84 [] []) [.lst (aS.map exV) .no,.fn 61 [] []] h = some (.ret (.bool (aS.all (right d))),h,false):=by
 have loop:∀q st,(∃(tt:List qa) (G:List qb) (i:Nat),st = ⟨tt,G,false⟩∧tt.length = 18∧G.take h.length = h∧h.length ≤ G.length∧lkp tt 1 = .fn 61 [] []∧lkp tt 7 = .lst (aS.map exV) .no∧lkp tt 8 = .int .i64 (aS.length:Nat)∧lkp tt 9 = .int .i64 (i:Nat)∧i + q = aS.length∧(aS.drop i).all (right d) = aS.all (right d))→
   ∃x st',qm h.length Wd (.loop qju) st = some (x,st')∧(∃(tt:List qa) (G:List qb),st' = ⟨tt,G,false⟩∧tt.length = 18∧G.take h.length = h∧((x = .exit 0∧aS.all (right d) = true)∨(x = .ret∧aS.all (right d) = false∧lkp tt 4 = .bool false))):=by
  refine qD _ _ ?_
  rintro q st ⟨tt,G,i,rfl,ht,hG1,hG2,e1,e7,e8,e9,hiq,hR⟩
  generalize he:qm h.length Wd qju _ = r
  rcases Nat.lt_or_ge i aS.length with hi | hi
  ·have c1:ilt (i:Int) (aS.length:Int) = true:=qyz (by omega)
   have w:=qab (n:=i) (by omega)
   have hv:=hn aS[i] (G ++ [.cells (aS[i]).enc]) (hf _ (List.getElem_mem hi)) (hD _ (List.getElem_mem hi))
   have hg:(aS.map exV)[i]? = some (exV aS[i]):=by rw [List.getElem?_map,List.getElem?_eq_getElem hi];rfl
   rw [List.drop_eq_getElem_cons hi,List.all_cons] at hR
   generalize aS[i] = y at hv hg hR
   obtain ⟨op',n',nm',sb',as'⟩:=y
   rw [qN] at hg
   rw [qN,qci] at hv
   have hx:qav 5 (.lst (aS.map exV) .no) (.int .i64 (i:Nat)) = some (.iptr [.int .i64 op',.int .i64 n',.str nm',.str sb',.lst (as'.map exV) .no] 0):=qaM hg rfl
   have hbl:Nat.ble h.length G.length = true:=qi hG2
   cases hb:right d (.mk op' n' nm' sb' as') with
   | true=>
    rw [hb,Bool.true_and] at hR
    rw [hb] at hv
    simp only [sB.1,qju,simprocAttr,-Int.reduceNatCast',ht,e1,e7,e8,e9,c1,hx,hbl,hv,w] at he
    subst he
    refine .inl ⟨_,q - 1,rfl,by omega,_,_,i + 1,rfl,by simp only [qc,ht],by rw [List.take_append_of_le_length hG2,hG1],by simp;omega,?_,?_,?_,?_,by omega,hR⟩
    ·simp only [sB.1,simprocAttr,-Int.reduceNatCast',ht,e1]
    ·simp only [sB.1,simprocAttr,-Int.reduceNatCast',ht,e7]
    ·simp only [sB.1,simprocAttr,-Int.reduceNatCast',ht,e8]
    ·simp only [sB.1,simprocAttr,-Int.reduceNatCast',ht]
   | false=>
    rw [hb,Bool.false_and] at hR
    rw [hb] at hv
    simp only [sB.1,qju,simprocAttr,-Int.reduceNatCast',ht,e1,e7,e8,e9,c1,hx,hbl,hv,w] at he
    subst he
    refine .inr ⟨_,_,rfl,by simp,_,_,rfl,?_,?_,.inr ⟨rfl,hR.symm,?_⟩⟩
    ·simp only [qc,ht]
    ·rw [List.take_append_of_le_length hG2,hG1]
    ·simp only [sB.1,simprocAttr,-Int.reduceNatCast',ht]
  ·have c1:ilt (i:Int) (aS.length:Int) = false:=qyy (by omega)
   rw [List.drop_eq_nil_of_le hi,List.all_nil] at hR
   simp only [sB.1,qju,simprocAttr,-Int.reduceNatCast',ht,e1,e7,e8,e9,c1] at he
   subst he
   exact .inr ⟨_,_,rfl,by simp,_,_,rfl,by simp only [qc,ht],hG1,.inl ⟨rfl,hR.symm⟩⟩
 generalize hw:Wd _ _ h = w
 rw [qr rfl (show T.get 84 = some c84 by kernel_rfl)] at hw
 simp only [sB.1,c84,simprocAttr,-Int.reduceNatCast',List.length_map] at hw
 generalize hr:qm h.length Wd (.loop qju) _ = r at hw
 obtain ⟨x,st',rfl,tt,G,rfl,ht,hG,hq⟩:=qaB hr (loop aS.length _ ⟨_,_,0,rfl,by simp only [sB.1,simprocAttr,-Int.reduceNatCast'],by simp,by simp,by simp only [sB.1,simprocAttr,-Int.reduceNatCast'],by simp only [sB.1,simprocAttr,-Int.reduceNatCast'],by simp only [sB.1,simprocAttr,-Int.reduceNatCast'],by simp only [sB.1,simprocAttr,-Int.reduceNatCast',Int.natCast_zero],by omega,rfl⟩)
 rcases hq with ⟨rfl,hall⟩ | ⟨rfl,hall,e4⟩
 ·simp only [sB.1,simprocAttr,-Int.reduceNatCast',ht] at hw
  subst hw
  rw [hall]
  exact congrArg some (qH hG rfl)
 ·simp only [sB.1,simprocAttr,-Int.reduceNatCast',ht,e4] at hw
  subst hw
  rw [hall]
  exact congrArg some (qH hG rfl)
theorem qC0:∀d,qyI d:=by
 intro d
 induction d with
 | zero=>
  rintro e h _ hd
  rw [dOK] at hd
  cases hd
 | succ d ih=>
  rintro ⟨op,n,nm,sub,aS⟩ h ⟨k,hk⟩ hd
  obtain ⟨k,rfl⟩ :∃k',k = k' + 1:=by cases k with | zero=>exact hk.elim | succ k=>exact ⟨k,rfl⟩
  have hf:∀a ∈ aS,∃k,Fit k a:=fun a ha=>⟨k,hk.2 a ha⟩
  rw [dOK,List.all_eq_true] at hd
  have ha:=fun g=>qEd ih aS hk.1 hf hd g
  have hn:=fun g=>qz7 (h:=g) op n nm sub (aS.map exV)
  rw [List.length_map] at hn
  rw [qN,right,qr rfl (show T.get 61 = some c61 by kernel_rfl)]
  cases hb:qjD op n nm sub aS.length with
  | false=>simp only [sB.1,c61,simprocAttr,-Int.reduceNatCast',hn,hb]
  | true=>simp only [sB.1,c61,simprocAttr,-Int.reduceNatCast',hn,hb,ha]
theorem qBE (e:Exl) (h:List qb) (hk:∃k,Fit k e):Wd (.fn 33 [] []) [exV e] h = some (.ret (.bool (right 20 e)),h,false):=by
 obtain ⟨v,hv,v1,v2,v3⟩:=qFH 20 (by omega) e (h ++ [.cells e.enc]) hk
 have hn:=fun hd g=>qC0 20 e g hk hd
 have c20:((20:Nat):Int) = 20:=Eq.trans rfl rfl
 rw [c20] at hv
 cases hd:dOK 20 e with
 | false=>
  rw [hd] at v3
  have hr:right 20 e = false:=by
   cases hr:right 20 e with
   | false=>rfl
   | true=>rw [qeG _ _ hr] at hd;cases hd
  have c1:ile (v:Int) 20 = false:=by have:=of_decide_eq_false v3;exact qD4 (by omega)
  rw [hr]
  obtain ⟨op,n,nm,sub,aS⟩:=e
  rw [qN,qci] at hv
  rw [qN,qr rfl (show T.get 33 = some c33 by kernel_rfl)]
  simp only [sB.1,c33,simprocAttr,-Int.reduceNatCast',hv,c1]
 | true=>
  have hn:=hn hd
  rw [hd] at v3
  have c1:ile (v:Int) 20 = true:=by have:=of_decide_eq_true v3;exact qEw (by omega)
  obtain ⟨op,n,nm,sub,aS⟩:=e
  rw [qN,qci] at hv
  rw [qN] at hn
  rw [qN,qr rfl (show T.get 33 = some c33 by kernel_rfl)]
  simp only [sB.1,c33,simprocAttr,-Int.reduceNatCast',hv,c1,hn]
structure Vr where
 ta:Str
 nm:Str
 k:Int
 L:List qa
structure Pt where
 nm:Str
 k:Int
 L:List qa
def vrR (v:Vr):List qa:=[.str v.ta,.str v.nm,.int .i64 v.k,.lst v.L .no]
def ptV (p:Pt):qa:=.agg [.str p.nm,.int .i64 p.k,.lst p.L .no]
def pos:List Str→Str→Nat→Int
 | [],_,_=>-1
 | x :: l,s,i=>bif x == s then (i:Int) else pos l s (i + 1)
theorem qcn (v:Vr):qbl (vrR v):=by
 intro c hc
 simp only [vrR,List.mem_cons,List.not_mem_nil,or_false] at hc
 rcases hc with rfl | rfl | rfl | rfl <;> exact ⟨rfl,rfl⟩
theorem qmI:∀vs:List Vr,qbl (vs.map vrR).flatten:=by
 intro vs c hc
 obtain ⟨l,hl,hc⟩:=List.mem_flatten.1 hc
 obtain ⟨v,_,rfl⟩:=List.mem_map.1 hl
 exact qcn v c hc
theorem qin (vs:List Vr):∀v ∈ vs.map vrR,v.length = 4:=fun v hv=>by
 obtain ⟨x,_,rfl⟩:=List.mem_map.1 hv
 rfl
def qho (h:List qb) (vs:List Vr) (V:qa):Prop:=(vs = []∧V = .lst [] .full)∨∃id,V = .sl id 0 vs.length vs.length 4∧h[id]? = some (.cells (vs.map vrR).flatten)
section
variable {h:List qb}
theorem qkB (t:List qa) (f:FuncId) (a b:List qo):pureV t (.mkF f a b) = some (.fn f (a.map (ev t)) (b.map (ev t))):=rfl
theorem qiC (y:Vr) {b:Nat} {s:Str} {H:List qb} (hb:H[b]? = some (.cells [.str s])):Wd (.fn 102 [] [.ptr b 0]) [.agg [.str y.ta,.str y.nm,.int .i64 y.k,.lst y.L .no]] H = some (.ret (.bool (y.nm == s)),H,false):=by
 have hb2:∀X,(H ++ X)[b]? = some (.cells [.str s]):=fun X=>by rw [List.getElem?_append_left (List.getElem?_eq_some_iff.1 hb).1];exact hb
 rw [qr rfl (show T.get 102 = some qAA by kernel_rfl)]
 simp only [sB.1,qAA,simprocAttr,-Int.reduceNatCast',hb2]
theorem qiB (vs:List Vr) (V:qa) (hV:qho h vs V) (s:Str) (hl:vs.length ≤ 100000) {b:Nat} (hb:h[b]? = some (.cells [.str s])):Wd (.fn 101 [] []) [V,.fn 102 [] [.ptr b 0]] h = some (.ret (.int .i64 (pos (vs.map (·.nm)) s 0)),h,false):=by
 have hVd:V.dim = V:=by rcases hV with ⟨_,rfl⟩ | ⟨id,rfl,_⟩ <;> rfl
 have hVw:∀i t,qx V i t = t:=by rcases hV with ⟨_,rfl⟩ | ⟨id,rfl,_⟩ <;> exact fun _ _=>rfl
 have hVl:qbb false V = some (.int .i64 (vs.length:Nat)):=by rcases hV with ⟨rfl,rfl⟩ | ⟨id,rfl,_⟩ <;> rfl
 have loop:∀q st,(∃(tt:List qa) (G:List qb) (i:Nat),st = ⟨tt,G,false⟩∧tt.length = 19∧G.take h.length = h∧h.length ≤ G.length∧lkp tt 1 = .fn 102 [] [.ptr b 0]∧lkp tt 7 = V∧lkp tt 8 = .int .i64 (vs.length:Nat)∧lkp tt 9 = .int .i64 (i:Nat)∧i + q = vs.length∧pos ((vs.map (·.nm)).drop i) s i = pos (vs.map (·.nm)) s 0)→
   ∃x st',qm h.length Wd (.loop qfE) st = some (x,st')∧(∃(tt:List qa) (G:List qb),st' = ⟨tt,G,false⟩∧tt.length = 19∧G.take h.length = h∧((x = .exit 0∧pos (vs.map (·.nm)) s 0 = -1)∨(x = .ret∧lkp tt 4 = .int .i64 (pos (vs.map (·.nm)) s 0)))):=by
  refine qD _ _ ?_
  rintro q st ⟨tt,G,i,rfl,ht,hG1,hG2,e1,e7,e8,e9,hiq,hR⟩
  generalize he:qm h.length Wd qfE _ = r
  rcases Nat.lt_or_ge i vs.length with hi | hi
  ·have c1:ilt (i:Int) (vs.length:Int) = true:=qyz (by omega)
   have w:=qab (n:=i) (by omega)
   have hi':i < (vs.map (·.nm)).length:=by simpa using hi
   obtain ⟨id,ho,hx,hcut⟩ :∃id,G[id]? = some (.cells (vs.map vrR).flatten)∧qav 4 V (.int .i64 (i:Nat)) = some (.ptr id (i * 4))∧Go.AE.cut (vs.map vrR).flatten (i * 4) (some 4) = some (.agg (vrR vs[i])):=by
    rcases hV with ⟨rfl,_⟩ | ⟨id,rfl,hid⟩
    ·simp at hi
    ·refine ⟨id,?_,qcf hi,?_⟩
     ·rw [←hG1,List.getElem?_take] at hid
      split at hid
      ·exact hid
      ·cases hid
     ·rw [qc3 (qin vs) (by simpa using hi) (by rw [List.getElem_map];exact fun c hc=>(qcn _ c hc).1),List.getElem_map]
   have hbG:G[b]? = some (.cells [.str s]):=by
    rw [←hG1,List.getElem?_take] at hb
    split at hb
    ·exact hb
    ·cases hb
   rw [List.drop_eq_getElem_cons hi',pos,List.getElem_map] at hR
   generalize vs[i] = y at hx hR hcut
   have hp:=qiC y (H:=G ++ [.cells [.str y.ta,.str y.nm,.int .i64 y.k,.lst y.L .no]]) (b:=b) (s:=s) (by rw [List.getElem?_append_left (List.getElem?_eq_some_iff.1 hbG).1];exact hbG)
   have hbl:Nat.ble h.length G.length = true:=qi hG2
   rw [vrR] at hcut
   cases hb':(y.nm == s) with
   | true=>
    rw [hb',cond_true] at hR
    rw [hb'] at hp
    simp only [sB.1,qfE,simprocAttr,-Int.reduceNatCast',ht,e1,e7,e8,e9,c1,hx,w,hp,hbl,hVd,hVw,hVl,ho,hcut] at he
    subst he
    refine .inr ⟨_,_,rfl,by simp,_,_,rfl,?_,?_,.inr ⟨rfl,?_⟩⟩
    ·simp only [qc,ht]
    ·rw [List.take_append_of_le_length hG2,hG1]
    ·rw [←hR]
     simp only [sB.1,simprocAttr,-Int.reduceNatCast',ht]
   | false=>
    rw [hb',cond_false] at hR
    rw [hb'] at hp
    simp only [sB.1,qfE,simprocAttr,-Int.reduceNatCast',ht,e1,e7,e8,e9,c1,hx,w,hp,hbl,hVd,hVw,hVl,ho,hcut] at he
    subst he
    refine .inl ⟨_,q - 1,rfl,by omega,_,_,i + 1,rfl,?_,?_,?_,?_,?_,?_,?_,by omega,hR⟩
    ·simp only [qc,ht]
    ·rw [List.take_append_of_le_length hG2,hG1]
    ·simp;omega
    ·simp only [sB.1,simprocAttr,-Int.reduceNatCast',ht,e1]
    ·simp only [sB.1,simprocAttr,-Int.reduceNatCast',ht,e7]
    ·simp only [sB.1,simprocAttr,-Int.reduceNatCast',ht,e8]
    ·simp only [sB.1,simprocAttr,-Int.reduceNatCast',ht]
  ·have c1:ilt (i:Int) (vs.length:Int) = false:=qyy (by omega)
   rw [List.drop_eq_nil_of_le (by simpa using hi),pos] at hR
   simp only [sB.1,qfE,simprocAttr,-Int.reduceNatCast',ht,e1,e7,e8,e9,c1] at he
   subst he
   exact .inr ⟨_,_,rfl,by simp,_,_,rfl,by simp only [qc,ht],hG1,.inl ⟨rfl,hR.symm⟩⟩
 generalize hw:Wd _ _ h = w
 rw [qr rfl (show T.get 101 = some qAz by kernel_rfl)] at hw
 simp only [sB.1,qAz,simprocAttr,-Int.reduceNatCast',hVd,hVw,hVl] at hw
 generalize hr:qm h.length Wd (.loop qfE) _ = r at hw
 obtain ⟨x,st',rfl,tt,G,rfl,ht,hG,hq⟩:=qaB hr (loop vs.length _ ⟨_,_,0,rfl,by simp only [sB.1,simprocAttr,-Int.reduceNatCast'],by simp,by simp,by simp only [sB.1,simprocAttr,-Int.reduceNatCast'],by simp only [sB.1,simprocAttr,-Int.reduceNatCast',hVd,hVw,hVl],by simp only [sB.1,simprocAttr,-Int.reduceNatCast'],by simp only [sB.1,simprocAttr,-Int.reduceNatCast',Int.natCast_zero],by omega,rfl⟩)
 rcases hq with ⟨rfl,hp⟩ | ⟨rfl,e4⟩
 ·simp only [sB.1,simprocAttr,-Int.reduceNatCast',ht] at hw
  subst hw
  rw [hp]
  exact congrArg some (qH hG rfl)
 ·simp only [sB.1,simprocAttr,-Int.reduceNatCast',ht,e4] at hw
  subst hw
  exact congrArg some (qH hG rfl)
theorem qj3 (vs:List Vr) (V:qa) (hV:qho h vs V) (s:Str) (hl:vs.length ≤ 100000):Wd (.fn 74 [] []) [V,.str s] h = some (.ret (.int .i64 (pos (vs.map (·.nm)) s 0)),h,false):=by
 have hVd:V.dim = V:=by rcases hV with ⟨_,rfl⟩ | ⟨id,rfl,_⟩ <;> rfl
 have hVw:∀i t,qx V i t = t:=by rcases hV with ⟨_,rfl⟩ | ⟨id,rfl,_⟩ <;> exact fun _ _=>rfl
 have hVl:qbb false V = some (.int .i64 (vs.length:Nat)):=by rcases hV with ⟨rfl,rfl⟩ | ⟨id,rfl,_⟩ <;> rfl
 have hp:=qiB vs V (h:=h ++ [.cells [.str s]]) (by rcases hV with hV | ⟨id,e,hid⟩;exact .inl hV;exact .inr ⟨id,e,by rw [List.getElem?_append_left (List.getElem?_eq_some_iff.1 hid).1];exact hid⟩) s hl (b:=h.length) (by rw [qQ];rfl)
 rw [qr rfl (show T.get 74 = some c74 by kernel_rfl)]
 simp only [sB.1,c74,simprocAttr,-Int.reduceNatCast',qkB,hp,hVd,hVw]
theorem qhd (y:Pt) {b:Nat} {s:Str} {H:List qb} (hb:H[b]? = some (.cells [.str s])):Wd (.fn 104 [] [.ptr b 0]) [.agg [.str y.nm,.int .i64 y.k,.lst y.L .no]] H = some (.ret (.bool (y.nm == s)),H,false):=by
 have hb2:∀X,(H ++ X)[b]? = some (.cells [.str s]):=fun X=>by rw [List.getElem?_append_left (List.getElem?_eq_some_iff.1 hb).1];exact hb
 rw [qr rfl (show T.get 104 = some qAC by kernel_rfl)]
 simp only [sB.1,qAC,simprocAttr,-Int.reduceNatCast',hb2]
theorem qhc (vs:List Pt) (s:Str) (hl:vs.length ≤ 100000) {b:Nat} (hb:h[b]? = some (.cells [.str s])):Wd (.fn 103 [] []) [(.lst (vs.map ptV) .no),.fn 104 [] [.ptr b 0]] h = some (.ret (.int .i64 (pos (vs.map (·.nm)) s 0)),h,false):=by
 have loop:∀q st,(∃(tt:List qa) (G:List qb) (i:Nat),st = ⟨tt,G,false⟩∧tt.length = 19∧G.take h.length = h∧h.length ≤ G.length∧lkp tt 1 = .fn 104 [] [.ptr b 0]∧lkp tt 7 = (.lst (vs.map ptV) .no)∧lkp tt 8 = .int .i64 (vs.length:Nat)∧lkp tt 9 = .int .i64 (i:Nat)∧i + q = vs.length∧pos ((vs.map (·.nm)).drop i) s i = pos (vs.map (·.nm)) s 0)→
   ∃x st',qm h.length Wd (.loop qfF) st = some (x,st')∧(∃(tt:List qa) (G:List qb),st' = ⟨tt,G,false⟩∧tt.length = 19∧G.take h.length = h∧((x = .exit 0∧pos (vs.map (·.nm)) s 0 = -1)∨(x = .ret∧lkp tt 4 = .int .i64 (pos (vs.map (·.nm)) s 0)))):=by
  refine qD _ _ ?_
  rintro q st ⟨tt,G,i,rfl,ht,hG1,hG2,e1,e7,e8,e9,hiq,hR⟩
  generalize he:qm h.length Wd qfF _ = r
  rcases Nat.lt_or_ge i vs.length with hi | hi
  ·have c1:ilt (i:Int) (vs.length:Int) = true:=qyz (by omega)
   have w:=qab (n:=i) (by omega)
   have hi':i < (vs.map (·.nm)).length:=by simpa using hi
   have hg:(vs.map ptV)[i]? = some (ptV vs[i]):=by rw [List.getElem?_map,List.getElem?_eq_getElem hi];rfl
   have hx:qav 3 (.lst (vs.map ptV) .no) (.int .i64 (i:Nat)) = some (.iptr [.str vs[i].nm,.int .i64 vs[i].k,.lst vs[i].L .no] 0):=qaM hg rfl
   have hbG:G[b]? = some (.cells [.str s]):=by
    rw [←hG1,List.getElem?_take] at hb
    split at hb
    ·exact hb
    ·cases hb
   rw [List.drop_eq_getElem_cons hi',pos,List.getElem_map] at hR
   generalize vs[i] = y at hx hR hg
   have hp:=qhd y (H:=G ++ [.cells [.str y.nm,.int .i64 y.k,.lst y.L .no]]) (b:=b) (s:=s) (by rw [List.getElem?_append_left (List.getElem?_eq_some_iff.1 hbG).1];exact hbG)
   have hbl:Nat.ble h.length G.length = true:=qi hG2
   skip
   cases hb':(y.nm == s) with
   | true=>
    rw [hb',cond_true] at hR
    rw [hb'] at hp
    simp only [sB.1,qfF,simprocAttr,-Int.reduceNatCast',ht,e1,e7,e8,e9,c1,hx,w,hp,hbl,List.length_map] at he
    subst he
    refine .inr ⟨_,_,rfl,by simp,_,_,rfl,?_,?_,.inr ⟨rfl,?_⟩⟩
    ·simp only [qc,ht]
    ·rw [List.take_append_of_le_length hG2,hG1]
    ·rw [←hR]
     simp only [sB.1,simprocAttr,-Int.reduceNatCast',ht]
   | false=>
    rw [hb',cond_false] at hR
    rw [hb'] at hp
    simp only [sB.1,qfF,simprocAttr,-Int.reduceNatCast',ht,e1,e7,e8,e9,c1,hx,w,hp,hbl,List.length_map] at he
    subst he
    refine .inl ⟨_,q - 1,rfl,by omega,_,_,i + 1,rfl,?_,?_,?_,?_,?_,?_,?_,by omega,hR⟩
    ·simp only [qc,ht]
    ·rw [List.take_append_of_le_length hG2,hG1]
    ·simp;omega
    ·simp only [sB.1,simprocAttr,-Int.reduceNatCast',ht,e1]
    ·simp only [sB.1,simprocAttr,-Int.reduceNatCast',ht,e7]
    ·simp only [sB.1,simprocAttr,-Int.reduceNatCast',ht,e8]
    ·simp only [sB.1,simprocAttr,-Int.reduceNatCast',ht]
  ·have c1:ilt (i:Int) (vs.length:Int) = false:=qyy (by omega)
   rw [List.drop_eq_nil_of_le (by simpa using hi),pos] at hR
   simp only [sB.1,qfF,simprocAttr,-Int.reduceNatCast',ht,e1,e7,e8,e9,c1] at he
   subst he
   exact .inr ⟨_,_,rfl,by simp,_,_,rfl,by simp only [qc,ht],hG1,.inl ⟨rfl,hR.symm⟩⟩
 generalize hw:Wd _ _ h = w
 rw [qr rfl (show T.get 103 = some qAB by kernel_rfl)] at hw
 simp only [sB.1,qAB,simprocAttr,-Int.reduceNatCast',List.length_map] at hw
 generalize hr:qm h.length Wd (.loop qfF) _ = r at hw
 obtain ⟨x,st',rfl,tt,G,rfl,ht,hG,hq⟩:=qaB hr (loop vs.length _ ⟨_,_,0,rfl,by simp only [sB.1,simprocAttr,-Int.reduceNatCast'],by simp,by simp,by simp only [sB.1,simprocAttr,-Int.reduceNatCast'],by simp only [sB.1,simprocAttr,-Int.reduceNatCast',List.length_map],by simp only [sB.1,simprocAttr,-Int.reduceNatCast'],by simp only [sB.1,simprocAttr,-Int.reduceNatCast',Int.natCast_zero],by omega,rfl⟩)
 rcases hq with ⟨rfl,hp⟩ | ⟨rfl,e4⟩
 ·simp only [sB.1,simprocAttr,-Int.reduceNatCast',ht] at hw
  subst hw
  rw [hp]
  exact congrArg some (qH hG rfl)
 ·simp only [sB.1,simprocAttr,-Int.reduceNatCast',ht,e4] at hw
  subst hw
  exact congrArg some (qH hG rfl)
theorem qii (vs:List Pt) (s:Str) (hl:vs.length ≤ 100000):Wd (.fn 75 [] []) [(.lst (vs.map ptV) .no),.str s] h = some (.ret (.int .i64 (pos (vs.map (·.nm)) s 0)),h,false):=by
 have hp:=qhc vs (h:=h ++ [.cells [.str s]]) s hl (b:=h.length) (by rw [qQ];rfl)
 rw [qr rfl (show T.get 75 = some c75 by kernel_rfl)]
 simp only [sB.1,c75,simprocAttr,-Int.reduceNatCast',qkB,hp]
end
theorem qaP (t z:List qa) (ps:List (Nat×Nat×qo)):pureV t (.build z ps) = (qaK z (ps.map fun (o,s,x)=>(o,s,ev t x))).map .agg:=rfl
def VS (h:List qb) (b:Nat) (vs:List Vr) (n:Nat) (V:qa):Prop:=(n = 0∧V = .lst [] .full)∨∃id,V = .sl id 0 n n 4∧b ≤ id∧0 < n∧h[id]? = some (.cells ((vs.take n).map vrR).flatten)
theorem VS.facts {h:List qb} {b n:Nat} {vs:List Vr} {V:qa} (hV:VS h b vs n V):V.dim = V∧∀i t,qx V i t = t:=by
 rcases hV with ⟨_,rfl⟩ | ⟨id,rfl,_⟩ <;> exact ⟨rfl,fun _ _=>rfl⟩
theorem VS.next {h:List qb} {b n base:Nat} {vs:List Vr} {V:qa} (hV:VS h b vs n V) (hb:b ≤ h.length) (hn:n < vs.length) (hl:vs.length ≤ 100000) :
  ∃V' h',hop base (.app 4) [V,.sl h.length 0 1 1 0] (h ++ [.cells (vrR vs[n])]) = some (V',h',false)∧VS h' b vs (n + 1) V'∧h'.take b = h.take b∧b ≤ h'.length:=by
 have h2:(h ++ [qb.cells (vrR vs[n])])[h.length]? = some (.cells (vrR vs[n])):=by rw [qQ];rfl
 have ht:((vs.take (n + 1)).map vrR).flatten = ((vs.take n).map vrR).flatten ++ vrR vs[n]:=by
  rw [List.take_succ_eq_append_getElem hn,List.map_append,List.flatten_append]
  simp only [List.map_cons,List.map_nil,List.flatten_cons,List.flatten_nil,List.append_nil]
 rcases hV with ⟨rfl,rfl⟩ | ⟨id,rfl,hid,h0,hi⟩
 ·refine ⟨_,_,qbx h2 rfl (qcn _),.inr ⟨_,rfl,by simp;omega,by omega,?_⟩,?_,by simp;omega⟩
  ·rw [qQ,ht]
   simp
  ·rw [List.append_assoc,List.take_append_of_le_length hb]
 ·have hlt:id < h.length:=(List.getElem?_eq_some_iff.1 hi).1
  have hi2:(h ++ [qb.cells (vrR vs[n])])[id]? = some (.cells ((vs.take n).map vrR).flatten):=by rw [List.getElem?_append_left hlt];exact hi
  have hc:(((vs.take n).map vrR).flatten).length = n * 4:=by rw [qbG (qin _),List.length_map,List.length_take,Nat.min_eq_left (by omega)]
  refine ⟨_,_,qbY hi2 h2 rfl hc (qcn _) (qmI _) (by omega) (by omega),.inr ⟨_,rfl,by simp;omega,by omega,?_⟩,?_,by simp;omega⟩
  ·rw [show (h ++ [qb.cells (vrR vs[n])]).length = ((h ++ [qb.cells (vrR vs[n])]).set id .dead).length by simp,qQ,ht]
   rfl
  ·rw [List.take_append_of_le_length (by simp;omega),List.take_set_of_le (by omega),List.take_append_of_le_length hb]
structure Nd where
 op:Int
 n:Int
 nm:Str
 sb:Str
 pl:Int
 ins:List Int
section
variable (vn pn:List Str)
def fin (op n:Int) (nm sb:Str) (ins:List Int):Nd:=
 bif op == 3 then ⟨op,n,nm,[],0,ins⟩ else
 bif op == 4 then ⟨op,n,[],[],pos vn nm 0,ins⟩ else
 bif op == 5 then ⟨op,n,nm,sb,0,ins⟩ else
 bif op == 7 then ⟨op,n,[],[],pos pn nm 0,ins⟩ else
 bif op == 8 then ⟨op,n,[],[],pos pn nm 0,ins⟩ else
 bif op == 9 then ⟨op,n,[],[],pos pn nm 0,ins⟩ else
 bif op == 10 then ⟨op,n,[],[],pos pn nm 0,ins⟩ else ⟨op,n,[],[],0,ins⟩
def qbz (f:Nat→Exl→List Nd) (b:Nat):List Exl→List Nd→List Int→List Nd×List Int
 | [],out,ins=>(out,ins)
 | a :: aS,out,ins=>qbz f b aS (out ++ f (b + out.length) a) (ins ++ [((b + (out ++ f (b + out.length) a).length:Nat):Int) - 1])
def low:Nat→Nat→Exl→List Nd
 | 0,_,_=>[]
 | d + 1,b,.mk op n nm sb aS=>(qbz (low d) b aS [] []).1 ++ [fin vn pn op n nm sb (qbz (low d) b aS [] []).2]
end
def sz:Nat→Exl→Nat
 | 0,_=>0
 | d + 1,.mk _ _ _ _ aS=>1 + (aS.map (sz d)).sum
theorem qgp {vn pn:List Str} {d:Nat} (hd:∀b e,(low vn pn d b e).length = sz d e) (b:Nat):∀(aS:List Exl) (out:List Nd) (ins:List Int),(qbz (low vn pn d) b aS out ins).1.length = out.length + (aS.map (sz d)).sum
 | [],out,ins=>by rw [qbz];simp
 | a :: aS,out,ins=>by
  rw [qbz,qgp hd b aS]
  simp [hd]
  omega
theorem qjz {vn pn:List Str}:∀(d b:Nat) (e:Exl),(low vn pn d b e).length = sz d e
 | 0,_,_=>rfl
 | d + 1,b,.mk op n nm sb aS=>by
  rw [low,sz,List.length_append,qgp (qjz d)]
  simp
  omega
theorem qvd {f g:Exl→Nat} (h:∀e,f e ≤ g e):∀aS:List Exl,(aS.map f).sum ≤ (aS.map g).sum
 | []=>Nat.le_refl _
 | a :: aS=>by
  have:=qvd h aS
  have:=h a
  simp
  omega
theorem qrg:∀(d:Nat) (e:Exl),sz d e ≤ sz (d + 1) e
 | 0,e=>by rw [sz];omega
 | d + 1,.mk op n nm sb aS=>by
  rw [sz,sz]
  have:=qvd (qrg d) aS
  omega
theorem qjY (d:Nat) (e:Exl):∀k,sz d e ≤ sz (d + k) e
 | 0=>Nat.le_refl _
 | k + 1=>Nat.le_trans (qjY d e k) (qrg (d + k) e)
def Ins (H:Nat→Option qb) (ins:List Int) (I:qa):Prop:=(ins = []∧I = .lst [] .full)∨∃id,I = .sl id 0 ins.length ins.length 1∧H id = some (.cells (ins.map (.int .i64)))
def qiM (H:Nat→Option qb) (x:Nd) (r:List qa):Prop:=∃I,r = [.int .i64 x.op,.int .i64 x.n,.str x.nm,.str x.sb,.int .i64 x.pl,I]∧Ins H x.ins I
def Rows (H:Nat→Option qb):List Nd→List (List qa)→Prop
 | [],[]=>True
 | x :: ns,r :: rs=>qiM H x r∧Rows H ns rs
 | _,_=>False
theorem Ins.mono {H H':Nat→Option qb} (hs:Sub H H') {ins:List Int} {I:qa} (h:Ins H ins I):Ins H' ins I:=by
 rcases h with h | ⟨id,e,hi⟩
 ·exact .inl h
 ·exact .inr ⟨id,e,hs _ _ hi⟩
theorem Ins.facts {H:Nat→Option qb} {ins:List Int} {I:qa} (h:Ins H ins I):I.dim = I∧I.storable = true∧(∀i t,qx I i t = t)∧qbb false I = some (.int .i64 (ins.length:Nat)):=by
 rcases h with ⟨rfl,rfl⟩ | ⟨id,rfl,_⟩ <;> exact ⟨rfl,rfl,fun _ _=>rfl,rfl⟩
theorem Rows.mono {H H':Nat→Option qb} (hs:Sub H H'):∀{ns:List Nd} {rs:List (List qa)},Rows H ns rs→Rows H' ns rs
 | [],[],_=>trivial
 | _ :: _,_ :: _,⟨⟨I,e,hI⟩,h⟩=>⟨⟨I,e,hI.mono hs⟩,h.mono hs⟩
theorem Rows.snoc {H:Nat→Option qb} {x:Nd} {r:List qa} (hr:qiM H x r):∀{ns:List Nd} {rs:List (List qa)},Rows H ns rs→Rows H (ns ++ [x]) (rs ++ [r])
 | [],[],_=>⟨hr,trivial⟩
 | _ :: _,_ :: _,⟨h1,h⟩=>⟨h1,h.snoc hr⟩
theorem Rows.length {H:Nat→Option qb}:∀{ns:List Nd} {rs:List (List qa)},Rows H ns rs→rs.length = ns.length
 | [],[],_=>rfl
 | _ :: _,_ :: _,⟨_,h⟩=>by rw [List.length_cons,List.length_cons,h.length]
theorem qiM.six {H:Nat→Option qb} {x:Nd} {r:List qa} (h:qiM H x r):r.length = 6∧qbl r:=by
 obtain ⟨I,rfl,hI⟩:=h
 obtain ⟨a,b,_⟩:=hI.facts
 refine ⟨rfl,fun c hc=>?_⟩
 simp only [List.mem_cons,List.not_mem_nil,or_false] at hc
 rcases hc with rfl | rfl | rfl | rfl | rfl | rfl <;> first | exact ⟨rfl,rfl⟩ | exact ⟨a,b⟩
theorem Rows.six {H:Nat→Option qb}:∀{ns:List Nd} {rs:List (List qa)},Rows H ns rs→∀r ∈ rs,r.length = 6∧qbl r
 | [],[],_,_,hr=>nomatch hr
 | _ :: _,_ :: _,⟨h1,h⟩,r,hr=>by
  rcases List.mem_cons.1 hr with rfl | hr
  ·exact h1.six
  ·exact h.six r hr
theorem Rows.still {H:Nat→Option qb} {ns:List Nd} {rs:List (List qa)} (h:Rows H ns rs):qbl rs.flatten:=fun c hc=>by
 obtain ⟨r,hr,hc⟩:=List.mem_flatten.1 hc
 exact (h.six r hr).2 c hc
theorem Rows.len {H:Nat→Option qb} {ns:List Nd} {rs:List (List qa)} (h:Rows H ns rs):rs.flatten.length = ns.length * 6:=by
 rw [qbG fun r hr=>(h.six r hr).1,h.length]
theorem Rows.get {H:Nat→Option qb}:∀{ns:List Nd} {rs:List (List qa)},Rows H ns rs→∀i (h1:i < ns.length) (h2:i < rs.length),qiM H ns[i] rs[i]
 | _ :: _,_ :: _,⟨h,_⟩,0,_,_=>h
 | _ :: _,_ :: _,⟨_,h⟩,i + 1,h1,h2=>h.get i (by simpa using h1) (by simpa using h2)
def Tab (H:Nat→Option qb) (g:List qb) (t:Nat) (ns:List Nd) (V:qa):Prop:=Cov H g∧H t = none∧((ns = []∧V = .lst [] .full)∨∃rs,V = .sl t 0 ns.length ns.length 6∧ns ≠ []∧g[t]? = some (.cells rs.flatten)∧Rows H ns rs)
theorem Tab.facts {H:Nat→Option qb} {g:List qb} {t:Nat} {ns:List Nd} {V:qa} (h:Tab H g t ns V):V.dim = V∧V.storable = true∧(∀i t,qx V i t = t)∧qbb false V = some (.int .i64 (ns.length:Nat)):=by
 rcases h with ⟨_,_,⟨rfl,rfl⟩ | ⟨rs,rfl,_⟩⟩ <;> exact ⟨rfl,rfl,fun _ _=>rfl,rfl⟩
theorem qtg {base:Nat} {H:Nat→Option qb} {g:List qb} {ins:List Int} {I:qa} {id:Nat} (hl:ins.length ≤ 100000) (x:Int)
  (hI:(ins = []∧I = .lst [] .full)∨(I = .sl id 0 ins.length ins.length 1∧ins ≠ []∧g[id]? = some (.cells (ins.map (.int .i64))))) :
  ∃g',hop base (.app 1) [I,.sl g.length 0 1 1 0] (g ++ [.cells [.int .i64 x]]) = some (.sl (g.length + 1) 0 (ins ++ [x]).length (ins ++ [x]).length 1,g',false)∧g'.length = g.length + 2∧(∀i,i < g.length→(ins ≠ []→i ≠ id)→g'[i]? = g[i]?)∧g'[g.length + 1]? = some (.cells ((ins ++ [x]).map (.int .i64))):=by
 have hst:∀l:List Int,qbl (l.map (.int .i64)):=fun l c hc=>by
  obtain ⟨y,_,rfl⟩:=List.mem_map.1 hc
  exact ⟨rfl,rfl⟩
 have h2:(g ++ [qb.cells [.int .i64 x]])[g.length]? = some (.cells ([x].map (.int .i64))):=by rw [qQ];rfl
 have hlen:(g ++ [qb.cells [.int .i64 x]]).length = g.length + 1:=by simp
 rcases hI with ⟨rfl,rfl⟩ | ⟨rfl,hne,hid⟩
 ·refine ⟨_,by rw [qbx (k:=1) h2 rfl (hst _),hlen];rfl,by simp,fun i hi _=>?_,?_⟩
  ·rw [List.append_assoc,List.getElem?_append_left hi]
  ·rw [←hlen,qQ]
   rfl
 ·have hlt:id < g.length:=(List.getElem?_eq_some_iff.1 hid).1
  have h1:(g ++ [qb.cells [.int .i64 x]])[id]? = some (.cells (ins.map (.int .i64))):=by rw [List.getElem?_append_left hlt];exact hid
  refine ⟨_,by rw [qbY (k:=1) h1 h2 rfl (by simp) (hst _) (hst _) hl (by omega),hlen,List.length_append];rfl,by simp,fun i hi hne2=>?_,?_⟩
  ·rw [List.getElem?_append_left (by simp;omega),List.getElem?_set_ne (fun e=>hne2 hne e.symm),List.getElem?_append_left hi]
  ·rw [show g.length + 1 = ((g ++ [qb.cells [.int .i64 x]]).set id .dead).length by simp,qQ,List.map_append]
   rfl
theorem qui {base:Nat} {H:Nat→Option qb} {g:List qb} {t:Nat} {ns:List Nd} {V:qa} (hT:Tab H g t ns V) (hl:ns.length ≤ 100000) {x:Nd} {r:List qa} (hr:qiM H x r) :
  ∃g',hop base (.app 6) [V,.sl g.length 0 1 1 0] (g ++ [.cells r]) = some (.sl (g.length + 1) 0 (ns ++ [x]).length (ns ++ [x]).length 6,g',false)∧g'.length = g.length + 2∧(∀i,i < g.length→(ns ≠ []→i ≠ t)→g'[i]? = g[i]?)∧Tab H g' (g.length + 1) (ns ++ [x]) (.sl (g.length + 1) 0 (ns ++ [x]).length (ns ++ [x]).length 6):=by
 obtain ⟨hC,ht,hT⟩:=hT
 obtain ⟨hr6,hrs⟩:=hr.six
 have h2:(g ++ [qb.cells r])[g.length]? = some (.cells r):=by rw [qQ];rfl
 have hlen:(g ++ [qb.cells r]).length = g.length + 1:=by simp
 have hnone:H (g.length + 1) = none:=hC.late (by omega)
 rcases hT with ⟨rfl,rfl⟩ | ⟨rs,rfl,hne,hid,hR⟩
 ·refine ⟨_,by rw [qbx h2 hr6 hrs,hlen];rfl,by simp,fun i hi _=>?_,(hC.more _).more _,hnone,.inr ⟨[r],rfl,by simp,?_,hr,trivial⟩⟩
  ·rw [List.append_assoc,List.getElem?_append_left hi]
  ·rw [←hlen,qQ]
   simp
 ·have hlt:t < g.length:=(List.getElem?_eq_some_iff.1 hid).1
  have h1:(g ++ [qb.cells r])[t]? = some (.cells rs.flatten):=by rw [List.getElem?_append_left hlt];exact hid
  refine ⟨_,by rw [qbY h1 h2 hr6 hR.len hrs hR.still hl (by omega),hlen,List.length_append];rfl,by simp,fun i hi hne2=>?_,((hC.more _).set ht _).more _,hnone,.inr ⟨rs ++ [r],rfl,by simp,?_,hR.snoc hr⟩⟩
  ·rw [List.getElem?_append_left (by simp;omega),List.getElem?_set_ne (fun e=>hne2 hne e.symm),List.getElem?_append_left hi]
  ·rw [show g.length + 1 = ((g ++ [qb.cells r]).set t .dead).length by simp,qQ]
   simp
end Go.Proofs.YtnibchoenjmmjaaGreatDoor.AE
