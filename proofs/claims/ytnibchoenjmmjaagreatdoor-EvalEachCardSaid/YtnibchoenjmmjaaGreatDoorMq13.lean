/- A part of the proof: the abstract executor and what goes through it (part 13). No condition. -/
import Derived.Test.YtnibchoenjmmjaaGreatDoorMq12
set_option maxRecDepth 100000
set_option maxHeartbeats 0
namespace Go.Proofs.YtnibchoenjmmjaaGreatDoor.AE
open Go.AE
section
variable {h:List qb} {id:Nat} {z z':Str} {L L':qa} (Ld:L.dim = L) (Ls:L.storable = true) (Ld':L'.dim = L') (Ls':L'.storable = true) (hlt:id < h.length)
include Ld Ls Ld' Ls' hlt in
theorem qra {a b:Int} (hid:h[id]? = some (.cells [.int .i64 0,.int .i64 a,.str z,L,.int .i64 0,.int .i64 b,.str z',L'])) {q:Bool} (hq:(ilt a (IntKind.i64.wrap (a + b)) == ilt 0 b) = q):Wd (.fn 57 [] []) [.int .i64 15,.sl id 0 2 2 4] h = some (.ret (bif q then rI (IntKind.i64.wrap (a + b)) 0 else rI 0 2),h,false):=by
 have sl20:qav 4 (.sl id 0 2 2 4) (.int .i64 0) = some (.ptr id 0):=by kernel_rfl
 have sl21:qav 4 (.sl id 0 2 2 4) (.int .i64 1) = some (.ptr id 4):=by kernel_rfl
 have sl10:qav 4 (.sl id 0 1 1 4) (.int .i64 0) = some (.ptr id 0):=by kernel_rfl
 have sll2:qbb false (.sl id 0 2 2 4) = some (.int .i64 2):=by kernel_rfl
 have sll1:qbb false (.sl id 0 1 1 4) = some (.int .i64 1):=by kernel_rfl
 have slW:∀id o n c w i t,qx (qa.sl id o n c w) i t = t:=fun _ _ _ _ _ _ _=>rfl
 have hB1:Nat.ble h.length (h.length + 1) = true:=qi (by omega)
 have hB2:Nat.ble h.length (h.length + 2) = true:=qi (by omega)
 have slD:∀id o n c w:Nat,(qa.sl id o n c w).dim = .sl id o n c w:=fun _ _ _ _ _=>rfl
 rw [qr rfl (show T.get 57 = some c57 by kernel_rfl)]
 cases q <;> simp only [sA.1,c57,qey,simprocAttr,-Int.reduceNatCast',qZ,sl20,sl21,sl10,slD,slW,sll2,sll1,hB1,hB2,hlt,hid,Ld,Ls,Ld',Ls',hq,c2E,k02,k12,k22,w1E,w2E,btf,bff,qaC,qan,rI]
include Ld Ls Ld' Ls' hlt in
theorem qrf {a b:Int} (hid:h[id]? = some (.cells [.int .i64 0,.int .i64 a,.str z,L,.int .i64 0,.int .i64 b,.str z',L'])) {q:Bool} (hq:(ilt (IntKind.i64.wrap (a - b)) a == ilt 0 b) = q):Wd (.fn 57 [] []) [.int .i64 16,.sl id 0 2 2 4] h = some (.ret (bif q then rI (IntKind.i64.wrap (a - b)) 0 else rI 0 2),h,false):=by
 have sl20:qav 4 (.sl id 0 2 2 4) (.int .i64 0) = some (.ptr id 0):=by kernel_rfl
 have sl21:qav 4 (.sl id 0 2 2 4) (.int .i64 1) = some (.ptr id 4):=by kernel_rfl
 have sl10:qav 4 (.sl id 0 1 1 4) (.int .i64 0) = some (.ptr id 0):=by kernel_rfl
 have sll2:qbb false (.sl id 0 2 2 4) = some (.int .i64 2):=by kernel_rfl
 have sll1:qbb false (.sl id 0 1 1 4) = some (.int .i64 1):=by kernel_rfl
 have slW:∀id o n c w i t,qx (qa.sl id o n c w) i t = t:=fun _ _ _ _ _ _ _=>rfl
 have hB1:Nat.ble h.length (h.length + 1) = true:=qi (by omega)
 have hB2:Nat.ble h.length (h.length + 2) = true:=qi (by omega)
 have slD:∀id o n c w:Nat,(qa.sl id o n c w).dim = .sl id o n c w:=fun _ _ _ _ _=>rfl
 rw [qr rfl (show T.get 57 = some c57 by kernel_rfl)]
 cases q <;> simp only [sA.1,c57,qey,simprocAttr,-Int.reduceNatCast',qZ,sl20,sl21,sl10,slD,slW,sll2,sll1,hB1,hB2,hlt,hid,Ld,Ls,Ld',Ls',hq,c2E,k02,k12,k22,w1E,w2E,btf,bff,qaC,qan,rI]
include Ld Ls Ld' Ls' hlt in
theorem qrd {a b:Int} (hid:h[id]? = some (.cells [.int .i64 0,.int .i64 a,.str z,L,.int .i64 0,.int .i64 b,.str z',L'])) {r:qa} (hp:Wd (.fn 82 [] []) [.int .i64 a,.int .i64 b] (h ++ [.cells [.int .i64 0,.int .i64 0,.str [],.lst [] .full,.int .i64 0],.cells [.int .i64 0,.int .i64 a,.str z,L],.cells [.int .i64 0,.int .i64 b,.str z',L']]) = some (.ret r,(h ++ [.cells [.int .i64 0,.int .i64 0,.str [],.lst [] .full,.int .i64 0],.cells [.int .i64 0,.int .i64 a,.str z,L],.cells [.int .i64 0,.int .i64 b,.str z',L']]),false)) {n e:Int} (hr:r = rI n e):Wd (.fn 57 [] []) [.int .i64 17,.sl id 0 2 2 4] h = some (.ret (rI n e),h,false):=by
 have sl20:qav 4 (.sl id 0 2 2 4) (.int .i64 0) = some (.ptr id 0):=by kernel_rfl
 have sl21:qav 4 (.sl id 0 2 2 4) (.int .i64 1) = some (.ptr id 4):=by kernel_rfl
 have sl10:qav 4 (.sl id 0 1 1 4) (.int .i64 0) = some (.ptr id 0):=by kernel_rfl
 have sll2:qbb false (.sl id 0 2 2 4) = some (.int .i64 2):=by kernel_rfl
 have sll1:qbb false (.sl id 0 1 1 4) = some (.int .i64 1):=by kernel_rfl
 have slW:∀id o n c w i t,qx (qa.sl id o n c w) i t = t:=fun _ _ _ _ _ _ _=>rfl
 have hB1:Nat.ble h.length (h.length + 1) = true:=qi (by omega)
 have hB2:Nat.ble h.length (h.length + 2) = true:=qi (by omega)
 have slD:∀id o n c w:Nat,(qa.sl id o n c w).dim = .sl id o n c w:=fun _ _ _ _ _=>rfl
 rw [qr rfl (show T.get 57 = some c57 by kernel_rfl)]
 subst hr
 simp only [sA.1,c57,qey,simprocAttr,-Int.reduceNatCast',qZ,sl20,sl21,sl10,slD,slW,sll2,sll1,hB1,hB2,hlt,hid,Ld,Ls,Ld',Ls',hp,c2E,k02,k12,k22,w1E,w2E,btf,bff,qaC,qan,rI]
include Ld Ls Ld' Ls' hlt in
theorem qmO {a b:Int} (hid:h[id]? = some (.cells [.int .i64 0,.int .i64 a,.str z,L,.int .i64 0,.int .i64 b,.str z',L'])) (hb:(b == 0) = true):Wd (.fn 57 [] []) [.int .i64 18,.sl id 0 2 2 4] h = some (.ret (rI 0 3),h,false):=by
 have sl20:qav 4 (.sl id 0 2 2 4) (.int .i64 0) = some (.ptr id 0):=by kernel_rfl
 have sl21:qav 4 (.sl id 0 2 2 4) (.int .i64 1) = some (.ptr id 4):=by kernel_rfl
 have sl10:qav 4 (.sl id 0 1 1 4) (.int .i64 0) = some (.ptr id 0):=by kernel_rfl
 have sll2:qbb false (.sl id 0 2 2 4) = some (.int .i64 2):=by kernel_rfl
 have sll1:qbb false (.sl id 0 1 1 4) = some (.int .i64 1):=by kernel_rfl
 have slW:∀id o n c w i t,qx (qa.sl id o n c w) i t = t:=fun _ _ _ _ _ _ _=>rfl
 have hB1:Nat.ble h.length (h.length + 1) = true:=qi (by omega)
 have hB2:Nat.ble h.length (h.length + 2) = true:=qi (by omega)
 have slD:∀id o n c w:Nat,(qa.sl id o n c w).dim = .sl id o n c w:=fun _ _ _ _ _=>rfl
 rw [qr rfl (show T.get 57 = some c57 by kernel_rfl)]
 simp only [sA.1,c57,qey,simprocAttr,-Int.reduceNatCast',qZ,sl20,sl21,sl10,slD,slW,sll2,sll1,hB1,hB2,hlt,hid,Ld,Ls,Ld',Ls',hb,c2E,k02,k12,k22,w1E,w2E,btf,bff,qaC,qan,rI]
include Ld Ls Ld' Ls' hlt in
theorem qrb {a b:Int} (hid:h[id]? = some (.cells [.int .i64 0,.int .i64 a,.str z,L,.int .i64 0,.int .i64 b,.str z',L'])) (hb:(b == 0) = false) (hb':(b = 0) = False) {q:Bool} (hq:(!(a == -9223372036854775808) || !(b == -1)) = q):Wd (.fn 57 [] []) [.int .i64 18,.sl id 0 2 2 4] h = some (.ret (bif q then rI (IntKind.i64.wrap (a.tdiv b)) 0 else rI 0 2),h,false):=by
 have sl20:qav 4 (.sl id 0 2 2 4) (.int .i64 0) = some (.ptr id 0):=by kernel_rfl
 have sl21:qav 4 (.sl id 0 2 2 4) (.int .i64 1) = some (.ptr id 4):=by kernel_rfl
 have sl10:qav 4 (.sl id 0 1 1 4) (.int .i64 0) = some (.ptr id 0):=by kernel_rfl
 have sll2:qbb false (.sl id 0 2 2 4) = some (.int .i64 2):=by kernel_rfl
 have sll1:qbb false (.sl id 0 1 1 4) = some (.int .i64 1):=by kernel_rfl
 have slW:∀id o n c w i t,qx (qa.sl id o n c w) i t = t:=fun _ _ _ _ _ _ _=>rfl
 have hB1:Nat.ble h.length (h.length + 1) = true:=qi (by omega)
 have hB2:Nat.ble h.length (h.length + 2) = true:=qi (by omega)
 have slD:∀id o n c w:Nat,(qa.sl id o n c w).dim = .sl id o n c w:=fun _ _ _ _ _=>rfl
 rw [qr rfl (show T.get 57 = some c57 by kernel_rfl)]
 cases q <;> simp only [sA.1,c57,qey,simprocAttr,-Int.reduceNatCast',qZ,sl20,sl21,sl10,slD,slW,sll2,sll1,hB1,hB2,hlt,hid,Ld,Ls,Ld',Ls',hb,hb',hq,c2E,k02,k12,k22,w1E,w2E,btf,bff,qaC,qan,rI]
include Ld Ls Ld' Ls' hlt in
theorem qmP {a b:Int} (hid:h[id]? = some (.cells [.int .i64 0,.int .i64 a,.str z,L,.int .i64 0,.int .i64 b,.str z',L'])) (hb:(b == 0) = true):Wd (.fn 57 [] []) [.int .i64 19,.sl id 0 2 2 4] h = some (.ret (rI 0 3),h,false):=by
 have sl20:qav 4 (.sl id 0 2 2 4) (.int .i64 0) = some (.ptr id 0):=by kernel_rfl
 have sl21:qav 4 (.sl id 0 2 2 4) (.int .i64 1) = some (.ptr id 4):=by kernel_rfl
 have sl10:qav 4 (.sl id 0 1 1 4) (.int .i64 0) = some (.ptr id 0):=by kernel_rfl
 have sll2:qbb false (.sl id 0 2 2 4) = some (.int .i64 2):=by kernel_rfl
 have sll1:qbb false (.sl id 0 1 1 4) = some (.int .i64 1):=by kernel_rfl
 have slW:∀id o n c w i t,qx (qa.sl id o n c w) i t = t:=fun _ _ _ _ _ _ _=>rfl
 have hB1:Nat.ble h.length (h.length + 1) = true:=qi (by omega)
 have hB2:Nat.ble h.length (h.length + 2) = true:=qi (by omega)
 have slD:∀id o n c w:Nat,(qa.sl id o n c w).dim = .sl id o n c w:=fun _ _ _ _ _=>rfl
 rw [qr rfl (show T.get 57 = some c57 by kernel_rfl)]
 simp only [sA.1,c57,qey,simprocAttr,-Int.reduceNatCast',qZ,sl20,sl21,sl10,slD,slW,sll2,sll1,hB1,hB2,hlt,hid,Ld,Ls,Ld',Ls',hb,c2E,k02,k12,k22,w1E,w2E,btf,bff,qaC,qan,rI]
include Ld Ls Ld' Ls' hlt in
theorem qmQ {a b:Int} (hid:h[id]? = some (.cells [.int .i64 0,.int .i64 a,.str z,L,.int .i64 0,.int .i64 b,.str z',L'])) (hb:(b == 0) = false) (hb1:(b == -1) = true):Wd (.fn 57 [] []) [.int .i64 19,.sl id 0 2 2 4] h = some (.ret (rI 0 0),h,false):=by
 have sl20:qav 4 (.sl id 0 2 2 4) (.int .i64 0) = some (.ptr id 0):=by kernel_rfl
 have sl21:qav 4 (.sl id 0 2 2 4) (.int .i64 1) = some (.ptr id 4):=by kernel_rfl
 have sl10:qav 4 (.sl id 0 1 1 4) (.int .i64 0) = some (.ptr id 0):=by kernel_rfl
 have sll2:qbb false (.sl id 0 2 2 4) = some (.int .i64 2):=by kernel_rfl
 have sll1:qbb false (.sl id 0 1 1 4) = some (.int .i64 1):=by kernel_rfl
 have slW:∀id o n c w i t,qx (qa.sl id o n c w) i t = t:=fun _ _ _ _ _ _ _=>rfl
 have hB1:Nat.ble h.length (h.length + 1) = true:=qi (by omega)
 have hB2:Nat.ble h.length (h.length + 2) = true:=qi (by omega)
 have slD:∀id o n c w:Nat,(qa.sl id o n c w).dim = .sl id o n c w:=fun _ _ _ _ _=>rfl
 rw [qr rfl (show T.get 57 = some c57 by kernel_rfl)]
 simp only [sA.1,c57,qey,simprocAttr,-Int.reduceNatCast',qZ,sl20,sl21,sl10,slD,slW,sll2,sll1,hB1,hB2,hlt,hid,Ld,Ls,Ld',Ls',hb,hb1,c2E,k02,k12,k22,w1E,w2E,btf,bff,qaC,qan,rI]
include Ld Ls Ld' Ls' hlt in
theorem qrc {a b:Int} (hid:h[id]? = some (.cells [.int .i64 0,.int .i64 a,.str z,L,.int .i64 0,.int .i64 b,.str z',L'])) (hb:(b == 0) = false) (hb':(b = 0) = False) (hb1:(b == -1) = false):Wd (.fn 57 [] []) [.int .i64 19,.sl id 0 2 2 4] h = some (.ret (rI (a.tmod b) 0),h,false):=by
 have sl20:qav 4 (.sl id 0 2 2 4) (.int .i64 0) = some (.ptr id 0):=by kernel_rfl
 have sl21:qav 4 (.sl id 0 2 2 4) (.int .i64 1) = some (.ptr id 4):=by kernel_rfl
 have sl10:qav 4 (.sl id 0 1 1 4) (.int .i64 0) = some (.ptr id 0):=by kernel_rfl
 have sll2:qbb false (.sl id 0 2 2 4) = some (.int .i64 2):=by kernel_rfl
 have sll1:qbb false (.sl id 0 1 1 4) = some (.int .i64 1):=by kernel_rfl
 have slW:∀id o n c w i t,qx (qa.sl id o n c w) i t = t:=fun _ _ _ _ _ _ _=>rfl
 have hB1:Nat.ble h.length (h.length + 1) = true:=qi (by omega)
 have hB2:Nat.ble h.length (h.length + 2) = true:=qi (by omega)
 have slD:∀id o n c w:Nat,(qa.sl id o n c w).dim = .sl id o n c w:=fun _ _ _ _ _=>rfl
 rw [qr rfl (show T.get 57 = some c57 by kernel_rfl)]
 simp only [sA.1,c57,qey,simprocAttr,-Int.reduceNatCast',qZ,sl20,sl21,sl10,slD,slW,sll2,sll1,hB1,hB2,hlt,hid,Ld,Ls,Ld',Ls',hb,hb',hb1,c2E,k02,k12,k22,w1E,w2E,btf,bff,qaC,qan,rI]
include Ld Ls Ld' Ls' hlt in
theorem qgE {k k' a b op:Int} (hid:h[id]? = some (.cells [.int .i64 k,.int .i64 a,.str z,L,.int .i64 k',.int .i64 b,.str z',L'])) (hk:(k == 0) = false∨((k == 0) = true∧(k' == 0) = false)):Wd (.fn 57 [] []) [.int .i64 op,.sl id 0 2 2 4] h = some (.ret (rI 0 1),h,false):=by
 have sl20:qav 4 (.sl id 0 2 2 4) (.int .i64 0) = some (.ptr id 0):=by kernel_rfl
 have sl21:qav 4 (.sl id 0 2 2 4) (.int .i64 1) = some (.ptr id 4):=by kernel_rfl
 have sl10:qav 4 (.sl id 0 1 1 4) (.int .i64 0) = some (.ptr id 0):=by kernel_rfl
 have sll2:qbb false (.sl id 0 2 2 4) = some (.int .i64 2):=by kernel_rfl
 have sll1:qbb false (.sl id 0 1 1 4) = some (.int .i64 1):=by kernel_rfl
 have slW:∀id o n c w i t,qx (qa.sl id o n c w) i t = t:=fun _ _ _ _ _ _ _=>rfl
 have hB1:Nat.ble h.length (h.length + 1) = true:=qi (by omega)
 have hB2:Nat.ble h.length (h.length + 2) = true:=qi (by omega)
 have slD:∀id o n c w:Nat,(qa.sl id o n c w).dim = .sl id o n c w:=fun _ _ _ _ _=>rfl
 rw [qr rfl (show T.get 57 = some c57 by kernel_rfl)]
 rcases hk with c | ⟨c,c'⟩
 ·simp only [sA.1,c57,qey,simprocAttr,-Int.reduceNatCast',qZ,sl20,sl21,sl10,slD,slW,sll2,sll1,hB1,hB2,hlt,hid,Ld,Ls,Ld',Ls',c,c2E,k02,k12,k22,w1E,w2E,qaC,qan,rI]
 ·simp only [sA.1,c57,qey,simprocAttr,-Int.reduceNatCast',qZ,sl20,sl21,sl10,slD,slW,sll2,sll1,hB1,hB2,hlt,hid,Ld,Ls,Ld',Ls',c,c',c2E,k02,k12,k22,w1E,w2E,qaC,qan,rI]
include Ld Ls hlt in
theorem qmN {k b op:Int} (hid:h[id]? = some (.cells [.int .i64 k,.int .i64 b,.str z,L])) (hk:(k == 0) = false):Wd (.fn 57 [] []) [.int .i64 op,.sl id 0 1 1 4] h = some (.ret (rI 0 1),h,false):=by
 have sl20:qav 4 (.sl id 0 2 2 4) (.int .i64 0) = some (.ptr id 0):=by kernel_rfl
 have sl21:qav 4 (.sl id 0 2 2 4) (.int .i64 1) = some (.ptr id 4):=by kernel_rfl
 have sl10:qav 4 (.sl id 0 1 1 4) (.int .i64 0) = some (.ptr id 0):=by kernel_rfl
 have sll2:qbb false (.sl id 0 2 2 4) = some (.int .i64 2):=by kernel_rfl
 have sll1:qbb false (.sl id 0 1 1 4) = some (.int .i64 1):=by kernel_rfl
 have slW:∀id o n c w i t,qx (qa.sl id o n c w) i t = t:=fun _ _ _ _ _ _ _=>rfl
 have hB1:Nat.ble h.length (h.length + 1) = true:=qi (by omega)
 have hB2:Nat.ble h.length (h.length + 2) = true:=qi (by omega)
 have slD:∀id o n c w:Nat,(qa.sl id o n c w).dim = .sl id o n c w:=fun _ _ _ _ _=>rfl
 have k01:ilt 0 1 = true:=Eq.trans rfl rfl
 rw [qr rfl (show T.get 57 = some c57 by kernel_rfl)]
 simp only [sA.1,c57,qey,simprocAttr,-Int.reduceNatCast',qZ,sl10,slD,slW,sll1,hB1,hB2,hlt,hid,Ld,Ls,hk,c2E,c1E,k01,k12,w1E,w2E,qaC,qan,rI]
include Ld Ls hlt in
theorem qre {b:Int} (hid:h[id]? = some (.cells [.int .i64 0,.int .i64 b,.str z,L])) {q:Bool} (hq:(ilt (IntKind.i64.wrap (0 - b)) 0 == ilt 0 b) = q):Wd (.fn 57 [] []) [.int .i64 13,.sl id 0 1 1 4] h = some (.ret (bif q then rI (IntKind.i64.wrap (0 - b)) 0 else rI 0 2),h,false):=by
 have sl20:qav 4 (.sl id 0 2 2 4) (.int .i64 0) = some (.ptr id 0):=by kernel_rfl
 have sl21:qav 4 (.sl id 0 2 2 4) (.int .i64 1) = some (.ptr id 4):=by kernel_rfl
 have sl10:qav 4 (.sl id 0 1 1 4) (.int .i64 0) = some (.ptr id 0):=by kernel_rfl
 have sll2:qbb false (.sl id 0 2 2 4) = some (.int .i64 2):=by kernel_rfl
 have sll1:qbb false (.sl id 0 1 1 4) = some (.int .i64 1):=by kernel_rfl
 have slW:∀id o n c w i t,qx (qa.sl id o n c w) i t = t:=fun _ _ _ _ _ _ _=>rfl
 have hB1:Nat.ble h.length (h.length + 1) = true:=qi (by omega)
 have hB2:Nat.ble h.length (h.length + 2) = true:=qi (by omega)
 have slD:∀id o n c w:Nat,(qa.sl id o n c w).dim = .sl id o n c w:=fun _ _ _ _ _=>rfl
 have k01:ilt 0 1 = true:=Eq.trans rfl rfl
 have k11:ilt 1 1 = false:=Eq.trans rfl rfl
 have n12:((1:Int) == 2) = false:=Eq.trans rfl rfl
 rw [qr rfl (show T.get 57 = some c57 by kernel_rfl)]
 cases q <;> simp only [sA.1,c57,qey,simprocAttr,-Int.reduceNatCast',qZ,sl10,slD,slW,sll1,hB1,hB2,hlt,hid,Ld,Ls,hq,c2E,c1E,k01,k11,n12,k12,w1E,w2E,btf,bff,qaC,qan,rI]
include Ld Ls Ld' Ls' hlt in
theorem quh {a b:Int} (hid:h[id]? = some (.cells [.int .i64 0,.int .i64 a,.str z,L,.int .i64 0,.int .i64 b,.str z',L'])) (ha:I64 a) (hb:I64 b) {op:Int} (hop:op = 15∨op = 16∨op = 17∨op = 18∨op = 19):Wd (.fn 57 [] []) [.int .i64 op,.sl id 0 2 2 4] h = some (.ret (rI (qdS op a b).1 (qdS op a b).2),h,false):=by
 rcases hop with rfl | rfl | rfl | rfl | rfl
 ·rw [qra Ld Ls Ld' Ls' hlt hid (qA3 ha hb),qig rfl fun hf=>qem (qaY.1 hf)]
  rfl
 ·rw [qrf Ld Ls Ld' Ls' hlt hid (qAq ha hb),qig rfl fun hf=>qem (qaY.1 hf)]
  rfl
 ·exact qrd Ld Ls Ld' Ls' hlt hid (qmB ha hb) rfl
 ·by_cases h0:b = 0
  ·subst h0;exact qmO Ld Ls Ld' Ls' hlt hid rfl
  ·rw [qrb Ld Ls Ld' Ls' hlt hid (qhr h0).1 (qhr h0).2 (qBj ha hb h0),qig rfl fun hf=>qem (qaY.1 hf)]
   simp [qdS,h0]
 ·by_cases h0:b = 0
  ·subst h0;exact qmP Ld Ls Ld' Ls' hlt hid rfl
  ·cases h1:b == -1 with
   | true=>
    rw [qmQ Ld Ls Ld' Ls' hlt hid (qhr h0).1 h1]
    have h1:b = -1:=by simpa using h1
    subst h1
    simp [qdS,Int.tmod_neg]
   | false=>
    rw [qrc Ld Ls Ld' Ls' hlt hid (qhr h0).1 (qhr h0).2 h1]
    simp [qdS,h0]
include Ld Ls hlt in
theorem qxt {b:Int} (hid:h[id]? = some (.cells [.int .i64 0,.int .i64 b,.str z,L])) (hb:I64 b):Wd (.fn 57 [] []) [.int .i64 13,.sl id 0 1 1 4] h = some (.ret (rI (qdS 16 0 b).1 (qdS 16 0 b).2),h,false):=by
 rw [qre Ld Ls hlt hid (qAq ⟨by omega,by omega⟩ hb),qig rfl fun hf=>qem (qaY.1 hf)]
 rfl
end
def VSl (H:Nat→Option qb) (G:List qb) (b:Nat) (ts:List Val) (V:qa):Prop:=(ts = []∧V = .lst [] .full)∨∃(id:Nat) (rs:List (List qa)),V = .sl id 0 ts.length ts.length 4∧b ≤ id∧ts ≠ []∧G[id]? = some (.cells rs.flatten)∧H id = none∧rs.length = ts.length∧∀(i:Nat) (h:i < ts.length) (h':i < rs.length),At H ts[i] rs[i]
theorem VSl.facts {H:Nat→Option qb} {G:List qb} {b:Nat} {ts:List Val} {V:qa} (h:VSl H G b ts V):V.dim = V∧V.storable = true∧(∀i t,qx V i t = t)∧qbb false V = some (.int .i64 (ts.length:Nat)):=by
 rcases h with ⟨rfl,rfl⟩ | ⟨id,rs,rfl,_⟩ <;> exact ⟨rfl,rfl,fun _ _=>rfl,rfl⟩
theorem VSl.keep {H H':Nat→Option qb} {G G':List qb} {b:Nat} {ts:List Val} {V:qa} (h:VSl H G b ts V) (hs:Sub H H') (hn:∀i,i < G.length→H i = none→H' i = none) (hg:∀i,b ≤ i→i < G.length→G'[i]? = G[i]?):VSl H' G' b ts V:=by
 rcases h with h | ⟨id,rs,e,h1,h2,h3,h4,h5,h6⟩
 ·exact .inl h
 ·have hlt:id < G.length:=(List.getElem?_eq_some_iff.1 h3).1
  exact .inr ⟨id,rs,e,h1,h2,by rw [hg id h1 hlt];exact h3,hn id hlt h4,h5,fun i a c=>(h6 i a c).mono hs⟩
theorem VSl.next {H:Nat→Option qb} {G:List qb} {b base:Nat} {ts:List Val} {V:qa} (h:VSl H G b ts V) (hc:Cov H G) (hb:b ≤ G.length) (hl:ts.length ≤ 100000) {t:Val} {row:List qa} (ht:At H t row) :
  ∃G',hop base (.app 4) [V,.sl G.length 0 1 1 0] (G ++ [.cells row]) = some (.sl (G.length + 1) 0 (ts.length + 1) (ts.length + 1) 4,G',false)∧VSl H G' b (ts ++ [t]) (.sl (G.length + 1) 0 (ts.length + 1) (ts.length + 1) 4)∧Cov H G'∧G'.length = G.length + 2∧∀i,i < b→G'[i]? = G[i]?:=by
 have h2:(G ++ [qb.cells row])[G.length]? = some (.cells row):=by rw [qQ];rfl
 have hlen:(G ++ [qb.cells row]).length = G.length + 1:=by simp
 have hnone:H (G.length + 1) = none:=hc.late (by omega)
 have tl:(ts ++ [t]).length = ts.length + 1:=by simp
 rcases h with ⟨rfl,rfl⟩ | ⟨id,rs,rfl,h1,hne,h3,h4,h5,h6⟩
 ·refine ⟨_,by rw [qbx h2 ht.length ht.still,hlen];rfl,.inr ⟨G.length + 1,[row],rfl,by omega,by simp,?_,hnone,rfl,fun i a c=>?_⟩,(hc.more _).more _,by simp,fun i hi=>?_⟩
  ·rw [←hlen,qQ]
   simp
  ·have:i = 0:=by simp at c;omega
   subst this
   exact ht
  ·rw [List.append_assoc,List.getElem?_append_left (by omega)]
 ·have hlt:id < G.length:=(List.getElem?_eq_some_iff.1 h3).1
  have hi2:(G ++ [qb.cells row])[id]? = some (.cells rs.flatten):=by rw [List.getElem?_append_left hlt];exact h3
  have hr2:=(At.elem h5 h6).1
  have hst:qbl rs.flatten:=fun c hcx=>by
   obtain ⟨r,hr,hcr⟩:=List.mem_flatten.1 hcx
   obtain ⟨i,hi,rfl⟩:=List.getElem_of_mem hr
   exact (h6 i (by omega) hi).still c hcr
  have hce:rs.flatten.length = ts.length * 4:=by rw [qbG hr2,h5]
  refine ⟨_,by rw [qbY hi2 h2 ht.length hce ht.still hst (by omega) (by omega),hlen],.inr ⟨G.length + 1,rs ++ [row],by rw [tl],by omega,by simp,?_,hnone,by simp [h5],fun i a c=>?_⟩,((hc.more _).set h4 _).more _,by simp,fun i hi=>?_⟩
  ·rw [show G.length + 1 = ((G ++ [qb.cells row]).set id .dead).length by simp,qQ]
   simp
  ·by_cases hi:i < ts.length
   ·rw [List.getElem_append_left hi,List.getElem_append_left (by omega)]
    exact h6 i hi (by omega)
   ·have:i = ts.length:=by simp at a;omega
    subst this
    rw [List.getElem_append_right (by omega),List.getElem_append_right (by omega)]
    simp only [h5,Nat.sub_self,List.getElem_cons_zero]
    exact ht
  ·rw [List.getElem?_append_left (by simp;omega),List.getElem?_set_ne (by omega),List.getElem?_append_left (by omega)]
theorem VSl.lp {H H':Nat→Option qb} {G:List qb} {b:Nat} {ts:List Val} {V:qa} (h:VSl H G b ts V) (hs:Sub H H') (hg:∀i,b ≤ i→i < G.length→H i = none→H' i = G[i]?):LP H' ts V:=by
 rcases h with ⟨rfl,rfl⟩ | ⟨id,rs,rfl,h1,h2,h3,h4,h5,h6⟩
 ·exact LP.nil (.inr rfl)
 ·exact ⟨rs,h5,fun i a c=>(h6 i a c).mono hs,.inr ⟨id,4,rfl,by rw [hg id h1 (List.getElem?_eq_some_iff.1 h3).1 h4];exact h3⟩⟩
theorem qyB (base:Nat) (k n:Int) (s:Str) (L:qa) (hd:L.dim = L) (hs:L.storable = true) (h:List qb):hop base (.lit 4 [.int .i64 0,.int .i64 0,.str [],.lst [] .full] 1 [0]) [.agg [.int .i64 k,.int .i64 n,.str s,L]] h = some (.sl h.length 0 1 1 0,h ++ [.cells [.int .i64 k,.int .i64 n,.str s,L]],false):=by
 have s1:∀(j:IntKind) (x:Int),(qa.int j x).storable = true:=fun _ _=>rfl
 have d1:∀(j:IntKind) (x:Int),(qa.int j x).dim = .int j x:=fun _ _=>rfl
 have s2:∀x,(qa.str x).storable = true:=fun _=>rfl
 have d2:∀x,(qa.str x).dim = .str x:=fun _=>rfl
 simp [hop,qaK,qa.cells,splice,hs,hd,s1,d1,s2,d2]
def qcD (ev:Int→Res) (k:List Val→Res):List Int→List Val→Res
 | [],vs=>k vs
 | j :: js,vs=>bif !((ev j).2 == 0) then ev j else qcD ev k js (vs ++ [(ev j).1])
theorem qkZ {ev:Int→Res} {k:List Val→Res} {l:List Int} {i:Nat} {vs:List Val} (hi:i < l.length):qcD ev k (l.drop i) vs = bif !((ev l[i]).2 == 0) then ev l[i] else qcD ev k (l.drop (i + 1)) (vs ++ [(ev l[i]).1]):=by
 rw [List.drop_eq_getElem_cons hi,qcD]
section
variable {g:List qb} {H:Nat→Option qb}
theorem qk9 (R D N:Nat) (dn:Int→Bool) (ev:Int→Res) (kk:List Val→Res) {TV VL BV OL:qa} {en ed:Int} (hR:R < g.length) (hb:g[R]? = some (.cells [TV,VL,BV,.int .i64 en,.int .i64 ed,OL,.sl D 0 N N 0])) (hg:Cov H g) (hD:qbE H g D N dn ev) (nc:List qa) {ins:List Int} {I:qa} (hI:Ins H ins I) (hin:∀j ∈ ins,0 ≤ j∧j < N) (hil:ins.length ≤ 1000) (G0:List qb) (hG0:G0 = g ++ [zr5,.cells nc]) :
  ∀k st,(∃(tt:List qa) (G:List qb) (a:Nat) (V:qa) (vs:List Val),st = ⟨tt,G,false⟩∧tt.length = 198∧lkp tt 0 = .ptr R 0∧lkp tt 4 = .ptr g.length 0∧lkp tt 5 = .ptr (g.length + 1) 0∧lkp tt 6 = V∧lkp tt 27 = I∧lkp tt 28 = .int .i64 (ins.length:Nat)∧lkp tt 29 = .int .i64 (a:Nat)∧a + k = ins.length∧vs.length = a∧(∀i,i < g.length + 2→G[i]? = G0[i]?)∧g.length + 2 ≤ G.length∧Cov H G∧VSl H G (g.length + 2) vs V∧qcD ev kk ins [] = qcD ev kk (ins.drop a) vs∧qbT dn ev (ins.drop a) = -1∧(∀v ∈ vs,∃j:Int,dn j = true∧(ev j).1 = v))→
   ∃x st',qm g.length Wd (.loop qjl) st = some (x,st')∧(∃(tt:List qa) (G:List qb) (V:qa) (vs:List Val) (rs:List qa),st' = ⟨tt,G,false⟩∧tt.length = 198∧lkp tt 0 = .ptr R 0∧lkp tt 4 = .ptr g.length 0∧lkp tt 5 = .ptr (g.length + 1) 0∧((x = .exit 1∧lkp tt 6 = V∧(∀i,i < g.length + 2→G[i]? = G0[i]?)∧g.length + 2 ≤ G.length∧Cov H G∧VSl H G (g.length + 2) vs V∧qcD ev kk ins [] = kk vs∧vs.length = ins.length∧(∀v ∈ vs,∃j:Int,dn j = true∧(ev j).1 = v))∨(x = .ret∧G.take g.length = g∧g.length < G.length∧G[g.length]? = some (.cells rs)∧RAt H (qcD ev kk ins []) rs))):=by
 have d:∀id o n c w:Nat,(qa.sl id o n c w).dim = .sl id o n c w:=fun _ _ _ _ _=>rfl
 have st:∀id o n c w:Nat,(qa.sl id o n c w).storable = true:=fun _ _ _ _ _=>rfl
 have dw:∀id o n c w i t,qx (qa.sl id o n c w) i t = t:=fun _ _ _ _ _ _ _=>rfl
 obtain ⟨Id,Is,Iw,Il⟩:=hI.facts
 have hG0l:G0.length = g.length + 2:=by rw [hG0];simp
 have mD:∀i:Nat,i < N→qav 1 (.sl D 0 N N 0) (.int .i64 (i:Nat)) = some (.ptr D i):=fun i h=>by rw [qcf h,Nat.mul_one]
 refine qD _ _ ?_
 rintro k st ⟨tt,G,a,V,vs,rfl,ht,e0,e4,e5,e6,e27,e28,e29,hak,hvl,hG1,hG2,hGc,hV,hA,hN,hM⟩
 generalize he:qm g.length Wd qjl _ = r
 have old:∀i,i < g.length→G[i]? = g[i]?:=fun i hi=>by rw [hG1 i (by omega),hG0,List.getElem?_append_left hi]
 have hGR:R < G.length:=by omega
 have hGb:=(old R hR).trans hb
 obtain ⟨ds,D0,D1,D2,D3⟩:=hD
 have D1':=(old D D0).trans D1
 have D0':D < G.length:=by omega
 have hb0:Nat.ble g.length g.length = true:=qi (by omega)
 have hz:G[g.length]? = some zr5:=by rw [hG1 _ (by omega),hG0,qQ];rfl
 have htk:G.take g.length = g:=by
  apply List.ext_getElem?
  intro i
  rw [List.getElem?_take]
  split
  ·exact old i ‹_›
  ·rw [List.getElem?_eq_none (by omega)]
 obtain ⟨Vd,Vs,Vw,Vl⟩:=hV.facts
 rcases Nat.lt_or_ge a ins.length with ha | ha
 ·have c1E:ilt (a:Int) (ins.length:Int) = true:=by rw [qf];simp;omega
  have w:=q9 (n:=a) (by omega)
  obtain ⟨iid,hIe,y0,y1,y2,y3⟩:=hI.item ha hGc
  have hj:=hin _ (List.getElem_mem ha)
  rw [qfO ha] at hN
  rw [qkZ ha] at hA
  obtain ⟨j,hj1⟩ :∃j:Nat,ins[a] = (j:Int):=⟨ins[a].toNat,by omega⟩
  rw [hj1] at y3 hj hN hA
  have hjN:j < N:=by omega
  have m1:=mD j hjN
  cases cq0:dn (j:Int) with
  | false=>
   rw [cq0,Bool.not_false,cond_true] at hN
   omega
  | true=>
   obtain ⟨q,rs,e1,hq,hr⟩:=(D3 j hjN).2 cq0
   have hql:=hGc.lt hq
   have hqb:=hGc _ _ hq
   rw [cq0] at hN
   generalize hev:ev j = r0 at *
   obtain ⟨v0,x0⟩:=r0
   have hvat:∃cs,rs = cs ++ [.int .i64 x0]∧At H v0 cs:=hr
   obtain ⟨k0,m0,s0,l0,L0,hv,rfl,hL⟩:=hr.cells
   obtain ⟨Ld,Ls,Lw,Ll⟩:=hL.facts
   have Llo:=hL.low hg
   cases cq2:(x0 == 0) with
   | false=>
    simp only [cq2,Bool.not_false,cond_true] at hA
    simp only [sA.1,qjl,simprocAttr,-Int.reduceNatCast',ht,e0,e4,e5,e6,e27,e28,e29,c1E,Id,Iw,y0,y1,y2,y3,hGR,hGb,D0',D1',m1,e1,d,cI,Option.map_some,hql,hqb,hz,cq2,hG2,show g.length < G.length by omega,hb0,Ld,Ls,Lw] at he
    subst he
    refine .inr ⟨_,_,rfl,by simp,_,_,V,vs,_,rfl,by simp only [qc,ht],by simp only [sB.1,simprocAttr,-Int.reduceNatCast',ht,e0],by simp only [sB.1,simprocAttr,-Int.reduceNatCast',ht,e4],by simp only [sB.1,simprocAttr,-Int.reduceNatCast',ht,e5],.inr ⟨rfl,?_,by simp;omega,?_,by rw [hA];exact hr⟩⟩
    ·rw [List.take_set_of_le (by omega),htk]
    ·rw [List.getElem?_set_self (by omega)]
   | true=>
    simp only [cq2,Bool.not_true,cond_false] at hA hN
    have hvat':At H v0 [.int .i64 k0,.int .i64 m0,.str s0,L0]:=by
     obtain ⟨cs,e,hc⟩:=hvat
     have:cs = [.int .i64 k0,.int .i64 m0,.str s0,L0]:=by
      have e':[qa.int .i64 k0,.int .i64 m0,.str s0,L0] ++ [.int .i64 x0] = cs ++ [.int .i64 x0]:=e
      exact (List.append_cancel_right e').symm
     rwa [←this]
    have hlit:=fun (g':List qb)=>qyB g.length k0 m0 s0 L0 Ld Ls g'
    obtain ⟨G',ha1,ha2,ha3,ha4,ha5⟩:=hV.next (base:=g.length) hGc hG2 (by omega) hvat'
    simp only [sA.1,qjl,simprocAttr,-Int.reduceNatCast',ht,e0,e4,e5,e6,e27,e28,e29,c1E,Id,Iw,y0,y1,y2,y3,hGR,hGb,D0',D1',m1,e1,d,dw,cI,Option.map_some,hql,hqb,cq2,w,Ld,Ls,Lw,Vd,Vw,hlit,ha1] at he
    subst he
    refine .inl ⟨_,k - 1,rfl,by omega,_,G',a + 1,_,vs ++ [v0],rfl,by simp only [qc,ht],?_,?_,?_,rfl,?_,?_,?_,by omega,by simp [hvl],fun i hi=>by rw [ha5 i hi,hG1 i hi],by omega,ha3,?_,hA,hN,fun v hv=>?_⟩
    case inl.true.true.refine_8=>
     rcases List.mem_append.1 hv with hv | hv
     ·exact hM v hv
     ·exact ⟨j,cq0,by rw [hev,List.mem_singleton.1 hv]⟩
    all_goals first | (simp only [sB.1,simprocAttr,-Int.reduceNatCast',ht,e0,e4,e5,e6,e27,e28,e29,Id,Iw,w];done) | skip
    all_goals (simp only [sB.1,simprocAttr,-Int.reduceNatCast',ht,qcP];exact ha2)
 ·have c1E:ilt (a:Int) (ins.length:Int) = false:=by rw [qf];simp;omega
  simp only [sA.1,qjl,simprocAttr,-Int.reduceNatCast',ht,e28,e29,c1E] at he
  subst he
  rw [List.drop_eq_nil_of_le ha,qcD] at hA
  exact .inr ⟨_,_,rfl,by simp,_,G,V,vs,[],rfl,by simp only [qc,ht],by simp only [sB.1,simprocAttr,-Int.reduceNatCast',ht,e0],by simp only [sB.1,simprocAttr,-Int.reduceNatCast',ht,e4],by simp only [sB.1,simprocAttr,-Int.reduceNatCast',ht,e5],.inl ⟨rfl,by simp only [sB.1,simprocAttr,-Int.reduceNatCast',ht,e6],hG1,hG2,hGc,hV,hA,by omega,hM⟩⟩
end
end Go.Proofs.YtnibchoenjmmjaaGreatDoor.AE
