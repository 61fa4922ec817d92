/- A part of the proof: the abstract executor and what goes through it (part 13). No condition. -/
import Derived.Test.YtnibchoenjmmjaaGreatDoorMr12
set_option maxRecDepth 100000
set_option maxHeartbeats 0
open List renaming getElem?_append_left→ja,getElem?_eq_some_iff→jd
open Option renaming map_some→jL
open Bool renaming not_false→j4
namespace Go.Proofs.YtnibchoenjmmjaaGreatDoor.AE
open Go.AE
section
variable {h:List qb} {id:Nat} {z z':Str} {L L':qa} (Ld:L.dim = L) (Ls:L.storable = true) (Ld':L'.dim = L') (Ls':L'.storable = true) (hlt:id < h.length)
include Ld Ls Ld' Ls' hlt in
theorem qsf {a b:Int} (hid:h[id]? = some (.cells [.int .i64 0,.int .i64 a,.str z,L,.int .i64 0,.int .i64 b,.str z',L'])) {q:Bool} (hq:(ilt a (IntKind.i64.wrap (a + b)) == ilt 0 b) = q):Wd (.fn 57 [] []) [.int .i64 15,.sl id 0 2 2 4] h = some (.ret (bif q then rI (IntKind.i64.wrap (a + b)) 0 else rI 0 2),h,false):=by
 have J:qar 4 (.sl id 0 2 2 4) (.int .i64 0) = some (.ptr id 0):=xk
 have I:qar 4 (.sl id 0 2 2 4) (.int .i64 1) = some (.ptr id 4):=xk
 have M:qar 4 (.sl id 0 1 1 4) (.int .i64 0) = some (.ptr id 0):=xk
 have B:qbB false (.sl id 0 2 2 4) = some (.int .i64 2):=xk
 have E:qbB false (.sl id 0 1 1 4) = some (.int .i64 1):=xk
 have O:∀id o n c w i t,qz (qa.sl id o n c w) i t = t:=λ_ _ _ _ _ _ _=>rfl
 have a1:Nat.ble h.length (h.length + 1) = true:=qf zo
 have U:Nat.ble h.length (h.length + 2) = true:=qf zo
 have S:∀id o n c w:Nat,(qa.sl id o n c w).dim = .sl id o n c w:=λ_ _ _ _ _=>rfl
 rw [qm 57 c57]
 cases q <;> simp only [sA.1,c57,qe9,seval,qaq,J,I,M,S,O,B,E,a1,U,hlt,hid,Ld,Ls,Ld',Ls',hq,c2E,k02,k12,k22,w1E,w2E,btf,bff,qaR,qay,rI]
include Ld Ls Ld' Ls' hlt in
theorem qsk {a b:Int} (hid:h[id]? = some (.cells [.int .i64 0,.int .i64 a,.str z,L,.int .i64 0,.int .i64 b,.str z',L'])) {q:Bool} (hq:(ilt (IntKind.i64.wrap (a - b)) a == ilt 0 b) = q):Wd (.fn 57 [] []) [.int .i64 16,.sl id 0 2 2 4] h = some (.ret (bif q then rI (IntKind.i64.wrap (a - b)) 0 else rI 0 2),h,false):=by
 have J:qar 4 (.sl id 0 2 2 4) (.int .i64 0) = some (.ptr id 0):=xk
 have I:qar 4 (.sl id 0 2 2 4) (.int .i64 1) = some (.ptr id 4):=xk
 have M:qar 4 (.sl id 0 1 1 4) (.int .i64 0) = some (.ptr id 0):=xk
 have B:qbB false (.sl id 0 2 2 4) = some (.int .i64 2):=xk
 have E:qbB false (.sl id 0 1 1 4) = some (.int .i64 1):=xk
 have O:∀id o n c w i t,qz (qa.sl id o n c w) i t = t:=λ_ _ _ _ _ _ _=>rfl
 have a1:Nat.ble h.length (h.length + 1) = true:=qf zo
 have U:Nat.ble h.length (h.length + 2) = true:=qf zo
 have S:∀id o n c w:Nat,(qa.sl id o n c w).dim = .sl id o n c w:=λ_ _ _ _ _=>rfl
 rw [qm 57 c57]
 cases q <;> simp only [sA.1,c57,qe9,seval,qaq,J,I,M,S,O,B,E,a1,U,hlt,hid,Ld,Ls,Ld',Ls',hq,c2E,k02,k12,k22,w1E,w2E,btf,bff,qaR,qay,rI]
include Ld Ls Ld' Ls' hlt in
theorem qsi {a b:Int} (hid:h[id]? = some (.cells [.int .i64 0,.int .i64 a,.str z,L,.int .i64 0,.int .i64 b,.str z',L'])) {r:qa} (hp:Wd (.fn 82 [] []) [.int .i64 a,.int .i64 b] (h ++ [.cells [.int .i64 0,.int .i64 0,.str [],.lst [] .full,.int .i64 0],.cells [.int .i64 0,.int .i64 a,.str z,L],.cells [.int .i64 0,.int .i64 b,.str z',L']]) = some (.ret r,(h ++ [.cells [.int .i64 0,.int .i64 0,.str [],.lst [] .full,.int .i64 0],.cells [.int .i64 0,.int .i64 a,.str z,L],.cells [.int .i64 0,.int .i64 b,.str z',L']]),false)) {n e:Int} (hr:r = rI n e):Wd (.fn 57 [] []) [.int .i64 17,.sl id 0 2 2 4] h = some (.ret (rI n e),h,false):=by
 have J:qar 4 (.sl id 0 2 2 4) (.int .i64 0) = some (.ptr id 0):=xk
 have I:qar 4 (.sl id 0 2 2 4) (.int .i64 1) = some (.ptr id 4):=xk
 have M:qar 4 (.sl id 0 1 1 4) (.int .i64 0) = some (.ptr id 0):=xk
 have B:qbB false (.sl id 0 2 2 4) = some (.int .i64 2):=xk
 have E:qbB false (.sl id 0 1 1 4) = some (.int .i64 1):=xk
 have O:∀id o n c w i t,qz (qa.sl id o n c w) i t = t:=λ_ _ _ _ _ _ _=>rfl
 have a1:Nat.ble h.length (h.length + 1) = true:=qf zo
 have U:Nat.ble h.length (h.length + 2) = true:=qf zo
 have S:∀id o n c w:Nat,(qa.sl id o n c w).dim = .sl id o n c w:=λ_ _ _ _ _=>rfl
 rw [qm 57 c57]
 subst hr
 simp only [sA.1,c57,qe9,seval,qaq,J,I,M,S,O,B,E,a1,U,hlt,hid,Ld,Ls,Ld',Ls',hp,c2E,k02,k12,k22,w1E,w2E,btf,bff,qaR,qay,rI]
include Ld Ls Ld' Ls' hlt in
theorem qnL {a b:Int} (hid:h[id]? = some (.cells [.int .i64 0,.int .i64 a,.str z,L,.int .i64 0,.int .i64 b,.str z',L'])) (hb:(b == 0) = true):Wd (.fn 57 [] []) [.int .i64 18,.sl id 0 2 2 4] h = some (.ret (rI 0 3),h,false):=by
 have J:qar 4 (.sl id 0 2 2 4) (.int .i64 0) = some (.ptr id 0):=xk
 have I:qar 4 (.sl id 0 2 2 4) (.int .i64 1) = some (.ptr id 4):=xk
 have M:qar 4 (.sl id 0 1 1 4) (.int .i64 0) = some (.ptr id 0):=xk
 have B:qbB false (.sl id 0 2 2 4) = some (.int .i64 2):=xk
 have E:qbB false (.sl id 0 1 1 4) = some (.int .i64 1):=xk
 have O:∀id o n c w i t,qz (qa.sl id o n c w) i t = t:=λ_ _ _ _ _ _ _=>rfl
 have a1:Nat.ble h.length (h.length + 1) = true:=qf zo
 have U:Nat.ble h.length (h.length + 2) = true:=qf zo
 have S:∀id o n c w:Nat,(qa.sl id o n c w).dim = .sl id o n c w:=λ_ _ _ _ _=>rfl
 rw [qm 57 c57]
 simp only [sA.1,c57,qe9,seval,qaq,J,I,M,S,O,B,E,a1,U,hlt,hid,Ld,Ls,Ld',Ls',hb,c2E,k02,k12,k22,w1E,w2E,btf,bff,qaR,qay,rI]
include Ld Ls Ld' Ls' hlt in
theorem qsg {a b:Int} (hid:h[id]? = some (.cells [.int .i64 0,.int .i64 a,.str z,L,.int .i64 0,.int .i64 b,.str z',L'])) (hb:(b == 0) = false) (U:(b = 0) = False) {q:Bool} (hq:(!(a == -9223372036854775808) || !(b == -1)) = q):Wd (.fn 57 [] []) [.int .i64 18,.sl id 0 2 2 4] h = some (.ret (bif q then rI (IntKind.i64.wrap (a.tdiv b)) 0 else rI 0 2),h,false):=by
 have J:qar 4 (.sl id 0 2 2 4) (.int .i64 0) = some (.ptr id 0):=xk
 have I:qar 4 (.sl id 0 2 2 4) (.int .i64 1) = some (.ptr id 4):=xk
 have M:qar 4 (.sl id 0 1 1 4) (.int .i64 0) = some (.ptr id 0):=xk
 have B:qbB false (.sl id 0 2 2 4) = some (.int .i64 2):=xk
 have E:qbB false (.sl id 0 1 1 4) = some (.int .i64 1):=xk
 have O:∀id o n c w i t,qz (qa.sl id o n c w) i t = t:=λ_ _ _ _ _ _ _=>rfl
 have a6:Nat.ble h.length (h.length + 1) = true:=qf zo
 have a1:Nat.ble h.length (h.length + 2) = true:=qf zo
 have S:∀id o n c w:Nat,(qa.sl id o n c w).dim = .sl id o n c w:=λ_ _ _ _ _=>rfl
 rw [qm 57 c57]
 cases q <;> simp only [sA.1,c57,qe9,seval,qaq,J,I,M,S,O,B,E,a6,a1,hlt,hid,Ld,Ls,Ld',Ls',hb,U,hq,c2E,k02,k12,k22,w1E,w2E,btf,bff,qaR,qay,rI]
include Ld Ls Ld' Ls' hlt in
theorem qnM {a b:Int} (hid:h[id]? = some (.cells [.int .i64 0,.int .i64 a,.str z,L,.int .i64 0,.int .i64 b,.str z',L'])) (hb:(b == 0) = true):Wd (.fn 57 [] []) [.int .i64 19,.sl id 0 2 2 4] h = some (.ret (rI 0 3),h,false):=by
 have J:qar 4 (.sl id 0 2 2 4) (.int .i64 0) = some (.ptr id 0):=xk
 have I:qar 4 (.sl id 0 2 2 4) (.int .i64 1) = some (.ptr id 4):=xk
 have M:qar 4 (.sl id 0 1 1 4) (.int .i64 0) = some (.ptr id 0):=xk
 have B:qbB false (.sl id 0 2 2 4) = some (.int .i64 2):=xk
 have E:qbB false (.sl id 0 1 1 4) = some (.int .i64 1):=xk
 have O:∀id o n c w i t,qz (qa.sl id o n c w) i t = t:=λ_ _ _ _ _ _ _=>rfl
 have a1:Nat.ble h.length (h.length + 1) = true:=qf zo
 have U:Nat.ble h.length (h.length + 2) = true:=qf zo
 have S:∀id o n c w:Nat,(qa.sl id o n c w).dim = .sl id o n c w:=λ_ _ _ _ _=>rfl
 rw [qm 57 c57]
 simp only [sA.1,c57,qe9,seval,qaq,J,I,M,S,O,B,E,a1,U,hlt,hid,Ld,Ls,Ld',Ls',hb,c2E,k02,k12,k22,w1E,w2E,btf,bff,qaR,qay,rI]
include Ld Ls Ld' Ls' hlt in
theorem qnN {a b:Int} (hid:h[id]? = some (.cells [.int .i64 0,.int .i64 a,.str z,L,.int .i64 0,.int .i64 b,.str z',L'])) (hb:(b == 0) = false) (U:(b == -1) = true):Wd (.fn 57 [] []) [.int .i64 19,.sl id 0 2 2 4] h = some (.ret (rI 0 0),h,false):=by
 have J:qar 4 (.sl id 0 2 2 4) (.int .i64 0) = some (.ptr id 0):=xk
 have I:qar 4 (.sl id 0 2 2 4) (.int .i64 1) = some (.ptr id 4):=xk
 have M:qar 4 (.sl id 0 1 1 4) (.int .i64 0) = some (.ptr id 0):=xk
 have B:qbB false (.sl id 0 2 2 4) = some (.int .i64 2):=xk
 have E:qbB false (.sl id 0 1 1 4) = some (.int .i64 1):=xk
 have O:∀id o n c w i t,qz (qa.sl id o n c w) i t = t:=λ_ _ _ _ _ _ _=>rfl
 have a6:Nat.ble h.length (h.length + 1) = true:=qf zo
 have a1:Nat.ble h.length (h.length + 2) = true:=qf zo
 have S:∀id o n c w:Nat,(qa.sl id o n c w).dim = .sl id o n c w:=λ_ _ _ _ _=>rfl
 rw [qm 57 c57]
 simp only [sA.1,c57,qe9,seval,qaq,J,I,M,S,O,B,E,a6,a1,hlt,hid,Ld,Ls,Ld',Ls',hb,U,c2E,k02,k12,k22,w1E,w2E,btf,bff,qaR,qay,rI]
include Ld Ls Ld' Ls' hlt in
theorem qsh {a b:Int} (hid:h[id]? = some (.cells [.int .i64 0,.int .i64 a,.str z,L,.int .i64 0,.int .i64 b,.str z',L'])) (hb:(b == 0) = false) (a1:(b = 0) = False) (U:(b == -1) = false):Wd (.fn 57 [] []) [.int .i64 19,.sl id 0 2 2 4] h = some (.ret (rI (a.tmod b) 0),h,false):=by
 have J:qar 4 (.sl id 0 2 2 4) (.int .i64 0) = some (.ptr id 0):=xk
 have I:qar 4 (.sl id 0 2 2 4) (.int .i64 1) = some (.ptr id 4):=xk
 have M:qar 4 (.sl id 0 1 1 4) (.int .i64 0) = some (.ptr id 0):=xk
 have B:qbB false (.sl id 0 2 2 4) = some (.int .i64 2):=xk
 have E:qbB false (.sl id 0 1 1 4) = some (.int .i64 1):=xk
 have O:∀id o n c w i t,qz (qa.sl id o n c w) i t = t:=λ_ _ _ _ _ _ _=>rfl
 have a7:Nat.ble h.length (h.length + 1) = true:=qf zo
 have a6:Nat.ble h.length (h.length + 2) = true:=qf zo
 have S:∀id o n c w:Nat,(qa.sl id o n c w).dim = .sl id o n c w:=λ_ _ _ _ _=>rfl
 rw [qm 57 c57]
 simp only [sA.1,c57,qe9,seval,qaq,J,I,M,S,O,B,E,a7,a6,hlt,hid,Ld,Ls,Ld',Ls',hb,a1,U,c2E,k02,k12,k22,w1E,w2E,btf,bff,qaR,qay,rI]
include Ld Ls Ld' Ls' hlt in
theorem qhp {k k' a b op:Int} (hid:h[id]? = some (.cells [.int .i64 k,.int .i64 a,.str z,L,.int .i64 k',.int .i64 b,.str z',L'])) (hk:(k == 0) = false\/((k == 0) = true/\(k' == 0) = false)):Wd (.fn 57 [] []) [.int .i64 op,.sl id 0 2 2 4] h = some (.ret (rI 0 1),h,false):=by
 have J:qar 4 (.sl id 0 2 2 4) (.int .i64 0) = some (.ptr id 0):=xk
 have I:qar 4 (.sl id 0 2 2 4) (.int .i64 1) = some (.ptr id 4):=xk
 have M:qar 4 (.sl id 0 1 1 4) (.int .i64 0) = some (.ptr id 0):=xk
 have B:qbB false (.sl id 0 2 2 4) = some (.int .i64 2):=xk
 have E:qbB false (.sl id 0 1 1 4) = some (.int .i64 1):=xk
 have O:∀id o n c w i t,qz (qa.sl id o n c w) i t = t:=λ_ _ _ _ _ _ _=>rfl
 have a1:Nat.ble h.length (h.length + 1) = true:=qf zo
 have U:Nat.ble h.length (h.length + 2) = true:=qf zo
 have S:∀id o n c w:Nat,(qa.sl id o n c w).dim = .sl id o n c w:=λ_ _ _ _ _=>rfl
 rw [qm 57 c57]
 rcases hk with c | ⟨c,c'⟩
 ·simp only [sA.1,c57,qe9,seval,qaq,J,I,M,S,O,B,E,a1,U,hlt,hid,Ld,Ls,Ld',Ls',c,c2E,k02,k12,k22,w1E,w2E,qaR,qay,rI]
 ·simp only [sA.1,c57,qe9,seval,qaq,J,I,M,S,O,B,E,a1,U,hlt,hid,Ld,Ls,Ld',Ls',c,c',c2E,k02,k12,k22,w1E,w2E,qaR,qay,rI]
include Ld Ls hlt in
theorem qnK {k b op:Int} (hid:h[id]? = some (.cells [.int .i64 k,.int .i64 b,.str z,L])) (hk:(k == 0) = false):Wd (.fn 57 [] []) [.int .i64 op,.sl id 0 1 1 4] h = some (.ret (rI 0 1),h,false):=by
 have a6:qar 4 (.sl id 0 2 2 4) (.int .i64 0) = some (.ptr id 0):=xk
 have a1:qar 4 (.sl id 0 2 2 4) (.int .i64 1) = some (.ptr id 4):=xk
 have E:qar 4 (.sl id 0 1 1 4) (.int .i64 0) = some (.ptr id 0):=xk
 have U:qbB false (.sl id 0 2 2 4) = some (.int .i64 2):=xk
 have B:qbB false (.sl id 0 1 1 4) = some (.int .i64 1):=xk
 have I:∀id o n c w i t,qz (qa.sl id o n c w) i t = t:=λ_ _ _ _ _ _ _=>rfl
 have S:Nat.ble h.length (h.length + 1) = true:=qf zo
 have O:Nat.ble h.length (h.length + 2) = true:=qf zo
 have J:∀id o n c w:Nat,(qa.sl id o n c w).dim = .sl id o n c w:=λ_ _ _ _ _=>rfl
 have M:ilt 0 1 = true:=Eq.trans rfl rfl
 rw [qm 57 c57]
 simp only [sA.1,c57,qe9,seval,qaq,E,J,I,B,S,O,hlt,hid,Ld,Ls,hk,c2E,c1E,M,k12,w1E,w2E,qaR,qay,rI]
include Ld Ls hlt in
theorem qsj {b:Int} (hid:h[id]? = some (.cells [.int .i64 0,.int .i64 b,.str z,L])) {q:Bool} (hq:(ilt (IntKind.i64.wrap (0 - b)) 0 == ilt 0 b) = q):Wd (.fn 57 [] []) [.int .i64 13,.sl id 0 1 1 4] h = some (.ret (bif q then rI (IntKind.i64.wrap (0 - b)) 0 else rI 0 2),h,false):=by
 have a7:qar 4 (.sl id 0 2 2 4) (.int .i64 0) = some (.ptr id 0):=xk
 have a6:qar 4 (.sl id 0 2 2 4) (.int .i64 1) = some (.ptr id 4):=xk
 have E:qar 4 (.sl id 0 1 1 4) (.int .i64 0) = some (.ptr id 0):=xk
 have a1:qbB false (.sl id 0 2 2 4) = some (.int .i64 2):=xk
 have B:qbB false (.sl id 0 1 1 4) = some (.int .i64 1):=xk
 have I:∀id o n c w i t,qz (qa.sl id o n c w) i t = t:=λ_ _ _ _ _ _ _=>rfl
 have U:Nat.ble h.length (h.length + 1) = true:=qf zo
 have S:Nat.ble h.length (h.length + 2) = true:=qf zo
 have J:∀id o n c w:Nat,(qa.sl id o n c w).dim = .sl id o n c w:=λ_ _ _ _ _=>rfl
 have O:ilt 0 1 = true:=Eq.trans rfl rfl
 have M:ilt 1 1 = false:=Eq.trans rfl rfl
 have n12:((1:Int) == 2) = false:=Eq.trans rfl rfl
 rw [qm 57 c57]
 cases q <;> simp only [sA.1,c57,qe9,seval,qaq,E,J,I,B,U,S,hlt,hid,Ld,Ls,hq,c2E,c1E,O,M,n12,k12,w1E,w2E,btf,bff,qaR,qay,rI]
include Ld Ls Ld' Ls' hlt in
theorem qvv {a b:Int} (hid:h[id]? = some (.cells [.int .i64 0,.int .i64 a,.str z,L,.int .i64 0,.int .i64 b,.str z',L'])) (ha:I64 a) (hb:I64 b) {op:Int} (hop:op = 15\/op = 16\/op = 17\/op = 18\/op = 19):Wd (.fn 57 [] []) [.int .i64 op,.sl id 0 2 2 4] h = some (.ret (rI (qbH op a b).1 (qbH op a b).2),h,false):=by
 rcases hop with rfl | rfl | rfl | rfl | rfl
 ·rw [qsf Ld Ls Ld' Ls' hlt hid (qCA ha hb),qi3 rfl λhf=>qbm (qas.1 hf)]
  rfl
 ·rw [qsk Ld Ls Ld' Ls' hlt hid (qBX ha hb),qi3 rfl λhf=>qbm (qas.1 hf)]
  rfl
 ·exact qsi Ld Ls Ld' Ls' hlt hid (qnt ha hb) rfl
 ·by_cases h0:b = 0
  ·subst h0;exact qnL Ld Ls Ld' Ls' hlt hid rfl
  ·rw [qsg Ld Ls Ld' Ls' hlt hid (qdX h0).1 (qdX h0).2 (qti ha hb h0),qi3 rfl λhf=>qbm (qas.1 hf)]
   simp [qbH,h0]
 ·by_cases h0:b = 0
  ·subst h0;exact qnM Ld Ls Ld' Ls' hlt hid rfl
  ·cases h1:b == -1 with
   | true=>
    rw [qnN Ld Ls Ld' Ls' hlt hid (qdX h0).1 h1]
    have h1:b = -1:=by simpa using h1
    subst h1
    simp [qbH,Int.tmod_neg]
   | false=>
    rw [qsh Ld Ls Ld' Ls' hlt hid (qdX h0).1 (qdX h0).2 h1]
    simp [qbH,h0]
include Ld Ls hlt in
theorem qyM {b:Int} (hid:h[id]? = some (.cells [.int .i64 0,.int .i64 b,.str z,L])) (hb:I64 b):Wd (.fn 57 [] []) [.int .i64 13,.sl id 0 1 1 4] h = some (.ret (rI (qbH 16 0 b).1 (qbH 16 0 b).2),h,false):=by
 rw [qsj Ld Ls hlt hid (qBX ⟨zo,zo⟩ hb),qi3 rfl λhf=>qbm (qas.1 hf)]
 rfl
end
def VSl (H:Nat->Option qb) (G:List qb) (b:Nat) (ts:List Val) (V:qa):Prop:=(ts = []/\V = .lst [] .full)\/∃(id:Nat) (rs:List (List qa)),V = .sl id 0 ts.length ts.length 4/\b <= id/\ts ≠ []/\G[id]? = some (.cells rs.flatten)/\H id = none/\rs.length = ts.length/\∀(i:Nat) (h:i < ts.length) (h':i < rs.length),At H ts[i] rs[i]
theorem VSl.facts {H:Nat->Option qb} {G:List qb} {b:Nat} {ts:List Val} {V:qa} (h:VSl H G b ts V):V.dim = V/\V.storable = true/\(∀i t,qz V i t = t)/\qbB false V = some (.int .i64 (ts.length:Nat)):=by
 rcases h with ⟨rfl,rfl⟩ | ⟨id,rs,rfl,_⟩ <;> exact ⟨rfl,rfl,λ_ _=>rfl,rfl⟩
theorem VSl.keep {H H':Nat->Option qb} {G G':List qb} {b:Nat} {ts:List Val} {V:qa} (h:VSl H G b ts V) (hs:Sub H H') (hn:∀i,i < G.length->H i = none->H' i = none) (hg:∀i,b <= i->i < G.length->G'[i]? = G[i]?):VSl H' G' b ts V:=by
 rcases h with h | ⟨id,rs,e,h1,h2,h3,h4,h5,h6⟩
 ·exact .inl h
 ·have hlt:id < G.length:=(jd.1 h3).1
  exact .inr ⟨id,rs,e,h1,h2,by rw [hg id h1 hlt];exact h3,hn id hlt h4,h5,λi a c=>(h6 i a c).mono hs⟩
theorem VSl.next {H:Nat->Option qb} {G:List qb} {b base:Nat} {ts:List Val} {V:qa} (h:VSl H G b ts V) (hc:Cov H G) (hb:b <= G.length) (hl:ts.length <= 100000) {t:Val} {row:List qa} (ht:At H t row) :
  ∃G',hop base (.app 4) [V,.sl G.length 0 1 1 0] (G ++ [.cells row]) = some (.sl (G.length + 1) 0 (ts.length + 1) (ts.length + 1) 4,G',false)/\VSl H G' b (ts ++ [t]) (.sl (G.length + 1) 0 (ts.length + 1) (ts.length + 1) 4)/\Cov H G'/\G'.length = G.length + 2/\∀i,i < b->G'[i]? = G[i]?:=by
 have h2:(G ++ [qb.cells row])[G.length]? = some (.cells row):=by rw [qY];rfl
 have B:(G ++ [qb.cells row]).length = G.length + 1:=by simp
 have E:H (G.length + 1) = none:=hc.late zo
 have tl:(ts ++ [t]).length = ts.length + 1:=by simp
 rcases h with ⟨rfl,rfl⟩ | ⟨id,rs,rfl,h1,a1,h3,h4,h5,h6⟩
 ·refine ⟨_,by rw [qcb h2 ht.length ht.still,B];rfl,.inr ⟨G.length + 1,[row],rfl,zo,by simp,?_,E,rfl,λi a c=>?_⟩,(hc.more _).more _,by simp,λi hi=>?_⟩
  ·rw [<-B,qY]
   simp
  ·have:i = 0:=by simp at c;omega
   subst this
   exact ht
  ·rw [List.append_assoc,ja zo]
 ·have hlt:id < G.length:=(jd.1 h3).1
  have M:(G ++ [qb.cells row])[id]? = some (.cells rs.flatten):=by rw [ja hlt];exact h3
  have J:=(At.elem h5 h6).1
  have I:qb0 rs.flatten:=λc O=>by
   obtain ⟨r,hr,S⟩:=List.mem_flatten.1 O
   obtain ⟨i,hi,rfl⟩:=List.getElem_of_mem hr
   exact (h6 i zo hi).still c S
  have U:rs.flatten.length = ts.length * 4:=by rw [qc5 J,h5]
  refine ⟨_,by rw [qc2 M h2 ht.length U ht.still I zo zo,B],.inr ⟨G.length + 1,rs ++ [row],by rw [tl],zo,by simp,?_,E,by simp [h5],λi a c=>?_⟩,((hc.more _).set h4 _).more _,by simp,λi hi=>?_⟩
  ·rw [show G.length + 1 = ((G ++ [qb.cells row]).set id .dead).length by simp,qY]
   simp
  ·by_cases hi:i < ts.length
   ·rw [List.getElem_append_left hi,List.getElem_append_left zo]
    exact h6 i hi zo
   ·have:i = ts.length:=by simp at a;omega
    subst this
    rw [List.getElem_append_right zo,List.getElem_append_right zo]
    simp only [h5,Nat.sub_self,List.getElem_cons_zero]
    exact ht
  ·rw [ja (by simp;omega),List.getElem?_set_ne zo,ja zo]
theorem VSl.lp {H H':Nat->Option qb} {G:List qb} {b:Nat} {ts:List Val} {V:qa} (h:VSl H G b ts V) (hs:Sub H H') (hg:∀i,b <= i->i < G.length->H i = none->H' i = G[i]?):LP H' ts V:=by
 rcases h with ⟨rfl,rfl⟩ | ⟨id,rs,rfl,h1,h2,h3,h4,h5,h6⟩
 ·exact LP.nil (.inr rfl)
 ·exact ⟨rs,h5,λi a c=>(h6 i a c).mono hs,.inr ⟨id,4,rfl,by rw [hg id h1 (jd.1 h3).1 h4];exact h3⟩⟩
theorem qyn (base:Nat) (k n:Int) (s:Str) (L:qa) (hd:L.dim = L) (hs:L.storable = true) (h:List qb):hop base (.lit 4 [.int .i64 0,.int .i64 0,.str [],.lst [] .full] 1 [0]) [.agg [.int .i64 k,.int .i64 n,.str s,L]] h = some (.sl h.length 0 1 1 0,h ++ [.cells [.int .i64 k,.int .i64 n,.str s,L]],false):=by
 have s1:∀(j:IntKind) (x:Int),(qa.int j x).storable = true:=λ_ _=>rfl
 have d1:∀(j:IntKind) (x:Int),(qa.int j x).dim = .int j x:=λ_ _=>rfl
 have s2:∀x,(qa.str x).storable = true:=λ_=>rfl
 have d2:∀x,(qa.str x).dim = .str x:=λ_=>rfl
 simp [hop,qbd,qa.cells,splice,hs,hd,s1,d1,s2,d2]
def qcC (ev:Int->Res) (k:List Val->Res):List Int->List Val->Res
 | [],vs=>k vs
 | j :: js,vs=>bif !((ev j).2 == 0) then ev j else qcC ev k js (vs ++ [(ev j).1])
theorem qlK {ev:Int->Res} {k:List Val->Res} {l:List Int} {i:Nat} {vs:List Val} (hi:i < l.length):qcC ev k (l.drop i) vs = bif !((ev l[i]).2 == 0) then ev l[i] else qcC ev k (l.drop (i + 1)) (vs ++ [(ev l[i]).1]):=by
 rw [List.drop_eq_getElem_cons hi,qcC]
section
variable {g:List qb} {H:Nat->Option qb}
theorem qlX (R D N:Nat) (dn:Int->Bool) (ev:Int->Res) (kk:List Val->Res) {TV VL BV OL:qa} {en ed:Int} (hR:R < g.length) (hb:g[R]? = some (.cells [TV,VL,BV,.int .i64 en,.int .i64 ed,OL,.sl D 0 N N 0])) (hg:Cov H g) (hD:qb1 H g D N dn ev) (nc:List qa) {ins:List Int} {I:qa} (hI:Ins H ins I) (ap:∀j ∈ ins,0 <= j/\j < N) (aD:ins.length <= 1000) (G0:List qb) (a1:G0 = g ++ [zr5,.cells nc]) :
  ∀k st,(∃(tt:List qa) (G:List qb) (a:Nat) (V:qa) (vs:List Val),st = ⟨tt,G,false⟩/\tt.length = 198/\lkp tt 0 = .ptr R 0/\lkp tt 4 = .ptr g.length 0/\lkp tt 5 = .ptr (g.length + 1) 0/\lkp tt 6 = V/\lkp tt 27 = I/\lkp tt 28 = .int .i64 (ins.length:Nat)/\lkp tt 29 = .int .i64 (a:Nat)/\a + k = ins.length/\vs.length = a/\(∀i,i < g.length + 2->G[i]? = G0[i]?)/\g.length + 2 <= G.length/\Cov H G/\VSl H G (g.length + 2) vs V/\qcC ev kk ins [] = qcC ev kk (ins.drop a) vs/\qcj dn ev (ins.drop a) = -1/\(∀v ∈ vs,∃j:Int,dn j = true/\(ev j).1 = v))->
   ∃x a8,qj g.length Wd (.loop qj5) st = some (x,a8)/\(∃(tt:List qa) (G:List qb) (V:qa) (vs:List Val) (rs:List qa),a8 = ⟨tt,G,false⟩/\tt.length = 198/\lkp tt 0 = .ptr R 0/\lkp tt 4 = .ptr g.length 0/\lkp tt 5 = .ptr (g.length + 1) 0/\((x = .exit 1/\lkp tt 6 = V/\(∀i,i < g.length + 2->G[i]? = G0[i]?)/\g.length + 2 <= G.length/\Cov H G/\VSl H G (g.length + 2) vs V/\qcC ev kk ins [] = kk vs/\vs.length = ins.length/\(∀v ∈ vs,∃j:Int,dn j = true/\(ev j).1 = v))\/(x = .ret/\G.take g.length = g/\g.length < G.length/\G[g.length]? = some (.cells rs)/\RAt H (qcC ev kk ins []) rs))):=by
 have d:∀id o n c w:Nat,(qa.sl id o n c w).dim = .sl id o n c w:=λ_ _ _ _ _=>rfl
 have st:∀id o n c w:Nat,(qa.sl id o n c w).storable = true:=λ_ _ _ _ _=>rfl
 have dw:∀id o n c w i t,qz (qa.sl id o n c w) i t = t:=λ_ _ _ _ _ _ _=>rfl
 obtain ⟨Id,Is,Iw,Il⟩:=hI.facts
 have aB:G0.length = g.length + 2:=by rw [a1];simp
 have mD:∀i:Nat,i < N->qar 1 (.sl D 0 N N 0) (.int .i64 (i:Nat)) = some (.ptr D i):=λi h=>by rw [qck h,Nat.mul_one]
 refine qx _ _ ?_
 rintro k st ⟨tt,G,a,V,vs,rfl,ht,e0,e4,e5,e6,a6,M,J,aE,ak,E,U,B,hV,hA,hN,hM⟩
 generalize he:qj g.length Wd qj5 _ = r
 have old:∀i,i < g.length->G[i]? = g[i]?:=λi hi=>by rw [E i zo,a1,ja hi]
 have ae:R < G.length:=zo
 have ad:=(old R hR).trans hb
 obtain ⟨ds,D0,D1,D2,D3⟩:=hD
 have af:=(old D D0).trans D1
 have ah:D < G.length:=zo
 have au:Nat.ble g.length g.length = true:=qf zo
 have hz:G[g.length]? = some zr5:=by rw [E _ zo,a1,qY];rfl
 have al:G.take g.length = g:=by
  apply List.ext_getElem?
  intro i
  rw [List.getElem?_take]
  split
  ·exact old i ‹_›
  ·rw [List.getElem?_eq_none zo]
 obtain ⟨Vd,Vs,Vw,Vl⟩:=hV.facts
 rcases Nat.lt_or_ge a ins.length with ha | ha
 ·have c1E:ilt (a:Int) (ins.length:Int) = true:=by rw [qe];simp;omega
  have w:=qU (n:=a) zo
  obtain ⟨aC,aG,y0,y1,y2,y3⟩:=hI.item ha B
  have hj:=ap _ (List.getElem_mem ha)
  rw [qgx ha] at hN
  rw [qlK ha] at hA
  obtain ⟨j,am⟩ :∃j:Nat,ins[a] = (j:Int):=⟨ins[a].toNat,zo⟩
  rw [am] at y3 hj hN hA
  have ac:j < N:=zo
  have m1:=mD j ac
  cases S:dn (j:Int) with
  | false=>
   rw [S,j4,cond_true] at hN
   omega
  | true=>
   obtain ⟨q,rs,e1,hq,hr⟩:=(D3 j ac).2 S
   have aa:=B.lt hq
   have ab:=B _ _ hq
   rw [S] at hN
   generalize ar:ev j = r0 at *
   obtain ⟨v0,x0⟩:=r0
   have ai:∃cs,rs = cs ++ [.int .i64 x0]/\At H v0 cs:=hr
   obtain ⟨k0,m0,s0,l0,L0,hv,rfl,hL⟩:=hr.cells
   obtain ⟨Ld,Ls,Lw,Ll⟩:=hL.facts
   have aH:=hL.low hg
   cases O:(x0 == 0) with
   | false=>
    simp only [O,j4,cond_true] at hA
    simp only [sA.1,qj5,seval,ht,e0,e4,e5,e6,a6,M,J,c1E,Id,Iw,y0,y1,y2,y3,ae,ad,ah,af,m1,e1,d,cI,jL,aa,ab,hz,O,U,show g.length < G.length by omega,au,Ld,Ls,Lw] at he
    subst he
    refine .inr ⟨_,_,rfl,by simp,_,_,V,vs,_,rfl,Y0,z15,by simp only [sB.1,seval,ht,e4],by simp only [sB.1,seval,ht,e5],.inr ⟨rfl,?_,by simp;omega,?_,by rw [hA];exact hr⟩⟩
    ·rw [List.take_set_of_le zo,al]
    ·rw [List.getElem?_set_self zo]
   | true=>
    simp only [O,Bool.not_true,cond_false] at hA hN
    have a7:At H v0 [.int .i64 k0,.int .i64 m0,.str s0,L0]:=by
     obtain ⟨cs,e,hc⟩:=ai
     have:cs = [.int .i64 k0,.int .i64 m0,.str s0,L0]:=by
      have e':[qa.int .i64 k0,.int .i64 m0,.str s0,L0] ++ [.int .i64 x0] = cs ++ [.int .i64 x0]:=e
      exact (List.append_cancel_right e').symm
     rwa [<-this]
    have aj:=λ(g':List qb)=>qyn g.length k0 m0 s0 L0 Ld Ls g'
    obtain ⟨G',aA,az,ay,aF,av⟩:=hV.next (base:=g.length) B U zo a7
    simp only [sA.1,qj5,seval,ht,e0,e4,e5,e6,a6,M,J,c1E,Id,Iw,y0,y1,y2,y3,ae,ad,ah,af,m1,e1,d,dw,cI,jL,aa,ab,O,w,Ld,Ls,Lw,Vd,Vw,aj,aA] at he
    subst he
    refine .inl ⟨_,k - 1,rfl,zo,_,G',a + 1,_,vs ++ [v0],rfl,Y0,?_,?_,?_,rfl,?_,?_,?_,zo,by simp [ak],λi hi=>by rw [av i hi,E i hi],zo,ay,?_,hA,hN,λv hv=>?_⟩
    case inl.true.true.refine_8=>
     rcases List.mem_append.1 hv with hv | hv
     ·exact hM v hv
     ·exact ⟨j,S,by rw [ar,List.mem_singleton.1 hv]⟩
    all_goals first | (simp only [sB.1,seval,ht,e0,e4,e5,e6,a6,M,J,Id,Iw,w];done) | skip
    all_goals (simp only [sB.1,seval,ht,qdp];exact az)
 ·have c1E:ilt (a:Int) (ins.length:Int) = false:=by rw [qe];simp;omega
  simp only [sA.1,qj5,seval,ht,M,J,c1E] at he
  subst he
  rw [List.drop_eq_nil_of_le ha,qcC] at hA
  exact .inr ⟨_,_,rfl,by simp,_,G,V,vs,[],rfl,Y0,z15,by simp only [sB.1,seval,ht,e4],by simp only [sB.1,seval,ht,e5],.inl ⟨rfl,by simp only [sB.1,seval,ht,e6],E,U,B,hV,hA,zo,hM⟩⟩
end
end Go.Proofs.YtnibchoenjmmjaaGreatDoor.AE
