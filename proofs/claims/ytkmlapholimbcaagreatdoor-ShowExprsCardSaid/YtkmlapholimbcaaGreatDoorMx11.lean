/- A part of the proof: the abstract executor and what goes through it (part 11). No condition. -/
import Derived.Test.YtkmlapholimbcaaGreatDoorMx10
import Derived.Test.YtkmlapholimbcaaGreatDoorMx2
import Derived.Test.YtkmlapholimbcaaGreatDoorMx6
set_option maxRecDepth 100000
namespace Go.Proofs.YtkmlapholimbcaaGreatDoor.AE
open Go.AE
section
variable {h:List qf}
theorem qrK (s:Str) (hs:s.length ≤ 100000) (kind at_:Int) (i:Nat) (hi:i < s.length) (hb:qaR s[i] = true):Wd (.fn 129 [] []) [.str s,.int .i64 kind,.int .i64 at_,.int .i64 (i:Nat)] h =
  if qah qaU s i - i ≤ 16 then some (.ret (.tup [qbC kind ((s.drop i).take (qah qaU s i - i)) 0 at_,.int .i64 (qah qaU s i:Nat),.int .i64 0]),h,false) else some (.ret (.tup [qbC 0 [] 0 at_,.int .i64 at_,.int .i64 9]),h,false):=by
 have hx:qdG (.str s) (.int .i64 (i:Nat)) = some (.int .u8 (s[i].toNat:Nat)):=qaM (List.getElem?_eq_getElem hi)
 have c1:((i:Int) == (s.length:Int)) = false:=by simp;omega
 have hge:=qcO qaU s i
 have hle:=qcn qaU s (Nat.le_of_lt hi)
 have w:IntKind.i64.wrap ((qah qaU s i:Nat) - (i:Int)) = ((qah qaU s i - i:Nat):Int):=by
  rw [qbf (by omega) (by omega)];omega
 have hsub:=qc3 hge hle
 rw [qi rfl (show T.get 129 = some qv3 by kernel_rfl)]
 generalize hR:qeo _ h _ = R
 simp only [qv3,sT.1,sC.1,qc,qb,Nat.testBit,simprocAttr,-Int.reduceNatCast',c1,hx,qdp,hb] at hR
 generalize hr:qo h.length Wd (.loop qfE) _ = r at hR
 obtain ⟨tt,rfl,ht,e0,e11,e1,e2,e3,e8⟩ :∃tt,r = some (.exit 0,⟨tt,h ++ [.cells [.int .i64 0,.str [],.int .i64 0,.int .i64 0]],false⟩)∧tt.length = 60∧lkp tt 0 = .str s∧lkp tt 11 = .int .i64 (qah qaU s i:Nat)∧lkp tt 1 = .int .i64 kind∧lkp tt 2 = .int .i64 at_∧lkp tt 3 = .int .i64 (i:Nat)∧lkp tt 8 = .ptr h.length 0:=by
  rw [←hr]
  refine (qqu s hs (s.length - i) i _ (by omega) ?_ ?_ ?_).imp fun tt' g=>⟨g.1,g.2.1,g.2.2.1,g.2.2.2.1,g.2.2.2.2.1.trans ?_,g.2.2.2.2.2.1.trans ?_,g.2.2.2.2.2.2.1.trans ?_,g.2.2.2.2.2.2.2.trans ?_⟩
  all_goals simp only [sT.1,sC.1,qc,qb,Nat.testBit,simprocAttr,-Int.reduceNatCast']
 by_cases h16:qah qaU s i - i ≤ 16
 ·have c2:ilt 16 ((qah qaU s i - i:Nat):Int) = false:=by rw [qM];simp;omega
  rw [if_pos h16,←hR]
  simp only [sT.1,sC.1,qc,qb,Nat.testBit,simprocAttr,-Int.reduceNatCast',ht,e0,e1,e2,e3,e8,e11,w,c2,qdl,hsub,qI]
  rfl
 ·have c2:ilt 16 ((qah qaU s i - i:Nat):Int) = true:=by rw [qM];simp;omega
  rw [if_neg h16,←hR]
  simp only [sT.1,sC.1,qc,qb,Nat.testBit,simprocAttr,-Int.reduceNatCast',ht,e0,e1,e2,e3,e8,e11,w,c2,qI]
  rfl
theorem qiG (s m:Str):Wd (.fn 132 [] []) [.str s,.str m] h = some (.ret (.bool (s.take m.length == m)),h,false):=by
 have inner:Wd (.fn 147 [] []) [.str s,.str m] h = some (.ret (.bool (s.take m.length == m)),h,false):=by
  rw [qi rfl (show T.get 147 = some qy5 by kernel_rfl)]
  rcases Nat.lt_or_ge s.length m.length with h1 | h1
  ·have c1:ile (m.length:Int) (s.length:Int) = false:=by rw [qay];simp;omega
   have c2:(s.take m.length == m) = false:=by
    rw [beq_eq_false_iff_ne]
    intro e
    have:=congrArg List.length e
    rw [List.length_take] at this
    omega
   simp only [qy5,sT.1,sC.1,qc,qb,Nat.testBit,simprocAttr,-Int.reduceNatCast',c1,c2]
  ·have c1:ile (m.length:Int) (s.length:Int) = true:=by rw [qay];simp;omega
   simp only [qy5,sT.1,sC.1,qc,qb,Nat.testBit,simprocAttr,-Int.reduceNatCast',c1,qq7,Option.map_none,qys h1]
 rw [qi rfl (show T.get 132 = some qAu by kernel_rfl)]
 simp only [qAu,sT.1,sC.1,qc,qb,Nat.testBit,simprocAttr,-Int.reduceNatCast',inner]
def qg0 (s:Str) (n:Int):Prop:=∀h,Wd (.fn 146 [] []) [.str s] h = some (.ret (.tup [.int .i64 n,.niliface]),h,false)
def qkC (s:Str):Prop:=∀h,∃n t v more,Wd (.fn 146 [] []) [.str s] h = some (.ret (.tup [.int .i64 n,.iface t v]),h ++ more,false)
def qpQ (s:Str) (i:Nat) (hi:i < s.length):Bool:=s[i] == 48 && decide (1 < qah q9 s i - i)
theorem qzg (c:UInt8):((c.toNat:Int) == 48) = (c == 48):=by
 rw [Bool.eq_iff_iff,beq_iff_eq,beq_iff_eq]
 constructor
 ·intro h
  apply UInt8.toNat_inj.1
  show c.toNat = 48
  omega
 ·intro h
  subst h
  rfl
theorem qee (j:Nat) (t:List qa):qbI .niliface j t = t:=Eq.trans rfl rfl
theorem qu3:qji 1 true .niliface .niliface = some (.bool false):=Eq.trans rfl rfl
theorem qu2 (t:TypeId) (v:qa):qji 1 true (.iface t v) .niliface = some (.bool true):=Eq.trans rfl rfl
theorem qkc (s:Str) (hs:s.length ≤ 100000) (i:Nat) (hi:i < s.length) (hb:qpQ s i hi = true):Wd (.fn 131 [] []) [.str s,.int .i64 (i:Nat)] h = some (.ret (.tup [qbC 0 [] 0 i,.int .i64 (i:Nat),.int .i64 6]),h,false):=by
 rw [qpQ,Bool.and_eq_true,decide_eq_true_eq] at hb
 have c2:ilt 1 ((qah q9 s i - i:Nat):Int) = true:=by rw [qM];simp;omega
 have hx:qdG (.str s) (.int .i64 (i:Nat)) = some (.int .u8 (s[i].toNat:Nat)):=qaM (List.getElem?_eq_getElem hi)
 have hge:=qcO q9 s i
 have hle:=qcn q9 s (Nat.le_of_lt hi)
 have w:IntKind.i64.wrap ((qah q9 s i:Nat) - (i:Int)) = ((qah q9 s i - i:Nat):Int):=by
  rw [qbf (by omega) (by omega)];omega
 have hsub:=qc3 hge hle
 rw [qi rfl (show T.get 131 = some qnf by kernel_rfl)]
 generalize hR:qeo _ h _ = R
 simp only [qnf,sT.1,sC.1,qc,qb,Nat.testBit,simprocAttr,-Int.reduceNatCast'] at hR
 generalize hr:qo h.length Wd (.loop qdH) _ = r at hR
 obtain ⟨tt,rfl,ht,e0,e7,e1,e4⟩ :∃tt,r = some (.exit 0,⟨tt,h ++ [.cells [.int .i64 0,.str [],.int .i64 0,.int .i64 0]],false⟩)∧tt.length = 53∧lkp tt 0 = .str s∧lkp tt 7 = .int .i64 (qah q9 s i:Nat)∧lkp tt 1 = .int .i64 (i:Nat)∧lkp tt 4 = .ptr h.length 0:=by
  rw [←hr]
  refine (qcB s hs (s.length - i) i _ (by omega) ?_ ?_ ?_).imp fun tt' g=>⟨g.1,g.2.1,g.2.2.1,g.2.2.2.1,g.2.2.2.2.1.trans ?_,g.2.2.2.2.2.trans ?_⟩
  all_goals simp only [sT.1,sC.1,qc,qb,Nat.testBit,simprocAttr,-Int.reduceNatCast']
 rw [←hR]
 simp only [sT.1,sC.1,qc,qb,Nat.testBit,simprocAttr,-Int.reduceNatCast',ht,e0,e1,e4,e7,w,hx,qzg,hb.1,c2,qI]
 rfl
theorem qmD (s:Str) (hs:s.length ≤ 100000) (i:Nat) (hi:i < s.length) (h0:(s[i] == 48) = false) {n:Int} (hn:qg0 ((s.drop i).take (qah q9 s i - i)) n):Wd (.fn 131 [] []) [.str s,.int .i64 (i:Nat)] h = some (.ret (.tup [qbC 1 [] n i,.int .i64 (qah q9 s i:Nat),.int .i64 0]),h,false):=by
 rw [qg0] at hn
 have hx:qdG (.str s) (.int .i64 (i:Nat)) = some (.int .u8 (s[i].toNat:Nat)):=qaM (List.getElem?_eq_getElem hi)
 have hge:=qcO q9 s i
 have hle:=qcn q9 s (Nat.le_of_lt hi)
 have w:IntKind.i64.wrap ((qah q9 s i:Nat) - (i:Int)) = ((qah q9 s i - i:Nat):Int):=by
  rw [qbf (by omega) (by omega)];omega
 have hsub:=qc3 hge hle
 rw [qi rfl (show T.get 131 = some qnf by kernel_rfl)]
 generalize hR:qeo _ h _ = R
 simp only [qnf,sT.1,sC.1,qc,qb,Nat.testBit,simprocAttr,-Int.reduceNatCast'] at hR
 generalize hr:qo h.length Wd (.loop qdH) _ = r at hR
 obtain ⟨tt,rfl,ht,e0,e7,e1,e4⟩ :∃tt,r = some (.exit 0,⟨tt,h ++ [.cells [.int .i64 0,.str [],.int .i64 0,.int .i64 0]],false⟩)∧tt.length = 53∧lkp tt 0 = .str s∧lkp tt 7 = .int .i64 (qah q9 s i:Nat)∧lkp tt 1 = .int .i64 (i:Nat)∧lkp tt 4 = .ptr h.length 0:=by
  rw [←hr]
  refine (qcB s hs (s.length - i) i _ (by omega) ?_ ?_ ?_).imp fun tt' g=>⟨g.1,g.2.1,g.2.2.1,g.2.2.2.1,g.2.2.2.2.1.trans ?_,g.2.2.2.2.2.trans ?_⟩
  all_goals simp only [sT.1,sC.1,qc,qb,Nat.testBit,simprocAttr,-Int.reduceNatCast']
 rw [←hR]
 simp only [sT.1,sC.1,qc,qb,Nat.testBit,simprocAttr,-Int.reduceNatCast',ht,e0,e1,e4,e7,w,hx,qzg,h0,qdl,hsub,hn,qI,qhf,qu3,qee]
 simp only [qbC]
theorem qmE (s:Str) (hs:s.length ≤ 100000) (i:Nat) (hi:i < s.length) (hb:qpQ s i hi = false) (h0:(s[i] == 48) = true) {n:Int} (hn:qg0 ((s.drop i).take (qah q9 s i - i)) n):Wd (.fn 131 [] []) [.str s,.int .i64 (i:Nat)] h = some (.ret (.tup [qbC 1 [] n i,.int .i64 (qah q9 s i:Nat),.int .i64 0]),h,false):=by
 rw [qg0] at hn
 rw [qpQ] at hb
 have hx:qdG (.str s) (.int .i64 (i:Nat)) = some (.int .u8 (s[i].toNat:Nat)):=qaM (List.getElem?_eq_getElem hi)
 have hge:=qcO q9 s i
 have hle:=qcn q9 s (Nat.le_of_lt hi)
 have w:IntKind.i64.wrap ((qah q9 s i:Nat) - (i:Int)) = ((qah q9 s i - i:Nat):Int):=by
  rw [qbf (by omega) (by omega)];omega
 have hsub:=qc3 hge hle
 rw [qi rfl (show T.get 131 = some qnf by kernel_rfl)]
 generalize hR:qeo _ h _ = R
 simp only [qnf,sT.1,sC.1,qc,qb,Nat.testBit,simprocAttr,-Int.reduceNatCast'] at hR
 generalize hr:qo h.length Wd (.loop qdH) _ = r at hR
 obtain ⟨tt,rfl,ht,e0,e7,e1,e4⟩ :∃tt,r = some (.exit 0,⟨tt,h ++ [.cells [.int .i64 0,.str [],.int .i64 0,.int .i64 0]],false⟩)∧tt.length = 53∧lkp tt 0 = .str s∧lkp tt 7 = .int .i64 (qah q9 s i:Nat)∧lkp tt 1 = .int .i64 (i:Nat)∧lkp tt 4 = .ptr h.length 0:=by
  rw [←hr]
  refine (qcB s hs (s.length - i) i _ (by omega) ?_ ?_ ?_).imp fun tt' g=>⟨g.1,g.2.1,g.2.2.1,g.2.2.2.1,g.2.2.2.2.1.trans ?_,g.2.2.2.2.2.trans ?_⟩
  all_goals simp only [sT.1,sC.1,qc,qb,Nat.testBit,simprocAttr,-Int.reduceNatCast']
 rw [←hR]
 rw [h0,Bool.true_and,decide_eq_false_iff_not] at hb
 have c2:ilt 1 ((qah q9 s i - i:Nat):Int) = false:=by rw [qM];simp;omega
 simp only [sT.1,sC.1,qc,qb,Nat.testBit,simprocAttr,-Int.reduceNatCast',ht,e0,e1,e4,e7,w,hx,qzg,h0,c2,qdl,hsub,hn,qI,qhf,qu3,qee]
 simp only [qbC]
theorem qqx (s:Str) (hs:s.length ≤ 100000) (i:Nat) (hi:i < s.length) (hb:qpQ s i hi = false) {n:Int} (hn:qg0 ((s.drop i).take (qah q9 s i - i)) n):Wd (.fn 131 [] []) [.str s,.int .i64 (i:Nat)] h = some (.ret (.tup [qbC 1 [] n i,.int .i64 (qah q9 s i:Nat),.int .i64 0]),h,false):=by
 cases h0:s[i] == 48 with
 | false=>exact qmD s hs i hi h0 hn
 | true=>exact qmE s hs i hi hb h0 hn
theorem qhV (s:Str) (hs:s.length ≤ 100000) (i:Nat) (hi:i < s.length) (h0:(s[i] == 48) = false) (hn:qkC ((s.drop i).take (qah q9 s i - i))):Wd (.fn 131 [] []) [.str s,.int .i64 (i:Nat)] h = some (.ret (.tup [qbC 0 [] 0 i,.int .i64 (i:Nat),.int .i64 2]),h,false):=by
 obtain ⟨n,t,v,more,hn⟩:=hn (h ++ [.cells [.int .i64 0,.str [],.int .i64 0,.int .i64 0]])
 have hx:qdG (.str s) (.int .i64 (i:Nat)) = some (.int .u8 (s[i].toNat:Nat)):=qaM (List.getElem?_eq_getElem hi)
 have hge:=qcO q9 s i
 have hle:=qcn q9 s (Nat.le_of_lt hi)
 have w:IntKind.i64.wrap ((qah q9 s i:Nat) - (i:Int)) = ((qah q9 s i - i:Nat):Int):=by
  rw [qbf (by omega) (by omega)];omega
 have hsub:=qc3 hge hle
 rw [qi rfl (show T.get 131 = some qnf by kernel_rfl)]
 generalize hR:qeo _ h _ = R
 simp only [qnf,sT.1,sC.1,qc,qb,Nat.testBit,simprocAttr,-Int.reduceNatCast'] at hR
 generalize hr:qo h.length Wd (.loop qdH) _ = r at hR
 obtain ⟨tt,rfl,ht,e0,e7,e1,e4⟩ :∃tt,r = some (.exit 0,⟨tt,h ++ [.cells [.int .i64 0,.str [],.int .i64 0,.int .i64 0]],false⟩)∧tt.length = 53∧lkp tt 0 = .str s∧lkp tt 7 = .int .i64 (qah q9 s i:Nat)∧lkp tt 1 = .int .i64 (i:Nat)∧lkp tt 4 = .ptr h.length 0:=by
  rw [←hr]
  refine (qcB s hs (s.length - i) i _ (by omega) ?_ ?_ ?_).imp fun tt' g=>⟨g.1,g.2.1,g.2.2.1,g.2.2.2.1,g.2.2.2.2.1.trans ?_,g.2.2.2.2.2.trans ?_⟩
  all_goals simp only [sT.1,sC.1,qc,qb,Nat.testBit,simprocAttr,-Int.reduceNatCast']
 rw [←hR]
 simp only [sT.1,sC.1,qc,qb,Nat.testBit,simprocAttr,-Int.reduceNatCast',ht,e0,e1,e4,e7,w,hx,qzg,h0,qdl,hsub,hn,qI,qhf,qu2,qgd,qhD]
 simp only [qbC]
theorem qhW (s:Str) (hs:s.length ≤ 100000) (i:Nat) (hi:i < s.length) (hb:qpQ s i hi = false) (h0:(s[i] == 48) = true) (hn:qkC ((s.drop i).take (qah q9 s i - i))):Wd (.fn 131 [] []) [.str s,.int .i64 (i:Nat)] h = some (.ret (.tup [qbC 0 [] 0 i,.int .i64 (i:Nat),.int .i64 2]),h,false):=by
 obtain ⟨n,t,v,more,hn⟩:=hn (h ++ [.cells [.int .i64 0,.str [],.int .i64 0,.int .i64 0]])
 rw [qpQ] at hb
 have hx:qdG (.str s) (.int .i64 (i:Nat)) = some (.int .u8 (s[i].toNat:Nat)):=qaM (List.getElem?_eq_getElem hi)
 have hge:=qcO q9 s i
 have hle:=qcn q9 s (Nat.le_of_lt hi)
 have w:IntKind.i64.wrap ((qah q9 s i:Nat) - (i:Int)) = ((qah q9 s i - i:Nat):Int):=by
  rw [qbf (by omega) (by omega)];omega
 have hsub:=qc3 hge hle
 rw [qi rfl (show T.get 131 = some qnf by kernel_rfl)]
 generalize hR:qeo _ h _ = R
 simp only [qnf,sT.1,sC.1,qc,qb,Nat.testBit,simprocAttr,-Int.reduceNatCast'] at hR
 generalize hr:qo h.length Wd (.loop qdH) _ = r at hR
 obtain ⟨tt,rfl,ht,e0,e7,e1,e4⟩ :∃tt,r = some (.exit 0,⟨tt,h ++ [.cells [.int .i64 0,.str [],.int .i64 0,.int .i64 0]],false⟩)∧tt.length = 53∧lkp tt 0 = .str s∧lkp tt 7 = .int .i64 (qah q9 s i:Nat)∧lkp tt 1 = .int .i64 (i:Nat)∧lkp tt 4 = .ptr h.length 0:=by
  rw [←hr]
  refine (qcB s hs (s.length - i) i _ (by omega) ?_ ?_ ?_).imp fun tt' g=>⟨g.1,g.2.1,g.2.2.1,g.2.2.2.1,g.2.2.2.2.1.trans ?_,g.2.2.2.2.2.trans ?_⟩
  all_goals simp only [sT.1,sC.1,qc,qb,Nat.testBit,simprocAttr,-Int.reduceNatCast']
 rw [←hR]
 rw [h0,Bool.true_and,decide_eq_false_iff_not] at hb
 have c2:ilt 1 ((qah q9 s i - i:Nat):Int) = false:=by rw [qM];simp;omega
 simp only [sT.1,sC.1,qc,qb,Nat.testBit,simprocAttr,-Int.reduceNatCast',ht,e0,e1,e4,e7,w,hx,qzg,h0,c2,qdl,hsub,hn,qI,qhf,qu2,qgd,qhD]
 simp only [qbC]
theorem qiV (s:Str) (hs:s.length ≤ 100000) (i:Nat) (hi:i < s.length) (hb:qpQ s i hi = false) (hn:qkC ((s.drop i).take (qah q9 s i - i))):Wd (.fn 131 [] []) [.str s,.int .i64 (i:Nat)] h = some (.ret (.tup [qbC 0 [] 0 i,.int .i64 (i:Nat),.int .i64 2]),h,false):=by
 cases h0:s[i] == 48 with
 | false=>exact qhV s hs i hi h0 hn
 | true=>exact qhW s hs i hi hb h0 hn
end
end Go.Proofs.YtkmlapholimbcaaGreatDoor.AE
namespace Go.Proofs.YtkmlapholimbcaaGreatDoor.AE
open Go.AE
section
variable {h:List qf}
def marks:List Str:=g2.map qAo
theorem qtQ:g2 = marks.map qa.str:=by kernel_rfl
theorem qqq:marks.length = 17:=by kernel_rfl
def qiH (r m:Str):Bool:=r.take m.length == m
def qdK (r:Str):Option Str:=marks.find? (qiH r)
theorem qmz:∀m ∈ marks,m.length ≤ 2:=by
 have:marks.all (fun m=>decide (m.length ≤ 2)) = true:=by kernel_rfl
 intro m hm
 simpa using List.all_eq_true.1 this m hm
def qCV:qf:=.cells [.int .i64 0,.str [],.int .i64 0,.int .i64 0]
theorem qAk:qCV = .cells [.int .i64 0,.str [],.int .i64 0,.int .i64 0]:=Eq.trans rfl rfl
def qnl (h:List qf) (s:Str) (i:Nat) (r:Option (Ex×St)):Option Str→Prop
 | some m=>∃tt',r = some (.ret,⟨tt',h ++ [.cells [.int .i64 3,.str m,.int .i64 0,.int .i64 (i:Nat)]],false⟩)∧tt'.length = 72∧lkp tt' 4 = .ptr h.length 0∧lkp tt' 5 = .int .i64 (i + m.length:Nat)∧lkp tt' 6 = .int .i64 0
 | none=>∃tt',r = some (.exit 1,⟨tt',h ++ [qCV],false⟩)∧tt'.length = 72∧lkp tt' 0 = .str s∧lkp tt' 1 = .int .i64 (i:Nat)∧lkp tt' 4 = .ptr h.length 0
theorem qqo (s:Str) (hs:s.length ≤ 100000) (i:Nat) (hi:i ≤ s.length):∀(k j:Nat) (tt:List qa),j + k = 17→tt.length = 72→lkp tt 0 = .str s→lkp tt 1 = .int .i64 (i:Nat)→lkp tt 4 = .ptr h.length 0→lkp tt 52 = .agg g2→lkp tt 53 = .int .i64 (j:Nat)→
  qnl h s i (qo h.length Wd (.loop qj3) ⟨tt,h ++ [qCV],false⟩) ((marks.drop j).find? (qiH (s.drop i))):=by
 intro k
 have hlen:=qqq
 induction k with
 | zero=>
  intro j tt hj ht e0 e1 e4 e52 e53
  have c1:ilt (j:Int) 17 = false:=by rw [qM];simp;omega
  rw [List.drop_eq_nil_of_le («as»:=marks) (by omega),List.find?_nil,qm]
  simp only [qj3,sT.1,sC.1,qc,qb,Nat.testBit,simprocAttr,-Int.reduceNatCast',ht,e53,c1]
  exact ⟨_,rfl,by simp only [qj,ht],by simp only [sT.1,sC.1,qc,qb,Nat.testBit,simprocAttr,-Int.reduceNatCast',e0],by simp only [sT.1,sC.1,qc,qb,Nat.testBit,simprocAttr,-Int.reduceNatCast',e1],by simp only [sT.1,sC.1,qc,qb,Nat.testBit,simprocAttr,-Int.reduceNatCast',e4]⟩
 | succ k ih=>
  intro j tt hj ht e0 e1 e4 e52 e53
  have hj2:j < marks.length:=by omega
  have c1:ilt (j:Int) 17 = true:=by rw [qM];simp;omega
  have hx:qib 17 none (.agg g2) (.int .i64 (j:Nat)) = some (.str marks[j]):=by
   rw [qk0 (v:=.str marks[j]) (by omega) (by rw [qtQ,List.getElem?_map,List.getElem?_eq_getElem hj2];rfl)]
   rfl
  have hsm:=qmz _ (List.getElem_mem hj2)
  have w:=qX (n:=j) (by omega)
  have hsub:=qgN hi
  have w2:IntKind.i64.wrap ((i:Int) + (marks[j].length:Int)) = ((i + marks[j].length:Nat):Int):=by
   rw [qbf (by omega) (by omega)];omega
  rw [List.drop_eq_getElem_cons hj2,qm]
  generalize he:qo h.length Wd qj3 _ = r
  cases hb:((s.drop i).take marks[j].length == marks[j]) with
  | true=>
   rw [List.find?_cons_of_pos (p:=qiH (s.drop i)) hb]
   simp only [qj3,sT.1,sC.1,qc,qb,Nat.testBit,simprocAttr,-Int.reduceNatCast',ht,e0,e1,e4,e52,e53,c1,hx,qdl,Option.map_none,hsub,qiG,hb,qI,w2,qAk] at he
   subst he
   exact ⟨_,rfl,by simp only [qj,ht],by simp only [sT.1,sC.1,qc,qb,Nat.testBit,simprocAttr,-Int.reduceNatCast',e4],by simp only [sT.1,sC.1,qc,qb,Nat.testBit,simprocAttr,-Int.reduceNatCast',ht],by simp only [sT.1,sC.1,qc,qb,Nat.testBit,simprocAttr,-Int.reduceNatCast',ht]⟩
  | false=>
   rw [List.find?_cons_of_neg (p:=qiH (s.drop i)) (by rw [qiH,hb];exact Bool.false_ne_true)]
   simp only [qj3,sT.1,sC.1,qc,qb,Nat.testBit,simprocAttr,-Int.reduceNatCast',ht,e0,e1,e4,e52,e53,c1,hx,qdl,Option.map_none,hsub,qiG,hb,w] at he
   subst he
   refine ih (j + 1) _ (by omega) ?_ ?_ ?_ ?_ ?_ ?_
   all_goals simp only [sT.1,sC.1,qc,qb,Nat.testBit,simprocAttr,-Int.reduceNatCast',ht,e0,e1,e4,e52]
theorem qqp:cut g2 0 (some 17) = some (.agg g2):=by kernel_rfl
theorem qBd (c:UInt8):((c.toNat:Int) == 39) = (c == 39):=by
 rw [Bool.eq_iff_iff,beq_iff_eq,beq_iff_eq]
 constructor
 ·intro h
  apply UInt8.toNat_inj.1
  show c.toNat = 39
  omega
 ·intro h
  subst h
  rfl
theorem quI (s:Str):Wd (.fn 95 [] []) [.str s,.int .i64 (s.length:Nat)] h = some (.ret (.tup [qbC 4 [] 0 s.length,.int .i64 (s.length:Nat),.int .i64 0]),h,false):=by
 rw [qi rfl (show T.get 95 = some c95 by kernel_rfl)]
 simp only [c95,sT.1,sC.1,qc,qb,Nat.testBit,simprocAttr,-Int.reduceNatCast',qI,qbC]
section
variable {s:Str} {i:Nat} (hi:i < s.length)
include hi
theorem qrQ {k n p to e:Int} {w:Str} (h1:qaR s[i] = true) (hn:∀h,Wd (.fn 129 [] []) [.str s,.int .i64 0,.int .i64 (i:Nat),.int .i64 (i:Nat)] h = some (.ret (.tup [qbC k w n p,.int .i64 to,.int .i64 e]),h,false)):Wd (.fn 95 [] []) [.str s,.int .i64 (i:Nat)] h = some (.ret (.tup [qbC k w n p,.int .i64 to,.int .i64 e]),h,false):=by
 have hx:qdG (.str s) (.int .i64 (i:Nat)) = some (.int .u8 (s[i].toNat:Nat)):=qaM (List.getElem?_eq_getElem hi)
 have c1:((i:Int) == (s.length:Int)) = false:=by simp;omega
 simp only [qbC] at hn
 rw [qi rfl (show T.get 95 = some c95 by kernel_rfl)]
 simp only [c95,sT.1,sC.1,qc,qb,Nat.testBit,simprocAttr,-Int.reduceNatCast',c1,hx,qdp,h1,hn,qbC]
theorem quK {k n p to e:Int} {w:Str} (h1:qaR s[i] = false) (h2:(s[i] == 39) = true) (hl:s.length ≤ 100000) (hn:∀h,Wd (.fn 129 [] []) [.str s,.int .i64 2,.int .i64 (i:Nat),.int .i64 (i + 1:Nat)] h = some (.ret (.tup [qbC k w n p,.int .i64 to,.int .i64 e]),h,false)):Wd (.fn 95 [] []) [.str s,.int .i64 (i:Nat)] h = some (.ret (.tup [qbC k w n p,.int .i64 to,.int .i64 e]),h,false):=by
 have hx:qdG (.str s) (.int .i64 (i:Nat)) = some (.int .u8 (s[i].toNat:Nat)):=qaM (List.getElem?_eq_getElem hi)
 have c1:((i:Int) == (s.length:Int)) = false:=by simp;omega
 have w:=qX (n:=i) (by omega)
 simp only [qbC] at hn
 rw [qi rfl (show T.get 95 = some c95 by kernel_rfl)]
 simp only [c95,sT.1,sC.1,qc,qb,Nat.testBit,simprocAttr,-Int.reduceNatCast',c1,hx,qdp,h1,qBd,h2,w,hn,qbC]
theorem quJ {k n p to e:Int} {w:Str} (h1:qaR s[i] = false) (h2:(s[i] == 39) = false) (h3:q9 s[i] = true) (hn:∀h,Wd (.fn 131 [] []) [.str s,.int .i64 (i:Nat)] h = some (.ret (.tup [qbC k w n p,.int .i64 to,.int .i64 e]),h,false)):Wd (.fn 95 [] []) [.str s,.int .i64 (i:Nat)] h = some (.ret (.tup [qbC k w n p,.int .i64 to,.int .i64 e]),h,false):=by
 have hx:qdG (.str s) (.int .i64 (i:Nat)) = some (.int .u8 (s[i].toNat:Nat)):=qaM (List.getElem?_eq_getElem hi)
 have c1:((i:Int) == (s.length:Int)) = false:=by simp;omega
 simp only [qbC] at hn
 rw [qi rfl (show T.get 95 = some c95 by kernel_rfl)]
 simp only [c95,sT.1,sC.1,qc,qb,Nat.testBit,simprocAttr,-Int.reduceNatCast',c1,hx,qdp,qgO,h1,qBd,h2,h3,hn,qbC]
def qxd (s:Str) (i:Nat):Option Str→List qa
 | some m=>[qbC 3 m 0 i,.int .i64 (i + m.length:Nat),.int .i64 0]
 | none=>[qbC 0 [] 0 i,.int .i64 (i:Nat),.int .i64 5]
theorem qrP (h1:qaR s[i] = false) (h2:(s[i] == 39) = false) (h3:q9 s[i] = false) (hl:s.length ≤ 100000):Wd (.fn 95 [] []) [.str s,.int .i64 (i:Nat)] h = some (.ret (.tup (qxd s i (qdK (s.drop i)))),h,false):=by
 have hx:qdG (.str s) (.int .i64 (i:Nat)) = some (.int .u8 (s[i].toNat:Nat)):=qaM (List.getElem?_eq_getElem hi)
 have c1:((i:Int) == (s.length:Int)) = false:=by simp;omega
 rw [qi rfl (show T.get 95 = some c95 by kernel_rfl)]
 generalize hR:qeo _ h _ = R
 simp only [c95,sT.1,sC.1,qc,qb,Nat.testBit,simprocAttr,-Int.reduceNatCast',c1,hx,qdp,qgO,h1,qBd,h2,h3,qqp] at hR
 generalize hr:qo h.length Wd (.loop qj3) _ = r at hR
 have q:qnl h s i r (qdK (s.drop i)):=by
  rw [←hr]
  refine qqo s hl i (by omega) 17 0 _ (by omega) ?_ ?_ ?_ ?_ ?_ ?_
  all_goals simp only [sT.1,sC.1,qc,qb,Nat.testBit,simprocAttr,-Int.reduceNatCast',Int.natCast_zero]
 rw [←hR]
 cases hm:qdK (s.drop i) with
 | some m=>
  rw [hm] at q
  obtain ⟨tt,rfl,ht,e4,e5,e6⟩:=q
  simp only [sT.1,sC.1,qc,qb,Nat.testBit,simprocAttr,-Int.reduceNatCast',ht,e4,e5,e6,qxd,qbC]
 | none=>
  rw [hm] at q
  obtain ⟨tt,rfl,ht,e0,e1,e4⟩:=q
  rw [qAk]
  simp only [sT.1,sC.1,qc,qb,Nat.testBit,simprocAttr,-Int.reduceNatCast',ht,e0,e1,e4,qI,qxd,qbC]
end
end
end Go.Proofs.YtkmlapholimbcaaGreatDoor.AE
namespace Go.Proofs.YtkmlapholimbcaaGreatDoor.AE
open Go.AE
section
variable {h:List qf}
def blank (c:UInt8):Bool:=(c.toNat:Int) == 32 || (c.toNat:Int) == 9 || (c.toNat:Int) == 10
def sharp (c:UInt8):Bool:=(c.toNat:Int) == 35
def qcd (s:Str):Option Nat:=s.findIdx? (· == 10)
def qdi (s:Str):Int:=match qcd s with
 | some k=>k
 | none=>-1
def qcR:Prop:=∀(s:Str) (h:List qf),Wd (.fn 133 [] []) [.str s,.int .u8 10] h = some (.ret (.int .i64 (qdi s)),h,false)
inductive qgS (s:Str):Nat→Nat→Prop
 | done:qgS s s.length s.length
 | blank {i j} (hi:i < s.length):blank s[i] = true→qgS s (i + 1) j→qgS s i j
 | line {i j k} (hi:i < s.length):blank s[i] = false→sharp s[i] = true→qcd (s.drop i) = some k→qgS s (i + k + 1) j→qgS s i j
 | last {i} (hi:i < s.length):blank s[i] = false→sharp s[i] = true→qcd (s.drop i) = none→qgS s i s.length
 | word {i} (hi:i < s.length):blank s[i] = false→sharp s[i] = false→qgS s i i
theorem qhd {s:Str} {k:Nat} (h:qcd s = some k):k < s.length:=by
 rw [qcd,List.findIdx?_eq_some_iff_getElem] at h
 exact h.1
theorem qgS.le {s:Str} {i j:Nat} (h:qgS s i j):i ≤ j∧j ≤ s.length:=by
 induction h with
 | done=>omega
 | blank hi _ _ ih=>omega
 | line hi _ _ _ _ ih=>omega
 | last hi _ _ _=>omega
 | word hi _ _=>omega
theorem qgS.ex (s:Str):∀(n i:Nat),s.length - i ≤ n→i ≤ s.length→∃j,qgS s i j:=by
 intro n
 induction n with
 | zero=>
  intro i h1 h2
  have:i = s.length:=by omega
  subst this
  exact ⟨_,.done⟩
 | succ n ih=>
  intro i h1 h2
  rcases Nat.lt_or_ge i s.length with hi | hi
  ·cases hb:AE.blank s[i] with
   | true=>
    obtain ⟨j,hj⟩:=ih (i + 1) (by omega) (by omega)
    exact ⟨j,.blank hi hb hj⟩
   | false=>
    cases hs:sharp s[i] with
    | false=>exact ⟨i,.word hi hb hs⟩
    | true=>
     cases hl:qcd (s.drop i) with
     | none=>exact ⟨_,.last hi hb hs hl⟩
     | some k=>
      have:=qhd hl
      rw [List.length_drop] at this
      obtain ⟨j,hj⟩:=ih (i + k + 1) (by omega) (by omega)
      exact ⟨j,.line hi hb hs hl hj⟩
  ·have:i = s.length:=by omega
   subst this
   exact ⟨_,.done⟩
def qnp (h:List qf) (j:Nat) (r:Option (Ex×St)):Prop:=
 (∃tt,r = some (.exit 0,⟨tt,h,false⟩)∧tt.length = 34∧lkp tt 1 = .int .i64 (j:Nat))∨(∃tt,r = some (.ret,⟨tt,h,false⟩)∧tt.length = 34∧lkp tt 4 = .int .i64 (j:Nat))
theorem qrq (hx:qcR) {s:Str} (hs:s.length ≤ 100000) {i j:Nat} (hk:qgS s i j):∀tt:List qa,tt.length = 34→lkp tt 0 = .str s→lkp tt 1 = .int .i64 (i:Nat)→qnp h j (qo h.length Wd (.loop qeP) ⟨tt,h,false⟩):=by
 rw [qcR] at hx
 induction hk with
 | done=>
  intro tt ht e0 e1
  have c1:ilt (s.length:Int) (s.length:Int) = false:=by rw [qM];simp
  rw [qm]
  simp only [qeP,sT.1,sC.1,qc,qb,Nat.testBit,simprocAttr,-Int.reduceNatCast',ht,e0,e1,c1]
  exact .inl ⟨_,rfl,by simp only [qj,ht],by simp only [sT.1,sC.1,qc,qb,Nat.testBit,simprocAttr,-Int.reduceNatCast',e1]⟩
 | @blank i j hi hb _ ih=>
  intro tt ht e0 e1
  have c1:ilt (i:Int) (s.length:Int) = true:=by rw [qM];simp;omega
  have hg:qdG (.str s) (.int .i64 (i:Nat)) = some (.int .u8 (s[i].toNat:Nat)):=qaM (List.getElem?_eq_getElem hi)
  have w:=qX (n:=i) (by omega)
  rw [qm]
  generalize he:qo h.length Wd qeP _ = r
  rw [AE.blank] at hb
  cases q1:((s[i].toNat:Int) == 32) with
  | true=>
   simp only [qeP,sT.1,sC.1,qc,qb,Nat.testBit,simprocAttr,-Int.reduceNatCast',ht,e0,e1,c1,hg,w,q1] at he
   subst he
   refine ih _ ?_ ?_ ?_
   all_goals simp only [sT.1,sC.1,qc,qb,Nat.testBit,simprocAttr,-Int.reduceNatCast',ht,e0]
  | false=>
   cases q2:((s[i].toNat:Int) == 9) with
   | true=>
    simp only [qeP,sT.1,sC.1,qc,qb,Nat.testBit,simprocAttr,-Int.reduceNatCast',ht,e0,e1,c1,hg,w,q1,q2] at he
    subst he
    refine ih _ ?_ ?_ ?_
    all_goals simp only [sT.1,sC.1,qc,qb,Nat.testBit,simprocAttr,-Int.reduceNatCast',ht,e0]
   | false=>
    have q3:((s[i].toNat:Int) == 10) = true:=by simpa [q1,q2] using hb
    simp only [qeP,sT.1,sC.1,qc,qb,Nat.testBit,simprocAttr,-Int.reduceNatCast',ht,e0,e1,c1,hg,w,q1,q2,q3] at he
    subst he
    refine ih _ ?_ ?_ ?_
    all_goals simp only [sT.1,sC.1,qc,qb,Nat.testBit,simprocAttr,-Int.reduceNatCast',ht,e0]
 | @line i j k hi hb hh hl _ ih=>
  intro tt ht e0 e1
  have c1:ilt (i:Int) (s.length:Int) = true:=by rw [qM];simp;omega
  have hg:qdG (.str s) (.int .i64 (i:Nat)) = some (.int .u8 (s[i].toNat:Nat)):=qaM (List.getElem?_eq_getElem hi)
  have hkl:=qhd hl
  rw [List.length_drop] at hkl
  have w:=qX (n:=i + k) (by omega)
  have w2:IntKind.i64.wrap ((i:Int) + (k:Int)) = ((i + k:Nat):Int):=by rw [qbf (by omega) (by omega)];omega
  have hI:qdi (s.drop i) = (k:Int):=by rw [qdi,hl]
  have c2:ilt (k:Int) 0 = false:=by rw [qM];simp
  have hsub:=qgN (Nat.le_of_lt hi)
  rw [qm]
  generalize he:qo h.length Wd qeP _ = r
  simp only [AE.blank,Bool.or_eq_false_iff] at hb
  rw [sharp] at hh
  simp only [qeP,sT.1,sC.1,qc,qb,Nat.testBit,simprocAttr,-Int.reduceNatCast',ht,e0,e1,c1,hg,hb.1.1,hb.1.2,hb.2,hh,qdl,Option.map_none,hsub,hx,hI,c2,w2,w] at he
  subst he
  refine ih _ ?_ ?_ ?_
  all_goals simp only [sT.1,sC.1,qc,qb,Nat.testBit,simprocAttr,-Int.reduceNatCast',ht,e0]
 | @last i hi hb hh hl=>
  intro tt ht e0 e1
  have c1:ilt (i:Int) (s.length:Int) = true:=by rw [qM];simp;omega
  have hg:qdG (.str s) (.int .i64 (i:Nat)) = some (.int .u8 (s[i].toNat:Nat)):=qaM (List.getElem?_eq_getElem hi)
  have hI:qdi (s.drop i) = -1:=by rw [qdi,hl]
  have c2:ilt (-1) 0 = true:=by kernel_rfl
  have hsub:=qgN (Nat.le_of_lt hi)
  rw [qm]
  generalize he:qo h.length Wd qeP _ = r
  simp only [AE.blank,Bool.or_eq_false_iff] at hb
  rw [sharp] at hh
  simp only [qeP,sT.1,sC.1,qc,qb,Nat.testBit,simprocAttr,-Int.reduceNatCast',ht,e0,e1,c1,hg,hb.1.1,hb.1.2,hb.2,hh,qdl,Option.map_none,hsub,hx,hI,c2] at he
  subst he
  exact .inr ⟨_,rfl,by simp only [qj,ht],by simp only [sT.1,sC.1,qc,qb,Nat.testBit,simprocAttr,-Int.reduceNatCast',ht]⟩
 | @word i hi hb hh=>
  intro tt ht e0 e1
  have c1:ilt (i:Int) (s.length:Int) = true:=by rw [qM];simp;omega
  have hg:qdG (.str s) (.int .i64 (i:Nat)) = some (.int .u8 (s[i].toNat:Nat)):=qaM (List.getElem?_eq_getElem hi)
  rw [qm]
  generalize he:qo h.length Wd qeP _ = r
  simp only [AE.blank,Bool.or_eq_false_iff] at hb
  rw [sharp] at hh
  simp only [qeP,sT.1,sC.1,qc,qb,Nat.testBit,simprocAttr,-Int.reduceNatCast',ht,e0,e1,c1,hg,hb.1.1,hb.1.2,hb.2,hh] at he
  subst he
  exact .inr ⟨_,rfl,by simp only [qj,ht],by simp only [sT.1,sC.1,qc,qb,Nat.testBit,simprocAttr,-Int.reduceNatCast',ht]⟩
theorem qkt (hx:qcR) {s:Str} (hs:s.length ≤ 100000) {i j:Nat} (hk:qgS s i j):Wd (.fn 96 [] []) [.str s,.int .i64 (i:Nat)] h = some (.ret (.int .i64 (j:Nat)),h,false):=by
 rw [qi rfl (show T.get 96 = some c96 by kernel_rfl)]
 generalize hR:qeo _ h _ = R
 simp only [c96,sT.1,sC.1,qc,qb,Nat.testBit,simprocAttr,-Int.reduceNatCast'] at hR
 generalize hr:qo h.length Wd (.loop qeP) _ = r at hR
 have q:qnp h j r:=by
  rw [←hr]
  refine qrq hx hs hk _ ?_ ?_ ?_
  all_goals simp only [sT.1,sC.1,qc,qb,Nat.testBit,simprocAttr,-Int.reduceNatCast']
 rw [←hR]
 rcases q with ⟨tt,rfl,ht,e1⟩ | ⟨tt,rfl,ht,e4⟩
 ·simp only [sT.1,sC.1,qc,qb,Nat.testBit,simprocAttr,-Int.reduceNatCast',ht,e1]
 ·simp only [sT.1,sC.1,qc,qb,Nat.testBit,simprocAttr,-Int.reduceNatCast',ht,e4]
end
end Go.Proofs.YtkmlapholimbcaaGreatDoor.AE
namespace Go.Proofs.YtkmlapholimbcaaGreatDoor.AE
open Go.AE
section
variable {h:List qf}
def qbl:qG:=(.seq (.reg [ao 6 (.new [(.int .i64 0),(.str []),(.int .i64 0),(.int .i64 0)]),an (.st (some 4) (.t 6) (.t 10))]) (.reg [ao 7 (.asg (.t 11))]))
theorem qAq (t:List qa) (p:Nat) (ps:List Nat) (a:qa) (aS:List qa):qic t (p :: ps) (a :: aS) = qic (up t p a) ps aS:=Eq.trans rfl rfl
theorem qAp (t aS:List qa):qic t [] aS = t:=by cases aS <;> exact Eq.trans rfl rfl
theorem qr9 (xs:List qa) (hx:∀x ∈ xs,x.cells.length = 4) (hl:xs.length ≤ 100000) (k:Int) (w:Str) (n p:Int):qc8 4 xs [.agg [.int .i64 k,.str w,.int .i64 n,.int .i64 p]] = true:=by
 simp only [qc8,Bool.and_eq_true,decide_eq_true_eq]
 refine ⟨⟨?_,?_⟩,?_⟩
 ·simp only [List.length_cons,List.length_nil,qu];omega
 ·simp [qa.cells,qa.storable]
 ·cases xs with
  | nil=>rfl
  | cons x xs=>simp [hx x (by simp)]
theorem qhe (m:Nat):∀xs ys:List qa,qy m xs = true→qy m ys = true→qy m (xs ++ ys) = true
 | [],ys,_,h=>h
 | x :: xs,ys,h1,h2=>by
  rw [qdj,Bool.and_eq_true] at h1
  rw [List.cons_append,qdj,h1.1,qhe m xs ys h1.2 h2]
  rfl
theorem qzG (k:Int) (w:Str) (n p:Int):qer 4 [.int .i64 0,.str [],.int .i64 0,.int .i64 0] 1 [(0,.agg [.int .i64 k,.str w,.int .i64 n,.int .i64 p])] = some (.lst [.agg [.int .i64 k,.str w,.int .i64 n,.int .i64 p]] .full):=qc1 (Eq.trans rfl rfl) (by omega) (Eq.trans rfl rfl) (Eq.trans rfl rfl) (by omega)
theorem qhr {H:List qf} {tab:List qa} {xs:List qa} {f:qfQ} (hf:(f = .full∧xs = [])∨f = .own 4) {q l:Nat} (ht:tab.length = 22) (e5:lkp tab 5 = .ptr q 0) (hq:H[q]? = some (.cells [.lst xs f])) (hl:H[l]? = some (.loop tab [10,11] qbl qdg .ready none)) (hne:q ≠ l) (hx:∀x ∈ xs,x.cells.length = 4) (hn:xs.length ≤ 100000) (hlow:∀m,qy m xs = true) (k:Int) (w:Str) (n p:Int) :
  Wd (.yld l) [qbC k w n p,.int .i64 0] H = some (.ret (.bool true),H.set q (.cells [.lst (xs ++ [qbC k w n p]) (.own 4)]),false):=by
 have hql:q < H.length:=(List.getElem?_eq_some_iff.1 hq).1
 have hll:l < H.length:=(List.getElem?_eq_some_iff.1 hl).1
 have hap:=qr9 xs hx hn k w n p
 have hlo:∀m,qy m (xs ++ [.agg [.int .i64 k,.str w,.int .i64 n,.int .i64 p]]) = true:=fun m=>qhe m _ _ (hlow m) (Eq.trans rfl rfl)
 have hqb:Nat.ble H.length q = false:=by rw [Bool.eq_false_iff];intro h;have:=Nat.le_of_ble_eq_true h;omega
 let busy:qf:=.loop tab [10,11] qbl qdg .busy none
 have A:qo H.length Wd qbl ⟨qic tab [10,11] ([qbC k w n p,.int .i64 0].map qa.dim),H,false⟩ = some (.nor,⟨up (up (up (up tab 10 (qbC k w n p)) 11 (.int .i64 0)) 6 (.ptr H.length 0)) 7 (.int .i64 0),H ++ [.cells [.int .i64 k,.str w,.int .i64 n,.int .i64 p]],false⟩):=by
  simp only [qbl,qAq,qAp,qbC,sT.1,sC.1,qc,qb,Nat.testBit,simprocAttr,-Int.reduceNatCast',ht]
 have hlen:(H.set l busy).length = H.length:=by simp
 have hq2:(H.set l busy)[q]? = some (.cells [.lst xs f]):=by rw [List.getElem?_set_ne (by omega)];exact hq
 have B:∃tt,qo H.length Wd qdg ⟨up (up (up (up tab 10 (qbC k w n p)) 11 (.int .i64 0)) 6 (.ptr H.length 0)) 7 (.int .i64 0),(H ++ [qf.cells [.int .i64 k,.str w,.int .i64 n,.int .i64 p]]).set l busy,false⟩ = some (Ex.nor,⟨tt,(H.set l busy).set q (.cells [.lst (xs ++ [qbC k w n p]) (.own 4)]) ++ [qf.cells [.int .i64 k,.str w,.int .i64 n,.int .i64 p]],false⟩):=by
  rw [List.set_append_left _ _ hll]
  revert hq2 hlen
  generalize H.set l busy = Hb
  intro hlen hq2
  have hql2:q < Hb.length:=by omega
  generalize he:qo H.length Wd _ _ = r
  rcases hf with ⟨rfl,rfl⟩ | rfl
  ·simp only [qdg,sT.1,sC.1,sTA.1,sCA.1,qc,qak,qal,Src.isTmp,qD,Src.hangs,qk.isT,qai,qb,Nat.testBit,bne,simprocAttr,-Int.reduceNatCast',qbC,ht,e5,hq2,hql,hlen,List.length_set,qcv hlen,qbW hql2,qI,hap,qzG,hlo] at he
   subst he
   exact ⟨_,by simp only [qbC,List.nil_append];rfl⟩
  ·simp only [qdg,sT.1,sC.1,sTA.1,sCA.1,qc,qak,qal,Src.isTmp,qD,Src.hangs,qk.isT,qai,qb,Nat.testBit,bne,simprocAttr,-Int.reduceNatCast',qbC,ht,e5,hq2,hql,hlen,List.length_set,qcv hlen,qbW hql2,qI,hap,qzG,hlo] at he
   subst he
   exact ⟨_,by simp only [qbC,List.nil_append];rfl⟩
 obtain ⟨tt,B⟩:=B
 have hls:l < ((H.set l busy).set q (qf.cells [.lst (xs ++ [qbC k w n p]) (.own 4)])).length:=by simpa using hll
 rw [show Wd (.yld l) [qbC k w n p,.int .i64 0] H = qi0 Wd l [qbC k w n p,.int .i64 0] H from qyJ qfp]
 refine qi1 (call:=Wd) hl rfl A (t1:=tab) (ps1:=[10,11]) (asg1:=qbl) (body1:=qdg) (pend1:=none) ?_ B (t2:=tab) (ps2:=[10,11]) (asg2:=qbl) (body2:=qdg) (st2:=.busy) (pend2:=none) ?_ ?_
 ·rw [List.getElem?_append_left hll]
  exact hl
 ·rw [List.getElem?_append_left hls,List.getElem?_set_ne hne,List.getElem?_set_self hll]
 ·rw [qh1]
  refine congrArg some (qa0 ?_ rfl)
  rw [List.set_append_left _ _ hls,List.take_append_of_le_length (by simp),List.take_of_length_le (by simp),List.set_comm _ _ (Ne.symm hne),List.set_set]
  apply List.ext_getElem?
  intro j
  by_cases hj:l = j
  ·subst hj
   rw [List.getElem?_set_self (by simpa using hll),List.getElem?_set_ne hne,hl]
  ·rw [List.getElem?_set_ne hj]
theorem qrm {H:List qf} {tab:List qa} {a l:Nat} {x0 x1:Int} (ht:tab.length = 22) (e2:lkp tab 2 = .ptr a 0) (e3:lkp tab 3 = .ptr (a + 1) 0) (e4:lkp tab 4 = .ptr (a + 1 + 1) 0) (h0:H[a]? = some (.cells [.lst [] .full])) (h1:H[a + 1]? = some (.cells [.int .i64 x0])) (h2:H[a + 1 + 1]? = some (.cells [.int .i64 x1])) (hl:H[l]? = some (.loop tab [10,11] qbl qdg .ready none)) (hal:a + 1 + 1 < l) (k:Int) (w:Str) (n p e:Int) (he0:(e == 0) = false) :
  Wd (.yld l) [qbC k w n p,.int .i64 e] H = some (.ret (.bool false),(((H.set a (.cells [.lst [] .full])).set (a + 1) (.cells [.int .i64 p])).set (a + 1 + 1) (.cells [.int .i64 e])).set l (.loop tab [10,11] qbl qdg .done (some .ret)),false):=by
 have hll:l < H.length:=(List.getElem?_eq_some_iff.1 hl).1
 let busy:qf:=.loop tab [10,11] qbl qdg .busy none
 have A:qo H.length Wd qbl ⟨qic tab [10,11] ([qbC k w n p,.int .i64 e].map qa.dim),H,false⟩ = some (.nor,⟨up (up (up (up tab 10 (qbC k w n p)) 11 (.int .i64 e)) 6 (.ptr H.length 0)) 7 (.int .i64 e),H ++ [.cells [.int .i64 k,.str w,.int .i64 n,.int .i64 p]],false⟩):=by
  simp only [qbl,qAq,qAp,qbC,sT.1,sC.1,qc,qb,Nat.testBit,simprocAttr,-Int.reduceNatCast',ht]
 have hlen:(H.set l busy).length = H.length:=by simp
 have g0:(H.set l busy)[a]? = some (.cells [.lst [] .full]):=by rw [List.getElem?_set_ne (by omega)];exact h0
 have g1':(H.set l busy)[a + 1]? = some (.cells [.int .i64 x0]):=by rw [List.getElem?_set_ne (by omega)];exact h1
 have g2':(H.set l busy)[a + 1 + 1]? = some (.cells [.int .i64 x1]):=by rw [List.getElem?_set_ne (by omega)];exact h2
 have B:∃tt,qo H.length Wd qdg ⟨up (up (up (up tab 10 (qbC k w n p)) 11 (.int .i64 e)) 6 (.ptr H.length 0)) 7 (.int .i64 e),(H ++ [qf.cells [.int .i64 k,.str w,.int .i64 n,.int .i64 p]]).set l busy,false⟩ = some (Ex.ret,⟨tt,(((H.set l busy).set a (.cells [.lst [] .full])).set (a + 1) (.cells [.int .i64 p])).set (a + 1 + 1) (.cells [.int .i64 e]) ++ [qf.cells [.int .i64 k,.str w,.int .i64 n,.int .i64 p]],false⟩):=by
  rw [List.set_append_left _ _ hll]
  revert g0 g1' g2' hlen
  generalize H.set l busy = Hb
  intro hlen g0 g1' g2'
  have q0:a < H.length:=by omega
  have q1:a + 1 < H.length:=by omega
  have q2:a + 1 + 1 < H.length:=by omega
  have n1:a ≠ a + 1:=by omega
  have n2:a ≠ a + 1 + 1:=by omega
  have n3:a + 1 ≠ a + 1 + 1:=by omega
  generalize he:qo H.length Wd _ _ = r
  simp only [qdg,sT.1,sC.1,sTA.1,sCA.1,qc,qak,qal,Src.isTmp,qD,Src.hangs,qk.isT,qai,qb,Nat.testBit,bne,simprocAttr,-Int.reduceNatCast',qbC,ht,e2,e3,e4,he0,g0,g1',g2',q0,q1,q2,n1,n2,n3,hlen,List.length_set,qcv hlen] at he
  subst he
  exact ⟨_,rfl⟩
 obtain ⟨tt,B⟩:=B
 have hls:l < ((((H.set l busy).set a (.cells [.lst [] .full])).set (a + 1) (.cells [.int .i64 p])).set (a + 1 + 1) (.cells [.int .i64 e])).length:=by simpa using hll
 rw [show Wd (.yld l) [qbC k w n p,.int .i64 e] H = qi0 Wd l [qbC k w n p,.int .i64 e] H from qyJ qfp]
 refine qi1 (call:=Wd) hl rfl A (t1:=tab) (ps1:=[10,11]) (asg1:=qbl) (body1:=qdg) (pend1:=none) ?_ B (t2:=tab) (ps2:=[10,11]) (asg2:=qbl) (body2:=qdg) (st2:=.busy) (pend2:=none) ?_ ?_
 ·rw [List.getElem?_append_left hll]
  exact hl
 ·rw [List.getElem?_append_left hls,List.getElem?_set_ne (by omega),List.getElem?_set_ne (by omega),List.getElem?_set_ne (by omega),List.getElem?_set_self hll]
 ·rw [qh1]
  refine congrArg some (qa0 ?_ rfl)
  rw [List.set_append_left _ _ hls,List.take_append_of_le_length (by simp),List.take_of_length_le (by simp),List.set_comm (l:=H) _ _ (show l ≠ a by omega),List.set_comm _ _ (show l ≠ a + 1 by omega),List.set_comm _ _ (show l ≠ a + 1 + 1 by omega),List.set_set]
end
end Go.Proofs.YtkmlapholimbcaaGreatDoor.AE
namespace Go.Proofs.YtkmlapholimbcaaGreatDoor.AE
open Go.AE
section
variable {s:Str} {H H2:List qf} {base b l i j:Nat} {tt:List qa} {k n p to e:Int} {w:Str} {yb:Bool}
theorem qyL (hx:qcR) (hs:s.length ≤ 100000) (hk:qgS s i j) (ht:tt.length = 37) (e0:lkp tt 0 = .yld l) (e1:lkp tt 1 = .ptr b 0) (e3:lkp tt 3 = .int .i64 (i:Nat)) (hb:H[b]? = some (.cells [.str s])) (hbase:base ≤ H.length)
  (hw:∀h,Wd (.fn 95 [] []) [.str s,.int .i64 (j:Nat)] h = some (.ret (.tup [qbC k w n p,.int .i64 to,.int .i64 0]),h,false))
  (hy:Wd (.yld l) [qbC k w n p,.int .i64 0] (H ++ [.cells [.int .i64 k,.str w,.int .i64 n,.int .i64 p]]) = some (.ret (.bool true),H2,false)) (h2:H2[H.length]? = some (.cells [.int .i64 k,.str w,.int .i64 n,.int .i64 p])) (hk4:(k == 4) = false) :
  ∃tt',qo base Wd qhN ⟨tt,H,false⟩ = some (.nor,⟨tt',H2,false⟩)∧tt'.length = 37∧lkp tt' 0 = .yld l∧lkp tt' 1 = .ptr b 0∧lkp tt' 3 = .int .i64 to:=by
 have hbl:b < H.length:=(List.getElem?_eq_some_iff.1 hb).1
 have hsk:=fun h=>qkt (h:=h) hx hs hk
 simp only [qbC] at hw hy
 generalize he:qo base Wd _ _ = r
 simp only [qhN,sT.1,sC.1,qc,qb,Nat.testBit,simprocAttr,-Int.reduceNatCast',ht,e0,e1,e3,hb,hbl,hsk,hw,hy,h2,hk4] at he
 subst he
 refine ⟨_,rfl,?_,?_,?_,?_⟩
 all_goals simp only [sT.1,sC.1,qc,qb,Nat.testBit,simprocAttr,-Int.reduceNatCast',ht,e0,e1]
theorem qvC (hx:qcR) (hs:s.length ≤ 100000) (hk:qgS s i j) (ht:tt.length = 37) (e0:lkp tt 0 = .yld l) (e1:lkp tt 1 = .ptr b 0) (e3:lkp tt 3 = .int .i64 (i:Nat)) (hb:H[b]? = some (.cells [.str s])) (hbase:base ≤ H.length)
  (hw:∀h,Wd (.fn 95 [] []) [.str s,.int .i64 (j:Nat)] h = some (.ret (.tup [qbC k w n p,.int .i64 to,.int .i64 0]),h,false))
  (hy:Wd (.yld l) [qbC k w n p,.int .i64 0] (H ++ [.cells [.int .i64 k,.str w,.int .i64 n,.int .i64 p]]) = some (.ret (.bool true),H2,false)) (h2:H2[H.length]? = some (.cells [.int .i64 k,.str w,.int .i64 n,.int .i64 p])) (hk4:(k == 4) = true) :
  ∃tt',qo base Wd qhN ⟨tt,H,false⟩ = some (.ret,⟨tt',H2,false⟩):=by
 have hbl:b < H.length:=(List.getElem?_eq_some_iff.1 hb).1
 have hsk:=fun h=>qkt (h:=h) hx hs hk
 simp only [qbC] at hw hy
 generalize he:qo base Wd _ _ = r
 simp only [qhN,sT.1,sC.1,qc,qb,Nat.testBit,simprocAttr,-Int.reduceNatCast',ht,e0,e1,e3,hb,hbl,hsk,hw,hy,h2,hk4] at he
 subst he
 exact ⟨_,rfl⟩
theorem qr5 (hx:qcR) (hs:s.length ≤ 100000) (hk:qgS s i j) (ht:tt.length = 37) (e0:lkp tt 0 = .yld l) (e1:lkp tt 1 = .ptr b 0) (e3:lkp tt 3 = .int .i64 (i:Nat)) (hb:H[b]? = some (.cells [.str s])) (hbase:base ≤ H.length)
  (hw:∀h,Wd (.fn 95 [] []) [.str s,.int .i64 (j:Nat)] h = some (.ret (.tup [qbC k w n p,.int .i64 to,.int .i64 e]),h,false))
  (hy:Wd (.yld l) [qbC k w n p,.int .i64 e] (H ++ [.cells [.int .i64 k,.str w,.int .i64 n,.int .i64 p]]) = some (.ret (.bool false),H2,false)) (h2:H2[H.length]? = some (.cells [.int .i64 k,.str w,.int .i64 n,.int .i64 p])) :
  ∃tt',qo base Wd qhN ⟨tt,H,false⟩ = some (.ret,⟨tt',H2,false⟩):=by
 have hbl:b < H.length:=(List.getElem?_eq_some_iff.1 hb).1
 have hsk:=fun h=>qkt (h:=h) hx hs hk
 simp only [qbC] at hw hy
 generalize he:qo base Wd _ _ = r
 simp only [qhN,sT.1,sC.1,qc,qb,Nat.testBit,simprocAttr,-Int.reduceNatCast',ht,e0,e1,e3,hb,hbl,hsk,hw,hy,h2] at he
 subst he
 exact ⟨_,rfl⟩
end
end Go.Proofs.YtkmlapholimbcaaGreatDoor.AE
namespace Go.Proofs.YtkmlapholimbcaaGreatDoor.AE
open Go.AE
def qkE (s:Str) (j:Nat) (t:Tok) (to:Nat) (e:Int):Prop:=∀h,Wd (.fn 95 [] []) [.str s,.int .i64 (j:Nat)] h = some (.ret (.tup [qbC t.kind t.s t.n t.pos,.int .i64 (to:Nat),.int .i64 e]),h,false)
inductive qf6 (s:Str):Nat→List Tok→Option (Int×Int)→Prop
 | last {i j t to}:qgS s i j→qkE s j t to 0→(t.kind == 4) = true→qf6 s i [t] none
 | err {i j t to e}:qgS s i j→qkE s j t to e→(e == 0) = false→qf6 s i [] (some (t.pos,e))
 | next {i j t to ts o}:qgS s i j→qkE s j t to 0→(t.kind == 4) = false→qf6 s to ts o→qf6 s i (t :: ts) o
section
variable {s:Str} {base a b q l:Nat} {tab:List qa}
structure qhw (s:Str) (a q b l:Nat) (tab:List qa) (xs:List Tok) (H:List qf):Prop where
 r0:H[a]? = some (.cells [.lst [] .full])
 r1:H[a + 1]? = some (.cells [.int .i64 0])
 r2:H[a + 1 + 1]? = some (.cells [.int .i64 0])
 lst:∃f,((f = .full∧xs = [])∨f = .own 4)∧H[q]? = some (.cells [.lst (xs.map Tok.enc) f])
 txt:H[b]? = some (.cells [.str s])
 box:H[l]? = some (.loop tab [10,11] qbl qdg .ready none)
 ord:a + 1 + 1 < q∧q < b∧b < l
theorem qi9 (xs:List Tok):∀x ∈ xs.map Tok.enc,x.cells.length = 4:=by
 intro x hx
 obtain ⟨t,_,rfl⟩:=List.mem_map.1 hx
 rfl
theorem qdS (m:Nat):∀xs:List Tok,qy m (xs.map Tok.enc) = true
 | []=>rfl
 | t :: xs=>by rw [List.map_cons,qdj,qdS m xs];rfl
def qcS (a q l:Nat) (tab:List qa) (H H':List qf) (xs:List Tok):Option (Int×Int)→Prop
 | none=>H'.take (l + 1) = (H.set q (.cells [.lst (xs.map Tok.enc) (.own 4)])).take (l + 1)
 | some (p,e)=>∃c,H'.take (l + 1) = (((((H.set q c).set a (.cells [.lst [] .full])).set (a + 1) (.cells [.int .i64 p])).set (a + 1 + 1) (.cells [.int .i64 e])).set l (.loop tab [10,11] qbl qdg .done (some .ret))).take (l + 1)
theorem qhw.next {xs:List Tok} {H:List qf} (hl:qhw s a q b l tab xs H) (t:Tok) (c:qf):qhw s a q b l tab (xs ++ [t]) ((H ++ [c]).set q (.cells [.lst ((xs ++ [t]).map Tok.enc) (.own 4)])):=by
 obtain ⟨h0,h1,h2,⟨f,_,h3⟩,h4,h5,o⟩:=hl
 have hll:l < H.length:=(List.getElem?_eq_some_iff.1 h5).1
 refine ⟨?_,?_,?_,⟨_,.inr rfl,?_⟩,?_,?_,o⟩
 ·rw [List.getElem?_set_ne (by omega),List.getElem?_append_left (by omega),h0]
 ·rw [List.getElem?_set_ne (by omega),List.getElem?_append_left (by omega),h1]
 ·rw [List.getElem?_set_ne (by omega),List.getElem?_append_left (by omega),h2]
 ·rw [List.getElem?_set_self (by simp;omega)]
 ·rw [List.getElem?_set_ne (by omega),List.getElem?_append_left (by omega),h4]
 ·rw [List.getElem?_set_ne (by omega),List.getElem?_append_left (by omega),h5]
theorem qhw.grow {xs:List Tok} {H:List qf} (hl:qhw s a q b l tab xs H) (c:qf):qhw s a q b l tab xs (H ++ [c]):=by
 obtain ⟨h0,h1,h2,⟨f,hf,h3⟩,h4,h5,o⟩:=hl
 have hll:l < H.length:=(List.getElem?_eq_some_iff.1 h5).1
 refine ⟨?_,?_,?_,⟨f,hf,?_⟩,?_,?_,o⟩
 all_goals rw [List.getElem?_append_left (by omega)]
 ·exact h0
 ·exact h1
 ·exact h2
 ·exact h3
 ·exact h4
 ·exact h5
theorem qr4 (hx:qcR) (hs:s.length ≤ 100000) (t22:tab.length = 22) (p2:lkp tab 2 = .ptr a 0) (p3:lkp tab 3 = .ptr (a + 1) 0) (p4:lkp tab 4 = .ptr (a + 1 + 1) 0) (p5:lkp tab 5 = .ptr q 0) {i:Nat} {ts:List Tok} {o:Option (Int×Int)} (hW:qf6 s i ts o) :
  ∀(xs:List Tok) (H:List qf) (tt:List qa),qhw s a q b l tab xs H→xs.length + ts.length ≤ 100000→base ≤ H.length→tt.length = 37→lkp tt 0 = .yld l→lkp tt 1 = .ptr b 0→lkp tt 3 = .int .i64 (i:Nat)→
   ∃tt' H',qo base Wd (.loop qhN) ⟨tt,H,false⟩ = some (.ret,⟨tt',H',false⟩)∧qcS a q l tab H H' (xs ++ ts) o:=by
 induction hW with
 | @last i j t to hk hw h4=>
  intro xs H tt hL hn hbase ht e0 e1 e3
  have hll:l < H.length:=(List.getElem?_eq_some_iff.1 hL.box).1
  obtain ⟨f,hf,hq⟩:=(hL.grow (.cells [.int .i64 t.kind,.str t.s,.int .i64 t.n,.int .i64 t.pos])).lst
  have hord:=hL.ord
  have hy:=qhr (hf.imp (fun g=>⟨g.1,by rw [g.2];rfl⟩) id) t22 p5 hq (hL.grow _).box (by omega) (qi9 xs) (by simp;omega) (fun m=>qdS m xs) t.kind t.s t.n t.pos
  obtain ⟨tt',he⟩:=qvC (base:=base) hx hs hk ht e0 e1 e3 hL.txt hbase hw hy (by rw [List.getElem?_set_ne (by omega),qcv rfl];rfl) h4
  rw [qm,he]
  refine ⟨_,_,rfl,?_⟩
  rw [qcS,List.map_append,List.set_append_left _ _ (by omega),List.take_append_of_le_length (by simp;omega)]
  rfl
 | @err i j t to e hk hw he0=>
  intro xs H tt hL hn hbase ht e0 e1 e3
  have hll:l < H.length:=(List.getElem?_eq_some_iff.1 hL.box).1
  have hg:=hL.grow (.cells [.int .i64 t.kind,.str t.s,.int .i64 t.n,.int .i64 t.pos])
  obtain ⟨f,hf,hq⟩:=hL.lst
  have hord:=hL.ord
  have hy:=qrm t22 p2 p3 p4 hg.r0 hg.r1 hg.r2 hg.box (by omega) t.kind t.s t.n t.pos e he0
  obtain ⟨tt',he⟩:=qr5 (base:=base) hx hs hk ht e0 e1 e3 hL.txt hbase hw hy (by
   rw [List.getElem?_set_ne (by omega),List.getElem?_set_ne (by omega),List.getElem?_set_ne (by omega),List.getElem?_set_ne (by omega),qcv rfl];rfl)
  rw [qm,he]
  refine ⟨_,_,rfl,.cells [.lst (xs.map Tok.enc) f],?_⟩
  rw [List.set_append_left _ _ (by omega),List.set_append_left _ _ (by simp;omega),List.set_append_left _ _ (by simp;omega),List.set_append_left _ _ (by simp;omega),List.take_append_of_le_length (by simp;omega)]
  rw [show H.set q (.cells [.lst (xs.map Tok.enc) f]) = H from by
   apply List.ext_getElem?
   intro j
   by_cases hj:q = j
   ·subst hj;rw [hq,List.getElem?_set_self (by omega)]
   ·rw [List.getElem?_set_ne hj]]
 | @next i j t to ts o hk hw h4 _ ih=>
  intro xs H tt hL hn hbase ht e0 e1 e3
  have hll:l < H.length:=(List.getElem?_eq_some_iff.1 hL.box).1
  obtain ⟨f,hf,hq⟩:=(hL.grow (.cells [.int .i64 t.kind,.str t.s,.int .i64 t.n,.int .i64 t.pos])).lst
  have hord:=hL.ord
  have hy:=qhr (hf.imp (fun g=>⟨g.1,by rw [g.2];rfl⟩) id) t22 p5 hq (hL.grow _).box (by omega) (qi9 xs) (by simp at hn ⊢;omega) (fun m=>qdS m xs) t.kind t.s t.n t.pos
  obtain ⟨tt',he,g1,g2,g3,g4⟩:=qyL (base:=base) hx hs hk ht e0 e1 e3 hL.txt hbase hw hy (by rw [List.getElem?_set_ne (by omega),qcv rfl];rfl) h4
  have hL2:=hL.next t (.cells [.int .i64 t.kind,.str t.s,.int .i64 t.n,.int .i64 t.pos])
  obtain ⟨tt2,H2,r1,r2⟩:=ih (xs ++ [t]) _ tt' hL2 (by simp at hn ⊢;omega) (by simp;omega) g1 g2 g3 g4
  rw [qm,he,qrH]
  refine ⟨tt2,H2,?_,?_⟩
  ·rw [←r1,List.map_append];rfl
  ·rw [List.append_assoc] at r2
   cases o with
   | none=>
    rw [qcS,List.set_set,List.set_append_left _ _ (by omega),List.take_append_of_le_length (by simp;omega)] at r2
    exact r2
   | some pe=>
    obtain ⟨c,r2⟩:=r2
    refine ⟨c,?_⟩
    rw [r2,List.set_set,List.set_append_left _ _ (by omega),List.set_append_left _ _ (by simp;omega),List.set_append_left _ _ (by simp;omega),List.set_append_left _ _ (by simp;omega),List.set_append_left _ _ (by simp;omega),List.take_append_of_le_length (by simp;omega)]
end
end Go.Proofs.YtkmlapholimbcaaGreatDoor.AE
namespace Go.Proofs.YtkmlapholimbcaaGreatDoor.AE
open Go.AE
section
variable {s:Str} {a b q l:Nat} {tab:List qa}
theorem qcS.cut {H H':List qf} {xs:List Tok} {o:Option (Int×Int)} (h:qcS a q l tab H H' xs o):qcS a q l tab H (H'.take (l + 1)) xs o:=by
 cases o with
 | none=>rw [qcS,List.take_take,Nat.min_self];exact h
 | some pe=>
  obtain ⟨c,h⟩:=h
  exact ⟨c,by rw [List.take_take,Nat.min_self];exact h⟩
theorem qvB (hx:qcR) (hs:s.length ≤ 16384) (t22:tab.length = 22) (p2:lkp tab 2 = .ptr a 0) (p3:lkp tab 3 = .ptr (a + 1) 0) (p4:lkp tab 4 = .ptr (a + 1 + 1) 0) (p5:lkp tab 5 = .ptr q 0) {ts:List Tok} {o:Option (Int×Int)} (hW:qf6 s 0 ts o) {H:List qf} (hL:qhw s a q b l tab [] H) (hn:ts.length ≤ 100000) (hl:H.length = l + 1) :
  ∃R,Wd (.fn 94 [] [.ptr b 0]) [.yld l] H = some (.ret (.tup []),R,false)∧qcS a q l tab H R ts o:=by
 have htx:=hL.txt
 have hbl:b < H.length:=(List.getElem?_eq_some_iff.1 htx).1
 have c1:ilt 16384 (s.length:Int) = false:=by rw [qM];simp;omega
 rw [qi rfl (show T.get 94 = some c94 by kernel_rfl)]
 generalize hR:qeo _ H _ = R
 simp only [c94,sT.1,sC.1,qc,qb,Nat.testBit,simprocAttr,-Int.reduceNatCast',htx,hbl,c1] at hR
 generalize hr:qo H.length Wd (.loop qhN) _ = r at hR
 obtain ⟨tt',H',rfl,hE⟩ :∃tt' H',r = some (.ret,⟨tt',H',false⟩)∧qcS a q l tab H H' ([] ++ ts) o:=by
  rw [←hr]
  refine qr4 hx (by omega) t22 p2 p3 p4 p5 hW [] H _ hL (by simpa using hn) (Nat.le_refl _) ?_ ?_ ?_ ?_
  all_goals simp only [sT.1,sC.1,qc,qb,Nat.testBit,simprocAttr,-Int.reduceNatCast',Int.natCast_zero]
 simp only [sT.1,sC.1,qc,qb,Nat.testBit,simprocAttr,-Int.reduceNatCast'] at hR
 subst hR
 refine ⟨_,rfl,?_⟩
 rw [hl]
 exact hE.cut
end
end Go.Proofs.YtkmlapholimbcaaGreatDoor.AE
namespace Go.AE
theorem qug {base:Nat} {call:Call} {f:qk} {ps:List Nat} {asg body:qG} {s:St} {g:FuncId} {first cap:List qa} {v:qa} {h:List qf} {e:Bool} {t:List qa} {ps':List Nat} {asg' body':qG}
  (hf:ev s.t f = .fn g first cap) (hc:call (.fn g first cap) [.yld s.h.length] (s.h ++ [.loop (s.t.map qa.dim) ps asg body .ready none]) = some (.ret v,h,e)) (hl:h[s.h.length]? = some (.loop t ps' asg' body' .ready none)) :
  qo base call (.rfun f ps asg body) s = some (.nor,{ s with h:=h.set s.h.length (.loop t ps' asg' body' .exhausted none),e:=s.e || e}):=by
 rw [qlN]
 simp only [qaV,hf,hc,hl]
 rfl
end Go.AE
namespace Go.Proofs.YtkmlapholimbcaaGreatDoor.AE
open Go.AE
section
variable {s:Str} {h:List qf}
theorem qyK (h:List qf):Wd (.fn 67 [] []) [.str s] h = some (.ret (.fn 94 [] [.ptr h.length 0]),h ++ [.cells [.str s]],false):=by
 have hb:Nat.ble (h.length + 1) h.length = false:=by rw [Bool.eq_false_iff];intro q;have:=Nat.le_of_ble_eq_true q;omega
 rw [qi rfl (show T.get 67 = some c67 by kernel_rfl)]
 simp only [c67,sT.1,sC.1,qc,qb,Nat.testBit,reduceCtorEq,Nat.reduceAdd,Nat.reduceSub,Nat.reduceLT,Nat.reduceEqDiff,Nat.reduceLeDiff,Nat.reduceMul,Int.reduceToNat,Nat.reduceShiftRight,Nat.reduceAnd,Nat.reduceBneDiff,Nat.reduceBEq]
 simp [qaQ,qa.lower,qy]
theorem qyd (hx:qcR) (hs:s.length ≤ 16384) {ts:List Tok} (hW:qf6 s 0 ts none) (hn:ts.length ≤ 100000):Wd (.fn 41 [] []) [.str s] h = some (.ret (.tup [.lst (ts.map Tok.enc) .no,.int .i64 0,.int .i64 0]),h,false):=by
 rw [qi rfl (show T.get 41 = some c41 by kernel_rfl)]
 generalize hR:qeo _ h _ = R
 simp only [c41,sT.1,sC.1,qc,qb,Nat.testBit,reduceCtorEq,Nat.reduceAdd,Nat.reduceSub,Nat.reduceLT,Nat.reduceEqDiff,Nat.reduceLeDiff,Nat.reduceMul,Int.reduceToNat,Nat.reduceShiftRight,Nat.reduceAnd,Nat.reduceBneDiff,Nat.reduceBEq,qyK] at hR
 generalize hr:qo h.length Wd (.rfun _ _ _ _) _ = r at hR
 obtain ⟨tt,H',rfl,ht,e2,e3,e4,e5,hE⟩ :∃tt H',r = some (.nor,⟨tt,H',false⟩)∧tt.length = 22∧lkp tt 2 = .ptr h.length 0∧lkp tt 3 = .ptr (h.length + 1) 0∧lkp tt 4 = .ptr (h.length + 1 + 1) 0∧lkp tt 5 = .ptr (h.length + 3) 0∧H'.take (h.length + 4) = h ++ [.cells [.lst [] .full],.cells [.int .i64 0],.cells [.int .i64 0],.cells [.lst (ts.map Tok.enc) (.own 4)]]:=by
  rw [←hr]
  clear hr hR
  generalize hT:up (up (up (up (up (up (qa.str s :: List.replicate 21 (.tup [])) 2 (.ptr h.length 0)) 3 (.ptr (h.length + 1) 0)) 4 (.ptr (h.length + 2) 0)) 5 (.ptr (h.length + 3) 0)) 8 (.str s)) 9 (.fn 94 [] [.ptr (h.length + 4) 0]) = T0
  have d22:T0.length = 22:=by rw [←hT];simp only [sT.1,sC.1,qc,qb,Nat.testBit,reduceCtorEq,Nat.reduceAdd,Nat.reduceSub,Nat.reduceLT,Nat.reduceEqDiff,Nat.reduceLeDiff,Nat.reduceMul,Int.reduceToNat,Nat.reduceShiftRight,Nat.reduceAnd,Nat.reduceBneDiff,Nat.reduceBEq]
  have d2:lkp T0 2 = .ptr h.length 0:=by rw [←hT];simp only [sT.1,sC.1,qc,qb,Nat.testBit,reduceCtorEq,Nat.reduceAdd,Nat.reduceSub,Nat.reduceLT,Nat.reduceEqDiff,Nat.reduceLeDiff,Nat.reduceMul,Int.reduceToNat,Nat.reduceShiftRight,Nat.reduceAnd,Nat.reduceBneDiff,Nat.reduceBEq]
  have d3:lkp T0 3 = .ptr (h.length + 1) 0:=by rw [←hT];simp only [sT.1,sC.1,qc,qb,Nat.testBit,reduceCtorEq,Nat.reduceAdd,Nat.reduceSub,Nat.reduceLT,Nat.reduceEqDiff,Nat.reduceLeDiff,Nat.reduceMul,Int.reduceToNat,Nat.reduceShiftRight,Nat.reduceAnd,Nat.reduceBneDiff,Nat.reduceBEq]
  have d4:lkp T0 4 = .ptr (h.length + 1 + 1) 0:=by rw [←hT];simp only [sT.1,sC.1,qc,qb,Nat.testBit,reduceCtorEq,Nat.reduceAdd,Nat.reduceSub,Nat.reduceLT,Nat.reduceEqDiff,Nat.reduceLeDiff,Nat.reduceMul,Int.reduceToNat,Nat.reduceShiftRight,Nat.reduceAnd,Nat.reduceBneDiff,Nat.reduceBEq]
  have d5:lkp T0 5 = .ptr (h.length + 3) 0:=by rw [←hT];simp only [sT.1,sC.1,qc,qb,Nat.testBit,reduceCtorEq,Nat.reduceAdd,Nat.reduceSub,Nat.reduceLT,Nat.reduceEqDiff,Nat.reduceLeDiff,Nat.reduceMul,Int.reduceToNat,Nat.reduceShiftRight,Nat.reduceAnd,Nat.reduceBneDiff,Nat.reduceBEq]
  have d9:ev T0 (.t 9) = .fn 94 [] [.ptr (h.length + 4) 0]:=by rw [←hT];simp only [sT.1,sC.1,qc,qb,Nat.testBit,reduceCtorEq,Nat.reduceAdd,Nat.reduceSub,Nat.reduceLT,Nat.reduceEqDiff,Nat.reduceLeDiff,Nat.reduceMul,Int.reduceToNat,Nat.reduceShiftRight,Nat.reduceAnd,Nat.reduceBneDiff,Nat.reduceBEq]
  have dm:T0.map qa.dim = T0:=by rw [←hT];simp only [up,List.replicate,List.set_cons_succ,List.set_cons_zero,List.map_cons,List.map_nil,qoc,qod,qob,qu1]
  have hl5:(h ++ [qf.cells [.lst [] .full],.cells [.int .i64 0],.cells [.int .i64 0],.cells [.lst [] .full],.cells [.str s]]).length = h.length + 5:=by simp
  have hL:qhw s h.length (h.length + 3) (h.length + 4) (h.length + 5) T0 [] ((h ++ [qf.cells [.lst [] .full],.cells [.int .i64 0],.cells [.int .i64 0],.cells [.lst [] .full],.cells [.str s]]) ++ [.loop T0 [10,11] qbl qdg .ready none]):=by
   rw [List.append_assoc]
   refine ⟨?_,?_,?_,⟨_,.inl ⟨rfl,rfl⟩,?_⟩,?_,?_,by omega⟩
   ·rw [qcv rfl];rfl
   ·rw [qbQ];rfl
   ·rw [Nat.add_assoc,qbQ];rfl
   ·rw [qbQ];rfl
   ·rw [qbQ];rfl
   ·rw [qbQ];rfl
  obtain ⟨R,hc,hE⟩:=qvB hx hs d22 d2 d3 d4 d5 hW hL hn (by simp)
  rw [qcS] at hE
  have hRl:h.length + 5 < R.length:=by
   have:=congrArg List.length hE
   rw [List.length_take,List.length_take] at this
   simp at this
   omega
  have g5:R[h.length + 5]? = some (.loop T0 [10,11] qbl qdg .ready none):=by
   have:=congrArg (fun x=>x[h.length + 5]?) hE
   simp only [List.getElem?_take_of_lt (Nat.lt_succ_self (h.length + 5))] at this
   rw [this,List.getElem?_set_ne (by omega)]
   exact hL.box
  refine ⟨T0,_,qug (v:=.tup []) d9 (by rw [dm,hl5];exact hc) (by rw [hl5];exact g5),d22,d2,d3,d4,d5,?_⟩
  rw [hl5,List.take_set_of_le (by omega)]
  have:=congrArg (List.take (h.length + 4)) hE
  rw [List.take_take,List.take_take,Nat.min_eq_left (by omega)] at this
  rw [this,List.append_assoc,List.set_append_right _ _ (by omega),List.take_append]
  simp
  exact List.take_of_length_le (by omega)
 have hlen:h.length + 4 ≤ H'.length:=by
  have:=congrArg List.length hE
  rw [List.length_take] at this
  simp at this
  omega
 have gk:∀k,k < h.length + 4→H'[k]? = (h ++ [.cells [.lst [] .full],.cells [.int .i64 0],.cells [.int .i64 0],.cells [.lst (ts.map Tok.enc) (.own 4)]])[k]?:=fun k hk=>by rw [←hE,List.getElem?_take_of_lt hk]
 have r0:H'[h.length]? = some (.cells [.lst [] .full]):=by rw [gk _ (by omega),qcv rfl];rfl
 have r1:H'[h.length + 1]? = some (.cells [.int .i64 0]):=by rw [gk _ (by omega),qbQ];rfl
 have r2:H'[h.length + 1 + 1]? = some (.cells [.int .i64 0]):=by rw [Nat.add_assoc,gk _ (by omega),qbQ];rfl
 have r3:H'[h.length + 3]? = some (.cells [.lst (ts.map Tok.enc) (.own 4)]):=by rw [gk _ (by omega),qbQ];rfl
 have hlow:=qdS (h.length + 1) ts
 have l0:h.length < H'.length:=by omega
 have l1:h.length + 1 < H'.length:=by omega
 have l2:h.length + 1 + 1 < H'.length:=by omega
 have l3:h.length + 3 < H'.length:=by omega
 have m1:¬ (h.length = h.length + 1):=by omega
 have m2:¬ (h.length = h.length + 1 + 1):=by omega
 have m3:¬ (h.length + 1 = h.length + 1 + 1):=by omega
 have m4:¬ (h.length + 1 = h.length):=by omega
 have m5:¬ (h.length + 1 + 1 = h.length):=by omega
 have m6:¬ (h.length + 1 + 1 = h.length + 1):=by omega
 rw [←hR]
 simp only [sT.1,sC.1,qc,qb,Nat.testBit,reduceCtorEq,Nat.reduceAdd,Nat.reduceSub,Nat.reduceLT,Nat.reduceEqDiff,Nat.reduceLeDiff,Nat.reduceMul,Int.reduceToNat,Nat.reduceShiftRight,Nat.reduceAnd,Nat.reduceBneDiff,Nat.reduceBEq,ht,e2,e3,e4,e5,r0,r1,r2,r3,l0,l1,l2,l3,m1,m2,m3,m4,m5,m6]
 refine congrArg some (qa0 ?_ ?_)
 ·rw [List.take_set_of_le (by omega),List.take_set_of_le (by omega),List.take_set_of_le (by omega)]
  have:=congrArg (List.take h.length) hE
  rw [List.take_take,Nat.min_eq_left (by omega)] at this
  rw [this,List.take_append_of_le_length (Nat.le_refl _),List.take_length]
 ·simp [qa.lower,qy,qdS]
end
end Go.Proofs.YtkmlapholimbcaaGreatDoor.AE
