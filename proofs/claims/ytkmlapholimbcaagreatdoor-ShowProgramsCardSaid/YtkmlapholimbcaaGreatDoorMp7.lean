/- A part of the proof: the abstract executor and what goes through it (part 7). No condition. -/
import Derived.Test.YtkmlapholimbcaaGreatDoorMp6
import Derived.Test.YtkmlapholimbcaaGreatDoorMp2
import Derived.KernelRfl
import Derived.Laws.BitsLemmas
set_option maxRecDepth 100000
namespace Go.Proofs.YtkmlapholimbcaaGreatDoor.AE
open Go.AE
theorem qEh:(qxL T.get X0 400 (.fn 6 [] []) [] []).map (fun r=>(r.1,r.2.1)) = some (.ret (.bool true),[]):=by kernel_rfl
theorem qyu:∃e,run T.get X0 400 (.fn 6 [] []) [] [] = some (.ret (.bool true),[],e):=by
 have h:=qEh
 rw [qjr] at h
 obtain ⟨⟨r,hh,e⟩,h1,h2⟩:=Option.map_eq_some_iff.1 h
 simp only [Prod.mk.injEq] at h2
 obtain ⟨rfl,rfl⟩:=h2
 exact ⟨e,h1⟩
end Go.Proofs.YtkmlapholimbcaaGreatDoor.AE
namespace Go.Proofs.YtkmlapholimbcaaGreatDoor.AE
open Go.AE
theorem qg8:qmT X where
 mono f g h:=by
  unfold X at h
  split at h
  all_goals first
   | (cases h;exact fun c d hc aS h=>qk2 hc (Nat.le_refl _))
   | (cases h;exact fun c d hc aS h x hx=>hx)
   | cases h
 cont f g h:=by
  unfold X at h
  split at h
  all_goals first
   | (cases h;exact fun c hc aS h x hx=>qk1 hc hx)
   | (cases h;exact fun c hc aS h x hx=>⟨0,hx⟩)
   | cases h
noncomputable def Wd:AE.Call:=W T.get X
theorem qt {f:FuncId} {first args cap:List qf} {h:List qq} {fn:qw} (h1:X f = none) (h2:T.get f = some fn) :
  Wd (.fn f first cap) args h = qsy fn.results h (qx h.length Wd fn.code ⟨(first ++ args ++ cap).map qf.dim ++ List.replicate (fn.ntmps - ((first ++ args ++ cap).map qf.dim).length) (.tup []),h,false⟩):=qEe qg8 h1 h2
theorem qbG {n:Int} (h1:-9223372036854775808 ≤ n) (h2:n ≤ 9223372036854775807):IntKind.i64.wrap n = n:=by
 rw [IntKind.wrap_i64]
 omega
theorem qE {n:Nat} (h:n < 9223372036854775807):IntKind.i64.wrap ((n:Int) + 1) = ((n + 1:Nat):Int):=by
 rw [qbG (by omega) (by omega)]
 rfl
abbrev Str:=List UInt8
def qpq (c:UInt8):Bool:=ile 97 (c.toNat:Int) && ile (c.toNat:Int) 122
def qv0 (c:UInt8):Bool:=ile 48 (c.toNat:Int) && ile (c.toNat:Int) 57
def qai:Nat→Str→Bool
 | _,[]=>true
 | i,c :: s=>bif !qpq c && (i == 0 || !qv0 c) then false else qai (i + 1) s
def qcs (s:Str):Bool:=decide (1 ≤ s.length) && decide (s.length ≤ 16) && qai 0 s
theorem qaq (s:Str) (h:List qq):Wd (.fn 75 [] []) [.str s] h = some (.ret (.bool (qcs s)),h,false):=by
 have loop:∀k st,(∃tt i,st = ⟨tt,h,false⟩∧tt.length = 50∧lkp tt 0 = .str s∧lkp tt 15 = .int .i64 (s.length:Nat)∧lkp tt 16 = .int .i64 (i:Nat)∧i + k = s.length∧qai i (s.drop i) = qai 0 s∧s.length ≤ 16)→
   ∃x st',qx h.length Wd (.loop qlG) st = some (x,st')∧((x = .exit 0∧qai 0 s = true∧∃tt,st' = ⟨tt,h,false⟩∧tt.length = 50)∨(x = .ret∧qai 0 s = false∧∃tt,st' = ⟨tt,h,false⟩∧tt.length = 50∧lkp tt 2 = .bool false)):=by
  refine qD _ (fun x st'=>(x = .exit 0∧qai 0 s = true∧∃tt,st' = ⟨tt,h,false⟩∧tt.length = 50)∨(x = .ret∧qai 0 s = false∧∃tt,st' = ⟨tt,h,false⟩∧tt.length = 50∧lkp tt 2 = .bool false)) ?_
  rintro k st ⟨tt,i,rfl,ht,e0,e15,e16,hik,hR,hl⟩
  generalize he:qx h.length Wd qlG _ = r
  rcases Nat.lt_or_ge i s.length with hi | hi
  ·have c1:ilt (i:Int) (s.length:Int) = true:=by rw [qaj];simp;omega
   have hx:qha (.str s) (.int .i64 (i:Nat)) = some (.int .u8 (s[i].toNat:Nat)):=qjX (List.getElem?_eq_getElem hi)
   have w:=qE (n:=i) (by omega)
   rw [List.drop_eq_getElem_cons hi,qai] at hR
   simp only [qpq,qv0] at hR
   have hz:((i:Int) == 0) = (i == 0):=by rw [Bool.eq_iff_iff];simp
   simp only [qlG,sT.1,sC.1,qe,qd,Nat.testBit,simprocAttr,-Int.reduceNatCast',ht,e0,e15,e16,c1,hx,w,hz] at he
   cases hb:(!(ile 97 (s[i].toNat:Int) && ile (s[i].toNat:Int) 122) && (i == 0 || !(ile 48 (s[i].toNat:Int) && ile (s[i].toNat:Int) 57))) with
   | true=>
    rw [hb] at hR
    simp only [hb,sT.1,sC.1,qe,qd,Nat.testBit,simprocAttr,-Int.reduceNatCast',ht] at he
    subst he
    refine .inr ⟨_,_,rfl,by simp,.inr ⟨rfl,by simpa using hR.symm,_,rfl,by simp only [qh,ht],?_⟩⟩
    simp only [sT.1,sC.1,qe,qd,Nat.testBit,simprocAttr,-Int.reduceNatCast',ht]
   | false=>
    rw [hb] at hR
    simp only [hb,sT.1,sC.1,qe,qd,Nat.testBit,simprocAttr,-Int.reduceNatCast',ht,e16,w] at he
    subst he
    refine .inl ⟨_,k - 1,rfl,by omega,_,i + 1,rfl,by simp only [qh,ht],?_,?_,?_,by omega,by simpa using hR,hl⟩
    ·simp only [sT.1,sC.1,qe,qd,Nat.testBit,simprocAttr,-Int.reduceNatCast',ht,e0]
    ·simp only [sT.1,sC.1,qe,qd,Nat.testBit,simprocAttr,-Int.reduceNatCast',ht,e15]
    ·simp only [sT.1,sC.1,qe,qd,Nat.testBit,simprocAttr,-Int.reduceNatCast',ht]
  ·have c1:ilt (i:Int) (s.length:Int) = false:=by rw [qaj];simp;omega
   simp only [qlG,sT.1,sC.1,qe,qd,Nat.testBit,simprocAttr,-Int.reduceNatCast',ht,e0,e15,e16,c1] at he
   subst he
   rw [List.drop_eq_nil_of_le hi,qai] at hR
   exact .inr ⟨_,_,rfl,by simp,.inl ⟨rfl,hR.symm,_,rfl,by simp only [qh,ht]⟩⟩
 rw [qt rfl (show T.get 75 = some c75 by kernel_rfl)]
 by_cases g1:1 ≤ s.length
 ·have d1:ilt (s.length:Int) 1 = false:=by rw [qaj];simp;omega
  by_cases g2:s.length ≤ 16
  ·have d2:ilt 16 (s.length:Int) = false:=by rw [qaj];simp;omega
   simp only [c75,sT.1,sC.1,qe,qd,Nat.testBit,simprocAttr,-Int.reduceNatCast',d1,d2]
   generalize hr:qx h.length Wd (.loop qlG) _ = r
   obtain ⟨x,st',rfl,hq⟩:=qaT hr (loop s.length _ ⟨_,0,rfl,by simp only [sT.1,sC.1,qe,qd,Nat.testBit,simprocAttr,-Int.reduceNatCast'],by simp only [sT.1,sC.1,qe,qd,Nat.testBit,simprocAttr,-Int.reduceNatCast'],by simp only [sT.1,sC.1,qe,qd,Nat.testBit,simprocAttr,-Int.reduceNatCast'],by simp only [sT.1,sC.1,qe,qd,Nat.testBit,simprocAttr,-Int.reduceNatCast',Int.natCast_zero],by omega,rfl,g2⟩)
   rcases hq with ⟨rfl,hv,tt,rfl,ht⟩ | ⟨rfl,hv,tt,rfl,ht,e2⟩
   ·simp only [sT.1,sC.1,qe,qd,Nat.testBit,simprocAttr,-Int.reduceNatCast',ht]
    simp [qcs,g1,g2,hv]
   ·simp only [sT.1,sC.1,qe,qd,Nat.testBit,simprocAttr,-Int.reduceNatCast',ht,e2]
    simp [qcs,g1,g2,hv]
  ·have d2:ilt 16 (s.length:Int) = true:=by rw [qaj];simp;omega
   simp only [c75,sT.1,sC.1,qe,qd,Nat.testBit,simprocAttr,-Int.reduceNatCast',d1,d2]
   simp [qcs,g2]
 ·have d1:ilt (s.length:Int) 1 = true:=by rw [qaj];simp;omega
  simp only [c75,sT.1,sC.1,qe,qd,Nat.testBit,simprocAttr,-Int.reduceNatCast',d1]
  simp [qcs,g1]
def qDg:qf→Str
 | .str s=>s
 | _=>[]
def words:List Str:=g0.map qDg
theorem qut:g0 = words.map qf.str:=by kernel_rfl
theorem qrn:words.length = 33:=by kernel_rfl
def qbg (s:Str):Bool:=words.any (· == s)
theorem qjo (s:Str) (h:List qq):Wd (.fn 76 [] []) [.str s] h = some (.ret (.bool (qbg s)),h,false):=by
 have loop:∀k st,(∃tt i,st = ⟨tt,h,false⟩∧tt.length = 13∧lkp tt 0 = .str s∧lkp tt 5 = .agg g0∧lkp tt 6 = .int .i64 (i:Nat)∧i + k = 33∧(words.drop i).any (· == s) = qbg s)→
   ∃x st',qx h.length Wd (.loop qi7) st = some (x,st')∧((x = .exit 0∧qbg s = false∧∃tt,st' = ⟨tt,h,false⟩∧tt.length = 13)∨(x = .ret∧qbg s = true∧∃tt,st' = ⟨tt,h,false⟩∧tt.length = 13∧lkp tt 2 = .bool true)):=by
  refine qD _ (fun x st'=>(x = .exit 0∧qbg s = false∧∃tt,st' = ⟨tt,h,false⟩∧tt.length = 13)∨(x = .ret∧qbg s = true∧∃tt,st' = ⟨tt,h,false⟩∧tt.length = 13∧lkp tt 2 = .bool true)) ?_
  rintro k st ⟨tt,i,rfl,ht,e0,e5,e6,hik,hR⟩
  generalize he:qx h.length Wd qi7 _ = r
  have hlen:=qrn
  rcases Nat.lt_or_ge i 33 with hi | hi
  ·have c1:ilt (i:Int) 33 = true:=by rw [qaj];simp;omega
   have hx:qhJ 33 none (.agg g0) (.int .i64 (i:Nat)) = some (.str (words[i]'(by omega))):=by
    rw [qs9 (v:=.str (words[i]'(by omega))) hi (by rw [qut,List.getElem?_map,List.getElem?_eq_getElem (by omega)];rfl)]
    rfl
   have w:=qE (n:=i) (by omega)
   rw [List.drop_eq_getElem_cons (by omega),List.any_cons] at hR
   cases hb:((words[i]'(by omega)) == s) with
   | true=>
    rw [hb] at hR
    simp only [qi7,sT.1,sC.1,qe,qd,Nat.testBit,simprocAttr,-Int.reduceNatCast',ht,e0,e5,e6,c1,hx,hb] at he
    subst he
    refine .inr ⟨_,_,rfl,by simp,.inr ⟨rfl,by simpa using hR.symm,_,rfl,by simp only [qh,ht],?_⟩⟩
    simp only [sT.1,sC.1,qe,qd,Nat.testBit,simprocAttr,-Int.reduceNatCast',ht]
   | false=>
    rw [hb] at hR
    simp only [qi7,sT.1,sC.1,qe,qd,Nat.testBit,simprocAttr,-Int.reduceNatCast',ht,e0,e5,e6,c1,hx,hb,w] at he
    subst he
    refine .inl ⟨_,k - 1,rfl,by omega,_,i + 1,rfl,by simp only [qh,ht],?_,?_,?_,by omega,by simpa using hR⟩
    ·simp only [sT.1,sC.1,qe,qd,Nat.testBit,simprocAttr,-Int.reduceNatCast',ht,e0]
    ·simp only [sT.1,sC.1,qe,qd,Nat.testBit,simprocAttr,-Int.reduceNatCast',ht,e5]
    ·simp only [sT.1,sC.1,qe,qd,Nat.testBit,simprocAttr,-Int.reduceNatCast',ht]
  ·have c1:ilt (i:Int) 33 = false:=by rw [qaj];simp;omega
   simp only [qi7,sT.1,sC.1,qe,qd,Nat.testBit,simprocAttr,-Int.reduceNatCast',ht,e0,e5,e6,c1] at he
   subst he
   rw [List.drop_eq_nil_of_le (by omega),List.any_nil] at hR
   exact .inr ⟨_,_,rfl,by simp,.inl ⟨rfl,hR.symm,_,rfl,by simp only [qh,ht]⟩⟩
 have hg:cut g0 0 (some 33) = some (.agg g0):=by kernel_rfl
 rw [qt rfl (show T.get 76 = some c76 by kernel_rfl)]
 simp only [c76,sT.1,sC.1,qe,qd,Nat.testBit,simprocAttr,-Int.reduceNatCast',hg]
 generalize hr:qx h.length Wd (.loop qi7) _ = r
 obtain ⟨x,st',rfl,hq⟩:=qaT hr (loop 33 _ ⟨_,0,rfl,by simp only [sT.1,sC.1,qe,qd,Nat.testBit,simprocAttr,-Int.reduceNatCast'],by simp only [sT.1,sC.1,qe,qd,Nat.testBit,simprocAttr,-Int.reduceNatCast'],by simp only [sT.1,sC.1,qe,qd,Nat.testBit,simprocAttr,-Int.reduceNatCast'],by simp only [sT.1,sC.1,qe,qd,Nat.testBit,simprocAttr,-Int.reduceNatCast',Int.natCast_zero],by omega,rfl⟩)
 rcases hq with ⟨rfl,hv,tt,rfl,ht⟩ | ⟨rfl,hv,tt,rfl,ht,e2⟩
 ·simp only [sT.1,sC.1,qe,qd,Nat.testBit,simprocAttr,-Int.reduceNatCast',ht,hv]
 ·simp only [sT.1,sC.1,qe,qd,Nat.testBit,simprocAttr,-Int.reduceNatCast',ht,e2,hv]
def qG (s:Str):Bool:=qcs s && !qbg s
theorem qK (s:Str) (h:List qq):Wd (.fn 46 [] []) [.str s] h = some (.ret (.bool (qG s)),h,false):=by
 rw [qt rfl (show T.get 46 = some c46 by kernel_rfl)]
 cases hv:qcs s <;> cases hr:qbg s <;> (simp only [c46,sT.1,sC.1,qe,qd,Nat.testBit,simprocAttr,-Int.reduceNatCast',qaq,qjo,hv,hr];simp [qG,hv,hr])
end Go.Proofs.YtkmlapholimbcaaGreatDoor.AE
namespace Go.AE
section
variable {k:Nat} {vs:List (List qf)}
theorem qtq {cs:List qf} (hd:∀c ∈ cs,c.dim = c):cs.map qf.dim = cs:=by
 induction cs with
 | nil=>rfl
 | cons c cs ih=>rw [List.map_cons,hd c List.mem_cons_self,ih fun x hx=>hd x (List.mem_cons_of_mem _ hx)]
end
def qgc (cs:List qf):Prop:=∀c ∈ cs,c.dim = c∧c.storable = true
theorem qgc.dims {cs:List qf} (h:qgc cs):cs.map qf.dim = cs:=qtq fun c hc=>(h c hc).1
theorem qgc.all {cs:List qf} (h:qgc cs):cs.all qf.storable = true:=List.all_eq_true.2 fun c hc=>(h c hc).2
section
variable {base k n id id2:Nat} {h:List qq} {row cs:List qf}
theorem qqL (h2:h[id2]? = some (.cells row)) (hk:row.length = k) (hs:qgc row):qdD k h (.sl id2 0 1 1 0) = some (row,1):=by
 have:row.take k = row:=List.take_of_length_le (by omega)
 simp [qdD,h2,hk,this,hs.dims]
theorem qmX (h2:h[id2]? = some (.cells row)) (hk:row.length = k) (hs:qgc row):hop base (.app k) [.lst [] .full,.sl id2 0 1 1 0] h = some (.sl h.length 0 1 1 k,h ++ [.cells row],false):=by
 have e:qdD k h (.lst [] .full) = some ([],0):=rfl
 simp [hop,qfe,qqL h2 hk hs,hs.all,e,qo]
theorem qrB (h1:h[id]? = some (.cells cs)) (h2:h[id2]? = some (.cells row)) (hk:row.length = k) (hc:cs.length = n * k) (hs:qgc row) (hs2:qgc cs) (hn:n ≤ 100000) (hk0:k ≠ 0):hop base (.app k) [.sl id 0 n n k,.sl id2 0 1 1 0] h = some (.sl h.length 0 (n + 1) (n + 1) k,h.set id .dead ++ [.cells (cs ++ row)],false):=by
 have e:qdD k h (.sl id 0 n n k) = some (cs,n):=by
  have:cs.take (n * k) = cs:=List.take_of_length_le (by omega)
  simp [qdD,h1,hc,this,hs2.dims]
 have hl:n + 1 ≤ qo:=by simp only [qo];omega
 have hl2:¬ n + 1 ≤ n:=by omega
 simp only [hop,qfe,qqL h2 hk hs,hs.all,e,h1,Bool.not_true,Bool.false_eq_true,if_false,Nat.succ_ne_zero,hl,hl2,if_true]
 simp [hk0,hc]
end
end Go.AE
namespace Go.Proofs.YtkmlapholimbcaaGreatDoor.AE
open Go.AE
end Go.Proofs.YtkmlapholimbcaaGreatDoor.AE
namespace Go.Proofs.YtkmlapholimbcaaGreatDoor.AE
open Go.AE
def Cov (H:Nat→Option qq) (g:List qq):Prop:=∀i x,H i = some x→g[i]? = some x
theorem Cov.lt {H:Nat→Option qq} {g:List qq} (h:Cov H g) {i:Nat} {x:qq} (hi:H i = some x):i < g.length:=(List.getElem?_eq_some_iff.1 (h i x hi)).1
theorem Cov.more {H:Nat→Option qq} {g:List qq} (h:Cov H g) (l:List qq):Cov H (g ++ l):=fun i x hi=>by
 rw [List.getElem?_append_left (h.lt hi)]
 exact h i x hi
theorem Cov.set {H:Nat→Option qq} {g:List qq} (h:Cov H g) {j:Nat} (hj:H j = none) (b:qq):Cov H (g.set j b):=fun i x hi=>by
 have:j ≠ i:=fun e=>by subst e;rw [hj] at hi;cases hi
 rw [List.getElem?_set_ne this]
 exact h i x hi
end Go.Proofs.YtkmlapholimbcaaGreatDoor.AE
namespace Go.Proofs.YtkmlapholimbcaaGreatDoor.AE
open Go.AE
section
variable {base:Nat} {call:AE.Call} {dsts:List Nat} {s:St} {pend:List (Nat×Chk)}
end
inductive Exl where
 | mk (op n:Int) (nm sb:Str) (aS:List Exl)
def Exl.enc:Exl→List qf
 | .mk op n nm sb aS=>[.int .i64 op,.int .i64 n,.str nm,.str sb,.lst (aS.map fun e=>.agg e.enc) .no]
def exV (e:Exl):qf:=.agg e.enc
theorem qbo (op n:Int) (nm sb:Str) (aS:List Exl):(Exl.mk op n nm sb aS).enc = [.int .i64 op,.int .i64 n,.str nm,.str sb,.lst (aS.map exV) .no]:=by rw [Exl.enc];rfl
theorem ql (op n:Int) (nm sb:Str) (aS:List Exl):exV (.mk op n nm sb aS) = .agg [.int .i64 op,.int .i64 n,.str nm,.str sb,.lst (aS.map exV) .no]:=by rw [exV,qbo]
def Fit:Nat→Exl→Prop
 | 0,_=>False
 | d + 1,.mk _ _ _ _ aS=>aS.length ≤ 20∧∀a ∈ aS,Fit d a
theorem cc1:((1:Nat):Int) = 1:=Eq.trans rfl rfl
theorem cc0:((0:Nat):Int) = 0:=Eq.trans rfl rfl
theorem w1:IntKind.i64.wrap 1 = 1:=by kernel_rfl
def sz:Nat→Exl→Nat
 | 0,_=>0
 | d + 1,.mk _ _ _ _ aS=>1 + (aS.map (sz d)).sum
end Go.Proofs.YtkmlapholimbcaaGreatDoor.AE
namespace Go.Proofs.YtkmlapholimbcaaGreatDoor.AE
open Go.AE
def fB (nb mb sb:Bool) (lo hi n:Int) (nm sub:Str) (k:Nat):Bool:=(nb || n == 0) && ((mb || nm == []) && ((sb || sub == []) && (ile lo (k:Int) && ile (k:Int) hi)))
section
variable {h:List qq}
set_option maxHeartbeats 1000000 in
theorem qat (op n:Int) (nm sub:Str) (aS:List qf) (nb mb sb:Bool) (lo hi:Int) :
  Wd (.fn 91 [] []) [.agg [.int .i64 op,.int .i64 n,.str nm,.str sub,.lst aS .no],.bool nb,.bool mb,.bool sb,.int .i64 lo,.int .i64 hi] h = some (.ret (.bool (fB nb mb sb lo hi n nm sub aS.length)),h,false):=by
 rw [qt rfl (show T.get 91 = some c91 by kernel_rfl)]
 by_cases a1:nb = true∨(nb = false∧(n == 0) = true)
 ·by_cases a2:mb = true∨(mb = false∧(nm == []) = true)
  ·by_cases a3:sb = true∨(sb = false∧(sub == []) = true)
   ·cases c1:ile lo (aS.length:Int) <;>
    rcases a1 with rfl | ⟨rfl,b1⟩ <;> rcases a2 with rfl | ⟨rfl,b2⟩ <;> rcases a3 with rfl | ⟨rfl,b3⟩ <;> simp only [c91,sT.1,sC.1,qe,qd,Nat.testBit,simprocAttr,-Int.reduceNatCast',fB, *]
   ·have e3:sb = false:=by cases sb <;> simp_all
    subst e3
    have b3:(sub == []) = false:=by cases hq:(sub == []) <;> simp_all
    rcases a1 with rfl | ⟨rfl,b1⟩ <;> rcases a2 with rfl | ⟨rfl,b2⟩ <;> simp only [c91,sT.1,sC.1,qe,qd,Nat.testBit,simprocAttr,-Int.reduceNatCast',fB, *]
  ·have e3:mb = false:=by cases mb <;> simp_all
   subst e3
   have b3:(nm == []) = false:=by cases hq:(nm == []) <;> simp_all
   rcases a1 with rfl | ⟨rfl,b1⟩ <;> simp only [c91,sT.1,sC.1,qe,qd,Nat.testBit,simprocAttr,-Int.reduceNatCast',fB, *]
 ·have e3:nb = false:=by cases nb <;> simp_all
  subst e3
  have b3:(n == 0) = false:=by cases hq:(n == 0) <;> simp_all
  simp only [c91,sT.1,sC.1,qe,qd,Nat.testBit,simprocAttr,-Int.reduceNatCast',fB, *]
def nB0 (n:Int) (nm sub:Str) (k:Nat):Bool:=fB true false false 0 0 n nm sub k && ile 0 n
def nB1 (n:Int) (nm sub:Str) (k:Nat):Bool:=fB false false false 0 0 n nm sub k
def nB2 (n:Int) (nm sub:Str) (k:Nat):Bool:=fB false false false 0 0 n nm sub k
def nB3 (n:Int) (nm sub:Str) (k:Nat):Bool:=fB false true false 0 0 n nm sub k && qcs nm
def nB4 (n:Int) (nm sub:Str) (k:Nat):Bool:=fB false true false 0 0 n nm sub k && qG nm
def nB5 (n:Int) (nm sub:Str) (k:Nat):Bool:=fB false true true 0 0 n nm sub k && (qG nm && qG sub)
def nB6 (n:Int) (nm sub:Str) (k:Nat):Bool:=fB false false false 1 4 n nm sub k
def nB7 (n:Int) (nm sub:Str) (k:Nat):Bool:=fB false true false 0 0 n nm sub k && qG nm
def nB8 (n:Int) (nm sub:Str) (k:Nat):Bool:=fB false true false 0 0 n nm sub k && qG nm
def nB9 (n:Int) (nm sub:Str) (k:Nat):Bool:=fB false true false 0 0 n nm sub k && qG nm
def qwW (n:Int) (nm sub:Str) (k:Nat):Bool:=fB false true false 1 1 n nm sub k && qG nm
def qwX (n:Int) (nm sub:Str) (k:Nat):Bool:=fB false false false 0 0 n nm sub k
def qwY (n:Int) (nm sub:Str) (k:Nat):Bool:=fB true false false 1 1 n nm sub k && (ile 0 n && ilt n 4)
def qwZ (n:Int) (nm sub:Str) (k:Nat):Bool:=fB false false false 1 1 n nm sub k
def qw0 (n:Int) (nm sub:Str) (k:Nat):Bool:=fB false false false 1 1 n nm sub k
def qw1 (n:Int) (nm sub:Str) (k:Nat):Bool:=fB false false false 2 2 n nm sub k
def qw2 (n:Int) (nm sub:Str) (k:Nat):Bool:=fB false false false 2 2 n nm sub k
def qw3 (n:Int) (nm sub:Str) (k:Nat):Bool:=fB false false false 2 2 n nm sub k
def qw4 (n:Int) (nm sub:Str) (k:Nat):Bool:=fB false false false 2 2 n nm sub k
def qw5 (n:Int) (nm sub:Str) (k:Nat):Bool:=fB false false false 2 2 n nm sub k
def qw6 (n:Int) (nm sub:Str) (k:Nat):Bool:=fB false false false 2 2 n nm sub k
def qw7 (n:Int) (nm sub:Str) (k:Nat):Bool:=fB false false false 2 2 n nm sub k
def qw8 (n:Int) (nm sub:Str) (k:Nat):Bool:=fB false false false 2 2 n nm sub k
def qw9 (n:Int) (nm sub:Str) (k:Nat):Bool:=fB false false false 2 2 n nm sub k
def qxa (n:Int) (nm sub:Str) (k:Nat):Bool:=fB false false false 2 2 n nm sub k
def qxb (n:Int) (nm sub:Str) (k:Nat):Bool:=fB false false false 3 3 n nm sub k
def qhX (op n:Int) (nm sub:Str) (k:Nat):Bool:=
 bif op == 0 then nB0 n nm sub k else 
 bif op == 1 then nB1 n nm sub k else 
 bif op == 2 then nB2 n nm sub k else 
 bif op == 3 then nB3 n nm sub k else 
 bif op == 4 then nB4 n nm sub k else 
 bif op == 5 then nB5 n nm sub k else 
 bif op == 6 then nB6 n nm sub k else 
 bif op == 7 then nB7 n nm sub k else 
 bif op == 8 then nB8 n nm sub k else 
 bif op == 9 then nB9 n nm sub k else 
 bif op == 10 then qwW n nm sub k else 
 bif op == 11 then qwX n nm sub k else 
 bif op == 12 then qwY n nm sub k else 
 bif op == 13 then qwZ n nm sub k else 
 bif op == 14 then qw0 n nm sub k else 
 bif op == 15 then qw1 n nm sub k else 
 bif op == 16 then qw2 n nm sub k else 
 bif op == 17 then qw3 n nm sub k else 
 bif op == 18 then qw4 n nm sub k else 
 bif op == 19 then qw5 n nm sub k else 
 bif op == 20 then qw6 n nm sub k else 
 bif op == 21 then qw7 n nm sub k else 
 bif op == 22 then qw8 n nm sub k else 
 bif op == 23 then qw9 n nm sub k else 
 bif op == 24 then qxa n nm sub k else 
 bif op == 25 then qxb n nm sub k else false
def ND (h:List qq) (op:Int) (B:Int→Str→Str→Nat→Bool):Prop:=∀(n:Int) (nm sub:Str) (aS:List qf),Wd (.fn 59 [] []) [.agg [.int .i64 op,.int .i64 n,.str nm,.str sub,.lst aS .no]] h = some (.ret (.bool (B n nm sub aS.length)),h,false)
set_option maxHeartbeats 1000000 in
theorem qzs:ND h 0 nB0:=by
 intro n nm sub aS
 have hf:=fun (h:List qq)=>qat (h:=h) 0 n nm sub aS true false false 0 0
 rw [qt rfl (show T.get 59 = some c59 by kernel_rfl)]
 cases hF:fB true false false 0 0 n nm sub aS.length <;> simp only [c59,sT.1,sC.1,qe,qd,Nat.testBit,simprocAttr,-Int.reduceNatCast',hf,hF,nB0,qaq,qK]
set_option maxHeartbeats 1000000 in
theorem qzt:ND h 1 nB1:=by
 intro n nm sub aS
 have hf:=fun (h:List qq)=>qat (h:=h) 1 n nm sub aS false false false 0 0
 rw [qt rfl (show T.get 59 = some c59 by kernel_rfl)]
 cases hF:fB false false false 0 0 n nm sub aS.length <;> simp only [c59,sT.1,sC.1,qe,qd,Nat.testBit,simprocAttr,-Int.reduceNatCast',hf,hF,nB1,qaq,qK]
set_option maxHeartbeats 1000000 in
theorem qzu:ND h 2 nB2:=by
 intro n nm sub aS
 have hf:=fun (h:List qq)=>qat (h:=h) 2 n nm sub aS false false false 0 0
 rw [qt rfl (show T.get 59 = some c59 by kernel_rfl)]
 cases hF:fB false false false 0 0 n nm sub aS.length <;> simp only [c59,sT.1,sC.1,qe,qd,Nat.testBit,simprocAttr,-Int.reduceNatCast',hf,hF,nB2,qaq,qK]
set_option maxHeartbeats 1000000 in
theorem qzv:ND h 3 nB3:=by
 intro n nm sub aS
 have hf:=fun (h:List qq)=>qat (h:=h) 3 n nm sub aS false true false 0 0
 rw [qt rfl (show T.get 59 = some c59 by kernel_rfl)]
 cases hF:fB false true false 0 0 n nm sub aS.length <;> simp only [c59,sT.1,sC.1,qe,qd,Nat.testBit,simprocAttr,-Int.reduceNatCast',hf,hF,nB3,qaq,qK]
set_option maxHeartbeats 1000000 in
theorem qzw:ND h 4 nB4:=by
 intro n nm sub aS
 have hf:=fun (h:List qq)=>qat (h:=h) 4 n nm sub aS false true false 0 0
 rw [qt rfl (show T.get 59 = some c59 by kernel_rfl)]
 cases hF:fB false true false 0 0 n nm sub aS.length <;> simp only [c59,sT.1,sC.1,qe,qd,Nat.testBit,simprocAttr,-Int.reduceNatCast',hf,hF,nB4,qaq,qK]
set_option maxHeartbeats 1000000 in
theorem qzx:ND h 5 nB5:=by
 intro n nm sub aS
 have hf:=fun (h:List qq)=>qat (h:=h) 5 n nm sub aS false true true 0 0
 rw [qt rfl (show T.get 59 = some c59 by kernel_rfl)]
 cases hF:fB false true true 0 0 n nm sub aS.length <;> cases h1:qG nm <;> simp only [c59,sT.1,sC.1,qe,qd,Nat.testBit,simprocAttr,-Int.reduceNatCast',hf,hF,nB5,qaq,qK,h1]
set_option maxHeartbeats 1000000 in
theorem qzy:ND h 6 nB6:=by
 intro n nm sub aS
 have hf:=fun (h:List qq)=>qat (h:=h) 6 n nm sub aS false false false 1 4
 rw [qt rfl (show T.get 59 = some c59 by kernel_rfl)]
 cases hF:fB false false false 1 4 n nm sub aS.length <;> simp only [c59,sT.1,sC.1,qe,qd,Nat.testBit,simprocAttr,-Int.reduceNatCast',hf,hF,nB6,qaq,qK]
set_option maxHeartbeats 1000000 in
theorem qzz:ND h 7 nB7:=by
 intro n nm sub aS
 have hf:=fun (h:List qq)=>qat (h:=h) 7 n nm sub aS false true false 0 0
 rw [qt rfl (show T.get 59 = some c59 by kernel_rfl)]
 cases hF:fB false true false 0 0 n nm sub aS.length <;> simp only [c59,sT.1,sC.1,qe,qd,Nat.testBit,simprocAttr,-Int.reduceNatCast',hf,hF,nB7,qaq,qK]
set_option maxHeartbeats 1000000 in
theorem qzA:ND h 8 nB8:=by
 intro n nm sub aS
 have hf:=fun (h:List qq)=>qat (h:=h) 8 n nm sub aS false true false 0 0
 rw [qt rfl (show T.get 59 = some c59 by kernel_rfl)]
 cases hF:fB false true false 0 0 n nm sub aS.length <;> simp only [c59,sT.1,sC.1,qe,qd,Nat.testBit,simprocAttr,-Int.reduceNatCast',hf,hF,nB8,qaq,qK]
set_option maxHeartbeats 1000000 in
theorem qzB:ND h 9 nB9:=by
 intro n nm sub aS
 have hf:=fun (h:List qq)=>qat (h:=h) 9 n nm sub aS false true false 0 0
 rw [qt rfl (show T.get 59 = some c59 by kernel_rfl)]
 cases hF:fB false true false 0 0 n nm sub aS.length <;> simp only [c59,sT.1,sC.1,qe,qd,Nat.testBit,simprocAttr,-Int.reduceNatCast',hf,hF,nB9,qaq,qK]
set_option maxHeartbeats 1000000 in
theorem qxe:ND h 10 qwW:=by
 intro n nm sub aS
 have hf:=fun (h:List qq)=>qat (h:=h) 10 n nm sub aS false true false 1 1
 rw [qt rfl (show T.get 59 = some c59 by kernel_rfl)]
 cases hF:fB false true false 1 1 n nm sub aS.length <;> simp only [c59,sT.1,sC.1,qe,qd,Nat.testBit,simprocAttr,-Int.reduceNatCast',hf,hF,qwW,qaq,qK]
set_option maxHeartbeats 1000000 in
theorem qxf:ND h 11 qwX:=by
 intro n nm sub aS
 have hf:=fun (h:List qq)=>qat (h:=h) 11 n nm sub aS false false false 0 0
 rw [qt rfl (show T.get 59 = some c59 by kernel_rfl)]
 cases hF:fB false false false 0 0 n nm sub aS.length <;> simp only [c59,sT.1,sC.1,qe,qd,Nat.testBit,simprocAttr,-Int.reduceNatCast',hf,hF,qwX,qaq,qK]
set_option maxHeartbeats 1000000 in
theorem qxg:ND h 12 qwY:=by
 intro n nm sub aS
 have hf:=fun (h:List qq)=>qat (h:=h) 12 n nm sub aS true false false 1 1
 rw [qt rfl (show T.get 59 = some c59 by kernel_rfl)]
 cases hF:fB true false false 1 1 n nm sub aS.length <;> cases h1:ile 0 n <;> simp only [c59,sT.1,sC.1,qe,qd,Nat.testBit,simprocAttr,-Int.reduceNatCast',hf,hF,qwY,qaq,qK,h1]
set_option maxHeartbeats 1000000 in
theorem qxh:ND h 13 qwZ:=by
 intro n nm sub aS
 have hf:=fun (h:List qq)=>qat (h:=h) 13 n nm sub aS false false false 1 1
 rw [qt rfl (show T.get 59 = some c59 by kernel_rfl)]
 cases hF:fB false false false 1 1 n nm sub aS.length <;> simp only [c59,sT.1,sC.1,qe,qd,Nat.testBit,simprocAttr,-Int.reduceNatCast',hf,hF,qwZ,qaq,qK]
set_option maxHeartbeats 1000000 in
theorem qxi:ND h 14 qw0:=by
 intro n nm sub aS
 have hf:=fun (h:List qq)=>qat (h:=h) 14 n nm sub aS false false false 1 1
 rw [qt rfl (show T.get 59 = some c59 by kernel_rfl)]
 cases hF:fB false false false 1 1 n nm sub aS.length <;> simp only [c59,sT.1,sC.1,qe,qd,Nat.testBit,simprocAttr,-Int.reduceNatCast',hf,hF,qw0,qaq,qK]
set_option maxHeartbeats 1000000 in
theorem qxj:ND h 15 qw1:=by
 intro n nm sub aS
 have hf:=fun (h:List qq)=>qat (h:=h) 15 n nm sub aS false false false 2 2
 rw [qt rfl (show T.get 59 = some c59 by kernel_rfl)]
 cases hF:fB false false false 2 2 n nm sub aS.length <;> simp only [c59,sT.1,sC.1,qe,qd,Nat.testBit,simprocAttr,-Int.reduceNatCast',hf,hF,qw1,qaq,qK]
set_option maxHeartbeats 1000000 in
theorem qxk:ND h 16 qw2:=by
 intro n nm sub aS
 have hf:=fun (h:List qq)=>qat (h:=h) 16 n nm sub aS false false false 2 2
 rw [qt rfl (show T.get 59 = some c59 by kernel_rfl)]
 cases hF:fB false false false 2 2 n nm sub aS.length <;> simp only [c59,sT.1,sC.1,qe,qd,Nat.testBit,simprocAttr,-Int.reduceNatCast',hf,hF,qw2,qaq,qK]
set_option maxHeartbeats 1000000 in
theorem qxl:ND h 17 qw3:=by
 intro n nm sub aS
 have hf:=fun (h:List qq)=>qat (h:=h) 17 n nm sub aS false false false 2 2
 rw [qt rfl (show T.get 59 = some c59 by kernel_rfl)]
 cases hF:fB false false false 2 2 n nm sub aS.length <;> simp only [c59,sT.1,sC.1,qe,qd,Nat.testBit,simprocAttr,-Int.reduceNatCast',hf,hF,qw3,qaq,qK]
set_option maxHeartbeats 1000000 in
theorem qxm:ND h 18 qw4:=by
 intro n nm sub aS
 have hf:=fun (h:List qq)=>qat (h:=h) 18 n nm sub aS false false false 2 2
 rw [qt rfl (show T.get 59 = some c59 by kernel_rfl)]
 cases hF:fB false false false 2 2 n nm sub aS.length <;> simp only [c59,sT.1,sC.1,qe,qd,Nat.testBit,simprocAttr,-Int.reduceNatCast',hf,hF,qw4,qaq,qK]
set_option maxHeartbeats 1000000 in
theorem qxn:ND h 19 qw5:=by
 intro n nm sub aS
 have hf:=fun (h:List qq)=>qat (h:=h) 19 n nm sub aS false false false 2 2
 rw [qt rfl (show T.get 59 = some c59 by kernel_rfl)]
 cases hF:fB false false false 2 2 n nm sub aS.length <;> simp only [c59,sT.1,sC.1,qe,qd,Nat.testBit,simprocAttr,-Int.reduceNatCast',hf,hF,qw5,qaq,qK]
set_option maxHeartbeats 1000000 in
theorem qxo:ND h 20 qw6:=by
 intro n nm sub aS
 have hf:=fun (h:List qq)=>qat (h:=h) 20 n nm sub aS false false false 2 2
 rw [qt rfl (show T.get 59 = some c59 by kernel_rfl)]
 cases hF:fB false false false 2 2 n nm sub aS.length <;> simp only [c59,sT.1,sC.1,qe,qd,Nat.testBit,simprocAttr,-Int.reduceNatCast',hf,hF,qw6,qaq,qK]
set_option maxHeartbeats 1000000 in
theorem qxp:ND h 21 qw7:=by
 intro n nm sub aS
 have hf:=fun (h:List qq)=>qat (h:=h) 21 n nm sub aS false false false 2 2
 rw [qt rfl (show T.get 59 = some c59 by kernel_rfl)]
 cases hF:fB false false false 2 2 n nm sub aS.length <;> simp only [c59,sT.1,sC.1,qe,qd,Nat.testBit,simprocAttr,-Int.reduceNatCast',hf,hF,qw7,qaq,qK]
set_option maxHeartbeats 1000000 in
theorem qxq:ND h 22 qw8:=by
 intro n nm sub aS
 have hf:=fun (h:List qq)=>qat (h:=h) 22 n nm sub aS false false false 2 2
 rw [qt rfl (show T.get 59 = some c59 by kernel_rfl)]
 cases hF:fB false false false 2 2 n nm sub aS.length <;> simp only [c59,sT.1,sC.1,qe,qd,Nat.testBit,simprocAttr,-Int.reduceNatCast',hf,hF,qw8,qaq,qK]
set_option maxHeartbeats 1000000 in
theorem qxr:ND h 23 qw9:=by
 intro n nm sub aS
 have hf:=fun (h:List qq)=>qat (h:=h) 23 n nm sub aS false false false 2 2
 rw [qt rfl (show T.get 59 = some c59 by kernel_rfl)]
 cases hF:fB false false false 2 2 n nm sub aS.length <;> simp only [c59,sT.1,sC.1,qe,qd,Nat.testBit,simprocAttr,-Int.reduceNatCast',hf,hF,qw9,qaq,qK]
set_option maxHeartbeats 1000000 in
theorem qxs:ND h 24 qxa:=by
 intro n nm sub aS
 have hf:=fun (h:List qq)=>qat (h:=h) 24 n nm sub aS false false false 2 2
 rw [qt rfl (show T.get 59 = some c59 by kernel_rfl)]
 cases hF:fB false false false 2 2 n nm sub aS.length <;> simp only [c59,sT.1,sC.1,qe,qd,Nat.testBit,simprocAttr,-Int.reduceNatCast',hf,hF,qxa,qaq,qK]
set_option maxHeartbeats 1000000 in
theorem qxt:ND h 25 qxb:=by
 intro n nm sub aS
 have hf:=fun (h:List qq)=>qat (h:=h) 25 n nm sub aS false false false 3 3
 rw [qt rfl (show T.get 59 = some c59 by kernel_rfl)]
 cases hF:fB false false false 3 3 n nm sub aS.length <;> simp only [c59,sT.1,sC.1,qe,qd,Nat.testBit,simprocAttr,-Int.reduceNatCast',hf,hF,qxb,qaq,qK]
theorem qD6 {op:Int} (ho:¬ (0 ≤ op∧op ≤ 25)):(op == 0) = false∧(op == 1) = false∧(op == 2) = false∧(op == 3) = false∧(op == 4) = false∧(op == 5) = false∧(op == 6) = false∧(op == 7) = false∧(op == 8) = false∧(op == 9) = false∧(op == 10) = false∧(op == 11) = false∧(op == 12) = false∧(op == 13) = false∧(op == 14) = false∧(op == 15) = false∧(op == 16) = false∧(op == 17) = false∧(op == 18) = false∧(op == 19) = false∧(op == 20) = false∧(op == 21) = false∧(op == 22) = false∧(op == 23) = false∧(op == 24) = false∧(op == 25) = false:=by
 refine ⟨?_,?_,?_,?_,?_,?_,?_,?_,?_,?_,?_,?_,?_,?_,?_,?_,?_,?_,?_,?_,?_,?_,?_,?_,?_,?_⟩ <;> rw [beq_eq_false_iff_ne] <;> omega
theorem qex {op:Int} (ho:¬ (0 ≤ op∧op ≤ 25)) (n:Int) (nm sub:Str) (k:Nat):qhX op n nm sub k = false:=by
 simp only [qhX,qD6 ho,cond_false]
set_option maxHeartbeats 1000000 in
theorem qxu {op:Int} (ho:¬ (0 ≤ op∧op ≤ 25)) (n:Int) (nm sub:Str) (aS:List qf):Wd (.fn 59 [] []) [.agg [.int .i64 op,.int .i64 n,.str nm,.str sub,.lst aS .no]] h = some (.ret (.bool false),h,false):=by
 rw [qt rfl (show T.get 59 = some c59 by kernel_rfl)]
 simp only [c59,sT.1,sC.1,qe,qd,Nat.testBit,simprocAttr,-Int.reduceNatCast',qD6 ho]
theorem qzC (op n:Int) (nm sub:Str) (aS:List qf):Wd (.fn 59 [] []) [.agg [.int .i64 op,.int .i64 n,.str nm,.str sub,.lst aS .no]] h = some (.ret (.bool (qhX op n nm sub aS.length)),h,false):=by
 by_cases ho:0 ≤ op∧op ≤ 25
 ·have:op = 0∨op = 1∨op = 2∨op = 3∨op = 4∨op = 5∨op = 6∨op = 7∨op = 8∨op = 9∨op = 10∨op = 11∨op = 12∨op = 13∨op = 14∨op = 15∨op = 16∨op = 17∨op = 18∨op = 19∨op = 20∨op = 21∨op = 22∨op = 23∨op = 24∨op = 25:=by omega
  rcases this with rfl | rfl | rfl | rfl | rfl | rfl | rfl | rfl | rfl | rfl | rfl | rfl | rfl | rfl | rfl | rfl | rfl | rfl | rfl | rfl | rfl | rfl | rfl | rfl | rfl | rfl
  ·exact qzs n nm sub aS
  ·exact qzt n nm sub aS
  ·exact qzu n nm sub aS
  ·exact qzv n nm sub aS
  ·exact qzw n nm sub aS
  ·exact qzx n nm sub aS
  ·exact qzy n nm sub aS
  ·exact qzz n nm sub aS
  ·exact qzA n nm sub aS
  ·exact qzB n nm sub aS
  ·exact qxe n nm sub aS
  ·exact qxf n nm sub aS
  ·exact qxg n nm sub aS
  ·exact qxh n nm sub aS
  ·exact qxi n nm sub aS
  ·exact qxj n nm sub aS
  ·exact qxk n nm sub aS
  ·exact qxl n nm sub aS
  ·exact qxm n nm sub aS
  ·exact qxn n nm sub aS
  ·exact qxo n nm sub aS
  ·exact qxp n nm sub aS
  ·exact qxq n nm sub aS
  ·exact qxr n nm sub aS
  ·exact qxs n nm sub aS
  ·exact qxt n nm sub aS
 ·rw [qex ho]
  exact qxu ho n nm sub aS
end
end Go.Proofs.YtkmlapholimbcaaGreatDoor.AE
namespace Go.Proofs.YtkmlapholimbcaaGreatDoor.AE
open Go.AE
def right:Nat→Exl→Bool
 | 0,_=>false
 | d + 1,.mk op n nm sub aS=>qhX op n nm sub aS.length && aS.all (right d)
theorem qeQ (a b:Int):ilt a b = !(ile b a):=by
 rw [qaj,qaL]
 by_cases h:a < b
 ·rw [decide_eq_true h,decide_eq_false (by omega)];rfl
 ·rw [decide_eq_false h,decide_eq_true (by omega)];rfl
theorem qEI (n:Int):ilt n 4 = ile n 3:=by
 rw [qaj,qaL]
 by_cases h:n < 4
 ·rw [decide_eq_true h,decide_eq_true (by omega)]
 ·rw [decide_eq_false h,decide_eq_false (by omega)]
theorem qcK {a b:Int} (h:a < b):ilt a b = true:=by rw [qaj];exact decide_eq_true h
theorem qcJ {a b:Int} (h:¬ a < b):ilt a b = false:=by rw [qaj];exact decide_eq_false h
theorem qli {a b:Int} (h:a ≤ b):ile a b = true:=by rw [qaL];exact decide_eq_true h
theorem qoF {a b:Int} (h:¬ a ≤ b):ile a b = false:=by rw [qaL];exact decide_eq_false h
def dOK:Nat→Exl→Bool
 | 0,_=>false
 | m + 1,.mk _ _ _ _ aS=>aS.all (dOK m)
theorem qgv:∀(d:Nat) (e:Exl),right d e = true→dOK d e = true
 | 0,_,h=>by rw [right] at h;cases h
 | d + 1,.mk op n nm sub aS,h=>by
  rw [right,Bool.and_eq_true,List.all_eq_true] at h
  rw [dOK,List.all_eq_true]
  exact fun a ha=>qgv d a (h.2 a ha)
set_option maxHeartbeats 1000000 in
theorem qF3:∀(m:Nat),m ≤ 100→∀(e:Exl) (h:List qq),(∃k,Fit k e)→∃v:Nat,Wd (.fn 35 [] []) [exV e,.int .i64 (m:Nat)] h = some (.ret (.int .i64 (v:Nat)),h,false)∧1 ≤ v∧v ≤ m + 1∧decide (v ≤ m) = dOK m e:=by
 intro m
 induction m with
 | zero=>
  rintro _ ⟨op,n,nm,sub,aS⟩ h _
  have z0:ile ((0:Nat):Int) 0 = true:=by kernel_rfl
  have w0:IntKind.i64.wrap (((0:Nat):Int) + 1) = ((1:Nat):Int):=by kernel_rfl
  refine ⟨1,?_,by omega,by omega,by rw [dOK];rfl⟩
  rw [ql,qt rfl (show T.get 35 = some c35 by kernel_rfl)]
  simp only [c35,sT.1,sC.1,qe,qd,Nat.testBit,simprocAttr,-Int.reduceNatCast',z0,w0]
 | succ m ih=>
  rintro hm ⟨op,n,nm,sub,aS⟩ h ⟨k,hk⟩
  have ih:=ih (by omega)
  obtain ⟨k,rfl⟩ :∃k',k = k' + 1:=by cases k with | zero=>exact hk.elim | succ k=>exact ⟨k,rfl⟩
  have hl:aS.length ≤ 20:=hk.1
  have hf:∀a ∈ aS,∃k,Fit k a:=fun a ha=>⟨k,hk.2 a ha⟩
  have z0:ile ((m + 1:Nat):Int) 0 = false:=qoF (by omega)
  have z1:IntKind.i64.wrap (((m + 1:Nat):Int) - 1) = ((m:Nat):Int):=by rw [qbG (by omega) (by omega)];omega
  rw [dOK,ql]
  have loop:∀q st,(∃(tt:List qf) (G:List qq) (i qc5:Nat),st = ⟨tt,G,false⟩∧tt.length = 32∧G.take h.length = h∧h.length ≤ G.length∧lkp tt 1 = .int .i64 (m + 1:Nat)∧lkp tt 5 = .int .i64 (qc5:Nat)∧lkp tt 13 = .lst (aS.map exV) .no∧lkp tt 14 = .int .i64 (aS.length:Nat)∧lkp tt 15 = .int .i64 (i:Nat)∧i + q = aS.length∧1 ≤ qc5∧qc5 ≤ m + 1∧(aS.drop i).all (dOK m) = aS.all (dOK m))→
    ∃x st',qx h.length Wd (.loop qi3) st = some (x,st')∧(∃(tt:List qf) (G:List qq),st' = ⟨tt,G,false⟩∧tt.length = 32∧G.take h.length = h∧((x = .exit 0∧aS.all (dOK m) = true∧∃qc5:Nat,lkp tt 5 = .int .i64 (qc5:Nat)∧1 ≤ qc5∧qc5 ≤ m + 1)∨(x = .ret∧aS.all (dOK m) = false∧lkp tt 4 = .int .i64 (m + 2:Nat)))):=by
   refine qD _ (fun x st'=>∃(tt:List qf) (G:List qq),st' = ⟨tt,G,false⟩∧tt.length = 32∧G.take h.length = h∧((x = .exit 0∧aS.all (dOK m) = true∧∃qc5:Nat,lkp tt 5 = .int .i64 (qc5:Nat)∧1 ≤ qc5∧qc5 ≤ m + 1)∨(x = .ret∧aS.all (dOK m) = false∧lkp tt 4 = .int .i64 (m + 2:Nat)))) ?_
   rintro q st ⟨tt,G,i,qc5,rfl,ht,hG1,hG2,e1,e5,e13,e14,e15,hiq,hd1,hd2,hR⟩
   generalize he:qx h.length Wd qi3 _ = r
   rcases Nat.lt_or_ge i aS.length with hi | hi
   ·have c1:ilt (i:Int) (aS.length:Int) = true:=qcK (by omega)
    have w:=qE (n:=i) (by omega)
    obtain ⟨v,hv,v1,v2,v3⟩:=ih aS[i] (G ++ [.cells (aS[i]).enc]) (hf _ (List.getElem_mem hi))
    have hg:(aS.map exV)[i]? = some (exV aS[i]):=by rw [List.getElem?_map,List.getElem?_eq_getElem hi];rfl
    rw [List.drop_eq_getElem_cons hi,List.all_cons,←v3] at hR
    generalize aS[i] = y at hv hg
    obtain ⟨op',n',nm',sb',as'⟩:=y
    rw [ql] at hg
    rw [ql,qbo] at hv
    have hx:qa3 5 (.lst (aS.map exV) .no) (.int .i64 (i:Nat)) = some (.iptr [.int .i64 op',.int .i64 n',.str nm',.str sb',.lst (as'.map exV) .no] 0):=qu hg rfl
    have hbl:Nat.ble h.length G.length = true:=qas hG2
    have w1:IntKind.i64.wrap (1 + (v:Int)) = ((v + 1:Nat):Int):=by rw [qbG (by omega) (by omega)];omega
    have mx:(if ((v + 1:Nat):Int) > (qc5:Int) then ((v + 1:Nat):Int) else (qc5:Int)) = ((max qc5 (v + 1):Nat):Int):=by split <;> omega
    cases hb:decide (v ≤ m) with
    | true=>
     have hvm:v ≤ m:=of_decide_eq_true hb
     rw [hb,Bool.true_and] at hR
     have c2:ilt ((m + 1:Nat):Int) ((max qc5 (v + 1):Nat):Int) = false:=qcJ (by omega)
     simp only [qi3,sT.1,sC.1,qe,qd,Nat.testBit,simprocAttr,-Int.reduceNatCast',ht,e1,e5,e13,e14,e15,c1,hx,hbl,hv,z1,w1,mx,qpZ,c2,w] at he
     subst he
     refine .inl ⟨_,q - 1,rfl,by omega,_,_,i + 1,max qc5 (v + 1),rfl,by simp only [qh,ht],by rw [List.take_append_of_le_length hG2,hG1],by simp;omega,?_,?_,?_,?_,?_,by omega,by omega,by omega,hR⟩
     ·simp only [sT.1,sC.1,qe,qd,Nat.testBit,simprocAttr,-Int.reduceNatCast',ht,e1]
     ·simp only [sT.1,sC.1,qe,qd,Nat.testBit,simprocAttr,-Int.reduceNatCast',ht]
     ·simp only [sT.1,sC.1,qe,qd,Nat.testBit,simprocAttr,-Int.reduceNatCast',ht,e13]
     ·simp only [sT.1,sC.1,qe,qd,Nat.testBit,simprocAttr,-Int.reduceNatCast',ht,e14]
     ·simp only [sT.1,sC.1,qe,qd,Nat.testBit,simprocAttr,-Int.reduceNatCast',ht]
    | false=>
     have hvm:¬ v ≤ m:=of_decide_eq_false hb
     rw [hb,Bool.false_and] at hR
     have hmx:max qc5 (v + 1) = m + 2:=by omega
     have c2:ilt ((m + 1:Nat):Int) ((max qc5 (v + 1):Nat):Int) = true:=qcK (by omega)
     simp only [qi3,sT.1,sC.1,qe,qd,Nat.testBit,simprocAttr,-Int.reduceNatCast',ht,e1,e5,e13,e14,e15,c1,hx,hbl,hv,z1,w1,mx,qpZ,c2,w] at he
     subst he
     refine .inr ⟨_,_,rfl,by simp,_,_,rfl,?_,?_,.inr ⟨rfl,hR.symm,?_⟩⟩
     ·simp only [qh,ht]
     ·rw [List.take_append_of_le_length hG2,hG1]
     ·simp only [sT.1,sC.1,qe,qd,Nat.testBit,simprocAttr,-Int.reduceNatCast',ht,hmx]
   ·have c1:ilt (i:Int) (aS.length:Int) = false:=qcJ (by omega)
    rw [List.drop_eq_nil_of_le hi,List.all_nil] at hR
    simp only [qi3,sT.1,sC.1,qe,qd,Nat.testBit,simprocAttr,-Int.reduceNatCast',ht,e1,e5,e13,e14,e15,c1] at he
    subst he
    exact .inr ⟨_,_,rfl,by simp,_,_,rfl,by simp only [qh,ht],hG1,.inl ⟨rfl,hR.symm,qc5,by simp only [sT.1,sC.1,qe,qd,Nat.testBit,simprocAttr,-Int.reduceNatCast',ht,e5],hd1,hd2⟩⟩
  generalize hw:Wd _ _ h = w
  rw [qt rfl (show T.get 35 = some c35 by kernel_rfl)] at hw
  simp only [c35,sT.1,sC.1,qe,qd,Nat.testBit,simprocAttr,-Int.reduceNatCast',z0,List.length_map] at hw
  generalize hr:qx h.length Wd (.loop qi3) _ = r at hw
  obtain ⟨x,st',rfl,tt,G,rfl,ht,hG,hq⟩:=qaT hr (loop aS.length _ ⟨_,_,0,1,rfl,by simp only [sT.1,sC.1,qe,qd,Nat.testBit,simprocAttr,-Int.reduceNatCast'],by simp,by simp,by simp only [sT.1,sC.1,qe,qd,Nat.testBit,simprocAttr,-Int.reduceNatCast'],by simp only [sT.1,sC.1,qe,qd,Nat.testBit,simprocAttr,-Int.reduceNatCast'];rfl,by simp only [sT.1,sC.1,qe,qd,Nat.testBit,simprocAttr,-Int.reduceNatCast'],by simp only [sT.1,sC.1,qe,qd,Nat.testBit,simprocAttr,-Int.reduceNatCast'],by simp only [sT.1,sC.1,qe,qd,Nat.testBit,simprocAttr,-Int.reduceNatCast',Int.natCast_zero],by omega,by omega,by omega,rfl⟩)
  rcases hq with ⟨rfl,hall,qc5,e5,b1,b2⟩ | ⟨rfl,hall,e4⟩
  ·simp only [sT.1,sC.1,qe,qd,Nat.testBit,simprocAttr,-Int.reduceNatCast',ht,e5] at hw
   subst hw
   refine ⟨qc5,congrArg some (qac hG rfl),b1,by omega,?_⟩
   rw [hall]
   exact decide_eq_true (by omega)
  ·simp only [sT.1,sC.1,qe,qd,Nat.testBit,simprocAttr,-Int.reduceNatCast',ht,e4] at hw
   subst hw
   refine ⟨m + 2,congrArg some (qac hG rfl),by omega,by omega,?_⟩
   rw [hall]
   exact decide_eq_false (by omega)
def qyf (d:Nat):Prop:=∀(e:Exl) (h:List qq),(∃k,Fit k e)→dOK d e = true→Wd (.fn 36 [] []) [exV e] h = some (.ret (.bool (right d e)),h,false)
theorem qEf {d:Nat} (hn:qyf d) (aS:List Exl) (hl:aS.length ≤ 20) (hf:∀a ∈ aS,∃k,Fit k a) (hD:∀a ∈ aS,dOK d a = true) (h:List qq) :
  Wd (.fn 60 [] []) [.lst (aS.map exV) .no,.fn 36 [] []] h = some (.ret (.bool (aS.all (right d))),h,false):=by
 have loop:∀q st,(∃(tt:List qf) (G:List qq) (i:Nat),st = ⟨tt,G,false⟩∧tt.length = 18∧G.take h.length = h∧h.length ≤ G.length∧lkp tt 1 = .fn 36 [] []∧lkp tt 7 = .lst (aS.map exV) .no∧lkp tt 8 = .int .i64 (aS.length:Nat)∧lkp tt 9 = .int .i64 (i:Nat)∧i + q = aS.length∧(aS.drop i).all (right d) = aS.all (right d))→
   ∃x st',qx h.length Wd (.loop qi5) st = some (x,st')∧(∃(tt:List qf) (G:List qq),st' = ⟨tt,G,false⟩∧tt.length = 18∧G.take h.length = h∧((x = .exit 0∧aS.all (right d) = true)∨(x = .ret∧aS.all (right d) = false∧lkp tt 4 = .bool false))):=by
  refine qD _ (fun x st'=>∃(tt:List qf) (G:List qq),st' = ⟨tt,G,false⟩∧tt.length = 18∧G.take h.length = h∧((x = .exit 0∧aS.all (right d) = true)∨(x = .ret∧aS.all (right d) = false∧lkp tt 4 = .bool false))) ?_
  rintro q st ⟨tt,G,i,rfl,ht,hG1,hG2,e1,e7,e8,e9,hiq,hR⟩
  generalize he:qx h.length Wd qi5 _ = r
  rcases Nat.lt_or_ge i aS.length with hi | hi
  ·have c1:ilt (i:Int) (aS.length:Int) = true:=qcK (by omega)
   have w:=qE (n:=i) (by omega)
   have hv:=hn aS[i] (G ++ [.cells (aS[i]).enc]) (hf _ (List.getElem_mem hi)) (hD _ (List.getElem_mem hi))
   have hg:(aS.map exV)[i]? = some (exV aS[i]):=by rw [List.getElem?_map,List.getElem?_eq_getElem hi];rfl
   rw [List.drop_eq_getElem_cons hi,List.all_cons] at hR
   generalize aS[i] = y at hv hg hR
   obtain ⟨op',n',nm',sb',as'⟩:=y
   rw [ql] at hg
   rw [ql,qbo] at hv
   have hx:qa3 5 (.lst (aS.map exV) .no) (.int .i64 (i:Nat)) = some (.iptr [.int .i64 op',.int .i64 n',.str nm',.str sb',.lst (as'.map exV) .no] 0):=qu hg rfl
   have hbl:Nat.ble h.length G.length = true:=qas hG2
   cases hb:right d (.mk op' n' nm' sb' as') with
   | true=>
    rw [hb,Bool.true_and] at hR
    rw [hb] at hv
    simp only [qi5,sT.1,sC.1,qe,qd,Nat.testBit,simprocAttr,-Int.reduceNatCast',ht,e1,e7,e8,e9,c1,hx,hbl,hv,w] at he
    subst he
    refine .inl ⟨_,q - 1,rfl,by omega,_,_,i + 1,rfl,by simp only [qh,ht],by rw [List.take_append_of_le_length hG2,hG1],by simp;omega,?_,?_,?_,?_,by omega,hR⟩
    ·simp only [sT.1,sC.1,qe,qd,Nat.testBit,simprocAttr,-Int.reduceNatCast',ht,e1]
    ·simp only [sT.1,sC.1,qe,qd,Nat.testBit,simprocAttr,-Int.reduceNatCast',ht,e7]
    ·simp only [sT.1,sC.1,qe,qd,Nat.testBit,simprocAttr,-Int.reduceNatCast',ht,e8]
    ·simp only [sT.1,sC.1,qe,qd,Nat.testBit,simprocAttr,-Int.reduceNatCast',ht]
   | false=>
    rw [hb,Bool.false_and] at hR
    rw [hb] at hv
    simp only [qi5,sT.1,sC.1,qe,qd,Nat.testBit,simprocAttr,-Int.reduceNatCast',ht,e1,e7,e8,e9,c1,hx,hbl,hv,w] at he
    subst he
    refine .inr ⟨_,_,rfl,by simp,_,_,rfl,?_,?_,.inr ⟨rfl,hR.symm,?_⟩⟩
    ·simp only [qh,ht]
    ·rw [List.take_append_of_le_length hG2,hG1]
    ·simp only [sT.1,sC.1,qe,qd,Nat.testBit,simprocAttr,-Int.reduceNatCast',ht]
  ·have c1:ilt (i:Int) (aS.length:Int) = false:=qcJ (by omega)
   rw [List.drop_eq_nil_of_le hi,List.all_nil] at hR
   simp only [qi5,sT.1,sC.1,qe,qd,Nat.testBit,simprocAttr,-Int.reduceNatCast',ht,e1,e7,e8,e9,c1] at he
   subst he
   exact .inr ⟨_,_,rfl,by simp,_,_,rfl,by simp only [qh,ht],hG1,.inl ⟨rfl,hR.symm⟩⟩
 generalize hw:Wd _ _ h = w
 rw [qt rfl (show T.get 60 = some c60 by kernel_rfl)] at hw
 simp only [c60,sT.1,sC.1,qe,qd,Nat.testBit,simprocAttr,-Int.reduceNatCast',List.length_map] at hw
 generalize hr:qx h.length Wd (.loop qi5) _ = r at hw
 obtain ⟨x,st',rfl,tt,G,rfl,ht,hG,hq⟩:=qaT hr (loop aS.length _ ⟨_,_,0,rfl,by simp only [sT.1,sC.1,qe,qd,Nat.testBit,simprocAttr,-Int.reduceNatCast'],by simp,by simp,by simp only [sT.1,sC.1,qe,qd,Nat.testBit,simprocAttr,-Int.reduceNatCast'],by simp only [sT.1,sC.1,qe,qd,Nat.testBit,simprocAttr,-Int.reduceNatCast'],by simp only [sT.1,sC.1,qe,qd,Nat.testBit,simprocAttr,-Int.reduceNatCast'],by simp only [sT.1,sC.1,qe,qd,Nat.testBit,simprocAttr,-Int.reduceNatCast',Int.natCast_zero],by omega,rfl⟩)
 rcases hq with ⟨rfl,hall⟩ | ⟨rfl,hall,e4⟩
 ·simp only [sT.1,sC.1,qe,qd,Nat.testBit,simprocAttr,-Int.reduceNatCast',ht] at hw
  subst hw
  rw [hall]
  exact congrArg some (qac hG rfl)
 ·simp only [sT.1,sC.1,qe,qd,Nat.testBit,simprocAttr,-Int.reduceNatCast',ht,e4] at hw
  subst hw
  rw [hall]
  exact congrArg some (qac hG rfl)
theorem qCG:∀d,qyf d:=by
 intro d
 induction d with
 | zero=>
  rintro e h _ hd
  rw [dOK] at hd
  cases hd
 | succ d ih=>
  rintro ⟨op,n,nm,sub,aS⟩ h ⟨k,hk⟩ hd
  obtain ⟨k,rfl⟩ :∃k',k = k' + 1:=by cases k with | zero=>exact hk.elim | succ k=>exact ⟨k,rfl⟩
  have hf:∀a ∈ aS,∃k,Fit k a:=fun a ha=>⟨k,hk.2 a ha⟩
  rw [dOK,List.all_eq_true] at hd
  have ha:=fun g=>qEf ih aS hk.1 hf hd g
  have hn:=fun g=>qzC (h:=g) op n nm sub (aS.map exV)
  rw [List.length_map] at hn
  rw [ql,right,qt rfl (show T.get 36 = some c36 by kernel_rfl)]
  cases hb:qhX op n nm sub aS.length with
  | false=>simp only [c36,sT.1,sC.1,qe,qd,Nat.testBit,simprocAttr,-Int.reduceNatCast',hn,hb]
  | true=>simp only [c36,sT.1,sC.1,qe,qd,Nat.testBit,simprocAttr,-Int.reduceNatCast',hn,hb,ha]
theorem qsD (e:Exl) (h:List qq) (hk:∃k,Fit k e):Wd (.fn 18 [] []) [exV e] h = some (.ret (.bool (right 20 e)),h,false):=by
 obtain ⟨v,hv,v1,v2,v3⟩:=qF3 20 (by omega) e (h ++ [.cells e.enc]) hk
 have hn:=fun hd g=>qCG 20 e g hk hd
 have c20:((20:Nat):Int) = 20:=Eq.trans rfl rfl
 rw [c20] at hv
 cases hd:dOK 20 e with
 | false=>
  rw [hd] at v3
  have hr:right 20 e = false:=by
   cases hr:right 20 e with
   | false=>rfl
   | true=>rw [qgv _ _ hr] at hd;cases hd
  have c1:ile (v:Int) 20 = false:=by have:=of_decide_eq_false v3;exact qoF (by omega)
  rw [hr]
  obtain ⟨op,n,nm,sub,aS⟩:=e
  rw [ql,qbo] at hv
  rw [ql,qt rfl (show T.get 18 = some c18 by kernel_rfl)]
  simp only [c18,sT.1,sC.1,qe,qd,Nat.testBit,simprocAttr,-Int.reduceNatCast',hv,c1]
 | true=>
  have hn:=hn hd
  rw [hd] at v3
  have c1:ile (v:Int) 20 = true:=by have:=of_decide_eq_true v3;exact qli (by omega)
  obtain ⟨op,n,nm,sub,aS⟩:=e
  rw [ql,qbo] at hv
  rw [ql] at hn
  rw [ql,qt rfl (show T.get 18 = some c18 by kernel_rfl)]
  simp only [c18,sT.1,sC.1,qe,qd,Nat.testBit,simprocAttr,-Int.reduceNatCast',hv,c1,hn]
end Go.Proofs.YtkmlapholimbcaaGreatDoor.AE
namespace Go.Proofs.YtkmlapholimbcaaGreatDoor.AE
open Go.AE
def BX (s:Str):qq:=.bld 79 5 s
def bsO:Option qq→Str
 | some (.bld _ _ s)=>s
 | _=>[]
def isB:Option qq→Bool
 | some (.bld t e _)=>Nat.beq t 79 && Nat.beq e 5
 | _=>false
theorem qaA (s:Str):bsO (some (BX s)) = s:=Eq.trans rfl rfl
theorem qaF (s:Str):isB (some (BX s)) = true:=Eq.trans rfl rfl
theorem bt:(Nat.beq 79 79 && Nat.beq 5 5) = true:=by kernel_rfl
theorem qaO {o:Option qq} (h:isB o = true):o = some (BX (bsO o)):=by
 unfold isB at h
 split at h
 ·rw [Bool.and_eq_true] at h
  rw [Nat.eq_of_beq_eq_true h.1,Nat.eq_of_beq_eq_true h.2]
  rfl
 ·cases h
section
variable {G:List qq} {id:Nat} {S:Str}
theorem qu2 {a:Str} (hS:S.length ≤ qo) (h:a <+: S):a.length ≤ qo:=Nat.le_trans h.length_le hS
theorem qbH (hS:S.length ≤ qo) (u:Str) (h:isB G[id]? = true) (hp:bsO G[id]? ++ u <+: S):Wd (.fn 50 [] []) [.ptr id 0,.str u] G = some (.ret (.tup [.int .i64 (u.length:Nat),.niliface]),G.set id (BX (bsO G[id]? ++ u)),false):=by
 have e:=qaO h
 generalize bsO G[id]? = s at *
 have hl:=qu2 hS hp
 rw [List.length_append] at hl
 have hx:wsX 79 5 Wd [.ptr id 0,.str u] G = some (.ret (.tup [.int .i64 (u.length:Nat),.niliface]),G.set id (BX (s ++ u)),false):=by
  have hb:Nat.ble (s.length + u.length) qo = true:=qas hl
  simp only [wsX,e,BX,hb,bt,Bool.and_self,Bool.true_and,cond_true]
 exact (qin qg8 (show X 50 = some (wsX 79 5) by kernel_rfl)).trans hx
theorem qbm (hS:S.length ≤ qo) (c:Int) (d:UInt8) (hc:c = (d.toNat:Int)) (h:isB G[id]? = true) (hp:bsO G[id]? ++ [d] <+: S):Wd (.fn 63 [] []) [.ptr id 0,.int .u8 c] G = some (.ret .niliface,G.set id (BX (bsO G[id]? ++ [d])),false):=by
 subst hc
 have e:=qaO h
 generalize bsO G[id]? = s at *
 have hl:=qu2 hS hp
 rw [List.length_append] at hl
 have hx:wbX 79 5 Wd [.ptr id 0,.int .u8 (d.toNat:Int)] G = some (.ret .niliface,G.set id (BX (s ++ [d])),false):=by
  have hb:Nat.ble s.length qo = true:=qas (by omega)
  have h0:ile 0 (d.toNat:Int) = true:=by rw [qaL];simp
  have h1:ile (d.toNat:Int) 255 = true:=by rw [qaL];have:=d.toNat_lt;exact decide_eq_true (by omega)
  have h2:(d.toNat:Int).toNat.toUInt8 = d:=by simp
  simp only [wbX,e,BX,hb,h0,h1,h2,bt,Bool.and_self,Bool.true_and,cond_true]
 exact (qin qg8 (show X 63 = some (wbX 79 5) by kernel_rfl)).trans hx
theorem qpd (n:Int) (h0:0 ≤ n) (h1:n ≤ 9223372036854775807):Wd (.fn 61 [] []) [.int .i64 n] G = some (.ret (.str (Lib.itoa n)),G,false):=by
 have hx:itX Wd [.int .i64 n] G = some (.ret (.str (Lib.itoa n)),G,false):=by
  have a:ile (-9223372036854775808) n = true:=by rw [qaL];exact decide_eq_true (by omega)
  have b:ile n 9223372036854775807 = true:=by rw [qaL];exact decide_eq_true h1
  simp only [itX,a,b,Bool.and_self,cond_true]
 exact (qin qg8 (show X 61 = some itX by kernel_rfl)).trans hx
theorem qub (h:isB G[id]? = true) (hn:(bsO G[id]?).isEmpty = false):Wd (.fn 38 [] []) [.ptr id 0] G = some (.ret (.str (bsO G[id]?)),G,false):=by
 have e:=qaO h
 generalize bsO G[id]? = s at *
 have hx:stX 79 5 Wd [.ptr id 0] G = some (.ret (.str s),G,false):=by
  simp only [stX,e,BX,hn,bt,Bool.and_self,Bool.true_and,Bool.not_false,cond_true]
 exact (qin qg8 (show X 38 = some (stX 79 5) by kernel_rfl)).trans hx
def qwM (len k:Nat) (a i:qf):Option qf:=
 match a,i with
 | .ptr b o,.int _ n=>if 0 ≤ n∧n < (len:Int) then some (.ptr b (o + n.toNat * k)) else none
 | .iptr cs o,.int _ n=>if 0 ≤ n∧n < (len:Int) then some (.iptr cs (o + n.toNat * k)) else none
 | _,_=>none
theorem qxx {base:Nat} {call:AE.Call} {p:qcj} {s:St} (d:Option Nat) (n k:Nat) (x i:qn):qz base call p d (.ixaA n k x i) s = qfl d s (qwM n k (ev s.t x) (ev s.t i)):=by
 rw [qaX _ _ rfl (by simp) (by simp) (by simp)]
 simp only [pureV]
 cases ev s.t x <;> cases ev s.t i <;> rfl
def ranks:List Int:=[9,9,9,9,9,9,9,9,9,9,9,9,8,7,3,5,5,6,6,6,4,4,4,2,1,0]
def rk (op:Int):Int:=ranks.getD op.toNat 9
def Exl.op:Exl→Int
 | .mk op _ _ _ _=>op
theorem qxF {e:Exl} (h0:0 ≤ e.op) (h1:e.op ≤ 25):Wd (.fn 93 [] []) [exV e] G = some (.ret (.int .i64 (rk e.op)),G,false):=by
 obtain ⟨op,n,nm,sb,aS⟩:=e
 simp only [Exl.op] at *
 rw [ql,qt rfl (show T.get 93 = some c93 by kernel_rfl)]
 have c1:ilt op 0 = false:=by rw [qaj];exact decide_eq_false (by omega)
 have c2:ile 26 op = false:=by rw [qaL];exact decide_eq_false (by omega)
 obtain ⟨k,rfl⟩ :∃k:Nat,op = k:=⟨op.toNat,by omega⟩
 have x:qwM 26 1 (.iptr g1 0) (.int .i64 (k:Nat)) = some (.iptr g1 k):=by
  have q:(0:Int) ≤ (k:Int)∧(k:Int) < ((26:Nat):Int):=by omega
  rw [qwM,if_pos q]
  simp
 have y:(g1[k]?).map qf.dim = some (.int .i64 (rk (k:Nat))):=by
  have:k = 0∨k = 1∨k = 2∨k = 3∨k = 4∨k = 5∨k = 6∨k = 7∨k = 8∨k = 9∨k = 10∨k = 11∨k = 12∨k = 13∨k = 14∨k = 15∨k = 16∨k = 17∨k = 18∨k = 19∨k = 20∨k = 21∨k = 22∨k = 23∨k = 24∨k = 25:=by omega
  rcases this with rfl | rfl | rfl | rfl | rfl | rfl | rfl | rfl | rfl | rfl | rfl | rfl | rfl | rfl | rfl | rfl | rfl | rfl | rfl | rfl | rfl | rfl | rfl | rfl | rfl | rfl <;> rfl
 simp only [c93,sT.1,sC.1,qe,qd,Nat.testBit,simprocAttr,-Int.reduceNatCast',c1,c2,qxx,x,y]
end
end Go.Proofs.YtkmlapholimbcaaGreatDoor.AE
