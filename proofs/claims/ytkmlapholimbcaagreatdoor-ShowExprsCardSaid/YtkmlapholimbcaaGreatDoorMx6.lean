/- A part of the proof: the abstract executor and what goes through it (part 6). No condition. -/
import Derived.Test.YtkmlapholimbcaaGreatDoorMx5
import Derived.Test.YtkmlapholimbcaaGreatDoorMx2
import Derived.KernelRfl
import Derived.Laws.BitsLemmas
set_option maxRecDepth 100000
namespace Go.Proofs.YtkmlapholimbcaaGreatDoor.AE
open Go.AE
theorem qDn:(qyb T.get X0 400 (.fn 6 [] []) [] []).map (fun r=>(r.1,r.2.1)) = some (.ret (.bool true),[]):=by kernel_rfl
theorem qy1:∃e,run T.get X0 400 (.fn 6 [] []) [] [] = some (.ret (.bool true),[],e):=by
 have h:=qDn
 rw [qkp] at h
 obtain ⟨⟨r,hh,e⟩,h1,h2⟩:=Option.map_eq_some_iff.1 h
 simp only [Prod.mk.injEq] at h2
 obtain ⟨rfl,rfl⟩:=h2
 exact ⟨e,h1⟩
end Go.Proofs.YtkmlapholimbcaaGreatDoor.AE
namespace Go.Proofs.YtkmlapholimbcaaGreatDoor.AE
open Go.AE
theorem qfp:qlo X where
 mono f g h:=by
  unfold X at h
  split at h
  all_goals first
   | (cases h;exact fun c d hc aS h=>qlS hc (Nat.le_refl _))
   | (cases h;exact fun c d hc aS h x hx=>hx)
   | cases h
 cont f g h:=by
  unfold X at h
  split at h
  all_goals first
   | (cases h;exact fun c hc aS h x hx=>qlR hc hx)
   | (cases h;exact fun c hc aS h x hx=>⟨0,hx⟩)
   | cases h
noncomputable def Wd:AE.Call:=W T.get X
theorem qi {f:FuncId} {first args cap:List qa} {h:List qf} {fn:qE} (h1:X f = none) (h2:T.get f = some fn) :
  Wd (.fn f first cap) args h = qeo fn.results h (qo h.length Wd fn.code ⟨(first ++ args ++ cap).map qa.dim ++ List.replicate (fn.ntmps - ((first ++ args ++ cap).map qa.dim).length) (.tup []),h,false⟩):=qDk qfp h1 h2
theorem qbf {n:Int} (h1:-9223372036854775808 ≤ n) (h2:n ≤ 9223372036854775807):IntKind.i64.wrap n = n:=by
 rw [IntKind.wrap_i64]
 omega
theorem qX {n:Nat} (h:n < 9223372036854775807):IntKind.i64.wrap ((n:Int) + 1) = ((n + 1:Nat):Int):=by
 rw [qbf (by omega) (by omega)]
 rfl
abbrev Str:=List UInt8
def qaR (c:UInt8):Bool:=ile 97 (c.toNat:Int) && ile (c.toNat:Int) 122
def q9 (c:UInt8):Bool:=ile 48 (c.toNat:Int) && ile (c.toNat:Int) 57
def qS:Nat→Str→Bool
 | _,[]=>true
 | i,c :: s=>bif !qaR c && (i == 0 || !q9 c) then false else qS (i + 1) s
def qbD (s:Str):Bool:=decide (1 ≤ s.length) && decide (s.length ≤ 16) && qS 0 s
theorem qan (s:Str) (h:List qf):Wd (.fn 75 [] []) [.str s] h = some (.ret (.bool (qbD s)),h,false):=by
 have loop:∀k st,(∃tt i,st = ⟨tt,h,false⟩∧tt.length = 50∧lkp tt 0 = .str s∧lkp tt 15 = .int .i64 (s.length:Nat)∧lkp tt 16 = .int .i64 (i:Nat)∧i + k = s.length∧qS i (s.drop i) = qS 0 s∧s.length ≤ 16)→
   ∃x st',qo h.length Wd (.loop qmj) st = some (x,st')∧((x = .exit 0∧qS 0 s = true∧∃tt,st' = ⟨tt,h,false⟩∧tt.length = 50)∨(x = .ret∧qS 0 s = false∧∃tt,st' = ⟨tt,h,false⟩∧tt.length = 50∧lkp tt 2 = .bool false)):=by
  refine qbj _ (fun x st'=>(x = .exit 0∧qS 0 s = true∧∃tt,st' = ⟨tt,h,false⟩∧tt.length = 50)∨(x = .ret∧qS 0 s = false∧∃tt,st' = ⟨tt,h,false⟩∧tt.length = 50∧lkp tt 2 = .bool false)) ?_
  rintro k st ⟨tt,i,rfl,ht,e0,e15,e16,hik,hR,hl⟩
  generalize he:qo h.length Wd qmj _ = r
  rcases Nat.lt_or_ge i s.length with hi | hi
  ·have c1:ilt (i:Int) (s.length:Int) = true:=by rw [qM];simp;omega
   have hx:qdG (.str s) (.int .i64 (i:Nat)) = some (.int .u8 (s[i].toNat:Nat)):=qaM (List.getElem?_eq_getElem hi)
   have w:=qX (n:=i) (by omega)
   rw [List.drop_eq_getElem_cons hi,qS] at hR
   simp only [qaR,q9] at hR
   have hz:((i:Int) == 0) = (i == 0):=by rw [Bool.eq_iff_iff];simp
   simp only [qmj,sT.1,sC.1,qc,qb,Nat.testBit,simprocAttr,-Int.reduceNatCast',ht,e0,e15,e16,c1,hx,w,hz] at he
   cases hb:(!(ile 97 (s[i].toNat:Int) && ile (s[i].toNat:Int) 122) && (i == 0 || !(ile 48 (s[i].toNat:Int) && ile (s[i].toNat:Int) 57))) with
   | true=>
    rw [hb] at hR
    simp only [hb,sT.1,sC.1,qc,qb,Nat.testBit,simprocAttr,-Int.reduceNatCast',ht] at he
    subst he
    refine .inr ⟨_,_,rfl,by simp,.inr ⟨rfl,by simpa using hR.symm,_,rfl,by simp only [qj,ht],?_⟩⟩
    simp only [sT.1,sC.1,qc,qb,Nat.testBit,simprocAttr,-Int.reduceNatCast',ht]
   | false=>
    rw [hb] at hR
    simp only [hb,sT.1,sC.1,qc,qb,Nat.testBit,simprocAttr,-Int.reduceNatCast',ht,e16,w] at he
    subst he
    refine .inl ⟨_,k - 1,rfl,by omega,_,i + 1,rfl,by simp only [qj,ht],?_,?_,?_,by omega,by simpa using hR,hl⟩
    ·simp only [sT.1,sC.1,qc,qb,Nat.testBit,simprocAttr,-Int.reduceNatCast',ht,e0]
    ·simp only [sT.1,sC.1,qc,qb,Nat.testBit,simprocAttr,-Int.reduceNatCast',ht,e15]
    ·simp only [sT.1,sC.1,qc,qb,Nat.testBit,simprocAttr,-Int.reduceNatCast',ht]
  ·have c1:ilt (i:Int) (s.length:Int) = false:=by rw [qM];simp;omega
   simp only [qmj,sT.1,sC.1,qc,qb,Nat.testBit,simprocAttr,-Int.reduceNatCast',ht,e0,e15,e16,c1] at he
   subst he
   rw [List.drop_eq_nil_of_le hi,qS] at hR
   exact .inr ⟨_,_,rfl,by simp,.inl ⟨rfl,hR.symm,_,rfl,by simp only [qj,ht]⟩⟩
 rw [qi rfl (show T.get 75 = some c75 by kernel_rfl)]
 by_cases g1:1 ≤ s.length
 ·have d1:ilt (s.length:Int) 1 = false:=by rw [qM];simp;omega
  by_cases g2:s.length ≤ 16
  ·have d2:ilt 16 (s.length:Int) = false:=by rw [qM];simp;omega
   simp only [c75,sT.1,sC.1,qc,qb,Nat.testBit,simprocAttr,-Int.reduceNatCast',d1,d2]
   generalize hr:qo h.length Wd (.loop qmj) _ = r
   obtain ⟨x,st',rfl,hq⟩:=qgr hr (loop s.length _ ⟨_,0,rfl,by simp only [sT.1,sC.1,qc,qb,Nat.testBit,simprocAttr,-Int.reduceNatCast'],by simp only [sT.1,sC.1,qc,qb,Nat.testBit,simprocAttr,-Int.reduceNatCast'],by simp only [sT.1,sC.1,qc,qb,Nat.testBit,simprocAttr,-Int.reduceNatCast'],by simp only [sT.1,sC.1,qc,qb,Nat.testBit,simprocAttr,-Int.reduceNatCast',Int.natCast_zero],by omega,rfl,g2⟩)
   rcases hq with ⟨rfl,hv,tt,rfl,ht⟩ | ⟨rfl,hv,tt,rfl,ht,e2⟩
   ·simp only [sT.1,sC.1,qc,qb,Nat.testBit,simprocAttr,-Int.reduceNatCast',ht]
    simp [qbD,g1,g2,hv]
   ·simp only [sT.1,sC.1,qc,qb,Nat.testBit,simprocAttr,-Int.reduceNatCast',ht,e2]
    simp [qbD,g1,g2,hv]
  ·have d2:ilt 16 (s.length:Int) = true:=by rw [qM];simp;omega
   simp only [c75,sT.1,sC.1,qc,qb,Nat.testBit,simprocAttr,-Int.reduceNatCast',d1,d2]
   simp [qbD,g2]
 ·have d1:ilt (s.length:Int) 1 = true:=by rw [qM];simp;omega
  simp only [c75,sT.1,sC.1,qc,qb,Nat.testBit,simprocAttr,-Int.reduceNatCast',d1]
  simp [qbD,g1]
def qAo:qa→Str
 | .str s=>s
 | _=>[]
def words:List Str:=g0.map qAo
theorem quL:g0 = words.map qa.str:=by kernel_rfl
theorem qrR:words.length = 33:=by kernel_rfl
def qbr (s:Str):Bool:=words.any (· == s)
theorem qkl (s:Str) (h:List qf):Wd (.fn 76 [] []) [.str s] h = some (.ret (.bool (qbr s)),h,false):=by
 have loop:∀k st,(∃tt i,st = ⟨tt,h,false⟩∧tt.length = 13∧lkp tt 0 = .str s∧lkp tt 5 = .agg g0∧lkp tt 6 = .int .i64 (i:Nat)∧i + k = 33∧(words.drop i).any (· == s) = qbr s)→
   ∃x st',qo h.length Wd (.loop qj2) st = some (x,st')∧((x = .exit 0∧qbr s = false∧∃tt,st' = ⟨tt,h,false⟩∧tt.length = 13)∨(x = .ret∧qbr s = true∧∃tt,st' = ⟨tt,h,false⟩∧tt.length = 13∧lkp tt 2 = .bool true)):=by
  refine qbj _ (fun x st'=>(x = .exit 0∧qbr s = false∧∃tt,st' = ⟨tt,h,false⟩∧tt.length = 13)∨(x = .ret∧qbr s = true∧∃tt,st' = ⟨tt,h,false⟩∧tt.length = 13∧lkp tt 2 = .bool true)) ?_
  rintro k st ⟨tt,i,rfl,ht,e0,e5,e6,hik,hR⟩
  generalize he:qo h.length Wd qj2 _ = r
  have hlen:=qrR
  rcases Nat.lt_or_ge i 33 with hi | hi
  ·have c1:ilt (i:Int) 33 = true:=by rw [qM];simp;omega
   have hx:qib 33 none (.agg g0) (.int .i64 (i:Nat)) = some (.str (words[i]'(by omega))):=by
    rw [qk0 (v:=.str (words[i]'(by omega))) hi (by rw [quL,List.getElem?_map,List.getElem?_eq_getElem (by omega)];rfl)]
    rfl
   have w:=qX (n:=i) (by omega)
   rw [List.drop_eq_getElem_cons (by omega),List.any_cons] at hR
   cases hb:((words[i]'(by omega)) == s) with
   | true=>
    rw [hb] at hR
    simp only [qj2,sT.1,sC.1,qc,qb,Nat.testBit,simprocAttr,-Int.reduceNatCast',ht,e0,e5,e6,c1,hx,hb] at he
    subst he
    refine .inr ⟨_,_,rfl,by simp,.inr ⟨rfl,by simpa using hR.symm,_,rfl,by simp only [qj,ht],?_⟩⟩
    simp only [sT.1,sC.1,qc,qb,Nat.testBit,simprocAttr,-Int.reduceNatCast',ht]
   | false=>
    rw [hb] at hR
    simp only [qj2,sT.1,sC.1,qc,qb,Nat.testBit,simprocAttr,-Int.reduceNatCast',ht,e0,e5,e6,c1,hx,hb,w] at he
    subst he
    refine .inl ⟨_,k - 1,rfl,by omega,_,i + 1,rfl,by simp only [qj,ht],?_,?_,?_,by omega,by simpa using hR⟩
    ·simp only [sT.1,sC.1,qc,qb,Nat.testBit,simprocAttr,-Int.reduceNatCast',ht,e0]
    ·simp only [sT.1,sC.1,qc,qb,Nat.testBit,simprocAttr,-Int.reduceNatCast',ht,e5]
    ·simp only [sT.1,sC.1,qc,qb,Nat.testBit,simprocAttr,-Int.reduceNatCast',ht]
  ·have c1:ilt (i:Int) 33 = false:=by rw [qM];simp;omega
   simp only [qj2,sT.1,sC.1,qc,qb,Nat.testBit,simprocAttr,-Int.reduceNatCast',ht,e0,e5,e6,c1] at he
   subst he
   rw [List.drop_eq_nil_of_le (by omega),List.any_nil] at hR
   exact .inr ⟨_,_,rfl,by simp,.inl ⟨rfl,hR.symm,_,rfl,by simp only [qj,ht]⟩⟩
 have hg:cut g0 0 (some 33) = some (.agg g0):=by kernel_rfl
 rw [qi rfl (show T.get 76 = some c76 by kernel_rfl)]
 simp only [c76,sT.1,sC.1,qc,qb,Nat.testBit,simprocAttr,-Int.reduceNatCast',hg]
 generalize hr:qo h.length Wd (.loop qj2) _ = r
 obtain ⟨x,st',rfl,hq⟩:=qgr hr (loop 33 _ ⟨_,0,rfl,by simp only [sT.1,sC.1,qc,qb,Nat.testBit,simprocAttr,-Int.reduceNatCast'],by simp only [sT.1,sC.1,qc,qb,Nat.testBit,simprocAttr,-Int.reduceNatCast'],by simp only [sT.1,sC.1,qc,qb,Nat.testBit,simprocAttr,-Int.reduceNatCast'],by simp only [sT.1,sC.1,qc,qb,Nat.testBit,simprocAttr,-Int.reduceNatCast',Int.natCast_zero],by omega,rfl⟩)
 rcases hq with ⟨rfl,hv,tt,rfl,ht⟩ | ⟨rfl,hv,tt,rfl,ht,e2⟩
 ·simp only [sT.1,sC.1,qc,qb,Nat.testBit,simprocAttr,-Int.reduceNatCast',ht,hv]
 ·simp only [sT.1,sC.1,qc,qb,Nat.testBit,simprocAttr,-Int.reduceNatCast',ht,e2,hv]
def qA (s:Str):Bool:=qbD s && !qbr s
theorem qU (s:Str) (h:List qf):Wd (.fn 46 [] []) [.str s] h = some (.ret (.bool (qA s)),h,false):=by
 rw [qi rfl (show T.get 46 = some c46 by kernel_rfl)]
 cases hv:qbD s <;> cases hr:qbr s <;> (simp only [c46,sT.1,sC.1,qc,qb,Nat.testBit,simprocAttr,-Int.reduceNatCast',qan,qkl,hv,hr];simp [qA,hv,hr])
end Go.Proofs.YtkmlapholimbcaaGreatDoor.AE
namespace Go.AE
section
variable {k:Nat} {vs:List (List qa)}
theorem qtO {cs:List qa} (hd:∀c ∈ cs,c.dim = c):cs.map qa.dim = cs:=by
 induction cs with
 | nil=>rfl
 | cons c cs ih=>rw [List.map_cons,hd c List.mem_cons_self,ih fun x hx=>hd x (List.mem_cons_of_mem _ hx)]
end
def qr1 (cs:List qa):Prop:=∀c ∈ cs,c.dim = c∧c.storable = true
theorem qr1.dims {cs:List qa} (h:qr1 cs):cs.map qa.dim = cs:=qtO fun c hc=>(h c hc).1
theorem qr1.all {cs:List qa} (h:qr1 cs):cs.all qa.storable = true:=List.all_eq_true.2 fun c hc=>(h c hc).2
section
variable {base k n id id2:Nat} {h:List qf} {row cs:List qa}
end
end Go.AE
namespace Go.Proofs.YtkmlapholimbcaaGreatDoor.AE
open Go.AE
end Go.Proofs.YtkmlapholimbcaaGreatDoor.AE
namespace Go.Proofs.YtkmlapholimbcaaGreatDoor.AE
open Go.AE
def Cov (H:Nat→Option qf) (g:List qf):Prop:=∀i x,H i = some x→g[i]? = some x
theorem Cov.lt {H:Nat→Option qf} {g:List qf} (h:Cov H g) {i:Nat} {x:qf} (hi:H i = some x):i < g.length:=(List.getElem?_eq_some_iff.1 (h i x hi)).1
theorem Cov.more {H:Nat→Option qf} {g:List qf} (h:Cov H g) (l:List qf):Cov H (g ++ l):=fun i x hi=>by
 rw [List.getElem?_append_left (h.lt hi)]
 exact h i x hi
theorem Cov.set {H:Nat→Option qf} {g:List qf} (h:Cov H g) {j:Nat} (hj:H j = none) (b:qf):Cov H (g.set j b):=fun i x hi=>by
 have:j ≠ i:=fun e=>by subst e;rw [hj] at hi;cases hi
 rw [List.getElem?_set_ne this]
 exact h i x hi
end Go.Proofs.YtkmlapholimbcaaGreatDoor.AE
namespace Go.Proofs.YtkmlapholimbcaaGreatDoor.AE
open Go.AE
section
variable {base:Nat} {call:AE.Call} {dsts:List Nat} {s:St} {pend:List (Nat×Chk)}
theorem qoq {d:Option Nat} {o:AOp} {ix cl j:Nat} {b:Bool} {ds:List qN} (h:lkp s.t j = .bool b):qK base call dsts (⟨⟨d,o,some (j,b)⟩,ix,cl⟩ :: ds) pend s = qK base call dsts (⟨⟨d,o,none⟩,ix,cl⟩ :: ds) pend s:=by
 have e:s.t.getD j .undef = .bool b:=h
 simp only [qK,wanted,e,beq_self_eq_true]
end
inductive Exl where
 | mk (op n:Int) (nm sb:Str) (aS:List Exl)
def Exl.enc:Exl→List qa
 | .mk op n nm sb aS=>[.int .i64 op,.int .i64 n,.str nm,.str sb,.lst (aS.map fun e=>.agg e.enc) .no]
def exV (e:Exl):qa:=.agg e.enc
theorem qa6 (op n:Int) (nm sb:Str) (aS:List Exl):(Exl.mk op n nm sb aS).enc = [.int .i64 op,.int .i64 n,.str nm,.str sb,.lst (aS.map exV) .no]:=by rw [Exl.enc];rfl
theorem qe (op n:Int) (nm sb:Str) (aS:List Exl):exV (.mk op n nm sb aS) = .agg [.int .i64 op,.int .i64 n,.str nm,.str sb,.lst (aS.map exV) .no]:=by rw [exV,qa6]
def Fit:Nat→Exl→Prop
 | 0,_=>False
 | d + 1,.mk _ _ _ _ aS=>aS.length ≤ 20∧∀a ∈ aS,Fit d a
theorem z00:ilt 0 0 = false:=Eq.trans rfl rfl
theorem z01:ilt 0 1 = true:=Eq.trans rfl rfl
theorem z11:ilt 1 1 = false:=Eq.trans rfl rfl
theorem cc1:((1:Nat):Int) = 1:=Eq.trans rfl rfl
theorem cc0:((0:Nat):Int) = 0:=Eq.trans rfl rfl
theorem w01:IntKind.i64.wrap (0 + 1) = 1:=by kernel_rfl
theorem w1:IntKind.i64.wrap 1 = 1:=by kernel_rfl
theorem qzD:([]:List qa).length = 0:=rfl
def sz:Nat→Exl→Nat
 | 0,_=>0
 | d + 1,.mk _ _ _ _ aS=>1 + (aS.map (sz d)).sum
end Go.Proofs.YtkmlapholimbcaaGreatDoor.AE
namespace Go.Proofs.YtkmlapholimbcaaGreatDoor.AE
open Go.AE
set_option maxHeartbeats 2000000 in
theorem qwC:∀(d:Nat),d ≤ 40→∀(e:Exl) (room:Int),-1 ≤ room→room ≤ 600→∀h,∃r:Int,Wd (.fn 28 [] []) [exV e,.int .i64 (d:Nat),.int .i64 room] h = some (.ret (.int .i64 r),h,false)∧-1 ≤ r∧r ≤ 600∧(0 ≤ r→Fit d e∧r + sz d e ≤ room):=by
 intro d
 induction d with
 | zero=>
  rintro _ ⟨op,n,nm,sb,aS⟩ room h1 h2 h
  have z0:(((0:Nat):Int) == 0) = true:=by kernel_rfl
  refine ⟨-1,?_,by omega,by omega,fun h=>by omega⟩
  rw [qe,qi rfl (show T.get 28 = some c28 by kernel_rfl)]
  simp only [c28,sT.1,sC.1,qc,qb,Nat.testBit,simprocAttr,-Int.reduceNatCast',z0,Bool.true_or]
 | succ d ih=>
  rintro hd ⟨op,n,nm,sb,aS⟩ room h1 h2 h
  have z0:(((d + 1:Nat):Int) == 0) = false:=by rw [beq_eq_false_iff_ne];omega
  obtain ⟨G,hG⟩ :∃G,G = h ++ [qf.cells [.int .i64 op,.int .i64 n,.str nm,.str sb,.lst (aS.map exV) .no]]:=⟨_,rfl⟩
  have hbx:G[h.length]? = some (.cells [.int .i64 op,.int .i64 n,.str nm,.str sb,.lst (aS.map exV) .no]):=by rw [hG,qgl];rfl
  have hlt:h.length < G.length:=by rw [hG];simp
  have htk:G.take h.length = h:=by rw [hG];simp
  rw [qe]
  generalize hw:Wd _ _ h = w
  rw [qi rfl (show T.get 28 = some c28 by kernel_rfl)] at hw
  cases hc:(ilt room 1 || ilt 20 (aS.length:Int) || ilt 100 (nm.length:Int) || ilt 100 (sb.length:Int)) with
  | true=>
   simp only [c28,sT.1,sC.1,qc,qb,Nat.testBit,simprocAttr,-Int.reduceNatCast',z0,hc,Bool.false_or,List.length_map] at hw
   subst hw
   exact ⟨-1,rfl,by omega,by omega,fun h=>by omega⟩
  | false=>
   have hroom:1 ≤ room∧aS.length ≤ 20:=by
    simp only [Bool.or_eq_false_iff,qM,decide_eq_false_iff_not] at hc
    omega
   have loop:∀q st,(∃(tt:List qa) (i:Nat) (rm:Int),st = ⟨tt,G,false⟩∧tt.length = 55∧lkp tt 1 = .int .i64 (d + 1:Nat)∧lkp tt 2 = .int .i64 rm∧lkp tt 3 = .ptr h.length 0∧lkp tt 7 = .int .i64 (i:Nat)∧i + q = aS.length∧-1 ≤ rm∧rm ≤ 600∧(0 ≤ rm→(∀j (hj:j < aS.length),j < i→Fit d aS[j])∧rm + (((aS.take i).map (sz d)).sum:Nat) ≤ room - 1))→
     ∃x st',qo h.length Wd (.loop qjX) st = some (x,st')∧(x = .exit 0∧∃(tt:List qa) (rm:Int),st' = ⟨tt,G,false⟩∧tt.length = 55∧lkp tt 2 = .int .i64 rm∧-1 ≤ rm∧rm ≤ 600∧(0 ≤ rm→(∀j (hj:j < aS.length),Fit d aS[j])∧rm + ((aS.map (sz d)).sum:Nat) ≤ room - 1)):=by
    refine qbj _ (fun x st'=>x = .exit 0∧∃(tt:List qa) (rm:Int),st' = ⟨tt,G,false⟩∧tt.length = 55∧lkp tt 2 = .int .i64 rm∧-1 ≤ rm∧rm ≤ 600∧(0 ≤ rm→(∀j (hj:j < aS.length),Fit d aS[j])∧rm + ((aS.map (sz d)).sum:Nat) ≤ room - 1)) ?_
    rintro q st ⟨tt,i,rm,rfl,ht,e1,e2,e3,e7,hiq,hr1,hr2,hfit⟩
    generalize he:qo h.length Wd qjX _ = r
    rcases Nat.lt_or_ge i aS.length with hi | hi
    ·have c1:ilt (i:Int) (aS.length:Int) = true:=by rw [qM];simp;omega
     by_cases hrm:0 ≤ rm
     ·have c2:ile 0 rm = true:=by rw [qay];simpa using hrm
      have w:=qX (n:=i) (by omega)
      have wd:IntKind.i64.wrap (((d + 1:Nat):Int) - 1) = ((d:Nat):Int):=by rw [qbf (by omega) (by omega)];omega
      obtain ⟨r',hr',b1,b2,b3⟩:=ih (by omega) aS[i] rm hr1 hr2 G
      have hg:(aS.map exV)[i]? = some (exV aS[i]):=by rw [List.getElem?_map,List.getElem?_eq_getElem hi];rfl
      have hfit2:0 ≤ r'→(∀j (hj:j < aS.length),j < i + 1→Fit d aS[j])∧r' + (((aS.take (i + 1)).map (sz d)).sum:Nat) ≤ room - 1:=fun h0=>by
       refine ⟨fun j hj hji=>?_,?_⟩
       ·by_cases e:j = i
        ·subst e
         exact (b3 h0).1
        ·exact (hfit hrm).1 j hj (by omega)
       ·have:=(b3 h0).2
        have:=(hfit hrm).2
        rw [List.take_succ_eq_append_getElem hi,List.map_append,List.sum_append]
        simp only [List.map_cons,List.map_nil,List.sum_cons,List.sum_nil]
        omega
      generalize aS[i] = y at hr' hg
      obtain ⟨op',n',nm',sb',as'⟩:=y
      rw [qe] at hr' hg
      have hx:qc7 5 (.lst (aS.map exV) .no) (.int .i64 (i:Nat)) = some (.iptr [.int .i64 op',.int .i64 n',.str nm',.str sb',.lst (as'.map exV) .no] 0):=qF hg rfl
      simp only [qjX,sT.1,sC.1,qc,qb,Nat.testBit,simprocAttr,-Int.reduceNatCast',ht,e1,e2,e3,e7,c1,c2,w,wd,hx,hbx,hr',List.length_map] at he
      subst he
      refine .inl ⟨_,q - 1,rfl,by omega,_,i + 1,r',rfl,by simp only [qj,ht],?_,?_,?_,?_,by omega,b1,b2,hfit2⟩
      ·simp only [sT.1,sC.1,qc,qb,Nat.testBit,simprocAttr,-Int.reduceNatCast',ht,e1]
      ·simp only [sT.1,sC.1,qc,qb,Nat.testBit,simprocAttr,-Int.reduceNatCast',ht]
      ·simp only [sT.1,sC.1,qc,qb,Nat.testBit,simprocAttr,-Int.reduceNatCast',ht,e3]
      ·simp only [sT.1,sC.1,qc,qb,Nat.testBit,simprocAttr,-Int.reduceNatCast',ht]
     ·have c2:ile 0 rm = false:=by rw [qay];simpa using hrm
      simp only [qjX,sT.1,sC.1,qc,qb,Nat.testBit,simprocAttr,-Int.reduceNatCast',ht,e1,e2,e3,e7,c1,c2,hbx,List.length_map] at he
      subst he
      exact .inr ⟨_,_,rfl,by simp,rfl,_,rm,rfl,by simp only [qj,ht],by simp only [sT.1,sC.1,qc,qb,Nat.testBit,simprocAttr,-Int.reduceNatCast',ht,e2],hr1,hr2,fun h0=>absurd h0 hrm⟩
    ·have c1:ilt (i:Int) (aS.length:Int) = false:=by rw [qM];simp;omega
     simp only [qjX,sT.1,sC.1,qc,qb,Nat.testBit,simprocAttr,-Int.reduceNatCast',ht,e1,e2,e3,e7,c1,hbx,List.length_map] at he
     subst he
     exact .inr ⟨_,_,rfl,by simp,rfl,_,rm,rfl,by simp only [qj,ht],by simp only [sT.1,sC.1,qc,qb,Nat.testBit,simprocAttr,-Int.reduceNatCast',ht,e2],hr1,hr2,fun h0=>⟨fun j hj=>(hfit h0).1 j hj (by omega),by have:=(hfit h0).2;rw [List.take_of_length_le hi] at this;exact this⟩⟩
   have wr:IntKind.i64.wrap (room - 1) = room - 1:=qbf (by omega) (by omega)
   simp only [c28,sT.1,sC.1,qc,qb,Nat.testBit,simprocAttr,-Int.reduceNatCast',z0,hc,Bool.false_or,List.length_map,wr] at hw
   generalize hr:qo h.length Wd (.loop qjX) _ = r at hw
   obtain ⟨x,st',rfl,rfl,tt,rm,rfl,ht,e2,b1,b2,b3⟩:=qgr hr (loop aS.length _ ⟨_,0,room - 1,by rw [hG],by simp only [sT.1,sC.1,qc,qb,Nat.testBit,simprocAttr,-Int.reduceNatCast'],by simp only [sT.1,sC.1,qc,qb,Nat.testBit,simprocAttr,-Int.reduceNatCast'],by simp only [sT.1,sC.1,qc,qb,Nat.testBit,simprocAttr,-Int.reduceNatCast'],by simp only [sT.1,sC.1,qc,qb,Nat.testBit,simprocAttr,-Int.reduceNatCast'],by simp only [sT.1,sC.1,qc,qb,Nat.testBit,simprocAttr,-Int.reduceNatCast',Int.natCast_zero],by omega,by omega,by omega,fun _=>⟨fun j _ h=>absurd h (by omega),by simp⟩⟩)
   simp only [sT.1,sC.1,qc,qb,Nat.testBit,simprocAttr,-Int.reduceNatCast',ht,e2] at hw
   subst hw
   refine ⟨rm,congrArg some (qa0 htk rfl),b1,b2,fun h0=>⟨⟨hroom.2,fun a ha=>?_⟩,?_⟩⟩
   ·obtain ⟨j,hj,rfl⟩:=List.getElem_of_mem ha
    exact (b3 h0).1 j hj
   ·have:=(b3 h0).2
    rw [sz]
    omega
end Go.Proofs.YtkmlapholimbcaaGreatDoor.AE
namespace Go.Proofs.YtkmlapholimbcaaGreatDoor.AE
open Go.AE
theorem qq2 (r:Int) (h:List qf):Wd (.fn 26 [] []) [.lst [] .full,.int .i64 r] h = some (.ret (.int .i64 r),h,false):=by
 rw [qi rfl (show T.get 26 = some c26 by kernel_rfl)]
 simp only [c26,qzA,qm,sT.1,sC.1,qc,qb,Nat.testBit,simprocAttr,-Int.reduceNatCast',qzD,cc0,z00]
theorem quk (r:Int) (h:List qf):Wd (.fn 27 [] []) [.lst [] .full,.int .i64 r] h = some (.ret (.int .i64 r),h,false):=by
 rw [qi rfl (show T.get 27 = some c27 by kernel_rfl)]
 simp only [c27,qzB,qm,sT.1,sC.1,qc,qb,Nat.testBit,simprocAttr,-Int.reduceNatCast',qzD,cc0,z00]
def qzK (e:Exl):qa:=.agg [.str [],.bool false,.lst [] .full,.lst [] .full,.lst [] .full,.lst [exV e] .full,.lst [] .full,.lst [] .full,.lst [] .full,.int .i64 0,.lst [] .full,.lst [] .full,.lst [] .full,.lst [] .full]
set_option maxHeartbeats 2000000 in
theorem qul (e:Exl) (h:List qf):∃r:Int,Wd (.fn 13 [] []) [.agg [.lst [qzK e] .full,.str []]] h = some (.ret (.int .i64 r),h,false)∧(r = 0∨(r = 1∧Fit 40 e∧sz 40 e ≤ 600)):=by
 have w600:IntKind.i64.wrap (600 - 1) = 599:=by kernel_rfl
 have x599:IntKind.i64.wrap 599 = 599:=by kernel_rfl
 have g1:ilt 60 1 = false:=Eq.trans rfl rfl
 have g2:ilt 100 0 = false:=Eq.trans rfl rfl
 have g3:ilt 300 0 = false:=Eq.trans rfl rfl
 have g4:ilt 100 1 = false:=Eq.trans rfl rfl
 have g5:ile 0 600 = true:=Eq.trans rfl rfl
 have g6:ile 0 599 = true:=Eq.trans rfl rfl
 have c40:((40:Nat):Int) = 40:=Eq.trans rfl rfl
 obtain ⟨op,n,nm,sb,aS⟩:=e
 rw [qzK,qe]
 obtain ⟨r,hr,r1,r2,r3⟩:=qwC 40 (by omega) (.mk op n nm sb aS) 599 (by omega) (by omega) (h ++ [.cells [.lst [.agg [.str [],.bool false,.lst [] .full,.lst [] .full,.lst [] .full,.lst [.agg [.int .i64 op,.int .i64 n,.str nm,.str sb,.lst (aS.map exV) .no]] .full,.lst [] .full,.lst [] .full,.lst [] .full,.int .i64 0,.lst [] .full,.lst [] .full,.lst [] .full,.lst [] .full]] .full,.str []],.cells [.str [],.bool false,.lst [] .full,.lst [] .full,.lst [] .full,.lst [.agg [.int .i64 op,.int .i64 n,.str nm,.str sb,.lst (aS.map exV) .no]] .full,.lst [] .full,.lst [] .full,.lst [] .full,.int .i64 0,.lst [] .full,.lst [] .full,.lst [] .full,.lst [] .full]])
 rw [qe,c40] at hr
 have hp:=fun r g=>qq2 r g
 have hs:=fun r g=>quk r g
 have i1:∀cs:List qa,qc7 14 (.lst [.agg cs] .full) (.int .i64 0) = if cs.length = 14 then some (.iptr cs 0) else none:=fun cs=>rfl
 have i2:∀cs:List qa,qc7 5 (.lst [.agg cs] .full) (.int .i64 0) = if cs.length = 5 then some (.iptr cs 0) else none:=fun cs=>rfl
 have l1:∀x:qa,[x].length = 1:=fun _=>rfl
 generalize hw:Wd _ _ h = w
 rw [qi rfl (show T.get 13 = some c13 by kernel_rfl)] at hw
 by_cases h0:0 ≤ r
 ·have c0:ile 0 r = true:=by rw [qay];simpa using h0
  have c1:ilt r 0 = false:=by rw [qM];simpa using h0
  simp only [c13,qw5,qw6,qw7,qw8,qw9,qm,sT.1,sC.1,sTA.1,sCA.1,qc,qak,qal,Src.isTmp,qD,Src.hangs,qk.isT,qai,qb,Nat.testBit,bne,simprocAttr,-Int.reduceNatCast',qoq,w600,x599,g1,g2,g3,g4,g5,g6,qau (Nat.le_succ _),Bool.true_or,Bool.not_true,z00,z01,z11,cc1,cc0,w01,w1,qzD,l1,i1,i2,hp,hs,hr,c0,c1] at hw
  subst hw
  exact ⟨1,rfl,.inr ⟨rfl,(r3 h0).1,by have:=(r3 h0).2;omega⟩⟩
 ·have c0:ile 0 r = false:=by rw [qay];simpa using h0
  have c1:ilt r 0 = true:=by rw [qM];simpa using h0
  simp only [c13,qw5,qw6,qw7,qw8,qw9,qm,sT.1,sC.1,sTA.1,sCA.1,qc,qak,qal,Src.isTmp,qD,Src.hangs,qk.isT,qai,qb,Nat.testBit,bne,simprocAttr,-Int.reduceNatCast',qoq,w600,x599,g1,g2,g3,g4,g5,g6,qau (Nat.le_succ _),Bool.true_or,Bool.not_true,z00,z01,z11,cc1,cc0,w01,w1,qzD,l1,i1,i2,hp,hs,hr,c0,c1] at hw
  subst hw
  exact ⟨0,rfl,.inl rfl⟩
end Go.Proofs.YtkmlapholimbcaaGreatDoor.AE
namespace Go.Proofs.YtkmlapholimbcaaGreatDoor.AE
open Go.AE
structure Tok where
 kind:Int
 s:Str
 n:Int
 pos:Int
def Tok.enc (t:Tok):qa:=.agg [.int .i64 t.kind,.str t.s,.int .i64 t.n,.int .i64 t.pos]
def PB (ws:List Tok) (n:Nat):qf:=.cells [.lst (ws.map Tok.enc) .no,.int .i64 (n:Int)]
structure WF (ws:List Tok):Prop where
 len:ws.length < 100000
 last:∀n w,ws[n]? = some w→w.kind ≠ 4→n + 1 < ws.length
def word (ws:List Tok) (n:Nat):Tok:=ws.getD n ⟨4,[],0,0⟩
theorem qh7 {ws:List Tok} {n:Nat} (hn:n < ws.length):ws[n]? = some (word ws n):=by
 simp [word,List.getD,List.getElem?_eq_getElem hn]
theorem WF.next {ws:List Tok} (hw:WF ws) {n:Nat} (hn:n < ws.length) (h:(word ws n).kind ≠ 4):n + 1 < ws.length:=hw.last n _ (qh7 hn) h
section
variable {h:List qf} {i:Nat} {ws:List Tok} {n:Nat}
theorem qw {b:qf} (hi:h[i]? = some b):i < h.length:=(List.getElem?_eq_some_iff.1 hi).1
theorem qR (hw:WF ws) (hn:n < ws.length) (hi:h[i]? = some (PB ws n)):Wd (.fn 73 [] []) [.ptr i 0] h = some (.ret (word ws n).enc,h,false):=by
 have hl:ilt (n:Int) ((ws.map Tok.enc).length:Int) = true:=by
  rw [qM];simp;omega
 have hx:qc7 4 (.lst (ws.map Tok.enc) .no) (.int .i64 (n:Nat)) = some (.iptr (word ws n).enc.cells 0):=qF (by rw [List.getElem?_map,qh7 hn];rfl) rfl
 have hlt:=qw hi
 rw [qi rfl (show T.get 73 = some c73 by kernel_rfl)]
 simp only [c73,sT.1,sC.1,qc,qb,Nat.testBit,simprocAttr,-Int.reduceNatCast',PB,hi,hl,hx,hlt,Tok.enc]
theorem qbi (hw:WF ws) (hn:n < ws.length) (hi:h[i]? = some (PB ws n)):Wd (.fn 68 [] []) [.ptr i 0] h = some (.ret (.int .i64 (word ws n).pos),h,false):=by
 rw [qi rfl (show T.get 68 = some c68 by kernel_rfl)]
 simp only [c68,sT.1,sC.1,qc,qb,Nat.testBit,simprocAttr,-Int.reduceNatCast',qR hw hn hi,Tok.enc]
def qu5:TypeId:=88
def qdt (pos e:Int):qa:=.iface qu5 (.agg [.int .i64 pos,.int .i64 e])
theorem qg (pos e:Int) (n:Nat):(qdt pos e).lower n = true:=by simp [qdt,qa.lower,qy]
theorem qax (pos e:Int) (p:qa):Wd (.fn 99 [] []) [p,.int .i64 pos,.int .i64 e] h = some (.pan (qdt pos e),h,false):=by
 rw [qi rfl (show T.get 99 = some c99 by kernel_rfl)]
 simp only [c99,sT.1,sC.1,qc,qb,Nat.testBit,simprocAttr,-Int.reduceNatCast',qI,qdt,qu5]
theorem qaT (hw:WF ws) (hn:n < ws.length) (hi:h[i]? = some (PB ws n)):Wd (.fn 74 [] []) [.ptr i 0] h = some (.pan (qdt (word ws n).pos 6),h,false):=by
 rw [qi rfl (show T.get 74 = some c74 by kernel_rfl)]
 simp only [c74,sT.1,sC.1,qc,qb,Nat.testBit,simprocAttr,-Int.reduceNatCast',qbi hw hn hi,qax,qg]
def isW (ws:List Tok) (n:Nat) (s:Str):Bool:=((word ws n).kind == 3 || (word ws n).kind == 0) && (word ws n).s == s
theorem qhM (hw:WF ws) (hn:n < ws.length) (hi:h[i]? = some (PB ws n)) (s:Str):Wd (.fn 97 [] []) [.ptr i 0,.str s] h = some (.ret (.bool (isW ws n s)),h,false):=by
 rw [qi rfl (show T.get 97 = some c97 by kernel_rfl)]
 simp only [c97,sT.1,sC.1,qc,qb,Nat.testBit,simprocAttr,-Int.reduceNatCast',qR hw hn hi,Tok.enc,isW]
theorem qW (hw:WF ws) (hn:n < ws.length) {s:Str} (hs:isW ws n s = true):n + 1 < ws.length:=by
 refine hw.next hn fun h4=>?_
 simp [isW,h4] at hs
theorem qC (hw:WF ws) (hn:n < ws.length) (hi:h[i]? = some (PB ws n)) {s:Str} (hs:isW ws n s = false):Wd (.fn 69 [] []) [.ptr i 0,.str s] h = some (.ret (.bool false),h,false):=by
 rw [qi rfl (show T.get 69 = some c69 by kernel_rfl)]
 simp only [c69,sT.1,sC.1,qc,qb,Nat.testBit,simprocAttr,-Int.reduceNatCast',qhM hw hn hi,hs]
theorem qz (hw:WF ws) (hn:n < ws.length) (hi:h[i]? = some (PB ws n)) {s:Str} (hs:isW ws n s = true):Wd (.fn 69 [] []) [.ptr i 0,.str s] h = some (.ret (.bool true),h.set i (PB ws (n + 1)),false):=by
 have hlt:=qw hi
 have hl:=hw.len
 have w:=qX (n:=n) (by omega)
 have hi':h[i]? = some (.cells [.lst (ws.map Tok.enc) .no,.int .i64 (n:Int)]):=hi
 rw [qi rfl (show T.get 69 = some c69 by kernel_rfl)]
 simp only [c69,sT.1,sC.1,qc,qb,Nat.testBit,simprocAttr,-Int.reduceNatCast',qhM hw hn hi,hs,hi',w,hlt]
 rfl
theorem qbg (hw:WF ws) (hn:n < ws.length) (hi:h[i]? = some (PB ws n)) {s:Str} (hs:isW ws n s = true):Wd (.fn 71 [] []) [.ptr i 0,.str s] h = some (.ret (.tup []),h.set i (PB ws (n + 1)),false):=by
 rw [qi rfl (show T.get 71 = some c71 by kernel_rfl)]
 simp only [c71,sT.1,sC.1,qc,qb,Nat.testBit,simprocAttr,-Int.reduceNatCast',qz hw hn hi hs]
theorem qxy (hw:WF ws) (hn:n < ws.length) (hi:h[i]? = some (PB ws n)) {s:Str} (hs:isW ws n s = false):Wd (.fn 71 [] []) [.ptr i 0,.str s] h = some (.pan (qdt (word ws n).pos 6),h,false):=by
 rw [qi rfl (show T.get 71 = some c71 by kernel_rfl)]
 simp only [c71,sT.1,sC.1,qc,qb,Nat.testBit,simprocAttr,-Int.reduceNatCast',qC hw hn hi hs,qaT hw hn hi,qg]
def qa2 (ws:List Tok) (n:Nat):Bool:=(word ws n).kind == 0 && qA (word ws n).s
theorem qaS (hw:WF ws) (hn:n < ws.length) (hs:qa2 ws n = true):n + 1 < ws.length:=by
 refine hw.next hn fun h4=>?_
 simp [qa2,h4] at hs
theorem qO (hw:WF ws) (hn:n < ws.length) (hi:h[i]? = some (PB ws n)):Wd (.fn 179 [] []) [.ptr i 0] h = some (.ret (.bool (qa2 ws n)),h,false):=by
 rw [qi rfl (show T.get 179 = some qAy by kernel_rfl)]
 cases hk:(word ws n).kind == 0 <;> simp only [qAy,sT.1,sC.1,qc,qb,Nat.testBit,simprocAttr,-Int.reduceNatCast',qR hw hn hi,Tok.enc,qU,qa2,hk]
theorem qd1 (hw:WF ws) (hn:n < ws.length) (hi:h[i]? = some (PB ws n)) (hs:qa2 ws n = true):Wd (.fn 183 [] []) [.ptr i 0] h = some (.ret (.str (word ws n).s),h.set i (PB ws (n + 1)),false):=by
 have hlt:=qw hi
 have hl:=hw.len
 have w:=qX (n:=n) (by omega)
 have hi':h[i]? = some (.cells [.lst (ws.map Tok.enc) .no,.int .i64 (n:Int)]):=hi
 rw [qi rfl (show T.get 183 = some qAz by kernel_rfl)]
 simp only [qAz,sT.1,sC.1,qc,qb,Nat.testBit,simprocAttr,-Int.reduceNatCast',qO hw hn hi,hs,qR hw hn hi,Tok.enc,hi',w,hlt]
 rfl
end
end Go.Proofs.YtkmlapholimbcaaGreatDoor.AE
namespace Go.Proofs.YtkmlapholimbcaaGreatDoor.AE
open Go.AE
def fl (b:Bool):qfQ:=bif b then .full else .no
theorem qfx (xs:List qa) (b:Bool):(qa.lst xs (fl b)).dim = .lst xs (fl b):=by cases b <;> rfl
theorem qkP (xs:List qa) (b:Bool) (i:Nat) (t:List qa):qbI (.lst xs (fl b)) i t = t:=by cases b <;> rfl
inductive Exp where
 | mk (op n:Int) (name sub:Str) (args:List Exp)
mutual
def Exp.cs (φ:Int→Nat→Bool):Exp→List qa
 | .mk op n name sub args=>[.int .i64 op,.int .i64 n,.str name,.str sub,.lst (qbp φ args) (fl (φ op args.length))]
def qbp (φ:Int→Nat→Bool):List Exp→List qa
 | []=>[]
 | e :: es=>.agg (e.cs φ) :: qbp φ es
end
def Exp.enc (φ:Int→Nat→Bool) (e:Exp):qa:=.agg (e.cs φ)
theorem qcu (φ:Int→Nat→Bool):∀es:List Exp,qbp φ es = es.map (Exp.enc φ)
 | []=>rfl
 | e :: es=>by simp [qbp,qcu φ es,Exp.enc]
theorem Exp.cs_len (φ:Int→Nat→Bool):∀e:Exp,(e.cs φ).length = 5
 | .mk ..=>rfl
mutual
def Exp.depth:Exp→Nat
 | .mk _ _ _ _ args=>qa4 args + 1
def qa4:List Exp→Nat
 | []=>0
 | e :: es=>max e.depth (qa4 es)
end
def φP:Int→Nat→Bool:=fun _ n=>n == 0
structure Nd where
 e:Exp
 pos:Int
def Nd.cs (x:Nd):List qa:=x.e.cs φP ++ [.int .i64 (x.e.depth:Nat),.int .i64 x.pos]
def Nd.enc (x:Nd):qa:=.agg x.cs
theorem qeE:∀(a b:List Exp),qa4 (a ++ b) = max (qa4 a) (qa4 b)
 | [],b=>by simp [qa4]
 | e :: a,b=>by simp [qa4,qeE a b,Nat.max_assoc]
section
variable {h:List qf}
mutual
theorem qkK (φ:Int→Nat→Bool) (n:Nat):∀e:Exp,qy n (e.cs φ) = true
 | .mk op k name sub args=>by simp [Exp.cs,qy,qa.lower,qfV φ n args]
theorem qfV (φ:Int→Nat→Bool) (n:Nat):∀es:List Exp,qy n (qbp φ es) = true
 | []=>rfl
 | e :: es=>by simp [qbp,qy,qa.lower,qkK φ n e,qfV φ n es]
end
theorem Nd.lower (x:Nd) (n:Nat):x.enc.lower n = true:=by
 obtain ⟨⟨op,k,name,sub,args⟩,pos⟩:=x
 simp [Nd.enc,Nd.cs,Exp.cs,qa.lower,qy,qfV]
theorem qs3 {es:List Exp} (φ:Int→Nat→Bool):∀x ∈ qbp φ es,x.cells.length = 5:=by
 intro x hx
 rw [qcu] at hx
 obtain ⟨e,_,rfl⟩:=List.mem_map.1 hx
 exact e.cs_len φ
theorem qnX (φ:Int→Nat→Bool):∀e:Exp,(e.cs φ).all qa.storable = true
 | .mk ..=>rfl
theorem qdD (φ:Int→Nat→Bool) (es:List Exp):(qbp φ es).length = es.length:=by rw [qcu,List.length_map]
theorem quR {es:List Exp} (e:Exp) (φ:Int→Nat→Bool) (hl:es.length ≤ 1000):qc8 5 (qbp φ es) [.agg (e.cs φ)] = true:=by
 simp only [qc8,Bool.and_eq_true,decide_eq_true_eq]
 refine ⟨⟨?_,?_⟩,?_⟩
 ·rw [qdD]
  simp only [List.length_cons,List.length_nil,qu]
  omega
 ·simp [qa.cells,e.cs_len φ]
  simpa using qnX φ e
 ·cases hh:(qbp φ es).head? with
  | none=>rfl
  | some x=>simp [qs3 φ x (List.mem_of_mem_head? hh)]
theorem qiv (φ:Int→Nat→Bool) (a b:List Exp):qbp φ (a ++ b) = qbp φ a ++ qbp φ b:=by simp [qcu]
def qfi (op n:Int) (name sub:Str) (pos:Int) (done:List Exp):qf:=
 .cells [.int .i64 op,.int .i64 n,.str name,.str sub,.lst (qbp φP done) (bif done.isEmpty then .full else .own 5),.int .i64 ((qa4 done + 1:Nat):Int),.int .i64 pos]
def qjj (h:List qf) (p:qa) (pos op n:Int) (name sub:Str) (parts:List Nd) (f:Bool) (i:Nat) (st:St):Prop:=
 ∃tt H,st = ⟨tt,H,false⟩∧tt.length = 45∧lkp tt 0 = p.dim∧lkp tt 1 = .int .i64 pos∧lkp tt 8 = .ptr (h.length + 1) 0∧lkp tt 9 = .ptr (h.length + 2) 0∧lkp tt 15 = .lst (parts.map Nd.enc) (fl f)∧lkp tt 16 = .int .i64 (parts.length:Nat)∧lkp tt 17 = .int .i64 (i:Nat)∧
  h.length + 2 < H.length∧H[h.length + 2]? = some (qfi op n name sub pos ((parts.take i).map Nd.e))∧H[h.length + 1]? = some (.cells [.int .i64 0,.int .i64 0,.str [],.str [],.lst [] .full,.int .i64 0,.int .i64 0])∧H.take h.length = h
theorem qqm (p:qa) (pos op n:Int) (name sub:Str) (parts:List Nd) (f:Bool) (hp:parts.length ≤ 4) (hd:∀x ∈ parts,x.e.depth ≤ 20) :
  ∀k st,(∃i,i + k = parts.length∧qjj h p pos op n name sub parts f i st)→∃x st',qo h.length Wd (.loop qj1) st = some (x,st')∧(x = .exit 0∧qjj h p pos op n name sub parts f parts.length st'):=by
 refine qbj _ (fun x st'=>x = .exit 0∧qjj h p pos op n name sub parts f parts.length st') ?_
 rintro k st ⟨i,hik,tt,H,rfl,ht,e0,e1,e8,e9,e15,e16,e17,hH,g2,g1,gt⟩
 generalize he:qo h.length Wd qj1 _ = r
 rcases Nat.lt_or_ge i parts.length with hi | hi
 ·have c1:ilt (i:Int) (parts.length:Int) = true:=by rw [qM];simp;omega
  have w:=qX (n:=i) (by omega)
  have hx:qc7 7 (.lst (parts.map Nd.enc) (fl f)) (.int .i64 (i:Nat)) = some (.iptr (parts[i]).cs 0):=qF (x:=(parts[i]).enc) (by rw [List.getElem?_map,List.getElem?_eq_getElem hi];rfl) (by simp [Nd.enc,qa.cells,Nd.cs,Exp.cs_len])
  have hdi:=hd _ (List.getElem_mem hi)
  have htk:parts.take (i + 1) = parts.take i ++ [parts[i]]:=by rw [List.take_add_one,List.getElem?_eq_getElem hi];rfl
  rcases hxi:parts[i] with ⟨⟨op',n',name',sub',args'⟩,pos'⟩
  rw [hxi] at hx hdi htk
  simp only [Nd.cs,Exp.cs,List.cons_append,List.nil_append] at hx
  have hsh:(parts.take i).length = i:=by simp;omega
  have wd:IntKind.i64.wrap (((Exp.mk op' n' name' sub' args').depth:Int) + 1) = (((Exp.mk op' n' name' sub' args').depth + 1:Nat):Int):=qX (by simp only at hdi;omega)
  have hbl:Nat.ble h.length (h.length + 2) = true:=qau (by omega)
  have hbH:Nat.ble h.length H.length = true:=qau (by omega)
  rcases Nat.eq_zero_or_pos i with h0 | h0
  ·subst h0
   simp only [List.take_zero,List.map_nil,qfi,List.isEmpty_nil,cond_true,qbp,qa4] at g2
   have hap:qc8 5 [] [.agg [.int .i64 op',.int .i64 n',.str name',.str sub',.lst (qbp φP args') (fl (φP op' args'.length))]] = true:=quR (es:=[]) (.mk op' n' name' sub' args') φP (by simp)
   simp only [qj1,sT.1,sC.1,sTA.1,sCA.1,qc,qak,qal,Src.isTmp,qD,Src.hangs,qk.isT,qai,qb,Nat.testBit,bne,simprocAttr,-Int.reduceNatCast',qfx,qkP,ht,e9,e15,e16,e17,c1,hx,w,hH,g2,hap,qc1,wd,hbl,hbH] at he
   subst he
   refine .inl ⟨_,k - 1,rfl,by omega,1,by omega,_,_,rfl,by simp only [qj,ht],?_,?_,?_,?_,?_,?_,?_,?_,?_,?_,?_⟩
   ·simp only [sT.1,sC.1,qc,qb,Nat.testBit,simprocAttr,-Int.reduceNatCast',ht,e0]
   ·simp only [sT.1,sC.1,qc,qb,Nat.testBit,simprocAttr,-Int.reduceNatCast',ht,e1]
   ·simp only [sT.1,sC.1,qc,qb,Nat.testBit,simprocAttr,-Int.reduceNatCast',ht,e8]
   ·simp only [sT.1,sC.1,qc,qb,Nat.testBit,simprocAttr,-Int.reduceNatCast',ht,e9]
   ·simp only [sT.1,sC.1,qc,qb,Nat.testBit,simprocAttr,-Int.reduceNatCast',ht,e15]
   ·simp only [sT.1,sC.1,qc,qb,Nat.testBit,simprocAttr,-Int.reduceNatCast',ht,e16]
   ·simp only [sT.1,sC.1,qc,qb,Nat.testBit,simprocAttr,-Int.reduceNatCast',ht]
   ·simp only [List.length_append,List.length_set,List.length_cons,List.length_nil];omega
   ·rw [qbW (by rw [List.length_set];exact hH),qdE hH,htk]
    simp [qfi,qbp,Exp.cs,qa4]
   ·rw [qbW (by rw [List.length_set];omega),qbX (by omega),g1]
   ·rw [List.take_append_of_le_length (by rw [List.length_set];omega),List.take_set_of_le (by omega),gt]
  ·have hnf:(parts.take i).map Nd.e ≠ []:=by
    intro hnil
    have:=congrArg List.length hnil
    rw [List.length_map,hsh] at this
    simp at this
    omega
   have hie:((parts.take i).map Nd.e).isEmpty = false:=by cases hq:(parts.take i).map Nd.e with | nil=>exact absurd hq hnf | cons=>rfl
   simp only [qfi,hie,cond_false] at g2
   have hap:qc8 5 (qbp φP ((parts.take i).map Nd.e)) [.agg [.int .i64 op',.int .i64 n',.str name',.str sub',.lst (qbp φP args') (fl (φP op' args'.length))]] = true:=quR (.mk op' n' name' sub' args') φP (by rw [List.length_map];omega)
   simp only [qj1,sT.1,sC.1,sTA.1,sCA.1,qc,qak,qal,Src.isTmp,qD,Src.hangs,qk.isT,qai,qb,Nat.testBit,bne,simprocAttr,-Int.reduceNatCast',qfx,qkP,ht,e9,e15,e16,e17,c1,hx,w,hH,g2,hap,qc1,wd,hbl,hbH] at he
   subst he
   refine .inl ⟨_,k - 1,rfl,by omega,i + 1,by omega,_,_,rfl,by simp only [qj,ht],?_,?_,?_,?_,?_,?_,?_,?_,?_,?_,?_⟩
   ·simp only [sT.1,sC.1,qc,qb,Nat.testBit,simprocAttr,-Int.reduceNatCast',ht,e0]
   ·simp only [sT.1,sC.1,qc,qb,Nat.testBit,simprocAttr,-Int.reduceNatCast',ht,e1]
   ·simp only [sT.1,sC.1,qc,qb,Nat.testBit,simprocAttr,-Int.reduceNatCast',ht,e8]
   ·simp only [sT.1,sC.1,qc,qb,Nat.testBit,simprocAttr,-Int.reduceNatCast',ht,e9]
   ·simp only [sT.1,sC.1,qc,qb,Nat.testBit,simprocAttr,-Int.reduceNatCast',ht,e15]
   ·simp only [sT.1,sC.1,qc,qb,Nat.testBit,simprocAttr,-Int.reduceNatCast',ht,e16]
   ·simp only [sT.1,sC.1,qc,qb,Nat.testBit,simprocAttr,-Int.reduceNatCast',ht]
   ·simp only [List.length_append,List.length_set,List.length_cons,List.length_nil];omega
   ·rw [qbW (by rw [List.length_set];exact hH),qdE hH,htk]
    simp [qfi,qbp,Exp.cs,qa4,qiv,qeE]
    cases List.take i (List.map Nd.e parts) <;> rfl
   ·rw [qbW (by rw [List.length_set];omega),qbX (by omega),g1]
   ·rw [List.take_append_of_le_length (by rw [List.length_set];omega),List.take_set_of_le (by omega),gt]
 ·have c1:ilt (i:Int) (parts.length:Int) = false:=by rw [qM];simp;omega
  have hil:i = parts.length:=by omega
  subst hil
  simp only [qj1,sT.1,sC.1,qc,qb,Nat.testBit,simprocAttr,-Int.reduceNatCast',ht,e16,e17,c1] at he
  subst he
  refine .inr ⟨_,_,rfl,by simp,rfl,_,_,rfl,by simp only [qj,ht],?_,?_,?_,?_,?_,?_,?_,hH,g2,g1,gt⟩
  ·simp only [sT.1,sC.1,qc,qb,Nat.testBit,simprocAttr,-Int.reduceNatCast',ht,e0]
  ·simp only [sT.1,sC.1,qc,qb,Nat.testBit,simprocAttr,-Int.reduceNatCast',ht,e1]
  ·simp only [sT.1,sC.1,qc,qb,Nat.testBit,simprocAttr,-Int.reduceNatCast',ht,e8]
  ·simp only [sT.1,sC.1,qc,qb,Nat.testBit,simprocAttr,-Int.reduceNatCast',ht,e9]
  ·simp only [sT.1,sC.1,qc,qb,Nat.testBit,simprocAttr,-Int.reduceNatCast',ht,e15]
  ·simp only [sT.1,sC.1,qc,qb,Nat.testBit,simprocAttr,-Int.reduceNatCast',ht,e16]
  ·simp only [sT.1,sC.1,qc,qb,Nat.testBit,simprocAttr,-Int.reduceNatCast',ht,e17]
def mkE (op n:Int) (name sub:Str) (parts:List Nd):Exp:=.mk op n name sub (parts.map Nd.e)
theorem qgz (p:qa) (pos op n:Int) (name sub:Str) (parts:List Nd) (f:Bool) (hp:parts.length ≤ 4) (hd:∀x ∈ parts,x.e.depth ≤ 20) :
  Wd (.fn 72 [] []) [p,.int .i64 pos,.agg [.int .i64 op,.int .i64 n,.str name,.str sub,.lst [] .full],.lst (parts.map Nd.enc) (fl f)] h =
   if (mkE op n name sub parts).depth ≤ 20 then some (.ret (Nd.enc ⟨mkE op n name sub parts,pos⟩),h,false) else some (.pan (qdt pos 7),h,false):=by
 have hbl:Nat.ble h.length (h.length + 2) = true:=qau (by omega)
 have hbl1:Nat.ble h.length (h.length + 1) = true:=qau (by omega)
 rw [qi rfl (show T.get 72 = some c72 by kernel_rfl)]
 simp only [c72,sT.1,sC.1,qc,qb,Nat.testBit,simprocAttr,-Int.reduceNatCast',qfx,qI,hbl]
 generalize hr:qo h.length Wd (.loop qj1) _ = r
 obtain ⟨x,st',rfl,rfl,tt,H,rfl,ht,e0,e1,e8,e9,e15,e16,e17,hH,g2,g1,gt⟩:=qgr hr (qqm (h:=h) p pos op n name sub parts f hp hd parts.length _ ⟨0,by omega,_,_,rfl,by simp only [sT.1,sC.1,qc,qb,Nat.testBit,simprocAttr,-Int.reduceNatCast'],by simp only [sT.1,sC.1,qc,qb,Nat.testBit,simprocAttr,-Int.reduceNatCast'],by simp only [sT.1,sC.1,qc,qb,Nat.testBit,simprocAttr,-Int.reduceNatCast'],by simp only [sT.1,sC.1,qc,qb,Nat.testBit,simprocAttr,-Int.reduceNatCast'],by simp only [sT.1,sC.1,qc,qb,Nat.testBit,simprocAttr,-Int.reduceNatCast'],by simp only [sT.1,sC.1,qc,qb,Nat.testBit,simprocAttr,-Int.reduceNatCast'],by simp only [sT.1,sC.1,qc,qb,Nat.testBit,simprocAttr,-Int.reduceNatCast',List.length_map],by simp only [sT.1,sC.1,qc,qb,Nat.testBit,simprocAttr,-Int.reduceNatCast',Int.natCast_zero],by simp only [sT.1,sC.1,qc,qb,Nat.testBit,simprocAttr,-Int.reduceNatCast'];omega,by simp only [sT.1,sC.1,qc,qb,Nat.testBit,simprocAttr,-Int.reduceNatCast'];rfl,by simp only [sT.1,sC.1,qc,qb,Nat.testBit,simprocAttr,-Int.reduceNatCast'],by simp⟩)
 rw [List.take_length] at g2
 simp only [qfi] at g2
 have hdep:(mkE op n name sub parts).depth = qa4 (parts.map Nd.e) + 1:=rfl
 have h21:h.length + 2 ≠ h.length + 1:=by omega
 have hdm:(qa.lst (qbp φP (parts.map Nd.e)) (bif (parts.map Nd.e).isEmpty then .full else .own 5)).dim = .lst (qbp φP (parts.map Nd.e)) (fl (φP op (parts.map Nd.e).length)):=by cases parts <;> rfl
 by_cases hq:(mkE op n name sub parts).depth ≤ 20
 ·have d1:ilt 20 ((qa4 (parts.map Nd.e) + 1:Nat):Int) = false:=by rw [qM];rw [hdep] at hq;simp;omega
  simp only [sT.1,sC.1,qc,qb,Nat.testBit,simprocAttr,-Int.reduceNatCast',ht,e8,e9,g2,g1,d1,hH,hbl1,hdm,qfx]
  have hH1:h.length + 1 < H.length:=by omega
  have htk:(H.set (h.length + 1) (.cells (Nd.cs ⟨mkE op n name sub parts,pos⟩))).take h.length = h:=by rw [List.take_set_of_le (by omega),gt]
  simp only [Nd.cs,Exp.cs,mkE,List.cons_append,List.nil_append] at htk
  simp only [sT.1,sC.1,qc,qb,Nat.testBit,simprocAttr,-Int.reduceNatCast',hH1,qfx,qfV]
  rw [if_pos hq]
  exact congrArg some (qa0 htk (Nd.lower ⟨mkE op n name sub parts,pos⟩ _))
 ·have d1:ilt 20 ((qa4 (parts.map Nd.e) + 1:Nat):Int) = true:=by rw [qM];rw [hdep] at hq;simp;omega
  simp only [sT.1,sC.1,qc,qb,Nat.testBit,simprocAttr,-Int.reduceNatCast',ht,e0,e1,e9,g2,d1,hH,qit,qax]
  rw [qaN gt (qg _ _ _),if_neg hq]
end
end Go.Proofs.YtkmlapholimbcaaGreatDoor.AE
namespace Go.Proofs.YtkmlapholimbcaaGreatDoor.AE
open Go.AE
section
variable {h:List qf} {i:Nat} {ws:List Tok} {n:Nat}
theorem qbA (p:qa) (pos op k:Int) (name sub:Str):Wd (.fn 72 [] []) [p,.int .i64 pos,.agg [.int .i64 op,.int .i64 k,.str name,.str sub,.lst [] .full],.lst [] .full] h = some (.ret (Nd.enc ⟨.mk op k name sub [],pos⟩),h,false):=by
 have:=qgz (h:=h) p pos op k name sub [] true (by simp) (by simp)
 rw [if_pos (by simp [mkE,Exp.depth,qa4])] at this
 exact this
theorem qmx (p:qa) (pos op k:Int) (name sub:Str) (x:Nd) (hx:x.e.depth ≤ 20):Wd (.fn 72 [] []) [p,.int .i64 pos,.agg [.int .i64 op,.int .i64 k,.str name,.str sub,.lst [] .full],.lst [x.enc] .full] h =
  if (Exp.mk op k name sub [x.e]).depth ≤ 20 then some (.ret (Nd.enc ⟨.mk op k name sub [x.e],pos⟩),h,false) else some (.pan (qdt pos 7),h,false):=
 qgz (h:=h) p pos op k name sub [x] true (by simp) (by simpa using hx)
theorem qdJ (p:qa) (pos op k:Int) (name sub:Str) (x y:Nd) (hx:x.e.depth ≤ 20) (hy:y.e.depth ≤ 20):Wd (.fn 72 [] []) [p,.int .i64 pos,.agg [.int .i64 op,.int .i64 k,.str name,.str sub,.lst [] .full],.lst [x.enc,y.enc] .full] h =
  if (Exp.mk op k name sub [x.e,y.e]).depth ≤ 20 then some (.ret (Nd.enc ⟨.mk op k name sub [x.e,y.e],pos⟩),h,false) else some (.pan (qdt pos 7),h,false):=
 qgz (h:=h) p pos op k name sub [x,y] true (by simp) (by simpa using ⟨hx,hy⟩)
theorem qCh (p:qa) (pos op k:Int) (name sub:Str) (x y z:Nd) (hx:x.e.depth ≤ 20) (hy:y.e.depth ≤ 20) (hz:z.e.depth ≤ 20):Wd (.fn 72 [] []) [p,.int .i64 pos,.agg [.int .i64 op,.int .i64 k,.str name,.str sub,.lst [] .full],.lst [x.enc,y.enc,z.enc] .full] h =
  if (Exp.mk op k name sub [x.e,y.e,z.e]).depth ≤ 20 then some (.ret (Nd.enc ⟨.mk op k name sub [x.e,y.e,z.e],pos⟩),h,false) else some (.pan (qdt pos 7),h,false):=
 qgz (h:=h) p pos op k name sub [x,y,z] true (by simp) (by simpa using ⟨hx,hy,hz⟩)
theorem PBi (ws:List Tok) (n:Nat):PB ws n = .cells [.lst (ws.map Tok.enc) .no,.int .i64 (n:Int)]:=Eq.trans rfl rfl
theorem Nd.stor (x:Nd):x.cs.all qa.storable = true:=by
 obtain ⟨⟨op,k,name,sub,args⟩,pos⟩:=x
 rfl
theorem Nd.dims (x:Nd):x.cs.map qa.dim = x.cs:=by
 obtain ⟨⟨op,k,name,sub,args⟩,pos⟩:=x
 simp [Nd.cs,Exp.cs,qa.dim,fl]
 cases φP op args.length <;> rfl
theorem Nd.len (x:Nd):x.cs.length = 7:=by
 obtain ⟨⟨op,k,name,sub,args⟩,pos⟩:=x
 rfl
theorem Nd.dimE (x:Nd):x.enc.dim = x.enc:=rfl
theorem Nd.cellsE (x:Nd):x.enc.cells = x.cs:=rfl
theorem Nd.cutE (x:Nd):cut x.cs 0 (some 7) = some x.enc:=by
 rw [qhE (by rw [Nd.len];omega),List.drop_zero,List.take_of_length_le (by rw [Nd.len];omega),Nd.dims]
 rfl
theorem Nd.drainE (x:Nd) (j:Nat) (t:List qa):qbI x.enc j t = t:=rfl
theorem qkA (hw:WF ws) (hn:n < ws.length) (hi:h[i]? = some (PB ws n)) (h1:qa2 ws n = true) (h2:isW ws (n + 1) [46] = true) (h3:qa2 ws (n + 1 + 1) = true) :
  Wd (.fn 180 [] []) [.ptr i 0] h = some (.ret (Nd.enc ⟨.mk 5 0 (word ws n).s (word ws (n + 1 + 1)).s [],(word ws n).pos⟩),h.set i (PB ws (n + 1 + 1 + 1)),false):=by
 have hlt:=qw hi
 have hl:=hw.len
 have n1:=qaS hw hn h1
 have n2:=qW hw n1 h2
 have n3:=qaS hw n2 h3
 have w:=qX (n:=n + 1) (by omega)
 rw [PBi] at hi
 rw [qi rfl (show T.get 180 = some qv4 by kernel_rfl)]
 simp only [qv4,sT.1,sC.1,qc,qb,Nat.testBit,simprocAttr,-Int.reduceNatCast',qbi hw hn,qd1 hw hn,hi,h1,qhM hw n1,h2,hlt,PBi,w,qO hw n2,h3,qd1 hw n2,qI,qbA,Nd.dimE,Nd.cellsE,Nd.cutE,Nd.dims,Nd.len,Nd.stor,Nd.lower,Nd.drainE]
theorem qgZ (hw:WF ws) (hn:n < ws.length) (hi:h[i]? = some (PB ws n)) (h1:qa2 ws n = true) (h2:isW ws (n + 1) [46] = true→qa2 ws (n + 1 + 1) = false) :
  Wd (.fn 180 [] []) [.ptr i 0] h = some (.ret (Nd.enc ⟨.mk 4 0 (word ws n).s [] [],(word ws n).pos⟩),h.set i (PB ws (n + 1)),false):=by
 have hlt:=qw hi
 have hl:=hw.len
 have n1:=qaS hw hn h1
 rw [PBi] at hi
 rw [qi rfl (show T.get 180 = some qv4 by kernel_rfl)]
 cases h3:isW ws (n + 1) [46] with
 | false=>simp only [qv4,sT.1,sC.1,qc,qb,Nat.testBit,simprocAttr,-Int.reduceNatCast',qbi hw hn,qd1 hw hn,hi,h1,qhM hw n1,h3,hlt,PBi,qI,qbA,Nd.dimE,Nd.cellsE,Nd.cutE,Nd.dims,Nd.len,Nd.stor,Nd.lower,Nd.drainE]
 | true=>
  have h4:=h2 h3
  have n2:=qW hw n1 h3
  have w:=qX (n:=n + 1) (by omega)
  have w':IntKind.i64.wrap (((n + 1 + 1:Nat):Int) - 1) = ((n + 1:Nat):Int):=by rw [qbf (by omega) (by omega)];omega
  simp only [qv4,sT.1,sC.1,qc,qb,Nat.testBit,simprocAttr,-Int.reduceNatCast',qbi hw hn,qd1 hw hn,hi,h1,qhM hw n1,h3,hlt,PBi,w,w',qO hw n2,h4,qI,qbA,Nd.dimE,Nd.cellsE,Nd.cutE,Nd.dims,Nd.len,Nd.stor,Nd.lower,Nd.drainE]
theorem qfj (hw:WF ws) (hn:n < ws.length) (hi:h[i]? = some (PB ws n)) (pos op:Int) (h1:isW ws n [40] = true) (h2:qa2 ws (n + 1) = true) (h3:isW ws (n + 1 + 1) [41] = true) :
  Wd (.fn 185 [] []) [.ptr i 0,.int .i64 pos,.int .i64 op] h = some (.ret (Nd.enc ⟨.mk op 0 (word ws (n + 1)).s [] [],pos⟩),h.set i (PB ws (n + 1 + 1 + 1)),false):=by
 have hlt:=qw hi
 have n1:=qW hw hn h1
 have n2:=qaS hw n1 h2
 rw [PBi] at hi
 rw [qi rfl (show T.get 185 = some qAA by kernel_rfl)]
 simp only [qAA,sT.1,sC.1,qc,qb,Nat.testBit,simprocAttr,-Int.reduceNatCast',qbg hw hn,qbg hw n2,qd1 hw n1,hi,h1,h2,h3,hlt,PBi,qI,qbA,Nd.dimE,Nd.cellsE,Nd.cutE,Nd.dims,Nd.len,Nd.stor,Nd.lower,Nd.drainE]
end
end Go.Proofs.YtkmlapholimbcaaGreatDoor.AE
namespace Go.Proofs.YtkmlapholimbcaaGreatDoor.AE
open Go.AE
inductive Out where
 | ok (e:Exp) (n:Nat)
 | no (pos err:Int) (n:Nat)
def qa8 (f:FuncId) (ws:List Tok) (n:Nat):Out→Prop
 | .ok e n'=>n < n'∧n' < ws.length∧e.depth ≤ 20∧∀(h:List qf) (i:Nat),h[i]? = some (PB ws n)→Wd (.fn f [] []) [.ptr i 0] h = some (.ret (Nd.enc ⟨e,(word ws n).pos⟩),h.set i (PB ws n'),false)
 | .no pos err n'=>n' < ws.length∧∀(h:List qf) (i:Nat),h[i]? = some (PB ws n)→Wd (.fn f [] []) [.ptr i 0] h = some (.pan (qdt pos err),h.set i (PB ws n'),false)
section
variable {ws:List Tok} {n:Nat}
theorem qas {s s':Str} (h:isW ws n s = true) (hs:s ≠ s'):isW ws n s' = false:=by
 simp only [isW,Bool.and_eq_true,beq_iff_eq] at h
 simp only [isW,Bool.and_eq_false_iff]
 right
 rw [h.2]
 simpa using hs
theorem qlq (hw:WF ws) (hn:n < ws.length) (hs:isW ws n [116,114,117,101] = true):qa8 182 ws n (.ok (.mk 1 0 [] [] []) (n + 1)):=by
 refine ⟨by omega,qW hw hn hs,by simp [Exp.depth,qa4],fun h i hi=>?_⟩
 have hlt:=qw hi
 rw [PBi] at hi
 rw [qi rfl (show T.get 182 = some qjh by kernel_rfl)]
 simp only [qjh,sT.1,sC.1,qc,qb,Nat.testBit,simprocAttr,-Int.reduceNatCast',qbi hw hn,qz hw hn,qC hw hn,hi,hs,hlt,PBi,qI,qbA,Nd.dimE,Nd.cellsE,Nd.cutE,Nd.dims,Nd.len,Nd.stor,Nd.lower,Nd.drainE]
theorem qjo (hw:WF ws) (hn:n < ws.length) (hs:isW ws n [102,97,108,115,101] = true):qa8 182 ws n (.ok (.mk 2 0 [] [] []) (n + 1)):=by
 refine ⟨by omega,qW hw hn hs,by simp [Exp.depth,qa4],fun h i hi=>?_⟩
 have q0:isW ws n [116,114,117,101] = false:=qas hs (by decide)
 have hlt:=qw hi
 rw [PBi] at hi
 rw [qi rfl (show T.get 182 = some qjh by kernel_rfl)]
 simp only [qjh,sT.1,sC.1,qc,qb,Nat.testBit,simprocAttr,-Int.reduceNatCast',qbi hw hn,qz hw hn,qC hw hn,hi,hs,q0,hlt,PBi,qI,qbA,Nd.dimE,Nd.cellsE,Nd.cutE,Nd.dims,Nd.len,Nd.stor,Nd.lower,Nd.drainE]
theorem qhA (hw:WF ws) (hn:n < ws.length) (hs:isW ws n [101,108,97,112,115,101,100] = true):qa8 182 ws n (.ok (.mk 11 0 [] [] []) (n + 1)):=by
 refine ⟨by omega,qW hw hn hs,by simp [Exp.depth,qa4],fun h i hi=>?_⟩
 have q0:isW ws n [116,114,117,101] = false:=qas hs (by decide)
 have q1:isW ws n [102,97,108,115,101] = false:=qas hs (by decide)
 have hlt:=qw hi
 rw [PBi] at hi
 rw [qi rfl (show T.get 182 = some qjh by kernel_rfl)]
 simp only [qjh,sT.1,sC.1,qc,qb,Nat.testBit,simprocAttr,-Int.reduceNatCast',qbi hw hn,qz hw hn,qC hw hn,hi,hs,q0,q1,hlt,PBi,qI,qbA,Nd.dimE,Nd.cellsE,Nd.cutE,Nd.dims,Nd.len,Nd.stor,Nd.lower,Nd.drainE]
theorem qjn (hw:WF ws) (hn:n < ws.length) (hs:isW ws n [99,111,117,110,116] = true) (h1:isW ws (n + 1) [40] = true) (h2:qa2 ws (n + 1 + 1) = true) (h3:isW ws (n + 1 + 1 + 1) [41] = true):qa8 182 ws n (.ok (.mk 7 0 (word ws (n + 1 + 1)).s [] []) (n + 1 + 1 + 1 + 1)):=by
 have n1:=qW hw hn hs
 have n2:=qW hw n1 h1
 have n3:=qaS hw n2 h2
 refine ⟨by omega,qW hw n3 h3,by simp [Exp.depth,qa4],fun h i hi=>?_⟩
 have q0:isW ws n [116,114,117,101] = false:=qas hs (by decide)
 have q1:isW ws n [102,97,108,115,101] = false:=qas hs (by decide)
 have q2:isW ws n [101,108,97,112,115,101,100] = false:=qas hs (by decide)
 have hlt:=qw hi
 rw [PBi] at hi
 rw [qi rfl (show T.get 182 = some qjh by kernel_rfl)]
 simp only [qjh,sT.1,sC.1,qc,qb,Nat.testBit,simprocAttr,-Int.reduceNatCast',qbi hw hn,qz hw hn,qC hw hn,hi,hs,q0,q1,q2,hlt,PBi,qfj hw n1,h1,h2,h3,qI,qbA,Nd.dimE,Nd.cellsE,Nd.cutE,Nd.dims,Nd.len,Nd.stor,Nd.lower,Nd.drainE]
theorem qnr (hw:WF ws) (hn:n < ws.length) (hs:isW ws n [104,97,115] = true) (h1:isW ws (n + 1) [40] = true) (h2:qa2 ws (n + 1 + 1) = true) (h3:isW ws (n + 1 + 1 + 1) [41] = true):qa8 182 ws n (.ok (.mk 8 0 (word ws (n + 1 + 1)).s [] []) (n + 1 + 1 + 1 + 1)):=by
 have n1:=qW hw hn hs
 have n2:=qW hw n1 h1
 have n3:=qaS hw n2 h2
 refine ⟨by omega,qW hw n3 h3,by simp [Exp.depth,qa4],fun h i hi=>?_⟩
 have q0:isW ws n [116,114,117,101] = false:=qas hs (by decide)
 have q1:isW ws n [102,97,108,115,101] = false:=qas hs (by decide)
 have q2:isW ws n [101,108,97,112,115,101,100] = false:=qas hs (by decide)
 have q3:isW ws n [99,111,117,110,116] = false:=qas hs (by decide)
 have hlt:=qw hi
 rw [PBi] at hi
 rw [qi rfl (show T.get 182 = some qjh by kernel_rfl)]
 simp only [qjh,sT.1,sC.1,qc,qb,Nat.testBit,simprocAttr,-Int.reduceNatCast',qbi hw hn,qz hw hn,qC hw hn,hi,hs,q0,q1,q2,q3,hlt,PBi,qfj hw n1,h1,h2,h3,qI,qbA,Nd.dimE,Nd.cellsE,Nd.cutE,Nd.dims,Nd.len,Nd.stor,Nd.lower,Nd.drainE]
theorem qns (hw:WF ws) (hn:n < ws.length) (hs:isW ws n [115,117,109] = true) (h1:isW ws (n + 1) [40] = true) (h2:qa2 ws (n + 1 + 1) = true) (h3:isW ws (n + 1 + 1 + 1) [41] = true):qa8 182 ws n (.ok (.mk 9 0 (word ws (n + 1 + 1)).s [] []) (n + 1 + 1 + 1 + 1)):=by
 have n1:=qW hw hn hs
 have n2:=qW hw n1 h1
 have n3:=qaS hw n2 h2
 refine ⟨by omega,qW hw n3 h3,by simp [Exp.depth,qa4],fun h i hi=>?_⟩
 have q0:isW ws n [116,114,117,101] = false:=qas hs (by decide)
 have q1:isW ws n [102,97,108,115,101] = false:=qas hs (by decide)
 have q2:isW ws n [101,108,97,112,115,101,100] = false:=qas hs (by decide)
 have q3:isW ws n [99,111,117,110,116] = false:=qas hs (by decide)
 have q4:isW ws n [104,97,115] = false:=qas hs (by decide)
 have hlt:=qw hi
 rw [PBi] at hi
 rw [qi rfl (show T.get 182 = some qjh by kernel_rfl)]
 simp only [qjh,sT.1,sC.1,qc,qb,Nat.testBit,simprocAttr,-Int.reduceNatCast',qbi hw hn,qz hw hn,qC hw hn,hi,hs,q0,q1,q2,q3,q4,hlt,PBi,qfj hw n1,h1,h2,h3,qI,qbA,Nd.dimE,Nd.cellsE,Nd.cutE,Nd.dims,Nd.len,Nd.stor,Nd.lower,Nd.drainE]
end
end Go.Proofs.YtkmlapholimbcaaGreatDoor.AE
namespace Go.Proofs.YtkmlapholimbcaaGreatDoor.AE
open Go.AE
theorem qaI {z:List qa} (x:Nd) (hz:z.length = 7):qer 7 z 1 [(0,x.enc)] = some (.lst [x.enc] .full):=qc1 hz (by omega) x.len x.stor (by omega)
theorem qag {z:List qa} (x y:Nd) (hz:z.length = 7):qer 7 z 2 [(0,x.enc),(1,y.enc)] = some (.lst [x.enc,y.enc] .full):=qqa hz (by omega) x.len x.stor y.len y.stor (by omega)
theorem qbt {z:List qa} (x y w:Nd) (hz:z.length = 7):qer 7 z 3 [(0,x.enc),(1,y.enc),(2,w.enc)] = some (.lst [x.enc,y.enc,w.enc] .full):=qqb hz (by omega) x.len x.stor y.len y.stor w.len w.stor (by omega)
def qrS:qf:=.cells [.int .i64 0,.int .i64 0,.str [],.str [],.lst [] .full,.int .i64 0,.int .i64 0]
def NB (x:Nd):qf:=.cells x.cs
theorem NBi (x:Nd):NB x = .cells x.cs:=Eq.trans rfl rfl
theorem qbu:qrS = .cells [.int .i64 0,.int .i64 0,.str [],.str [],.lst [] .full,.int .i64 0,.int .i64 0]:=Eq.trans rfl rfl
theorem Nd.drop7 (x:Nd):x.cs.drop 7 = []:=List.drop_eq_nil_of_le (by rw [Nd.len];omega)
theorem Nd.cut6 (x:Nd):x.cs[6]? = some (.int .i64 x.pos):=by
 obtain ⟨⟨op,k,name,sub,args⟩,pos⟩:=x
 rfl
section
variable {ws:List Tok} {h:List qf}
structure qfs (h:List qf) (i:Nat) (ws:List Tok) (n:Nat) (x:Nd) (H:List qf):Prop where
 lt:i < h.length
 len:h.length + 1 < H.length
 par:H[i]? = some (PB ws n)
 res:H[h.length]? = some qrS
 nod:H[h.length + 1]? = some (NB x)
 old:H.take h.length = h.set i (PB ws n)
theorem qfs.next {i n n':Nat} {x x':Nd} {H:List qf} (hl:qfs h i ws n x H) (l:List qf):qfs h i ws n' x' ((H.set i (PB ws n')).set (h.length + 1) (NB x') ++ l):=by
 have h1:=hl.lt
 have h2:=hl.len
 refine ⟨hl.lt,by simp;omega,?_,?_,?_,?_⟩
 ·rw [qbW (by simp;omega),qbX (by omega),qdE (by omega)]
 ·rw [qbW (by simp;omega),qbX (by omega),qbX (by omega),hl.res]
 ·rw [qbW (by simp;omega),qdE (by simp;omega)]
 ·rw [List.take_append_of_le_length (by simp;omega),List.take_set_of_le (by omega),List.take_set,hl.old,qe1]
inductive qfM (ws:List Tok) (pos:Int):Exp→Nat→Out→Prop
 | stop {e n}:isW ws n [46] = false→qfM ws pos e n (.ok e n)
 | bad {e n}:isW ws n [46] = true→(word ws (n + 1)).kind ≠ 1→qfM ws pos e n (.no (word ws (n + 1)).pos 6 (n + 1))
 | many {e n}:isW ws n [46] = true→(word ws (n + 1)).kind = 1→4 ≤ (word ws (n + 1)).n→qfM ws pos e n (.no (word ws (n + 1)).pos 8 (n + 1))
 | qcg {e n}:isW ws n [46] = true→(word ws (n + 1)).kind = 1→(word ws (n + 1)).n < 4→¬ (Exp.mk 12 (word ws (n + 1)).n [] [] [e]).depth ≤ 20→qfM ws pos e n (.no pos 7 (n + 1 + 1))
 | go {e n o}:isW ws n [46] = true→(word ws (n + 1)).kind = 1→(word ws (n + 1)).n < 4→(Exp.mk 12 (word ws (n + 1)).n [] [] [e]).depth ≤ 20→qfM ws pos (.mk 12 (word ws (n + 1)).n [] [] [e]) (n + 1 + 1) o→qfM ws pos e n o
def qln (h:List qf) (i:Nat) (ws:List Tok) (pos:Int) (len:Nat) (r:Option (Ex×St)):Out→Prop
 | .ok e n=>n < ws.length∧e.depth ≤ 20∧∃tt H,r = some (.exit 0,⟨tt,H,false⟩)∧tt.length = len∧lkp tt 2 = .ptr h.length 0∧lkp tt 3 = .ptr (h.length + 1) 0∧qfs h i ws n ⟨e,pos⟩ H
 | .no p err n=>n < ws.length∧∃tt H,r = some (.pan (qdt p err),⟨tt,H,false⟩)∧H.take h.length = h.set i (PB ws n)
theorem qfs.cut {i n n':Nat} {x:Nd} {H:List qf} (hl:qfs h i ws n x H) (l:List qf):(H.set i (PB ws n') ++ l).take h.length = h.set i (PB ws n'):=by
 have h1:=hl.lt
 have h2:=hl.len
 rw [List.take_append_of_le_length (by simp;omega),List.take_set,hl.old,qe1]
theorem qpJ (hw:WF ws) (i:Nat) (pos:Int) (e:Exp) (n:Nat) (o:Out) (hI:qfM ws pos e n o):∀(tt:List qa) (H:List qf),n < ws.length→e.depth ≤ 20→tt.length = 40→lkp tt 0 = .ptr i 0→lkp tt 2 = .ptr h.length 0→lkp tt 3 = .ptr (h.length + 1) 0→qfs h i ws n ⟨e,pos⟩ H→
  qln h i ws pos 40 (qo h.length Wd (.loop qcZ) ⟨tt,H,false⟩) o:=by
 induction hI with
 | @stop e n hs=>
  intro tt H hn hd ht e0 e2 e3 hL
  have hlt:i < H.length:=by have:=hL.lt;have:=hL.len;omega
  have hp:=hL.par
  rw [PBi] at hp
  rw [qm]
  generalize he:qo h.length Wd qcZ _ = r
  simp only [qcZ,sT.1,sC.1,qc,qb,Nat.testBit,simprocAttr,-Int.reduceNatCast',ht,e0,qC hw hn,hp,hs,PBi] at he
  subst he
  exact ⟨hn,hd,_,_,rfl,by simp only [qj,ht],by simp only [sT.1,sC.1,qc,qb,Nat.testBit,simprocAttr,-Int.reduceNatCast',e2],by simp only [sT.1,sC.1,qc,qb,Nat.testBit,simprocAttr,-Int.reduceNatCast',e3],hL⟩
 | @bad e n hs hk=>
  intro tt H hn hd ht e0 e2 e3 hL
  have n1:=qW hw hn hs
  have hlt:i < H.length:=by have:=hL.lt;have:=hL.len;omega
  have hbH:Nat.ble h.length H.length = true:=qau (by have:=hL.len;omega)
  have hp:=hL.par
  rw [PBi] at hp
  have hk':((word ws (n + 1)).kind == 1) = false:=by simpa using hk
  rw [qm]
  generalize he:qo h.length Wd qcZ _ = r
  simp only [qcZ,sT.1,sC.1,qc,qb,Nat.testBit,simprocAttr,-Int.reduceNatCast',ht,e0,qz hw hn,hp,hs,PBi,qR hw n1,hlt,Tok.enc,hk',qaT hw n1,hbH] at he
  subst he
  exact ⟨n1,_,_,rfl,hL.cut _⟩
 | @many e n hs hk hm=>
  intro tt H hn hd ht e0 e2 e3 hL
  have n1:=qW hw hn hs
  have hlt:i < H.length:=by have:=hL.lt;have:=hL.len;omega
  have hbH:Nat.ble h.length H.length = true:=qau (by have:=hL.len;omega)
  have hp:=hL.par
  rw [PBi] at hp
  have hk':((word ws (n + 1)).kind == 1) = true:=by simpa using hk
  have hm':ile 4 (word ws (n + 1)).n = true:=by rw [qay];simpa using hm
  rw [qm]
  generalize he:qo h.length Wd qcZ _ = r
  simp only [qcZ,sT.1,sC.1,qc,qb,Nat.testBit,simprocAttr,-Int.reduceNatCast',ht,e0,qz hw hn,hp,hs,PBi,qR hw n1,hlt,Tok.enc,hk',hm',qax,hbH] at he
  subst he
  exact ⟨n1,_,_,rfl,hL.cut _⟩
 | @qcg e n hs hk hm hdp=>
  intro tt H hn hd ht e0 e2 e3 hL
  have n1:=qW hw hn hs
  have n2:=hw.next n1 (by omega)
  have hlt:i < H.length:=by have:=hL.lt;have:=hL.len;omega
  have hlb:h.length + 1 < H.length:=hL.len
  have hib:i ≠ h.length + 1:=by have:=hL.lt;omega
  have hbH:Nat.ble h.length H.length = true:=qau (by have:=hL.len;omega)
  have hp:=hL.par
  have hnod:=hL.nod
  rw [NBi] at hnod
  rw [PBi] at hp
  have hk':((word ws (n + 1)).kind == 1) = true:=by simpa using hk
  have hm':ile 4 (word ws (n + 1)).n = false:=by rw [qay];simpa using hm
  have w:=qX (n:=n + 1) (by have:=hw.len;omega)
  rw [qm]
  generalize he:qo h.length Wd qcZ _ = r
  simp only [qcZ,sT.1,sC.1,qc,qb,Nat.testBit,simprocAttr,-Int.reduceNatCast',ht,e0,e3,qz hw hn,hp,hs,PBi,qR hw n1,hlt,Tok.enc,hk',hm',hbH,hlb,hib,hnod,w,Nd.cut6,Nd.cutE,Nd.dimE,qI,qaI,qmx,hd,hdp] at he
  subst he
  exact ⟨n2,_,_,rfl,hL.cut _⟩
 | @go e n o hs hk hm hdp hI ih=>
  intro tt H hn hd ht e0 e2 e3 hL
  have n1:=qW hw hn hs
  have n2:=hw.next n1 (by omega)
  have hlt:i < H.length:=by have:=hL.lt;have:=hL.len;omega
  have hlb:h.length + 1 < H.length:=hL.len
  have hib:i ≠ h.length + 1:=by have:=hL.lt;omega
  have hbH:Nat.ble h.length H.length = true:=qau (by have:=hL.len;omega)
  have hb1:=qfa h 1
  have hp:=hL.par
  have hnod:=hL.nod
  rw [NBi] at hnod
  rw [PBi] at hp
  have hk':((word ws (n + 1)).kind == 1) = true:=by simpa using hk
  have hm':ile 4 (word ws (n + 1)).n = false:=by rw [qay];simpa using hm
  have w:=qX (n:=n + 1) (by have:=hw.len;omega)
  rw [qm]
  generalize he:qo h.length Wd qcZ _ = r
  simp only [qcZ,sT.1,sC.1,qc,qb,Nat.testBit,simprocAttr,-Int.reduceNatCast',ht,e0,e3,qz hw hn,hp,hs,PBi,qR hw n1,hlt,Tok.enc,hk',hm',hbH,hlb,hib,hnod,w,Nd.cut6,Nd.cutE,Nd.dimE,Nd.cellsE,Nd.dims,Nd.len,Nd.stor,Nd.drainE,Nd.drop7,qI,qaI,qmx,hd,hdp,hb1] at he
  subst he
  exact ih _ _ n2 hdp (by simp only [qj,ht]) (by simp only [sT.1,sC.1,qc,qb,Nat.testBit,simprocAttr,-Int.reduceNatCast',e0]) (by simp only [sT.1,sC.1,qc,qb,Nat.testBit,simprocAttr,-Int.reduceNatCast',e2]) (by simp only [sT.1,sC.1,qc,qb,Nat.testBit,simprocAttr,-Int.reduceNatCast',e3]) (hL.next _)
theorem qfs.start {i n:Nat} {x:Nd} (hi:i < h.length):qfs h i ws n x (h.set i (PB ws n) ++ [qrS,NB x]):=by
 refine ⟨hi,by simp,?_,?_,?_,?_⟩
 ·rw [qbW (by simpa using hi),qdE hi]
 ·rw [qcv (by simp)];rfl
 ·rw [List.getElem?_append_right (by simp)];simp
 ·rw [List.take_append_of_le_length (by simp),List.take_of_length_le (by simp)]
theorem qfs.answer {i n:Nat} {x:Nd} {H:List qf} (hl:qfs h i ws n x H):qaQ h.length (.ret x.enc) (H.set h.length (NB x)) false = (.ret x.enc,h.set i (PB ws n),false):=
 qa0 (by rw [List.take_set_of_le (by omega),hl.old]) (x.lower _)
theorem qtB (hw:WF ws) {n:Nat} (hn:n < ws.length) {e:Exp} {n1:Nat} {o:Out} (h1:qa8 178 ws n (.ok e n1)) (hI:qfM ws (word ws n).pos e n1 o) (hmono:∀e' n',o = .ok e' n'→n1 ≤ n'):qa8 177 ws n o:=by
 obtain ⟨g1,g2,g3,g4⟩:=h1
 have run:∀(h:List qf) (i:Nat),h[i]? = some (PB ws n)→∃r,qln h i ws (word ws n).pos 40 r o∧Wd (.fn 177 [] []) [.ptr i 0] h = qeo [.cell 2 (some 7)] h (qbN (qo h.length Wd (.seq (.reg [ao 39 (.ld (some 7) (.t 3)),an (.st (some 7) (.t 2) (.t 39))]) .ret)) (qce 0 r)):=by
  intro h i hi
  have hlt:=qw hi
  rw [PBi] at hi
  generalize hr:Wd (.fn 177 [] []) [.ptr i 0] h = R
  rw [qi rfl (show T.get 177 = some qAx by kernel_rfl)] at hr
  have hbl1:Nat.ble h.length (h.length + 1) = true:=qau (by omega)
  simp only [qAx,sT.1,sC.1,qc,qb,Nat.testBit,simprocAttr,-Int.reduceNatCast',g4,hi,hlt,PBi,Nd.dimE,Nd.cellsE,Nd.cutE,Nd.dims,Nd.len,Nd.stor,Nd.drainE,hbl1] at hr
  generalize hq:qo h.length Wd (.loop qcZ) _ = r at hr
  refine ⟨r,?_,?_⟩
  ·rw [←hq]
   exact qpJ hw i _ e n1 o hI _ _ g2 g3 (by simp only [sT.1,sC.1,qc,qb,Nat.testBit,simprocAttr,-Int.reduceNatCast']) (by simp only [sT.1,sC.1,qc,qb,Nat.testBit,simprocAttr,-Int.reduceNatCast']) (by simp only [sT.1,sC.1,qc,qb,Nat.testBit,simprocAttr,-Int.reduceNatCast']) (by simp only [sT.1,sC.1,qc,qb,Nat.testBit,simprocAttr,-Int.reduceNatCast']) (qfs.start hlt)
  ·rw [←hr]
   simp only [sT.1,sC.1,qc,qb,Nat.testBit,simprocAttr,-Int.reduceNatCast']
 cases o with
 | ok e' n'=>
  have hm:=hmono e' n' rfl
  obtain ⟨r,hL,_⟩:=run (List.replicate 1 (PB ws n)) 0 rfl
  refine ⟨by omega,hL.1,hL.2.1,fun h i hi=>?_⟩
  obtain ⟨r,⟨q1,q2,tt,H,rfl,ht,e2,e3,hL⟩,hr⟩:=run h i hi
  have hnod:=hL.nod
  have hres:=hL.res
  have hlen:=hL.len
  have hlen':h.length < H.length:=by omega
  rw [NBi] at hnod
  rw [qbu] at hres
  rw [hr]
  simp only [sT.1,sC.1,qc,qb,Nat.testBit,simprocAttr,-Int.reduceNatCast',ht,e2,e3,hnod,hres,hlen',Nd.dimE,Nd.cellsE,Nd.cutE,Nd.dims,Nd.len,Nd.stor,Nd.drainE]
  exact congrArg some hL.answer
 | no pos err n'=>
  obtain ⟨r,hL,_⟩:=run (List.replicate 1 (PB ws n)) 0 rfl
  refine ⟨hL.1,fun h i hi=>?_⟩
  obtain ⟨r,⟨q1,tt,H,rfl,q3⟩,hr⟩:=run h i hi
  rw [hr]
  simp only [sT.1,sC.1,qc,qb,Nat.testBit,simprocAttr,-Int.reduceNatCast']
  exact congrArg some (qaN q3 (qg _ _ _))
end
end Go.Proofs.YtkmlapholimbcaaGreatDoor.AE
