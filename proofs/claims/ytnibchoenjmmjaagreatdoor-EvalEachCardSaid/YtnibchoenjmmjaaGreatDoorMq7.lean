/- A part of the proof: the abstract executor and what goes through it (part 7). No condition. -/
import Derived.Test.YtnibchoenjmmjaaGreatDoorMq6
import Derived.Test.YtnibchoenjmmjaaGreatDoorMq2
import Derived.KernelRfl
import Derived.Laws.BitsLemmas
set_option maxRecDepth 100000
set_option maxHeartbeats 0
namespace Go.Proofs.YtnibchoenjmmjaaGreatDoor.AE
open Go.AE
theorem qEf:(qqW T.get X0 400 (.fn 6 [] []) [] []).map (fun r=>(r.1,r.2.1)) = some (.ret (.bool true),[]):=by kernel_rfl
theorem qyY:∃e,run T.get X0 400 (.fn 6 [] []) [] [] = some (.ret (.bool true),[],e):=by
 have h:=qEf
 rw [qjQ] at h
 obtain ⟨⟨r,hh,e⟩,h1,h2⟩:=Option.map_eq_some_iff.1 h
 simp only [Prod.mk.injEq] at h2
 obtain ⟨rfl,rfl⟩:=h2
 exact ⟨e,h1⟩
theorem qj6:qkY X where
 mono f g h:=by
  unfold X at h
  split at h
  all_goals first
   | (cases h;exact fun c d hc aS h=>qlt hc (Nat.le_refl _))
   | (cases h;exact fun c d hc aS h x hx=>hx)
   | cases h
 cont f g h:=by
  unfold X at h
  split at h
  all_goals first
   | (cases h;exact fun c hc aS h x hx=>qls hc hx)
   | (cases h;exact fun c hc aS h x hx=>⟨0,hx⟩)
   | cases h
noncomputable def Wd:AE.Call:=W T.get X
theorem qr {f:FuncId} {first args cap:List qa} {h:List qb} {fn:qt} (h1:X f = none) (h2:T.get f = some fn) :
  Wd (.fn f first cap) args h = qsH fn.results h (qm h.length Wd fn.code ⟨(first ++ args ++ cap).map qa.dim ++ List.replicate (fn.ntmps - ((first ++ args ++ cap).map qa.dim).length) (.tup []),h,false⟩):=qEb qj6 h1 h2
theorem qaX {n:Int} (h1:-9223372036854775808 ≤ n) (h2:n ≤ 9223372036854775807):IntKind.i64.wrap n = n:=by
 rw [IntKind.wrap_i64]
 omega
theorem qab {n:Nat} (h:n < 9223372036854775807):IntKind.i64.wrap ((n:Int) + 1) = ((n + 1:Nat):Int):=by
 rw [qaX (by omega) (by omega)]
 rfl
abbrev Str:=List UInt8
def qpx (c:UInt8):Bool:=ile 97 (c.toNat:Int) && ile (c.toNat:Int) 122
def qv6 (c:UInt8):Bool:=ile 48 (c.toNat:Int) && ile (c.toNat:Int) 57
def qaj:Nat→Str→Bool
 | _,[]=>true
 | i,c :: s=>bif !qpx c && (i == 0 || !qv6 c) then false else qaj (i + 1) s
def qcZ (s:Str):Bool:=decide (1 ≤ s.length) && decide (s.length ≤ 16) && qaj 0 s
theorem qX (s:Str) (h:List qb):Wd (.fn 114 [] []) [.str s] h = some (.ret (.bool (qcZ s)),h,false):=by
 have loop:∀k st,(∃tt i,st = ⟨tt,h,false⟩∧tt.length = 50∧lkp tt 0 = .str s∧lkp tt 15 = .int .i64 (s.length:Nat)∧lkp tt 16 = .int .i64 (i:Nat)∧i + k = s.length∧qaj i (s.drop i) = qaj 0 s∧s.length ≤ 16)→
   ∃x st',qm h.length Wd (.loop qgr) st = some (x,st')∧((x = .exit 0∧qaj 0 s = true∧∃tt,st' = ⟨tt,h,false⟩∧tt.length = 50)∨(x = .ret∧qaj 0 s = false∧∃tt,st' = ⟨tt,h,false⟩∧tt.length = 50∧lkp tt 2 = .bool false)):=by
  refine qD _ _ ?_
  rintro k st ⟨tt,i,rfl,ht,e0,e15,e16,hik,hR,hl⟩
  generalize he:qm h.length Wd qgr _ = r
  rcases Nat.lt_or_ge i s.length with hi | hi
  ·have c1:ilt (i:Int) (s.length:Int) = true:=by rw [qf];simp;omega
   have hx:qhl (.str s) (.int .i64 (i:Nat)) = some (.int .u8 (s[i].toNat:Nat)):=qkt (List.getElem?_eq_getElem hi)
   have w:=qab (n:=i) (by omega)
   rw [List.drop_eq_getElem_cons hi,qaj] at hR
   simp only [qpx,qv6] at hR
   have hz:((i:Int) == 0) = (i == 0):=by rw [Bool.eq_iff_iff];simp
   simp only [sB.1,qgr,simprocAttr,-Int.reduceNatCast',ht,e0,e15,e16,c1,hx,w,hz] at he
   cases hb:(!(ile 97 (s[i].toNat:Int) && ile (s[i].toNat:Int) 122) && (i == 0 || !(ile 48 (s[i].toNat:Int) && ile (s[i].toNat:Int) 57))) with
   | true=>
    rw [hb] at hR
    simp only [sB.1,hb,simprocAttr,-Int.reduceNatCast',ht] at he
    subst he
    refine .inr ⟨_,_,rfl,by simp,.inr ⟨rfl,by simpa using hR.symm,_,rfl,by simp only [qc,ht],?_⟩⟩
    simp only [sB.1,simprocAttr,-Int.reduceNatCast',ht]
   | false=>
    rw [hb] at hR
    simp only [sB.1,hb,simprocAttr,-Int.reduceNatCast',ht,e16,w] at he
    subst he
    refine .inl ⟨_,k - 1,rfl,by omega,_,i + 1,rfl,by simp only [qc,ht],?_,?_,?_,by omega,by simpa using hR,hl⟩
    ·simp only [sB.1,simprocAttr,-Int.reduceNatCast',ht,e0]
    ·simp only [sB.1,simprocAttr,-Int.reduceNatCast',ht,e15]
    ·simp only [sB.1,simprocAttr,-Int.reduceNatCast',ht]
  ·have c1:ilt (i:Int) (s.length:Int) = false:=by rw [qf];simp;omega
   simp only [sB.1,qgr,simprocAttr,-Int.reduceNatCast',ht,e0,e15,e16,c1] at he
   subst he
   rw [List.drop_eq_nil_of_le hi,qaj] at hR
   exact .inr ⟨_,_,rfl,by simp,.inl ⟨rfl,hR.symm,_,rfl,by simp only [qc,ht]⟩⟩
 rw [qr rfl (show T.get 114 = some qyw by kernel_rfl)]
 by_cases g1:1 ≤ s.length
 ·have d1:ilt (s.length:Int) 1 = false:=by rw [qf];simp;omega
  by_cases g2:s.length ≤ 16
  ·have d2:ilt 16 (s.length:Int) = false:=by rw [qf];simp;omega
   simp only [sB.1,qyw,simprocAttr,-Int.reduceNatCast',d1,d2]
   generalize hr:qm h.length Wd (.loop qgr) _ = r
   obtain ⟨x,st',rfl,hq⟩:=qaB hr (loop s.length _ ⟨_,0,rfl,by simp only [sB.1,simprocAttr,-Int.reduceNatCast'],by simp only [sB.1,simprocAttr,-Int.reduceNatCast'],by simp only [sB.1,simprocAttr,-Int.reduceNatCast'],by simp only [sB.1,simprocAttr,-Int.reduceNatCast',Int.natCast_zero],by omega,rfl,g2⟩)
   rcases hq with ⟨rfl,hv,tt,rfl,ht⟩ | ⟨rfl,hv,tt,rfl,ht,e2⟩
   ·simp only [sB.1,simprocAttr,-Int.reduceNatCast',ht]
    simp [qcZ,g1,g2,hv]
   ·simp only [sB.1,simprocAttr,-Int.reduceNatCast',ht,e2]
    simp [qcZ,g1,g2,hv]
  ·have d2:ilt 16 (s.length:Int) = true:=by rw [qf];simp;omega
   simp only [sB.1,qyw,simprocAttr,-Int.reduceNatCast',d1,d2]
   simp [qcZ,g2]
 ·have d1:ilt (s.length:Int) 1 = true:=by rw [qf];simp;omega
  simp only [sB.1,qyw,simprocAttr,-Int.reduceNatCast',d1]
  simp [qcZ,g1]
def qDm:qa→Str
 | .str s=>s
 | _=>[]
def words:List Str:=g2.map qDm
theorem qux:g2 = words.map qa.str:=by kernel_rfl
theorem qrx:words.length = 33:=by kernel_rfl
def qbj (s:Str):Bool:=words.any (· == s)
theorem qjN (s:Str) (h:List qb):Wd (.fn 130 [] []) [.str s] h = some (.ret (.bool (qbj s)),h,false):=by
 have loop:∀k st,(∃tt i,st = ⟨tt,h,false⟩∧tt.length = 13∧lkp tt 0 = .str s∧lkp tt 5 = .agg g2∧lkp tt 6 = .int .i64 (i:Nat)∧i + k = 33∧(words.drop i).any (· == s) = qbj s)→
   ∃x st',qm h.length Wd (.loop qfJ) st = some (x,st')∧((x = .exit 0∧qbj s = false∧∃tt,st' = ⟨tt,h,false⟩∧tt.length = 13)∨(x = .ret∧qbj s = true∧∃tt,st' = ⟨tt,h,false⟩∧tt.length = 13∧lkp tt 2 = .bool true)):=by
  refine qD _ _ ?_
  rintro k st ⟨tt,i,rfl,ht,e0,e5,e6,hik,hR⟩
  generalize he:qm h.length Wd qfJ _ = r
  have hlen:=qrx
  rcases Nat.lt_or_ge i 33 with hi | hi
  ·have c1:ilt (i:Int) 33 = true:=by rw [qf];simp;omega
   have hx:qhW 33 none (.agg g2) (.int .i64 (i:Nat)) = some (.str (words[i]'(by omega))):=by
    rw [qtq (v:=.str (words[i]'(by omega))) hi (by rw [qux,List.getElem?_map,List.getElem?_eq_getElem (by omega)];rfl)]
    rfl
   have w:=qab (n:=i) (by omega)
   rw [List.drop_eq_getElem_cons (by omega),List.any_cons] at hR
   cases hb:((words[i]'(by omega)) == s) with
   | true=>
    rw [hb] at hR
    simp only [sB.1,qfJ,simprocAttr,-Int.reduceNatCast',ht,e0,e5,e6,c1,hx,hb] at he
    subst he
    refine .inr ⟨_,_,rfl,by simp,.inr ⟨rfl,by simpa using hR.symm,_,rfl,by simp only [qc,ht],?_⟩⟩
    simp only [sB.1,simprocAttr,-Int.reduceNatCast',ht]
   | false=>
    rw [hb] at hR
    simp only [sB.1,qfJ,simprocAttr,-Int.reduceNatCast',ht,e0,e5,e6,c1,hx,hb,w] at he
    subst he
    refine .inl ⟨_,k - 1,rfl,by omega,_,i + 1,rfl,by simp only [qc,ht],?_,?_,?_,by omega,by simpa using hR⟩
    ·simp only [sB.1,simprocAttr,-Int.reduceNatCast',ht,e0]
    ·simp only [sB.1,simprocAttr,-Int.reduceNatCast',ht,e5]
    ·simp only [sB.1,simprocAttr,-Int.reduceNatCast',ht]
  ·have c1:ilt (i:Int) 33 = false:=by rw [qf];simp;omega
   simp only [sB.1,qfJ,simprocAttr,-Int.reduceNatCast',ht,e0,e5,e6,c1] at he
   subst he
   rw [List.drop_eq_nil_of_le (by omega),List.any_nil] at hR
   exact .inr ⟨_,_,rfl,by simp,.inl ⟨rfl,hR.symm,_,rfl,by simp only [qc,ht]⟩⟩
 have hg:cut g2 0 (some 33) = some (.agg g2):=by kernel_rfl
 rw [qr rfl (show T.get 130 = some qAM by kernel_rfl)]
 simp only [sB.1,qAM,simprocAttr,-Int.reduceNatCast',hg]
 generalize hr:qm h.length Wd (.loop qfJ) _ = r
 obtain ⟨x,st',rfl,hq⟩:=qaB hr (loop 33 _ ⟨_,0,rfl,by simp only [sB.1,simprocAttr,-Int.reduceNatCast'],by simp only [sB.1,simprocAttr,-Int.reduceNatCast'],by simp only [sB.1,simprocAttr,-Int.reduceNatCast'],by simp only [sB.1,simprocAttr,-Int.reduceNatCast',Int.natCast_zero],by omega,rfl⟩)
 rcases hq with ⟨rfl,hv,tt,rfl,ht⟩ | ⟨rfl,hv,tt,rfl,ht,e2⟩
 ·simp only [sB.1,simprocAttr,-Int.reduceNatCast',ht,hv]
 ·simp only [sB.1,simprocAttr,-Int.reduceNatCast',ht,e2,hv]
def qa4 (s:Str):Bool:=qcZ s && !qbj s
theorem qT (s:Str) (h:List qb):Wd (.fn 115 [] []) [.str s] h = some (.ret (.bool (qa4 s)),h,false):=by
 rw [qr rfl (show T.get 115 = some qAI by kernel_rfl)]
 cases hv:qcZ s <;> cases hr:qbj s <;> (simp only [sB.1,qAI,simprocAttr,-Int.reduceNatCast',qX,qjN,hv,hr];simp [qa4,hv,hr])
end Go.Proofs.YtnibchoenjmmjaaGreatDoor.AE
namespace Go.AE
section
variable {k:Nat} {vs:List (List qa)}
theorem qbG (hk:∀v ∈ vs,v.length = k):vs.flatten.length = vs.length * k:=by
 induction vs with
 | nil=>simp
 | cons v vs ih=>
  rw [List.flatten_cons,List.length_append,ih fun x hx=>hk x (List.mem_cons_of_mem _ hx),hk v List.mem_cons_self,List.length_cons,Nat.succ_mul,Nat.add_comm]
theorem qkm (hk:∀v ∈ vs,v.length = k) {i:Nat} (hi:i < vs.length):(vs.flatten.drop (i * k)).take k = vs[i]:=by
 rw [qfy vs i hk hi,List.getD_eq_getElem?_getD,List.getElem?_eq_getElem hi]
 rfl
theorem qot (hk:∀v ∈ vs,v.length = k) {i:Nat} (hi:i < vs.length):i * k + k ≤ vs.flatten.length:=by
 rw [qbG hk,←Nat.succ_mul]
 exact Nat.mul_le_mul_right k hi
theorem qdd {cs:List qa} (hd:∀c ∈ cs,c.dim = c):cs.map qa.dim = cs:=by
 induction cs with
 | nil=>rfl
 | cons c cs ih=>rw [List.map_cons,hd c List.mem_cons_self,ih fun x hx=>hd x (List.mem_cons_of_mem _ hx)]
theorem qc3 (hk:∀v ∈ vs,v.length = k) {i:Nat} (hi:i < vs.length) (hd:∀c ∈ vs[i],c.dim = c):cut vs.flatten (i * k) (some k) = some (.agg vs[i]):=by
 rw [qgR (qot hk hi),qkm hk hi,qdd hd]
end
theorem qcf {k id len cap more i:Nat} {j:IntKind} (hi:i < len):qav k (.sl id 0 len cap more) (.int j (i:Nat)) = some (.ptr id (i * k)):=by
 rw [qwU,if_pos ⟨by omega,by omega⟩,Nat.zero_add,Int.toNat_natCast]
def qbl (cs:List qa):Prop:=∀c ∈ cs,c.dim = c∧c.storable = true
theorem qbl.dims {cs:List qa} (h:qbl cs):cs.map qa.dim = cs:=qdd fun c hc=>(h c hc).1
theorem qbl.all {cs:List qa} (h:qbl cs):cs.all qa.storable = true:=List.all_eq_true.2 fun c hc=>(h c hc).2
section
variable {base k n id id2:Nat} {h:List qb} {row cs:List qa}
theorem qqV (h2:h[id2]? = some (.cells row)) (hk:row.length = k) (hs:qbl row):qdk k h (.sl id2 0 1 1 0) = some (row,1):=by
 have:row.take k = row:=List.take_of_length_le (by omega)
 simp [qdk,h2,hk,this,hs.dims]
theorem qbx (h2:h[id2]? = some (.cells row)) (hk:row.length = k) (hs:qbl row):hop base (.app k) [.lst [] .full,.sl id2 0 1 1 0] h = some (.sl h.length 0 1 1 k,h ++ [.cells row],false):=by
 have e:qdk k h (.lst [] .full) = some ([],0):=rfl
 simp [hop,qeU,qqV h2 hk hs,hs.all,e,qcE]
theorem qbY (h1:h[id]? = some (.cells cs)) (h2:h[id2]? = some (.cells row)) (hk:row.length = k) (hc:cs.length = n * k) (hs:qbl row) (hs2:qbl cs) (hn:n ≤ 100000) (hk0:k ≠ 0):hop base (.app k) [.sl id 0 n n k,.sl id2 0 1 1 0] h = some (.sl h.length 0 (n + 1) (n + 1) k,h.set id .dead ++ [.cells (cs ++ row)],false):=by
 have e:qdk k h (.sl id 0 n n k) = some (cs,n):=by
  have:cs.take (n * k) = cs:=List.take_of_length_le (by omega)
  simp [qdk,h1,hc,this,hs2.dims]
 have hl:n + 1 ≤ qcE:=by simp only [qcE];omega
 have hl2:¬ n + 1 ≤ n:=by omega
 simp only [hop,qeU,qqV h2 hk hs,hs.all,e,h1,Bool.not_true,Bool.false_eq_true,if_false,Nat.succ_ne_zero,hl,hl2,if_true]
 simp [hk0,hc]
end
end Go.AE
namespace Go.Proofs.YtnibchoenjmmjaaGreatDoor.AE
open Go.AE
theorem qCS (base:Nat) (x:Int) (h:List qb):hop base (.lit 1 [.int .i64 0] 1 [0]) [.int .i64 x] h = some (.sl h.length 0 1 1 0,h ++ [.cells [.int .i64 x]],false):=by kernel_rfl
theorem qFB (base:Nat) (a b:Str) (k:Int) (L:List qa) (h:List qb):hop base (.lit 4 [.str [],.str [],.int .i64 0,.lst [] .full] 1 [0]) [.agg [.str a,.str b,.int .i64 k,.lst L .no]] h = some (.sl h.length 0 1 1 0,h ++ [.cells [.str a,.str b,.int .i64 k,.lst L .no]],false):=by kernel_rfl
theorem qFC (base:Nat) (a b:Int) (c d:Str) (e:Int) (I:qa) (hd:I.dim = I) (hs:I.storable = true) (h:List qb):hop base (.lit 6 [.int .i64 0,.int .i64 0,.str [],.str [],.int .i64 0,.lst [] .full] 1 [0]) [.agg [.int .i64 a,.int .i64 b,.str c,.str d,.int .i64 e,I]] h = some (.sl h.length 0 1 1 0,h ++ [.cells [.int .i64 a,.int .i64 b,.str c,.str d,.int .i64 e,I]],false):=by
 have s1:∀(j:IntKind) (x:Int),(qa.int j x).storable = true:=fun _ _=>rfl
 have s2:∀x:Str,(qa.str x).storable = true:=fun _=>rfl
 have d1:∀(j:IntKind) (x:Int),(qa.int j x).dim = .int j x:=fun _ _=>rfl
 have d2:∀x:Str,(qa.str x).dim = .str x:=fun _=>rfl
 simp [hop,qaK,qa.cells,splice,hs,hd,s1,s2,d1,d2]
def Cov (H:Nat→Option qb) (g:List qb):Prop:=∀i x,H i = some x→g[i]? = some x
theorem Cov.lt {H:Nat→Option qb} {g:List qb} (h:Cov H g) {i:Nat} {x:qb} (hi:H i = some x):i < g.length:=(List.getElem?_eq_some_iff.1 (h i x hi)).1
theorem Cov.late {H:Nat→Option qb} {g:List qb} (h:Cov H g) {i:Nat} (hi:g.length ≤ i):H i = none:=by
 cases hx:H i with
 | none=>rfl
 | some x=>have:=h.lt hx;omega
theorem Cov.more {H:Nat→Option qb} {g:List qb} (h:Cov H g) (l:List qb):Cov H (g ++ l):=fun i x hi=>by
 rw [List.getElem?_append_left (h.lt hi)]
 exact h i x hi
theorem Cov.set {H:Nat→Option qb} {g:List qb} (h:Cov H g) {j:Nat} (hj:H j = none) (b:qb):Cov H (g.set j b):=fun i x hi=>by
 have:j ≠ i:=fun e=>by subst e;rw [hj] at hi;cases hi
 rw [List.getElem?_set_ne this]
 exact h i x hi
def Sub (H H':Nat→Option qb):Prop:=∀i x,H i = some x→H' i = some x
inductive Val where
 | mk (k n:Int) (s:Str) (l:List Val)
def Val.enc:Val→List qa
 | .mk k n s l=>[.int .i64 k,.int .i64 n,.str s,.lst (l.map fun v=>.agg v.enc) .no]
def qa7 (v:Val):qa:=.agg v.enc
theorem qch (k n:Int) (s:Str) (l:List Val):(Val.mk k n s l).enc = [.int .i64 k,.int .i64 n,.str s,.lst (l.map qa7) .no]:=by rw [Val.enc];rfl
theorem qyp (k n:Int) (s:Str) (l:List Val):qa7 (.mk k n s l) = .agg [.int .i64 k,.int .i64 n,.str s,.lst (l.map qa7) .no]:=by rw [qa7,qch]
inductive At (H:Nat→Option qb):Val→List qa→Prop
 | lst (k n:Int) (s:Str) (l:List Val) (rs:List (List qa)) (f:qdO):(f = .no∨f = .full)→rs.length = l.length→(∀(i:Nat) (h:i < l.length) (h':i < rs.length),At H l[i] rs[i])→At H (.mk k n s l) [.int .i64 k,.int .i64 n,.str s,.lst (rs.map .agg) f]
 | sl (k n:Int) (s:Str) (l:List Val) (rs:List (List qa)) (id m:Nat):H id = some (.cells rs.flatten)→rs.length = l.length→(∀(i:Nat) (h:i < l.length) (h':i < rs.length),At H l[i] rs[i])→At H (.mk k n s l) [.int .i64 k,.int .i64 n,.str s,.sl id 0 l.length l.length m]
theorem At.mono {H H':Nat→Option qb} (hle:Sub H H') {v:Val} {cs:List qa} (h:At H v cs):At H' v cs:=by
 induction h with
 | lst k n s l rs f h1 h2 _ ih=>exact .lst k n s l rs f h1 h2 ih
 | sl k n s l rs id m h1 h2 _ ih=>exact .sl k n s l rs id m (hle _ _ h1) h2 ih
def LP (H:Nat→Option qb) (l:List Val) (L:qa):Prop:=∃rs:List (List qa),rs.length = l.length∧(∀(i:Nat) (h:i < l.length) (h':i < rs.length),At H l[i] rs[i])∧((∃f,(f = .no∨f = .full)∧L = .lst (rs.map .agg) f)∨∃id m,L = .sl id 0 l.length l.length m∧H id = some (.cells rs.flatten))
theorem At.lp {H:Nat→Option qb} {k n:Int} {s:Str} {l:List Val} {cs:List qa} (h:At H (.mk k n s l) cs):∃L,cs = [.int .i64 k,.int .i64 n,.str s,L]∧LP H l L:=by
 cases h with
 | lst _ _ _ _ rs f h1 h2 h3=>exact ⟨_,rfl,rs,h2,h3,.inl ⟨f,h1,rfl⟩⟩
 | sl _ _ _ _ rs id m h1 h2 h3=>exact ⟨_,rfl,rs,h2,h3,.inr ⟨id,m,rfl,h1⟩⟩
theorem LP.at {H:Nat→Option qb} {l:List Val} {L:qa} (h:LP H l L) (k n:Int) (s:Str):At H (.mk k n s l) [.int .i64 k,.int .i64 n,.str s,L]:=by
 obtain ⟨rs,h1,h2,⟨f,h3,rfl⟩ | ⟨id,m,rfl,h3⟩⟩:=h
 ·exact .lst k n s l rs f h3 h1 h2
 ·exact .sl k n s l rs id m h3 h1 h2
theorem LP.mono {H H':Nat→Option qb} (hle:Sub H H') {l:List Val} {L:qa} (h:LP H l L):LP H' l L:=by
 obtain ⟨rs,h1,h2,h3⟩:=h
 refine ⟨rs,h1,fun i a b=>(h2 i a b).mono hle,?_⟩
 rcases h3 with h3 | ⟨id,m,e,h3⟩
 ·exact .inl h3
 ·exact .inr ⟨id,m,e,hle _ _ h3⟩
theorem LP.nil {H:Nat→Option qb} {f:qdO} (hf:f = .no∨f = .full):LP H [] (.lst [] f):=⟨[],rfl,fun i h=>by simp at h,.inl ⟨f,hf,rfl⟩⟩
theorem LP.facts {H:Nat→Option qb} {l:List Val} {L:qa} (h:LP H l L):L.dim = L∧L.storable = true∧(∀i t,qx L i t = t)∧qbb false L = some (.int .i64 (l.length:Nat)):=by
 obtain ⟨rs,h1,h2,⟨f,rfl | rfl,rfl⟩ | ⟨id,m,rfl,h3⟩⟩:=h
 ·exact ⟨rfl,rfl,fun _ _=>rfl,by simp [qbb,h1]⟩
 ·exact ⟨rfl,rfl,fun _ _=>rfl,by simp [qbb,h1]⟩
 ·exact ⟨rfl,rfl,fun _ _=>rfl,rfl⟩
theorem At.cells {H:Nat→Option qb} {v:Val} {cs:List qa} (h:At H v cs):∃k n s l L,v = .mk k n s l∧cs = [.int .i64 k,.int .i64 n,.str s,L]∧L.dim = L∧L.storable = true∧(∀i t,qx L i t = t)∧qbb false L = some (.int .i64 (l.length:Nat)):=by
 obtain ⟨k,n,s,l⟩:=v
 obtain ⟨L,rfl,hL⟩:=h.lp
 exact ⟨k,n,s,l,L,rfl,rfl,hL.facts⟩
theorem At.length {H:Nat→Option qb} {v:Val} {cs:List qa} (h:At H v cs):cs.length = 4:=by
 obtain ⟨k,n,s,l,L,rfl,rfl,_⟩:=h.cells
 rfl
theorem At.still {H:Nat→Option qb} {v:Val} {cs:List qa} (h:At H v cs):qbl cs:=by
 obtain ⟨k,n,s,l,L,rfl,rfl,hd,hs,_⟩:=h.cells
 intro c hc
 simp only [List.mem_cons,List.not_mem_nil,or_false] at hc
 rcases hc with rfl | rfl | rfl | rfl <;> first | exact ⟨rfl,rfl⟩ | exact ⟨hd,hs⟩
theorem At.dims {H:Nat→Option qb} {v:Val} {cs:List qa} (h:At H v cs):∀c ∈ cs,c.dim = c:=fun c hc=>(h.still c hc).1
theorem At.elem {H:Nat→Option qb} {l:List Val} {ess:List (List qa)} (hl:ess.length = l.length) (hv:∀(i:Nat) (h:i < l.length) (h':i < ess.length),At H l[i] ess[i]):(∀e ∈ ess,e.length = 4)∧∀(i:Nat) (h':i < ess.length),cut ess.flatten (i * 4) (some 4) = some (.agg ess[i]):=by
 have h1:∀e ∈ ess,e.length = 4:=fun e he=>by
  obtain ⟨i,hi,rfl⟩:=List.getElem_of_mem he
  exact (hv i (by omega) hi).length
 exact ⟨h1,fun i h'=>qc3 h1 h' (hv i (by omega) h').dims⟩
theorem LP.item {H:Nat→Option qb} {l:List Val} {L:qa} (h:LP H l L) {i:Nat} (hi:i < l.length) {g:List qb} (hg:Cov H g):∃pp cs,qav 4 L (.int .i64 (i:Nat)) = some pp∧pp.dim = pp∧(∀m,qbQ (g ++ m) pp (some 4) = some (.agg cs))∧qbQ g pp (some 4) = some (.agg cs)∧At H l[i] cs:=by
 obtain ⟨rs,h1,h2,⟨f,hf,rfl⟩ | ⟨id,m,rfl,h3⟩⟩:=h
 ·have hi':i < rs.length:=by omega
  have h4:=h2 i hi hi'
  have hx:qav 4 (.lst (rs.map .agg) f) (.int .i64 (i:Nat)) = some (.iptr rs[i] 0):=qaM (x:=.agg rs[i]) (by rw [List.getElem?_map,List.getElem?_eq_getElem hi'];rfl) h4.length
  have hc:cut rs[i] 0 (some 4) = some (.agg rs[i]):=by
   rw [qgR (by rw [h4.length];omega),List.drop_zero,List.take_of_length_le (by rw [h4.length];omega),qdd h4.dims]
  exact ⟨_,_,hx,rfl,fun m=>hc,hc,h4⟩
 ·have hi':i < rs.length:=by omega
  have hc:=(At.elem h1 h2).2 i hi'
  exact ⟨_,rs[i],qcf hi,rfl,fun m=>by rw [qe9 (hg.more m _ _ h3)];exact hc,by rw [qe9 (hg _ _ h3)];exact hc,h2 i hi hi'⟩
theorem At.arg {H:Nat→Option qb}:∀v:Val,At H v v.enc
 | .mk k n s l=>by
  rw [qch,show l.map qa7 = (l.map Val.enc).map .agg by rw [List.map_map];rfl]
  refine .lst k n s l _ .no (.inl rfl) (by simp) fun i h h'=>?_
  rw [List.getElem_map]
  exact At.arg l[i]
 termination_by v=>SizeOf.sizeOf v
 decreasing_by
 have:=List.sizeOf_lt_of_mem (List.getElem_mem h)
 simp only [Val.mk.sizeOf_spec]
 omega
theorem LP.arg {H:Nat→Option qb} (l:List Val):LP H l (.lst (l.map qa7) .no):=by
 refine ⟨l.map Val.enc,by simp,fun i h h'=>?_,.inl ⟨.no,.inl rfl,by rw [List.map_map];rfl⟩⟩
 rw [List.getElem_map]
 exact At.arg l[i]
theorem qeB {n:Nat}:∀{cs:List qa},(∀c ∈ cs,c.lower n = true)→qv n cs = true
 | [],_=>by simp only [qv]
 | c :: cs,h=>by simp only [qv,h c List.mem_cons_self,qeB fun x hx=>h x (List.mem_cons_of_mem _ hx),Bool.and_self]
theorem At.low {H:Nat→Option qb} {g:List qb} (hg:Cov H g) {v:Val} {cs:List qa} (h:At H v cs):qv g.length cs = true:=by
 induction h with
 | lst k n s l rs f h1 h2 _ ih=>
  have:qv g.length (rs.map .agg) = true:=qeB fun c hc=>by
   obtain ⟨r,hr,rfl⟩:=List.mem_map.1 hc
   obtain ⟨i,hi,rfl⟩:=List.getElem_of_mem hr
   simp only [qa.lower]
   exact ih i (by omega) hi
  simp only [qv,qa.lower,this,Bool.and_self]
 | sl k n s l rs id m h1 h2 _ _=>
  have:Nat.blt id g.length = true:=Nat.ble_eq_true_of_le (hg.lt h1)
  simp only [qv,qa.lower,this,Bool.and_self]
theorem LP.low {H:Nat→Option qb} {g:List qb} (hg:Cov H g) {l:List Val} {L:qa} (h:LP H l L):L.lower g.length = true:=by
 have:=(h.at 0 0 []).low hg
 simp only [qv,qa.lower,Bool.true_and,Bool.and_true] at this
 exact this
def qgf (k n:Int) (s:Str) (l:List Val):Bool:=bif k == 0 then (s == []) && ((l.length:Int) == 0) else bif k == 1 then ((n == 0 || n == 1) && (s == [])) && ((l.length:Int) == 0) else bif k == 2 then (qcZ s && (n == 0)) && ((l.length:Int) == 0) else false
def qE:Nat→Val→Bool
 | 0,.mk k n s l=>qgf k n s l
 | d + 1,.mk k n s l=>bif k == 3 then ((n == 0) && (s == [])) && (decide (1 ≤ l.length) && decide (l.length ≤ 4)) && l.all (qE d) else qgf k n s l
theorem qaG {k n:Int} {s:Str} {l:List Val} (h:qgf k n s l = true):l = []:=by
 have key:((l.length:Int) == 0) = true→l = []:=fun h=>List.length_eq_zero_iff.1 (by have:=of_decide_eq_true h;omega)
 unfold qgf at h
 cases h0:(k == 0) <;> cases h1:(k == 1) <;> cases h2:(k == 2) <;> simp only [h0,h1,h2,cond_true,cond_false,Bool.and_eq_true] at h <;> first | exact key h.2 | cases h
theorem qeZ {d:Nat} {k n:Int} {s:Str} {l:List Val} (h:qE d (.mk k n s l) = true):l.length ≤ 4∧∀x ∈ l,∃d',qE d' x = true:=by
 have leaf:qgf k n s l = true→l.length ≤ 4∧∀x ∈ l,∃d',qE d' x = true:=fun h0=>by
  have:=qaG h0
  subst this
  exact ⟨by simp,fun x hx=>by cases hx⟩
 cases d with
 | zero=>exact leaf h
 | succ d=>
  rw [qE] at h
  cases h3:(k == 3) with
  | true=>
   rw [h3,cond_true] at h
   simp only [Bool.and_eq_true,decide_eq_true_eq,List.all_eq_true] at h
   exact ⟨h.1.2.2,fun x hx=>⟨d,h.2 x hx⟩⟩
  | false=>
   rw [h3,cond_false] at h
   exact leaf h
inductive Tp where
 | mk (k:Int) (l:List Tp)
def Tp.enc:Tp→List qa
 | .mk k l=>[.int .i64 k,.lst (l.map fun v=>.agg v.enc) .no]
def tpV (v:Tp):qa:=.agg v.enc
theorem qai (k:Int) (l:List Tp):(Tp.mk k l).enc = [.int .i64 k,.lst (l.map tpV) .no]:=by rw [Tp.enc];rfl
inductive Ta (H:Nat→Option qb):Tp→List qa→Prop
 | lst (k:Int) (l:List Tp) (rs:List (List qa)) (f:qdO):(f = .no∨f = .full)→rs.length = l.length→(∀(i:Nat) (h:i < l.length) (h':i < rs.length),Ta H l[i] rs[i])→Ta H (.mk k l) [.int .i64 k,.lst (rs.map .agg) f]
 | sl (k:Int) (l:List Tp) (rs:List (List qa)) (id m:Nat):H id = some (.cells rs.flatten)→rs.length = l.length→(∀(i:Nat) (h:i < l.length) (h':i < rs.length),Ta H l[i] rs[i])→Ta H (.mk k l) [.int .i64 k,.sl id 0 l.length l.length m]
theorem Ta.mono {H H':Nat→Option qb} (hle:Sub H H') {v:Tp} {cs:List qa} (h:Ta H v cs):Ta H' v cs:=by
 induction h with
 | lst k l rs f h1 h2 _ ih=>exact .lst k l rs f h1 h2 ih
 | sl k l rs id m h1 h2 _ ih=>exact .sl k l rs id m (hle _ _ h1) h2 ih
def TL (H:Nat→Option qb) (l:List Tp) (L:qa):Prop:=∃rs:List (List qa),rs.length = l.length∧(∀(i:Nat) (h:i < l.length) (h':i < rs.length),Ta H l[i] rs[i])∧((∃f,(f = .no∨f = .full)∧L = .lst (rs.map .agg) f)∨∃id m,L = .sl id 0 l.length l.length m∧H id = some (.cells rs.flatten))
theorem Ta.lp {H:Nat→Option qb} {k:Int} {l:List Tp} {cs:List qa} (h:Ta H (.mk k l) cs):∃L,cs = [.int .i64 k,L]∧TL H l L:=by
 cases h with
 | lst _ _ rs f h1 h2 h3=>exact ⟨_,rfl,rs,h2,h3,.inl ⟨f,h1,rfl⟩⟩
 | sl _ _ rs id m h1 h2 h3=>exact ⟨_,rfl,rs,h2,h3,.inr ⟨id,m,rfl,h1⟩⟩
theorem TL.at {H:Nat→Option qb} {l:List Tp} {L:qa} (h:TL H l L) (k:Int):Ta H (.mk k l) [.int .i64 k,L]:=by
 obtain ⟨rs,h1,h2,⟨f,h3,rfl⟩ | ⟨id,m,rfl,h3⟩⟩:=h
 ·exact .lst k l rs f h3 h1 h2
 ·exact .sl k l rs id m h3 h1 h2
theorem TL.mono {H H':Nat→Option qb} (hle:Sub H H') {l:List Tp} {L:qa} (h:TL H l L):TL H' l L:=by
 obtain ⟨rs,h1,h2,h3⟩:=h
 refine ⟨rs,h1,fun i a b=>(h2 i a b).mono hle,?_⟩
 rcases h3 with h3 | ⟨id,m,e,h3⟩
 ·exact .inl h3
 ·exact .inr ⟨id,m,e,hle _ _ h3⟩
theorem TL.nil {H:Nat→Option qb} {f:qdO} (hf:f = .no∨f = .full):TL H [] (.lst [] f):=⟨[],rfl,fun i h=>by simp at h,.inl ⟨f,hf,rfl⟩⟩
theorem TL.facts {H:Nat→Option qb} {l:List Tp} {L:qa} (h:TL H l L):L.dim = L∧L.storable = true∧(∀i t,qx L i t = t)∧qbb false L = some (.int .i64 (l.length:Nat)):=by
 obtain ⟨rs,h1,h2,⟨f,rfl | rfl,rfl⟩ | ⟨id,m,rfl,h3⟩⟩:=h
 ·exact ⟨rfl,rfl,fun _ _=>rfl,by simp [qbb,h1]⟩
 ·exact ⟨rfl,rfl,fun _ _=>rfl,by simp [qbb,h1]⟩
 ·exact ⟨rfl,rfl,fun _ _=>rfl,rfl⟩
theorem Ta.cells {H:Nat→Option qb} {v:Tp} {cs:List qa} (h:Ta H v cs):∃k l L,v = .mk k l∧cs = [.int .i64 k,L]∧L.dim = L∧L.storable = true∧(∀i t,qx L i t = t)∧qbb false L = some (.int .i64 (l.length:Nat)):=by
 obtain ⟨k,l⟩:=v
 obtain ⟨L,rfl,hL⟩:=h.lp
 exact ⟨k,l,L,rfl,rfl,hL.facts⟩
theorem Ta.length {H:Nat→Option qb} {v:Tp} {cs:List qa} (h:Ta H v cs):cs.length = 2:=by
 obtain ⟨k,l,L,rfl,rfl,_⟩:=h.cells
 rfl
theorem Ta.still {H:Nat→Option qb} {v:Tp} {cs:List qa} (h:Ta H v cs):qbl cs:=by
 obtain ⟨k,l,L,rfl,rfl,hd,hs,_⟩:=h.cells
 intro c hc
 simp only [List.mem_cons,List.not_mem_nil,or_false] at hc
 rcases hc with rfl | rfl <;> first | exact ⟨rfl,rfl⟩ | exact ⟨hd,hs⟩
theorem Ta.dims {H:Nat→Option qb} {v:Tp} {cs:List qa} (h:Ta H v cs):∀c ∈ cs,c.dim = c:=fun c hc=>(h.still c hc).1
theorem Ta.elem {H:Nat→Option qb} {l:List Tp} {ess:List (List qa)} (hl:ess.length = l.length) (hv:∀(i:Nat) (h:i < l.length) (h':i < ess.length),Ta H l[i] ess[i]):(∀e ∈ ess,e.length = 2)∧∀(i:Nat) (h':i < ess.length),cut ess.flatten (i * 2) (some 2) = some (.agg ess[i]):=by
 have h1:∀e ∈ ess,e.length = 2:=fun e he=>by
  obtain ⟨i,hi,rfl⟩:=List.getElem_of_mem he
  exact (hv i (by omega) hi).length
 exact ⟨h1,fun i h'=>qc3 h1 h' (hv i (by omega) h').dims⟩
theorem TL.item {H:Nat→Option qb} {l:List Tp} {L:qa} (h:TL H l L) {i:Nat} (hi:i < l.length) {g:List qb} (hg:Cov H g):∃pp cs,qav 2 L (.int .i64 (i:Nat)) = some pp∧pp.dim = pp∧(∀m,qbQ (g ++ m) pp (some 2) = some (.agg cs))∧qbQ g pp (some 2) = some (.agg cs)∧Ta H l[i] cs:=by
 obtain ⟨rs,h1,h2,⟨f,hf,rfl⟩ | ⟨id,m,rfl,h3⟩⟩:=h
 ·have hi':i < rs.length:=by omega
  have h4:=h2 i hi hi'
  have hx:qav 2 (.lst (rs.map .agg) f) (.int .i64 (i:Nat)) = some (.iptr rs[i] 0):=qaM (x:=.agg rs[i]) (by rw [List.getElem?_map,List.getElem?_eq_getElem hi'];rfl) h4.length
  have hc:cut rs[i] 0 (some 2) = some (.agg rs[i]):=by
   rw [qgR (by rw [h4.length];omega),List.drop_zero,List.take_of_length_le (by rw [h4.length];omega),qdd h4.dims]
  exact ⟨_,_,hx,rfl,fun m=>hc,hc,h4⟩
 ·have hi':i < rs.length:=by omega
  have hc:=(Ta.elem h1 h2).2 i hi'
  exact ⟨_,rs[i],qcf hi,rfl,fun m=>by rw [qe9 (hg.more m _ _ h3)];exact hc,by rw [qe9 (hg _ _ h3)];exact hc,h2 i hi hi'⟩
theorem Ta.arg {H:Nat→Option qb}:∀v:Tp,Ta H v v.enc
 | .mk k l=>by
  rw [qai,show l.map tpV = (l.map Tp.enc).map .agg by rw [List.map_map];rfl]
  refine .lst k l _ .no (.inl rfl) (by simp) fun i h h'=>?_
  rw [List.getElem_map]
  exact Ta.arg l[i]
 termination_by v=>SizeOf.sizeOf v
 decreasing_by
 have:=List.sizeOf_lt_of_mem (List.getElem_mem h)
 simp only [Tp.mk.sizeOf_spec]
 omega
theorem TL.arg {H:Nat→Option qb} (l:List Tp):TL H l (.lst (l.map tpV) .no):=by
 refine ⟨l.map Tp.enc,by simp,fun i h h'=>?_,.inl ⟨.no,.inl rfl,by rw [List.map_map];rfl⟩⟩
 rw [List.getElem_map]
 exact Ta.arg l[i]
theorem Ta.low {H:Nat→Option qb} {g:List qb} (hg:Cov H g) {v:Tp} {cs:List qa} (h:Ta H v cs):qv g.length cs = true:=by
 induction h with
 | lst k l rs f h1 h2 _ ih=>
  have:qv g.length (rs.map .agg) = true:=qeB fun c hc=>by
   obtain ⟨r,hr,rfl⟩:=List.mem_map.1 hc
   obtain ⟨i,hi,rfl⟩:=List.getElem_of_mem hr
   simp only [qa.lower]
   exact ih i (by omega) hi
  simp only [qv,qa.lower,this,Bool.and_self]
 | sl k l rs id m h1 h2 _ _=>
  have:Nat.blt id g.length = true:=Nat.ble_eq_true_of_le (hg.lt h1)
  simp only [qv,qa.lower,this,Bool.and_self]
theorem TL.low {H:Nat→Option qb} {g:List qb} (hg:Cov H g) {l:List Tp} {L:qa} (h:TL H l L):L.lower g.length = true:=by
 have:=(h.at 0).low hg
 simp only [qv,qa.lower,Bool.true_and,Bool.and_true] at this
 exact this
mutual
def qcC:Val→Tp
 | .mk k _ _ l=>.mk k (qaE l)
def qaE:List Val→List Tp
 | []=>[]
 | v :: l=>qcC v :: qaE l
end
theorem qbU:∀l:List Val,qaE l = l.map qcC
 | []=>rfl
 | v :: l=>by rw [qaE,qbU l,List.map_cons]
mutual
def qaV:Tp→Tp→Bool
 | .mk k l,.mk k' l'=>(k == k') && qbD l l'
def qbD:List Tp→List Tp→Bool
 | [],[]=>true
 | a :: l,b :: l'=>qaV a b && qbD l l'
 | _,_=>false
end
mutual
theorem qkM:∀{a b:Tp},qaV a b = true→a = b
 | .mk k l,.mk k' l',h=>by
  rw [qaV,Bool.and_eq_true,beq_iff_eq] at h
  rw [h.1,qir h.2]
theorem qir:∀{a b:List Tp},qbD a b = true→a = b
 | [],[],_=>rfl
 | a :: l,b :: l',h=>by
  rw [qbD,Bool.and_eq_true] at h
  rw [qkM h.1,qir h.2]
 | [],_ :: _,h=>by simp [qbD] at h
 | _ :: _,[],h=>by simp [qbD] at h
end
mutual
theorem qmK:∀a:Tp,qaV a a = true
 | .mk k l=>by rw [qaV,qfY l,beq_self_eq_true,Bool.and_true]
theorem qfY:∀l:List Tp,qbD l l = true
 | []=>rfl
 | a :: l=>by rw [qbD,qmK a,qfY l,Bool.and_true]
end
theorem qgD:∀{a b:List Tp},a.length ≠ b.length→qbD a b = false
 | [],[],h=>absurd rfl h
 | [],_ :: _,_=>rfl
 | _ :: _,[],_=>rfl
 | a :: l,b :: l',h=>by rw [qbD,qgD (by simpa using h),Bool.and_false]
def tyB:Nat→Tp→Bool
 | 0,.mk k l=>bif ile 0 k && ile k 2 then (l.length:Int) == 0 else false
 | d + 1,.mk k l=>bif ile 0 k && ile k 2 then (l.length:Int) == 0 else (k == 3) && (decide (1 ≤ l.length) && decide (l.length ≤ 4)) && l.all (tyB d)
mutual
def qdD:Tp→Nat
 | .mk k l=>bif k == 3 then qdC l + 1 else 0
def qdC:List Tp→Nat
 | []=>0
 | t :: l=>max (qdD t) (qdC l)
end
def qdu:List (Nat×Str):=[(5,[97,116,111,109,105,99]),(6,[99,111,117,112,108,101,100]),(7,[114,111,111,116]),(8,[105,110]),(9,[111,117,116]),(10,[118,97,114]),(11,[116,97]),(12,[101,109,105,116]),(13,[105,110,116]),(14,[98,111,111,108]),(15,[115,121,109]),(16,[101,120,116]),(17,[99,111,110]),(18,[112,97,114,116]),(19,[108,105,110,107]),(20,[114,117,108,101]),(21,[97,100,100]),(22,[100,114,111,112]),(23,[116,105,101]),(24,[99,117,116]),(25,[105,102]),(26,[116,104,101,110]),(27,[101,108,115,101]),(28,[97,110,100]),(29,[111,114]),(30,[110,111,116]),(31,[116,114,117,101]),(32,[102,97,108,115,101]),(33,[99,111,117,110,116]),(34,[104,97,115]),(35,[115,117,109]),(36,[108,101,97,115,116]),(37,[101,108,97,112,115,101,100])]
def qiW:List (Nat×Str)→qC
 | []=>.skip
 | [x]=>.reg [ao x.1 (.bin .eql (.t 3) (.c (.str x.2))),ao 4 (.asg (.t x.1))]
 | x :: y :: r=>.seq (.reg [ao x.1 (.bin .eql (.t 3) (.c (.str x.2))),ao 4 (.asg (.t x.1))]) (.cond (.t 4) .skip (qiW (y :: r)))
def qqM:qC:=.seq (.reg [ao 2 (.asg (.c (.bool false)))]) (.seq (.seq (.reg [ao 3 (.mov (.t 0))]) (.block 0 (.seq (qiW qdu) (.cond (.t 4) (.seq (.reg [ao 2 (.asg (.c (.bool true)))]) .ret) .skip)))) (.seq (.reg [ao 2 (.asg (.c (.bool false)))]) .ret))
theorem qt3:(⟨38,[.tmp 2],qqM⟩ :qt) = qAD:=by kernel_rfl
theorem qkf {b:Nat} {h:List qb} {s:Str}:∀(l:List (Nat×Str)),l ≠ []→(∀x ∈ l,5 ≤ x.1∧x.1 < 38)→∀tt:List qa,tt.length = 38→lkp tt 3 = .str s→
  ∃tt',qm b Wd (qiW l) ⟨tt,h,false⟩ = some (.nor,⟨tt',h,false⟩)∧tt'.length = 38∧lkp tt' 4 = .bool (l.any fun x=>s == x.2)
 | [],h0,_,_,_,_=>absurd rfl h0
 | [(k,w)],_,hk,tt,ht,e3=>by
  obtain ⟨k5,k38⟩:=hk (k,w) (by simp)
  have a1:¬ (k = 3):=by simp only at k5;omega
  have a2:¬ (k = 4):=by simp only at k5;omega
  have a3:k < 38:=k38
  simp only [sB.1,qiW,simprocAttr,-Int.reduceNatCast',ht,e3,a1,a2,a3]
  refine ⟨_,rfl,by simp only [qc,ht],?_⟩
  simp only [sB.1,simprocAttr,-Int.reduceNatCast',ht,List.any_cons,List.any_nil]
 | (k,w) :: y :: r,_,hk,tt,ht,e3=>by
  obtain ⟨k5,k38⟩:=hk (k,w) (by simp)
  have a1:¬ (k = 3):=by simp only at k5;omega
  have a2:¬ (k = 4):=by simp only at k5;omega
  have a3:k < 38:=k38
  generalize he:qm b Wd _ _ = R
  cases hb:(s == w) with
  | true=>
   simp only [sB.1,qiW,simprocAttr,-Int.reduceNatCast',ht,e3,a1,a2,a3,hb] at he
   subst he
   refine ⟨_,rfl,by simp only [qc,ht],?_⟩
   simp only [sB.1,simprocAttr,-Int.reduceNatCast',ht,List.any_cons,hb]
  | false=>
   obtain ⟨tt',g1,g2,g3⟩:=qkf (b:=b) (h:=h) (s:=s) (y :: r) (by simp) (fun x hx=>hk x (List.mem_cons_of_mem _ hx)) (up (up tt k (.bool false)) 4 (.bool false)) (by simp only [qc,ht]) (by simp only [sB.1,simprocAttr,-Int.reduceNatCast',ht,e3,a1])
   simp only [sB.1,qiW,simprocAttr,-Int.reduceNatCast',ht,e3,a1,a2,a3,hb,g1] at he
   subst he
   refine ⟨tt',rfl,g2,?_⟩
   rw [g3,List.any_cons (a:=(k,w)),hb,Bool.false_or]
theorem qx0:(qdu.all fun x=>words.contains x.2) = true:=by kernel_rfl
theorem qxa:(words.all fun w=>qdu.any fun x=>w == x.2) = true:=by kernel_rfl
theorem qt4 (s:Str):(qdu.any fun x=>s == x.2) = qbj s:=by
 rw [Bool.eq_iff_iff,qbj,List.any_eq_true,List.any_eq_true]
 constructor
 ·rintro ⟨x,hx,h⟩
  have:=List.all_eq_true.1 qx0 x hx
  refine ⟨x.2,by simpa using this,?_⟩
  rw [beq_iff_eq] at h
  rw [h,beq_self_eq_true]
 ·rintro ⟨w,hw,h⟩
  have:=List.all_eq_true.1 qxa w hw
  rw [List.any_eq_true] at this
  obtain ⟨x,hx,h2⟩:=this
  rw [beq_iff_eq] at h
  subst h
  exact ⟨x,hx,h2⟩
theorem qxZ:∀x ∈ qdu,5 ≤ x.1∧x.1 < 38:=by
 have:(qdu.all fun x=>decide (5 ≤ x.1) && decide (x.1 < 38)) = true:=by kernel_rfl
 intro x hx
 simpa using List.all_eq_true.1 this x hx
theorem qmC (s:Str) (h:List qb):Wd (.fn 105 [] []) [.str s] h = some (.ret (.bool (qbj s)),h,false):=by
 rw [qr rfl (show T.get 105 = some qAD by kernel_rfl),←qt3]
 generalize hR:qsH _ h _ = R
 simp only [sB.1,qqM,simprocAttr,-Int.reduceNatCast'] at hR
 generalize hr:qm h.length Wd (qiW qdu) _ = r at hR
 obtain ⟨tt,rfl,ht,e4⟩ :∃tt,r = some (.nor,⟨tt,h,false⟩)∧tt.length = 38∧lkp tt 4 = .bool (qdu.any fun x=>s == x.2):=by
  rw [←hr]
  refine qkf qdu (by simp [qdu]) qxZ _ ?_ ?_
  all_goals simp only [sB.1,simprocAttr,-Int.reduceNatCast']
 rw [qt4] at e4
 rw [←hR]
 cases hb:qbj s with
 | true=>
  rw [hb] at e4
  simp only [sB.1,simprocAttr,-Int.reduceNatCast',ht,e4]
 | false=>
  rw [hb] at e4
  simp only [sB.1,simprocAttr,-Int.reduceNatCast',ht,e4]
theorem qW (s:Str) (h:List qb):Wd (.fn 69 [] []) [.str s] h = some (.ret (.bool (qcZ s)),h,false):=by
 have loop:∀k st,(∃tt i,st = ⟨tt,h,false⟩∧tt.length = 50∧lkp tt 0 = .str s∧lkp tt 3 = .int .i64 (i:Nat)∧i + k = s.length∧qaj i (s.drop i) = qaj 0 s∧s.length ≤ 16)→
   ∃x st',qm h.length Wd (.loop qh3) st = some (x,st')∧((x = .exit 0∧qaj 0 s = true∧∃tt,st' = ⟨tt,h,false⟩∧tt.length = 50)∨(x = .ret∧qaj 0 s = false∧∃tt,st' = ⟨tt,h,false⟩∧tt.length = 50∧lkp tt 2 = .bool false)):=by
  refine qD _ _ ?_
  rintro k st ⟨tt,i,rfl,ht,e0,e3,hik,hR,hl⟩
  generalize he:qm h.length Wd qh3 _ = r
  rcases Nat.lt_or_ge i s.length with hi | hi
  ·have c1:ilt (i:Int) (s.length:Int) = true:=by rw [qf];simp;omega
   have hx:qhl (.str s) (.int .i64 (i:Nat)) = some (.int .u8 (s[i].toNat:Nat)):=qkt (List.getElem?_eq_getElem hi)
   have w:=qab (n:=i) (by omega)
   rw [List.drop_eq_getElem_cons hi,qaj] at hR
   have hz:((i:Int) == 0) = (i == 0):=by rw [Bool.eq_iff_iff];simp
   cases hlt:qpx s[i] with
   | true=>
    have q:(ile 97 (s[i].toNat:Int) && ile (s[i].toNat:Int) 122) = true:=hlt
    simp only [Bool.and_eq_true] at q
    cases hd:ile 48 (s[i].toNat:Int) <;> cases hd2:ile (s[i].toNat:Int) 57
    all_goals
     simp only [sB.1,qh3,simprocAttr,-Int.reduceNatCast',ht,e0,e3,c1,hx,w,hz,q.1,q.2,hd,hd2] at he
     subst he
     refine .inl ⟨_,k - 1,rfl,by omega,_,i + 1,rfl,by simp only [qc,ht],?_,?_,by omega,by rw [hlt] at hR;simpa using hR,hl⟩
     ·simp only [sB.1,simprocAttr,-Int.reduceNatCast',ht,e0]
     ·simp only [sB.1,simprocAttr,-Int.reduceNatCast',ht]
   | false=>
    have q:(ile 97 (s[i].toNat:Int) && ile (s[i].toNat:Int) 122) = false:=hlt
    have hq:∀a b,ile 97 (s[i].toNat:Int) = a→ile (s[i].toNat:Int) 122 = b→(a && b) = false:=fun a b ha hb=>by rw [←ha,←hb];exact q
    cases hi0:(i == 0) with
    | true=>
     rw [hlt,hi0] at hR
     cases ha:ile 97 (s[i].toNat:Int) <;> cases hb:ile (s[i].toNat:Int) 122 <;> cases hd:ile 48 (s[i].toNat:Int) <;> cases hd2:ile (s[i].toNat:Int) 57
     all_goals first | (have:=hq _ _ ha hb;cases this;done) | skip
     all_goals
      simp only [sB.1,qh3,simprocAttr,-Int.reduceNatCast',ht,e0,e3,c1,hx,w,hz,ha,hb,hd,hd2,hi0] at he
      subst he
      refine .inr ⟨_,_,rfl,by simp,.inr ⟨rfl,by simpa using hR.symm,_,rfl,by simp only [qc,ht],?_⟩⟩
      simp only [sB.1,simprocAttr,-Int.reduceNatCast',ht]
    | false=>
     rw [hlt,hi0] at hR
     simp only [Bool.not_false,Bool.true_and,Bool.false_or,qv6] at hR
     cases ha:ile 97 (s[i].toNat:Int) <;> cases hb:ile (s[i].toNat:Int) 122 <;> cases hd:ile 48 (s[i].toNat:Int) <;> cases hd2:ile (s[i].toNat:Int) 57
     all_goals first | (have:=hq _ _ ha hb;cases this;done) | skip
     all_goals rw [hd,hd2] at hR
     all_goals simp only [sB.1,qh3,simprocAttr,-Int.reduceNatCast',ht,e0,e3,c1,hx,w,hz,ha,hb,hd,hd2,hi0] at he
     all_goals subst he
     all_goals first
      | (refine .inr ⟨_,_,rfl,by simp,.inr ⟨rfl,by simpa using hR.symm,_,rfl,by simp only [qc,ht],?_⟩⟩
         simp only [sB.1,simprocAttr,-Int.reduceNatCast',ht]
         done)
      | (refine .inl ⟨_,k - 1,rfl,by omega,_,i + 1,rfl,by simp only [qc,ht],?_,?_,by omega,by simpa using hR,hl⟩
         ·simp only [sB.1,simprocAttr,-Int.reduceNatCast',ht,e0]
         ·simp only [sB.1,simprocAttr,-Int.reduceNatCast',ht])
  ·have c1:ilt (i:Int) (s.length:Int) = false:=by rw [qf];simp;omega
   simp only [sB.1,qh3,simprocAttr,-Int.reduceNatCast',ht,e0,e3,c1] at he
   subst he
   rw [List.drop_eq_nil_of_le hi,qaj] at hR
   exact .inr ⟨_,_,rfl,by simp,.inl ⟨rfl,hR.symm,_,rfl,by simp only [qc,ht]⟩⟩
 rw [qr rfl (show T.get 69 = some c69 by kernel_rfl)]
 by_cases g1:1 ≤ s.length
 ·have d1:ilt (s.length:Int) 1 = false:=by rw [qf];simp;omega
  by_cases g2:s.length ≤ 16
  ·have d2:ilt 16 (s.length:Int) = false:=by rw [qf];simp;omega
   simp only [sB.1,c69,simprocAttr,-Int.reduceNatCast',d1,d2]
   generalize hr:qm h.length Wd (.loop qh3) _ = r
   obtain ⟨x,st',rfl,hq⟩:=qaB hr (loop s.length _ ⟨_,0,rfl,by simp only [sB.1,simprocAttr,-Int.reduceNatCast'],by simp only [sB.1,simprocAttr,-Int.reduceNatCast'],by simp only [sB.1,simprocAttr,-Int.reduceNatCast',Int.natCast_zero],by omega,rfl,g2⟩)
   rcases hq with ⟨rfl,hv,tt,rfl,ht⟩ | ⟨rfl,hv,tt,rfl,ht,e2⟩
   ·simp only [sB.1,simprocAttr,-Int.reduceNatCast',ht]
    simp [qcZ,g1,g2,hv]
   ·simp only [sB.1,simprocAttr,-Int.reduceNatCast',ht,e2]
    simp [qcZ,g1,g2,hv]
  ·have d2:ilt 16 (s.length:Int) = true:=by rw [qf];simp;omega
   simp only [sB.1,c69,simprocAttr,-Int.reduceNatCast',d1,d2]
   simp [qcZ,g2]
 ·have d1:ilt (s.length:Int) 1 = true:=by rw [qf];simp;omega
  simp only [sB.1,c69,simprocAttr,-Int.reduceNatCast',d1]
  simp [qcZ,g1]
theorem qad (s:Str) (h:List qb):Wd (.fn 77 [] []) [.str s] h = some (.ret (.bool (qa4 s)),h,false):=by
 rw [qr rfl (show T.get 77 = some c77 by kernel_rfl)]
 cases hv:qcZ s <;> cases hr:qbj s <;> (simp only [sB.1,c77,simprocAttr,-Int.reduceNatCast',qW,qmC,hv,hr];simp [qa4,hv,hr])
theorem qp0 (t:List qa) (f:FuncId) (a b:List qo):pureV t (.mkF f a b) = some (.fn f (a.map (ev t)) (b.map (ev t))):=rfl
def Rt (H:Nat→Option qb) (d:Nat) (v:Val):Prop:=∀cs g,At H v cs→Cov H g→Wd (.fn 106 [] []) [.agg cs,.int .i64 (d:Nat)] g = some (.ret (.bool (qE d v)),g,false)
theorem qqP {H:Nat→Option qb} {d:Nat} (hd:d ≤ 3) {v:Val} {cs:List qa} (hv:At H v cs) (hy:Rt H d v) (g:List qb) (hg:Cov H g) (R:Nat) (hR:R < g.length) (hr:g[R]? = some (.cells [.int .i64 (d + 1:Nat)])) :
  Wd (.fn 127 [] [.ptr R 0]) [.agg cs] g = some (.ret (.bool (qE d v)),g,false):=by
 have hy':=hy cs (g ++ [.cells cs]) hv (hg.more _)
 obtain ⟨k,n,s,l,L,rfl,rfl,hLd,hLs,hLw,hLl⟩:=hv.cells
 generalize qE d _ = b at *
 have w1:IntKind.i64.wrap (((d + 1:Nat):Int) - 1) = ((d:Nat):Int):=by rw [qaX (by omega) (by omega)];omega
 rw [qr rfl (show T.get 127 = some qAJ by kernel_rfl)]
 simp only [sB.1,qAJ,simprocAttr,-Int.reduceNatCast',hLd,hLs,hLw,hR,hr,w1,hy']
theorem qtp {H:Nat→Option qb} {d:Nat} (hd:d ≤ 3) {l:List Val} {L:qa} (hL:LP H l L) (hy:∀x ∈ l,Rt H d x) (h:List qb) (hg:Cov H h) (R:Nat) (hR:R < h.length) (hr:h[R]? = some (.cells [.int .i64 (d + 1:Nat)])) :
  Wd (.fn 126 [] []) [L,.fn 127 [] [.ptr R 0]] h = some (.ret (.bool ((decide (1 ≤ l.length) && decide (l.length ≤ 4)) && l.all (qE d))),h,false):=by
 obtain ⟨hLd,hLs,hLw,hLl⟩:=hL.facts
 have loop:l.length ≤ 4→∀k st,(∃(tt:List qa) (i:Nat) (junk:List qb),st = ⟨tt,h ++ junk,false⟩∧tt.length = 26∧lkp tt 1 = .fn 127 [] [.ptr R 0]∧lkp tt 15 = L∧lkp tt 16 = .int .i64 (l.length:Nat)∧lkp tt 17 = .int .i64 (i:Nat)∧i + k = l.length∧l.all (qE d) = (l.drop i).all (qE d))→
   ∃x st',qm h.length Wd (.loop qfI) st = some (x,st')∧(∃(tt:List qa) (junk:List qb),st' = ⟨tt,h ++ junk,false⟩∧tt.length = 26∧((x = .exit 0∧l.all (qE d) = true)∨(x = .ret∧lkp tt 4 = .bool false∧l.all (qE d) = false))):=by
  intro h4
  refine qD _ _ ?_
  rintro k st ⟨tt,i,junk,rfl,ht,e1,e15,e16,e17,hik,hall⟩
  generalize he:qm h.length Wd qfI _ = r
  rcases Nat.lt_or_ge i l.length with hi | hi
  ·have c1:ilt (i:Int) (l.length:Int) = true:=by rw [qf];simp;omega
   have w:=qab (n:=i) (by omega)
   obtain ⟨pp,cs,hx,hpd,_,hld,hvi⟩:=hL.item hi (hg.more junk)
   have hyi:=hy _ (List.getElem_mem hi)
   have hlen:(h ++ junk).length = h.length + junk.length:=by simp
   have h1':=qqP hd hvi hyi (h ++ (junk ++ [.cells cs])) (hg.more _) R (by simp;omega) (by rw [List.getElem?_append_left hR,hr])
   rw [List.drop_eq_getElem_cons hi,List.all_cons] at hall
   obtain ⟨K,N,S,zs,Z,hL',hcs,hZd,hZs,hZw,_⟩:=hvi.cells
   subst hcs
   have hb1:Nat.ble h.length (h.length + junk.length) = true:=qi (by omega)
   have hpw:∀i t,qx pp i t = t:=fun i t=>by rw [←hpd];exact qaf _ _ _
   cases hb:qE d l[i] with
   | true=>
    rw [hb,Bool.true_and] at hall
    rw [hb] at h1'
    simp only [sB.1,qfI,simprocAttr,-Int.reduceNatCast',ht,e1,e15,e16,e17,c1,w,hx,hpd,hpw,hld,hlen,hb1,hLd,hLs,hLw,hZd,hZs,hZw,h1',qcP,qbZ,Bool.true_or,List.append_assoc] at he
    subst he
    refine .inl ⟨_,k - 1,rfl,by omega,_,i + 1,junk ++ [.cells [.int .i64 K,.int .i64 N,.str S,Z]],rfl,by simp only [qc,ht],?_,?_,?_,?_,by omega,hall⟩
    ·simp only [sB.1,simprocAttr,-Int.reduceNatCast',ht,e1]
    ·simp only [sB.1,simprocAttr,-Int.reduceNatCast',ht,e15]
    ·simp only [sB.1,simprocAttr,-Int.reduceNatCast',ht,e16]
    ·simp only [sB.1,simprocAttr,-Int.reduceNatCast',ht]
   | false=>
    rw [hb,Bool.false_and] at hall
    rw [hb] at h1'
    simp only [sB.1,qfI,simprocAttr,-Int.reduceNatCast',ht,e1,e15,e16,e17,c1,w,hx,hpd,hpw,hld,hlen,hb1,hLd,hLs,hLw,hZd,hZs,hZw,h1',qcP,qbZ,Bool.true_or,List.append_assoc] at he
    subst he
    refine .inr ⟨_,_,rfl,by simp,_,junk ++ [.cells [.int .i64 K,.int .i64 N,.str S,Z]],rfl,by simp only [qc,ht],.inr ⟨rfl,?_,hall⟩⟩
    simp only [sB.1,simprocAttr,-Int.reduceNatCast',ht]
  ·have c1:ilt (i:Int) (l.length:Int) = false:=by rw [qf];simp;omega
   simp only [sB.1,qfI,simprocAttr,-Int.reduceNatCast',ht,e16,e17,c1] at he
   subst he
   rw [List.drop_eq_nil_of_le hi] at hall
   exact .inr ⟨_,_,rfl,by simp,_,junk,rfl,by simp only [qc,ht],.inl ⟨rfl,hall⟩⟩
 generalize hw:Wd _ _ h = w
 rw [qr rfl (show T.get 126 = some qy2 by kernel_rfl)] at hw
 by_cases h14:1 ≤ l.length∧l.length ≤ 4
 ·have d1:ilt (l.length:Int) 1 = false:=by rw [qf];simp;omega
  have d2:ilt 4 (l.length:Int) = false:=by rw [qf];simp;omega
  simp only [sB.1,qy2,simprocAttr,-Int.reduceNatCast',hLd,hLw,hLl,d1,d2] at hw
  generalize hr:qm h.length Wd (.loop qfI) _ = r at hw
  obtain ⟨x,st',rfl,tt,junk,rfl,ht,⟨rfl,ha⟩ | ⟨rfl,e4,ha⟩⟩:=qaB hr (loop h14.2 l.length _ ⟨_,0,[],by rw [List.append_nil],by simp only [sB.1,simprocAttr,-Int.reduceNatCast'],by simp only [sB.1,simprocAttr,-Int.reduceNatCast'],by simp only [sB.1,simprocAttr,-Int.reduceNatCast',hLd],by simp only [sB.1,simprocAttr,-Int.reduceNatCast'],by simp only [sB.1,simprocAttr,-Int.reduceNatCast',Int.natCast_zero],by omega,rfl⟩)
  ·simp only [sB.1,simprocAttr,-Int.reduceNatCast',ht] at hw
   rw [ha,decide_eq_true h14.1,decide_eq_true h14.2]
   exact hw.symm
  ·simp only [sB.1,simprocAttr,-Int.reduceNatCast',ht,e4] at hw
   rw [ha,Bool.and_false]
   exact hw.symm
 ·have d1:(ilt (l.length:Int) 1 || ilt 4 (l.length:Int)) = true:=by rw [qf,qf];simp;omega
  have d2:(decide (1 ≤ l.length) && decide (l.length ≤ 4)) = false:=by
   rw [Bool.and_eq_false_iff,decide_eq_false_iff_not,decide_eq_false_iff_not]
   omega
  simp only [sB.1,qy2,simprocAttr,-Int.reduceNatCast',hLd,hLw,hLl,d1] at hw
  rw [d2,Bool.false_and]
  exact hw.symm
theorem qt6:∀d,d ≤ 3→∀{H:Nat→Option qb} (v:Val),Rt H d v:=by
 have a3:∀x:Int,(x == 3) = true→((x == 0) = false∧(x == 1) = false∧(x == 2) = false):=fun x h=>by
  simp only [beq_iff_eq,beq_eq_false_iff_ne] at *
  omega
 intro d
 induction d with
 | zero=>
  rintro _ H ⟨k,n,s,l⟩ cs g hv hg
  obtain ⟨L,rfl,hL⟩:=hv.lp
  obtain ⟨hLd,hLs,hLw,hLl⟩:=hL.facts
  have hnm:=fun g=>qX s g
  have c1:ilt 0 ((0:Nat):Int) = false:=Eq.trans rfl rfl
  rw [qE]
  unfold qgf
  rw [qr rfl (show T.get 106 = some qvO by kernel_rfl)]
  cases h0:(k == 0) <;> cases h1:(k == 1) <;> cases h2:(k == 2) <;> cases h3:(k == 3) <;> simp only [sB.1,qvO,simprocAttr,-Int.reduceNatCast',hLd,hLs,hLw,hLl,h0,h1,h2,h3,hnm,c1,cond_true,cond_false,Bool.and_false,Bool.false_and]
 | succ d ih=>
  rintro hd H ⟨k,n,s,l⟩ cs g hv hg
  obtain ⟨L,rfl,hL⟩:=hv.lp
  obtain ⟨hLd,hLs,hLw,hLl⟩:=hL.facts
  have hnm:=fun g=>qX s g
  have c1:ilt 0 ((d + 1:Nat):Int) = true:=by rw [qf];simp
  have hit:=qtp (d:=d) (by omega) hL (fun x _=>ih (by omega) x) (g ++ [.cells [.int .i64 k,.int .i64 n,.str s,L],.cells [.int .i64 (d + 1:Nat)]]) (hg.more _) (g.length + 1) (by simp) (by rw [qaL];rfl)
  rw [qE]
  unfold qgf
  rw [qr rfl (show T.get 106 = some qvO by kernel_rfl)]
  cases h3:(k == 3) with
  | true=>
   obtain ⟨h0,h1,h2⟩:=a3 k h3
   cases hn:(n == 0) <;> cases hs:(s == []) <;> simp only [sB.1,qvO,simprocAttr,-Int.reduceNatCast',hLd,hLs,hLw,hLl,h0,h1,h2,h3,hn,hs,hit,c1,qp0,qjh,qaL,cond_true,cond_false,Bool.and_false,Bool.false_and,Bool.true_and]
  | false=>
   cases h0:(k == 0) <;> cases h1:(k == 1) <;> cases h2:(k == 2) <;> simp only [sB.1,qvO,simprocAttr,-Int.reduceNatCast',hLd,hLs,hLw,hLl,h0,h1,h2,h3,hnm,c1,cond_true,cond_false]
theorem qdQ {H:Nat→Option qb} {v:Val} {cs:List qa} (hv:At H v cs) (g:List qb) (hg:Cov H g):Wd (.fn 79 [] []) [.agg cs] g = some (.ret (.bool (qE 3 v)),g,false):=by
 have h:=qt6 3 (by omega) v cs (g ++ [.cells cs]) hv (hg.more _)
 have c3:((3:Nat):Int) = 3:=by kernel_rfl
 rw [c3] at h
 generalize qE 3 v = b at *
 obtain ⟨k,n,s,l,L,rfl,rfl,hLd,hLs,hLw,hLl⟩:=hv.cells
 rw [qr rfl (show T.get 79 = some c79 by kernel_rfl)]
 simp only [sB.1,c79,simprocAttr,-Int.reduceNatCast',hLd,hLs,hLw,h]
end Go.Proofs.YtnibchoenjmmjaaGreatDoor.AE
