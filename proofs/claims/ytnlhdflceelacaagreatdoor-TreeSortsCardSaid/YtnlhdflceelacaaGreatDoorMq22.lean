/- A part of the proof: the abstract executor and what goes through it (part 22). No condition. -/
import Derived.Test.YtnlhdflceelacaaGreatDoorMq21
set_option maxRecDepth 100000
namespace Go.AE
section
variable {k:Nat} {vs:List (List qa)}
theorem qgh (hk:∀v ∈ vs,v.length = k):vs.flatten.length = vs.length * k:=by
 induction vs with
 | nil=>simp
 | cons v vs ih=>
  rw [List.flatten_cons,List.length_append,ih fun x hx=>hk x (List.mem_cons_of_mem _ hx),hk v List.mem_cons_self,List.length_cons,Nat.succ_mul,Nat.add_comm]
theorem qqr (hk:∀v ∈ vs,v.length = k) {i:Nat} (hi:i < vs.length):(vs.flatten.drop (i * k)).take k = vs[i]:=by
 rw [qeM vs i hk hi,List.getD_eq_getElem?_getD,List.getElem?_eq_getElem hi]
 rfl
theorem qif (hk:∀v ∈ vs,v.length = k) {i:Nat} (hi:i < vs.length):i * k + k ≤ vs.flatten.length:=by
 rw [qgh hk,←Nat.succ_mul]
 exact Nat.mul_le_mul_right k hi
theorem qeu {cs:List qa} (hd:∀c ∈ cs,c.dim = c):cs.map qa.dim = cs:=by
 induction cs with
 | nil=>rfl
 | cons c cs ih=>rw [List.map_cons,hd c List.mem_cons_self,ih fun x hx=>hd x (List.mem_cons_of_mem _ hx)]
theorem qgc (hk:∀v ∈ vs,v.length = k) {i:Nat} (hi:i < vs.length) (hd:∀c ∈ vs[i],c.dim = c):cut vs.flatten (i * k) (some k) = some (.agg vs[i]):=by
 rw [qgd (qif hk hi),qqr hk hi,qeu hd]
theorem qfg:∀{vs:List (List qa)} {i:Nat} {x:List qa},(∀v ∈ vs,v.length = k)→i < vs.length→x.length = k→splice vs.flatten (i * k) x = (vs.set i x).flatten:=by
 intro vs
 induction vs with
 | nil=>intro i x _ hi;simp at hi
 | cons v vs ih=>
  intro i x hk hi hx
  have hv:=hk v List.mem_cons_self
  cases i with
  | zero=>
   simp only [splice,Nat.zero_mul,List.take_zero,List.nil_append,Nat.zero_add,List.flatten_cons,List.set_cons_zero]
   rw [List.drop_left' (by rw [hv,hx])]
  | succ i=>
   have:=ih (i:=i) (x:=x) (fun y hy=>hk y (List.mem_cons_of_mem _ hy)) (by simp at hi;omega) hx
   simp only [splice] at this ⊢
   rw [List.set_cons_succ,List.flatten_cons,List.flatten_cons,←this,Nat.succ_mul,Nat.add_comm (i * k) k,←hv,List.take_length_add_append,show v.length + i * v.length + x.length = v.length + (i * v.length + x.length) by omega,List.drop_length_add_append]
   simp only [List.append_assoc]
end
theorem qb4 {k id len cap more i:Nat} {j:IntKind} (hi:i < len):qbr k (.sl id 0 len cap more) (.int j (i:Nat)) = some (.ptr id (i * k)):=by
 rw [qtQ,if_pos ⟨by omega,by omega⟩,Nat.zero_add,Int.toNat_natCast]
end Go.AE
namespace Go.Proofs.YtnlhdflceelacaaGreatDoor.AE
open Go.AE
inductive VR (H:Nat→Option qg):Val→List qa→Prop
 | leaf (k n:Int) (s:Str):VR H (.mk k n s []) [.int .i64 k,.int .i64 n,.str s,.lst [] .full]
 | node (k n:Int) (s:Str) (l:List Val) (id:Nat) (ess:List (List qa)):l ≠ []→H id = some (.cells ess.flatten)→ess.length = l.length→(∀(i:Nat) (h:i < l.length) (h':i < ess.length),VR H l[i] ess[i])→
   VR H (.mk k n s l) [.int .i64 k,.int .i64 n,.str s,.sl id 0 l.length l.length 0]
theorem VR.mono {H H':Nat→Option qg} (hle:∀i x,H i = some x→H' i = some x) {v:Val} {cs:List qa} (h:VR H v cs):VR H' v cs:=by
 induction h with
 | leaf k n s=>exact .leaf k n s
 | node k n s l id ess h1 h2 h3 _ ih=>exact .node k n s l id ess h1 (hle _ _ h2) h3 ih
theorem VR.cells {H:Nat→Option qg} {v:Val} {cs:List qa} (h:VR H v cs):∃k n s l L,v = .mk k n s l∧cs = [.int .i64 k,.int .i64 n,.str s,L]∧L.dim = L∧L.storable = true∧(∀i t,qau L i t = t)∧qis false L = some (.int .i64 l.length):=by
 cases h with
 | leaf k n s=>exact ⟨k,n,s,[],_,rfl,rfl,rfl,rfl,fun _ _=>rfl,rfl⟩
 | node k n s l id ess=>exact ⟨k,n,s,l,_,rfl,rfl,rfl,rfl,fun _ _=>rfl,rfl⟩
theorem VR.length {H:Nat→Option qg} {v:Val} {cs:List qa} (h:VR H v cs):cs.length = 4:=by
 obtain ⟨k,n,s,l,L,rfl,rfl,_⟩:=h.cells
 rfl
theorem VR.dims {H:Nat→Option qg} {v:Val} {cs:List qa} (h:VR H v cs):∀c ∈ cs,c.dim = c:=by
 obtain ⟨k,n,s,l,L,rfl,rfl,hd,_⟩:=h.cells
 intro c hc
 simp only [List.mem_cons,List.not_mem_nil,or_false] at hc
 rcases hc with rfl | rfl | rfl | rfl <;> first | rfl | exact hd
theorem VR.elem {H:Nat→Option qg} {l:List Val} {ess:List (List qa)} (hl:ess.length = l.length) (hv:∀(i:Nat) (h:i < l.length) (h':i < ess.length),VR H l[i] ess[i]):(∀e ∈ ess,e.length = 4)∧∀(i:Nat) (h':i < ess.length),cut ess.flatten (i * 4) (some 4) = some (.agg ess[i]):=by
 have h1:∀e ∈ ess,e.length = 4:=fun e he=>by
  obtain ⟨i,hi,rfl⟩:=List.getElem_of_mem he
  exact (hv i (by omega) hi).length
 exact ⟨h1,fun i h'=>qgc h1 h' (hv i (by omega) h').dims⟩
end Go.Proofs.YtnlhdflceelacaaGreatDoor.AE
