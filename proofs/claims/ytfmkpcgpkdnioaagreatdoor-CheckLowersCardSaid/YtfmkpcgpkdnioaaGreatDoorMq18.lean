/- A part of the proof: the abstract executor and what goes through it (part 18). No condition. -/
import Derived.Test.YtfmkpcgpkdnioaaGreatDoorMq17
set_option maxRecDepth 100000
namespace Go.AE
section
variable {k:Nat} {vs:List (List AVal)}
theorem flat_len (hk:∀v ∈ vs,v.length = k):vs.flatten.length = vs.length * k:=by
 induction vs with
 | nil=>simp
 | cons v vs ih=>
  rw [List.flatten_cons,List.length_append,ih fun x hx=>hk x (List.mem_cons_of_mem _ hx),hk v List.mem_cons_self,List.length_cons,Nat.succ_mul,Nat.add_comm]
theorem flat_get (hk:∀v ∈ vs,v.length = k) {i:Nat} (hi:i < vs.length):(vs.flatten.drop (i * k)).take k = vs[i]:=by
 rw [flat_part vs i hk hi,List.getD_eq_getElem?_getD,List.getElem?_eq_getElem hi]
 rfl
theorem flat_le (hk:∀v ∈ vs,v.length = k) {i:Nat} (hi:i < vs.length):i * k + k ≤ vs.flatten.length:=by
 rw [flat_len hk,←Nat.succ_mul]
 exact Nat.mul_le_mul_right k hi
theorem map_dims {cs:List AVal} (hd:∀c ∈ cs,c.dim = c):cs.map AVal.dim = cs:=by
 induction cs with
 | nil=>rfl
 | cons c cs ih=>rw [List.map_cons,hd c List.mem_cons_self,ih fun x hx=>hd x (List.mem_cons_of_mem _ hx)]
theorem cut_flat (hk:∀v ∈ vs,v.length = k) {i:Nat} (hi:i < vs.length) (hd:∀c ∈ vs[i],c.dim = c):cut vs.flatten (i * k) (some k) = some (.agg vs[i]):=by
 rw [cut_some (flat_le hk hi),flat_get hk hi,map_dims hd]
end
theorem sl_at {k id len cap more i:Nat} {j:IntKind} (hi:i < len):ixaV k (.sl id 0 len cap more) (.int j (i:Nat)) = some (.ptr id (i * k)):=by
 rw [ixaV_sl,if_pos ⟨by omega,by omega⟩,Nat.zero_add,Int.toNat_natCast]
def Still (cs:List AVal):Prop:=∀c ∈ cs,c.dim = c∧c.storable = true
theorem Still.dims {cs:List AVal} (h:Still cs):cs.map AVal.dim = cs:=map_dims fun c hc=>(h c hc).1
theorem Still.all {cs:List AVal} (h:Still cs):cs.all AVal.storable = true:=List.all_eq_true.2 fun c hc=>(h c hc).2
section
variable {base k n id id2:Nat} {h:List ABox} {row cs:List AVal}
theorem row_one (h2:h[id2]? = some (.cells row)) (hk:row.length = k) (hs:Still row):rowOf k h (.sl id2 0 1 1 0) = some (row,1):=by
 have:row.take k = row:=List.take_of_length_le (by omega)
 simp [rowOf,h2,hk,this,hs.dims]
theorem app_first (h2:h[id2]? = some (.cells row)) (hk:row.length = k) (hs:Still row):hop base (.app k) [.lst [] .full,.sl id2 0 1 1 0] h = some (.sl h.length 0 1 1 k,h ++ [.cells row],false):=by
 have e:rowOf k h (.lst [] .full) = some ([],0):=rfl
 simp [hop,hopApp,row_one h2 hk hs,hs.all,e,limit]
theorem app_next (h1:h[id]? = some (.cells cs)) (h2:h[id2]? = some (.cells row)) (hk:row.length = k) (hc:cs.length = n * k) (hs:Still row) (hs2:Still cs) (hn:n ≤ 100000) (hk0:k ≠ 0):hop base (.app k) [.sl id 0 n n k,.sl id2 0 1 1 0] h = some (.sl h.length 0 (n + 1) (n + 1) k,h.set id .dead ++ [.cells (cs ++ row)],false):=by
 have e:rowOf k h (.sl id 0 n n k) = some (cs,n):=by
  have:cs.take (n * k) = cs:=List.take_of_length_le (by omega)
  simp [rowOf,h1,hc,this,hs2.dims]
 have hl:n + 1 ≤ limit:=by simp only [limit];omega
 have hl2:¬ n + 1 ≤ n:=by omega
 simp only [hop,hopApp,row_one h2 hk hs,hs.all,e,h1,Bool.not_true,Bool.false_eq_true,if_false,Nat.succ_ne_zero,hl,hl2,if_true]
 simp [hk0,hc]
end
end Go.AE
namespace Go.Proofs.YtfmkpcgpkdnioaaGreatDoor.AE
open Go.AE
theorem lit1 (base:Nat) (x:Int) (h:List ABox):hop base (.lit 1 [.int .i64 0] 1 [0]) [.int .i64 x] h = some (.sl h.length 0 1 1 0,h ++ [.cells [.int .i64 x]],false):=by kernel_rfl
theorem lit4 (base:Nat) (a b:Str) (k:Int) (L:List AVal) (h:List ABox):hop base (.lit 4 [.str [],.str [],.int .i64 0,.lst [] .full] 1 [0]) [.agg [.str a,.str b,.int .i64 k,.lst L .no]] h = some (.sl h.length 0 1 1 0,h ++ [.cells [.str a,.str b,.int .i64 k,.lst L .no]],false):=by kernel_rfl
theorem lit6 (base:Nat) (a b:Int) (c d:Str) (e:Int) (I:AVal) (hd:I.dim = I) (hs:I.storable = true) (h:List ABox):hop base (.lit 6 [.int .i64 0,.int .i64 0,.str [],.str [],.int .i64 0,.lst [] .full] 1 [0]) [.agg [.int .i64 a,.int .i64 b,.str c,.str d,.int .i64 e,I]] h = some (.sl h.length 0 1 1 0,h ++ [.cells [.int .i64 a,.int .i64 b,.str c,.str d,.int .i64 e,I]],false):=by
 have s1:∀(j:IntKind) (x:Int),(AVal.int j x).storable = true:=fun _ _=>rfl
 have s2:∀x:Str,(AVal.str x).storable = true:=fun _=>rfl
 have d1:∀(j:IntKind) (x:Int),(AVal.int j x).dim = .int j x:=fun _ _=>rfl
 have d2:∀x:Str,(AVal.str x).dim = .str x:=fun _=>rfl
 simp [hop,fillS,AVal.cells,splice,hs,hd,s1,s2,d1,d2]
end Go.Proofs.YtfmkpcgpkdnioaaGreatDoor.AE
