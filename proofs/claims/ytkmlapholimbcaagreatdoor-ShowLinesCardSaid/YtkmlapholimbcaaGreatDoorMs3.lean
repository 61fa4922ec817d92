/- A part of the proof: the abstract executor and what goes through it (part 3). No condition. -/
import Derived.Test.YtkmlapholimbcaaGreatDoorMs2
import Derived.WideKeyArgs
set_option maxRecDepth 100000
namespace Go.AE
def lkp (t:List AVal) (i:Nat):AVal:=t.getD i .undef
section
variable {base:Nat} {call:Call} {p:Prov} {s:St} {t:List AVal} {h:List ABox}
theorem ev_t (t:List AVal) (i:Nat):ev t (.t i) = (lkp t i).dim:=rfl
theorem ev_c (t:List AVal) (v:AVal):ev t (.c v) = v.dim:=rfl
theorem raw_t (t:List AVal) (i:Nat):raw t (.t i) = lkp t i:=rfl
theorem raw_c (t:List AVal) (v:AVal):raw t (.c v) = v:=rfl
def up (t:List AVal) (i:Nat) (v:AVal):List AVal:=t.set i v
theorem length_up (t:List AVal) (i:Nat) (v:AVal):(up t i v).length = t.length:=by simp [up]
theorem look_eq {i:Nat} {v:AVal} (h:i < t.length):lkp (up t i v) i = v:=by simp [lkp,up,List.getD,h]
theorem look_ne {i j:Nat} {v:AVal} (h:i ≠ j):lkp (up t i v) j = lkp t j:=by simp [lkp,up,List.getD,List.getElem?_set_ne h]
theorem look_zero (a:AVal) (t:List AVal):lkp (a :: t) 0 = a:=rfl
theorem look_succ (a:AVal) (t:List AVal) (i:Nat):lkp (a :: t) (i + 1) = lkp t i:=rfl
theorem put_some (d:Nat) (v:AVal) (t:List AVal):put (some d) v t = up t d v:=rfl
theorem put_none (v:AVal) (t:List AVal):put none v t = t:=rfl
theorem dim_undef:AVal.undef.dim = .undef:=rfl
theorem dim_bool (b:Bool):(AVal.bool b).dim = .bool b:=rfl
theorem dim_int (k:IntKind) (n:Int):(AVal.int k n).dim = .int k n:=rfl
theorem dim_str (s:List UInt8):(AVal.str s).dim = .str s:=rfl
theorem dim_nilptr:AVal.nilptr.dim = .nilptr:=rfl
theorem dim_ptr (i o:Nat):(AVal.ptr i o).dim = .ptr i o:=rfl
theorem dim_iptr (cs:List AVal) (o:Nat):(AVal.iptr cs o).dim = .iptr cs o:=rfl
theorem dim_no (xs:List AVal):(AVal.lst xs .no).dim = .lst xs .no:=rfl
theorem dim_full (xs:List AVal):(AVal.lst xs .full).dim = .lst xs .full:=rfl
theorem dim_own (xs:List AVal) (k:Nat):(AVal.lst xs (.own k)).dim = .lst xs .no:=rfl
theorem dim_nilfunc:AVal.nilfunc.dim = .nilfunc:=rfl
theorem dim_fn (f:FuncId) (a b:List AVal):(AVal.fn f a b).dim = .fn f a b:=rfl
theorem dim_yld (i:Nat):(AVal.yld i).dim = .yld i:=rfl
theorem dim_niliface:AVal.niliface.dim = .niliface:=rfl
theorem dim_iface (t:TypeId) (v:AVal):(AVal.iface t v).dim = .iface t v:=rfl
theorem dim_agg (cs:List AVal):(AVal.agg cs).dim = .agg cs:=rfl
theorem dim_tup (cs:List AVal):(AVal.tup cs).dim = .tup cs:=rfl
def putV (dst:Option Nat) (s:St):Option AVal→Option (Ex×St)
 | some v=>some (.nor,{ s with t:=put dst v s.t})
 | none=>none
theorem putV_some (dst:Option Nat) (t:List AVal) (h:List ABox) (e:Bool) (v:AVal):putV dst ⟨t,h,e⟩ (some v) = some (.nor,⟨put dst v t,h,e⟩):=rfl
theorem thenW_nor (f:St→Option (Ex×St)) (s:St):thenW f (some (.nor,s)) = f s:=rfl
theorem thenW_ret (f:St→Option (Ex×St)) (s:St):thenW f (some (.ret,s)) = some (.ret,s):=rfl
theorem thenW_exit (f:St→Option (Ex×St)) (id:Nat) (s:St):thenW f (some (.exit id,s)) = some (.exit id,s):=rfl
theorem thenW_pan (f:St→Option (Ex×St)) (v:AVal) (s:St):thenW f (some (.pan v,s)) = some (.pan v,s):=rfl
theorem blockW_nor (id:Nat) (s:St):blockW id (some (.nor,s)) = some (.nor,s):=rfl
theorem blockW_ret (id:Nat) (s:St):blockW id (some (.ret,s)) = some (.ret,s):=rfl
theorem blockW_pan (id:Nat) (v:AVal) (s:St):blockW id (some (.pan v,s)) = some (.pan v,s):=rfl
theorem blockW_exit (id j:Nat) (s:St):blockW id (some (.exit j,s)) = if j = id then some (.nor,s) else some (.exit j,s):=rfl
def condW (v:AVal) (a b:Option (Ex×St)):Option (Ex×St):=
 match v with
 | .bool true=>a
 | .bool false=>b
 | _=>none
theorem execW_if (q:AOpd) (a b:ACode) (s:St):execW base call (.cond q a b) s = condW (ev s.t q) (execW base call a s) (execW base call b s):=execW_cond q a b s
def guardW (v:AVal) (b:Bool) (yes no:Option (Ex×St)):Option (Ex×St):=
 match v with
 | .bool c=>if c == b then yes else no
 | .tup []=>no
 | _=>none
theorem ops_nil:runOps base call p [] s = some (.nor,s):=rfl
theorem ops_cons (d:Option Nat) (o:AOp) (os:List AOper):runOps base call p (⟨d,o,none⟩ :: os) s = thenW (runOps base call (provNext p ⟨d,o,none⟩) os) (runOp base call p d o s):=by
 simp only [runOps,wanted]
 unfold thenW
 split <;> split <;> simp_all
theorem ops_guard (d:Option Nat) (o:AOp) (j:Nat) (b:Bool) (os:List AOper) :
  runOps base call p (⟨d,o,some (j,b)⟩ :: os) s = guardW (lkp s.t j) b (thenW (runOps base call (provNext p ⟨d,o,some (j,b)⟩) os) (runOp base call p d o s))
   (runOps base call (provNext p { dst:=d,op:=.pick (.c .undef) (.c .undef) (.c .undef),guard:=some (j,b)}) os { s with t:=put d (.tup []) s.t}):=by
 simp only [runOps,wanted,lkp]
 generalize s.t.getD j .undef = v
 cases v with
 | bool c=>
  simp only [guardW]
  cases hc:c == b with
  | false=>simp
  | true=>
   simp only [if_true]
   unfold thenW
   split <;> split <;> simp_all
 | tup vs=>cases vs <;> rfl
 | _=>rfl
theorem op_mov (d:Option Nat) (x:AOpd):runOp base call p d (.mov x) s = some (.nor,{ s with t:=put d (ev s.t x) s.t}):=rfl
theorem op_asg (d:Option Nat) (x:AOpd):runOp base call p d (.asg x) s = some (.nor,{ s with t:=put d (raw s.t x) (drained s.t x)}):=rfl
def pickW (v a b:AVal):Option AVal:=
 match v with
 | .bool true=>some a
 | .bool false=>some b
 | _=>none
theorem pickW_true (a b:AVal):pickW (.bool true) a b = some a:=rfl
theorem pickW_false (a b:AVal):pickW (.bool false) a b = some b:=rfl
theorem op_pick (d:Option Nat) (c a b:AOpd):runOp base call p d (.pick c a b) s = putV d s (pickW (ev s.t c) (ev s.t a) (ev s.t b)):=by
 simp only [runOp,pureV]
 generalize ev s.t c = v
 cases v with
 | bool b=>cases b <;> rfl
 | _=>rfl
theorem op_pure (d:Option Nat) (o:AOp) (ho:o.effs = false) (h1:∀cs,o ≠ .new cs) (h2:∀k x,o ≠ .box k x) (h3:∀k x,o ≠ .ld k x) (h4:∀sh z ok m key,o ≠ .lk sh z ok m key:=by simp):runOp base call p d o s = putV d s (pureV s.t o):=by
 cases o <;> first | exact absurd rfl (h4 _ _ _ _ _) | (simp [AOp.effs] at ho h1 h2 h3 <;> (simp only [runOp];cases pureV s.t _ <;> rfl))
def faV (off:Nat):AVal→Option AVal
 | .ptr i o=>some (.ptr i (o + off))
 | .iptr cs o=>some (.iptr cs (o + off))
 | _=>none
theorem faV_ptr (off i o:Nat):faV off (.ptr i o) = some (.ptr i (o + off)):=rfl
theorem faV_iptr (off o:Nat) (cs:List AVal):faV off (.iptr cs o) = some (.iptr cs (o + off)):=rfl
theorem op_fa (d:Option Nat) (off:Nat) (a:AOpd):runOp base call p d (.fa off a) s = putV d s (faV off (ev s.t a)):=by
 rw [op_pure _ _ rfl (by simp) (by simp) (by simp)]
 simp only [pureV]
 cases ev s.t a <;> rfl
theorem op_bin (d:Option Nat) (op:BinOp) (x y:AOpd):runOp base call p d (.bin op x y) s = putV d s (binV op (ev s.t x) (ev s.t y)):=op_pure _ _ rfl (by simp) (by simp) (by simp)
theorem op_un (d:Option Nat) (op:UnOp) (x:AOpd):runOp base call p d (.un op x) s = putV d s (unV op (ev s.t x)):=op_pure _ _ rfl (by simp) (by simp) (by simp)
def nilcV:AVal→Option AVal
 | .ptr i o=>some (.ptr i o)
 | .iptr cs o=>some (.iptr cs o)
 | .fn f a b=>some (.fn f a b)
 | .yld l=>some (.yld l)
 | .iface u v=>some (.iface u v)
 | _=>none
theorem op_nilc (d:Option Nat) (x:AOpd):runOp base call p d (.nilc x) s = putV d s (nilcV (ev s.t x)):=by
 rw [op_pure _ _ rfl (by simp) (by simp) (by simp)]
 simp only [pureV]
 cases ev s.t x <;> rfl
theorem nilcV_ptr (i o:Nat):nilcV (.ptr i o) = some (.ptr i o):=rfl
theorem nilcV_iptr (cs:List AVal) (o:Nat):nilcV (.iptr cs o) = some (.iptr cs o):=rfl
def lenV (b:Bool) (v:AVal):Option AVal:=
 match b,v with
 | true,.str s=>some (.int .i64 s.length)
 | false,.lst xs _=>some (.int .i64 xs.length)
 | false,.sl _ _ len _ _=>some (.int .i64 len)
 | false,.nils=>some (.int .i64 0)
 | false,.empt=>some (.int .i64 0)
 | _,_=>none
theorem op_len (d:Option Nat) (b:Bool) (x:AOpd):runOp base call p d (.len b x) s = putV d s (lenV b (ev s.t x)):=by
 rw [op_pure _ _ rfl (by simp) (by simp) (by simp)]
 cases b <;> simp only [pureV] <;> cases ev s.t x <;> rfl
theorem lenV_str (s:List UInt8):lenV true (.str s) = some (.int .i64 s.length):=rfl
theorem lenV_lst (xs:List AVal) (f:Flag):lenV false (.lst xs f) = some (.int .i64 xs.length):=rfl
def ixaV (k:Nat) (s i:AVal):Option AVal:=
 match s,i with
 | .lst xs _,.int _ n=>
  if 0 ≤ n∧n < xs.length then
   match xs[n.toNat]? with
   | some x=>if x.cells.length = k then some (.iptr x.cells 0) else none
   | none=>none
  else none
 | .sl id o len _ _,.int _ n=>if 0 ≤ n∧n < len then some (.ptr id (o + n.toNat * k)) else none
 | _,_=>none
theorem op_ixaL (d:Option Nat) (k:Nat) (x i:AOpd):runOp base call p d (.ixaL k x i) s = putV d s (ixaV k (ev s.t x) (ev s.t i)):=by
 rw [op_pure _ _ rfl (by simp) (by simp) (by simp)]
 simp only [pureV]
 cases ev s.t x <;> cases ev s.t i <;> rfl
theorem ixaV_get {k:Nat} {xs:List AVal} {f:Flag} {j:IntKind} {n:Nat} {x:AVal} (hx:xs[n]? = some x) (hk:x.cells.length = k):ixaV k (.lst xs f) (.int j n) = some (.iptr x.cells 0):=by
 have hn:n < xs.length:=(List.getElem?_eq_some_iff.1 hx).1
 simp only [ixaV,Int.toNat_natCast,hx]
 rw [if_pos ⟨by omega,by omega⟩,if_pos hk]
def fldV (off:Nat) (k:Option Nat):AVal→Option AVal
 | .agg cs=>cut cs off k
 | _=>none
theorem fldV_agg (off:Nat) (k:Option Nat) (cs:List AVal):fldV off k (.agg cs) = cut cs off k:=rfl
theorem op_fld (d:Option Nat) (off:Nat) (k:Option Nat) (x:AOpd):runOp base call p d (.fld off k x) s = putV d s (fldV off k (ev s.t x)):=by
 rw [op_pure _ _ rfl (by simp) (by simp) (by simp)]
 simp only [pureV]
 cases ev s.t x <;> rfl
theorem op_build (d:Option Nat) (z:List AVal) (ps:List (Nat×Nat×AOpd)):runOp base call p d (.build z ps) s = putV d s ((fillS z (ps.map fun (o,n,x)=>(o,n,ev s.t x))).map .agg):=op_pure _ _ rfl (by simp) (by simp) (by simp)
theorem op_new (d:Option Nat) (cs:List AVal):runOp base call p d (.new cs) s = some (.nor,{ s with t:=put d (.ptr s.h.length 0) s.t,h:=s.h ++ [.cells (cs.map AVal.dim)]}):=rfl
theorem op_ld (d:Option Nat) (k:Option Nat) (a:AOpd):runOp base call p d (.ld k a) s = putV d s (ldAt s.h (ev s.t a) k):=by
 simp only [runOp]
 cases ldAt s.h (ev s.t a) k <;> rfl
theorem ldAt_iptr (cs:List AVal) (o:Nat) (k:Option Nat):ldAt h (.iptr cs o) k = cut cs o k:=rfl
theorem cut_none (cs:List AVal) (o:Nat):cut cs o none = (cs[o]?).map AVal.dim:=rfl
theorem cut_some {cs:List AVal} {o k:Nat} (h:o + k ≤ cs.length):cut cs o (some k) = some (.agg (((cs.drop o).take k).map AVal.dim)):=if_pos h
def stV (base:Nat) (k:Option Nat) (a v:AVal) (h:List ABox):Option (List ABox×Bool):=
 match a with
 | .ptr id o=>
  match h[id]? with
  | some (.cells cs)=>
   let vs:=match k with | none=>[v] | some _=>v.dim.cells.map AVal.dim
   if vs.length = k.getD 1∧o + vs.length ≤ cs.length∧vs.all AVal.storable then
    some (h.set id (.cells (splice cs o vs)),!(Nat.ble base id || lowerL (id + 1) vs))
   else none
  | _=>none
 | _=>none
def stW (d:Option Nat) (t:List AVal) (e:Bool):Option (List ABox×Bool)→Option (Ex×St)
 | some (h,e')=>some (.nor,{ t:=put d .undef t,h,e:=e || e'})
 | none=>none
theorem stW_some (d:Option Nat) (t:List AVal) (e e':Bool) (h:List ABox):stW d t e (some (h,e')) = some (.nor,⟨put d .undef t,h,e || e'⟩):=rfl
theorem op_st (d:Option Nat) (k:Option Nat) (a x:AOpd):runOp base call p d (.st k a x) s = stW d (drained s.t x) s.e (stV base k (ev s.t a) (raw s.t x) s.h):=by
 simp only [runOp,stV]
 cases ev s.t a with
 | ptr id o=>
  simp only
  cases s.h[id]? with
  | none=>rfl
  | some b=>
   cases b with
   | cells cs=>cases k <;> (simp only;split <;> rfl)
   | _=>rfl
 | _=>rfl
end
end Go.AE
namespace Go.AE
section
variable {base:Nat} {call:Call} {p:Prov} {s:St} {t:List AVal} {h:List ABox}
def callV (d:Option Nat) (s:St):Option (CRes×List ABox×Bool)→Option (Ex×St)
 | some (.ret v,h,e)=>some (.nor,{ t:=put d v.dim s.t,h,e:=s.e || e})
 | some (.pan v,h,e)=>some (.pan v,{ s with h,e:=s.e || e})
 | none=>none
theorem op_call (d:Option Nat) (f:AOpd) (args:List AOpd):runOp base call p d (.call f args) s = callV d s (call (ev s.t f) (args.map (ev s.t)) s.h):=by
 simp only [runOp]
 cases call (ev s.t f) (args.map (ev s.t)) s.h with
 | none=>rfl
 | some r=>obtain ⟨r,h,e⟩:=r;cases r <;> rfl
theorem callV_ret (d:Option Nat) (t:List AVal) (h h':List ABox) (e e':Bool) (v:AVal):callV d ⟨t,h,e⟩ (some (.ret v,h',e')) = some (.nor,⟨put d v.dim t,h',e || e'⟩):=rfl
theorem callV_pan (d:Option Nat) (t:List AVal) (h h':List ABox) (e e':Bool) (v:AVal):callV d ⟨t,h,e⟩ (some (.pan v,h',e')) = some (.pan v,⟨t,h',e || e'⟩):=rfl
theorem get_at (h l:List ABox):(h ++ l)[h.length]? = l[0]?:=by rw [List.getElem?_append_right (Nat.le_refl _),Nat.sub_self]
theorem get_past (h l:List ABox) (k:Nat):(h ++ l)[h.length + k]? = l[k]?:=by rw [List.getElem?_append_right (by omega),Nat.add_sub_cancel_left]
theorem set_at (h l:List ABox) (b:ABox):(h ++ l).set h.length b = h ++ l.set 0 b:=by rw [List.set_append_right _ _ (Nat.le_refl _),Nat.sub_self]
theorem set_past (h l:List ABox) (k:Nat) (b:ABox):(h ++ l).set (h.length + k) b = h ++ l.set k b:=by rw [List.set_append_right _ _ (by omega),Nat.add_sub_cancel_left]
theorem get_old {h l:List ABox} {i:Nat} (hi:i < h.length):(h ++ l)[i]? = h[i]?:=List.getElem?_append_left hi
theorem set_old {h l:List ABox} {i:Nat} {b:ABox} (hi:i < h.length):(h ++ l).set i b = h.set i b ++ l:=List.set_append_left _ _ hi
theorem leave_ret {n:Nat} {h l:List ABox} {v:AVal} (hl:h.length = n) (hv:v.lower n = true):leave n (.ret v) (h ++ l) false = (.ret v,h,false):=by subst hl;simp [leave,hv]
theorem leave_ret0 {n:Nat} {h:List ABox} {v:AVal} (hl:h.length = n) (hv:v.lower n = true):leave n (.ret v) h false = (.ret v,h,false):=by subst hl;simp [leave,hv]
theorem leave_pan {n:Nat} {h l:List ABox} {v:AVal} (hl:h.length = n) (hv:v.lower n = true):leave n (.pan v) (h ++ l) false = (.pan v,h,false):=by subst hl;simp [leave,hv]
theorem leave_pan0 {n:Nat} {h:List ABox} {v:AVal} (hl:h.length = n) (hv:v.lower n = true):leave n (.pan v) h false = (.pan v,h,false):=by subst hl;simp [leave,hv]
theorem leave_cut {n:Nat} {H h:List ABox} {v:AVal} (hc:H.take n = h) (hv:v.lower n = true):leave n (.ret v) H false = (.ret v,h,false):=by simp [leave,hv,hc]
theorem set_twice (h:List ABox) (i:Nat) (a b:ABox):(h.set i a).set i b = h.set i b:=List.set_set ..
theorem get_at2 {h l:List ABox} {n:Nat} (hl:h.length = n):(h ++ l)[n]? = l[0]?:=by subst hl;exact get_at h l
theorem set_at2 {h l:List ABox} {n:Nat} {b:ABox} (hl:h.length = n):(h ++ l).set n b = h ++ l.set 0 b:=by subst hl;exact set_at h l b
theorem get_past2 {h l:List ABox} {n k:Nat} (hl:h.length = n):(h ++ l)[n + k]? = l[k]?:=by subst hl;exact get_past h l k
theorem set_past2 {h l:List ABox} {n k:Nat} {b:ABox} (hl:h.length = n):(h ++ l).set (n + k) b = h ++ l.set k b:=by subst hl;exact set_past h l k b
theorem get_set_ne {h:List ABox} {i j:Nat} {b:ABox} (hij:i ≠ j):(h.set i b)[j]? = h[j]?:=List.getElem?_set_ne hij
theorem get_set {h:List ABox} {i:Nat} {b:ABox} (hi:i < h.length):(h.set i b)[i]? = some b:=List.getElem?_set_self hi
end
end Go.AE
namespace Go.AE
section
variable {base:Nat} {call:Call} {p:Prov} {s:St}
def boxW (d:Option Nat) (s:St) (k:Nat) (vs:List AVal):Option (Ex×St):=
 if vs.length = k∧vs.all AVal.storable then some (.nor,{ s with t:=put d (.ptr s.h.length 0) s.t,h:=s.h ++ [.cells vs]}) else none
theorem op_box (d:Option Nat) (k:Nat) (x:AOpd):runOp base call p d (.box k x) s = boxW d s k ((ev s.t x).cells.map AVal.dim):=rfl
theorem boxW_eq (d:Option Nat) (t:List AVal) (h:List ABox) (e:Bool) (k:Nat) (vs:List AVal):boxW d ⟨t,h,e⟩ k vs = if vs.length = k∧vs.all AVal.storable then some (.nor,⟨put d (.ptr h.length 0) t,h ++ [.cells vs],e⟩) else none:=rfl
def mkIV (ty:TypeId) (v:AVal):Option AVal:=
 match v with
 | .undef=>none
 | v=>some (.iface ty v)
theorem op_mkI (d:Option Nat) (ty:TypeId) (x:AOpd):runOp base call p d (.mkI ty x) s = putV d s (mkIV ty (ev s.t x)):=by
 rw [op_pure _ _ rfl (by simp) (by simp) (by simp)]
 simp only [pureV]
 cases ev s.t x <;> rfl
theorem mkIV_agg (ty:TypeId) (cs:List AVal):mkIV ty (.agg cs) = some (.iface ty (.agg cs)):=rfl
theorem mkIV_int (ty:TypeId) (k:IntKind) (n:Int):mkIV ty (.int k n) = some (.iface ty (.int k n)):=rfl
theorem op_mkF (d:Option Nat) (f:FuncId) (a b:List AOpd):runOp base call p d (.mkF f a b) s = some (.nor,{ s with t:=put d (.fn f (a.map (ev s.t)) (b.map (ev s.t))) s.t}):=rfl
def ixSV (s i:AVal):Option AVal:=
 match s,i with
 | .str l,.int _ n=>if 0 ≤ n then (l[n.toNat]?).map fun b=>.int .u8 b.toNat else none
 | _,_=>none
theorem op_ixS (d:Option Nat) (x i:AOpd):runOp base call p d (.ixS x i) s = putV d s (ixSV (ev s.t x) (ev s.t i)):=by
 rw [op_pure _ _ rfl (by simp) (by simp) (by simp)]
 simp only [pureV]
 cases ev s.t x <;> cases ev s.t i <;> rfl
theorem ixSV_get {l:List UInt8} {k:IntKind} {n:Nat} {b:UInt8} (h:l[n]? = some b):ixSV (.str l) (.int k n) = some (.int .u8 b.toNat):=by
 simp only [ixSV,Int.toNat_natCast,h,Option.map_some]
 rw [if_pos (Int.natCast_nonneg n)]
def extV (i:Nat) (v:AVal):Option AVal:=
 match v with
 | .tup vs=>(vs[i]?).map AVal.dim
 | _=>none
theorem op_ext (d:Option Nat) (x:AOpd) (i:Nat):runOp base call p d (.ext x i) s = putV d s (extV i (ev s.t x)):=by
 rw [op_pure _ _ rfl (by simp) (by simp) (by simp)]
 simp only [pureV]
 cases ev s.t x <;> rfl
theorem extV_tup (i:Nat) (vs:List AVal):extV i (.tup vs) = (vs[i]?).map AVal.dim:=rfl
def eqbV (neg:Bool) (x y:AVal):Option AVal:=
 match x,y with
 | .bool a,.bool b=>some (.bool ((a == b) != neg))
 | _,_=>none
theorem op_eqb (d:Option Nat) (neg:Bool) (x y:AOpd):runOp base call p d (.eqb neg x y) s = putV d s (eqbV neg (ev s.t x) (ev s.t y)):=by
 rw [op_pure _ _ rfl (by simp) (by simp) (by simp)]
 simp only [pureV]
 cases ev s.t x <;> cases ev s.t y <;> rfl
theorem eqbV_bool (neg a b:Bool):eqbV neg (.bool a) (.bool b) = some (.bool ((a == b) != neg)):=rfl
def eqiV (k:Nat) (neg:Bool) (x y:AVal):Option AVal:=(nilV k x y).map fun b=>.bool (b != neg)
theorem op_eqi (d:Option Nat) (k:Nat) (neg:Bool) (x y:AOpd):runOp base call p d (.eqi k neg x y) s = putV d s (eqiV k neg (ev s.t x) (ev s.t y)):=op_pure _ _ rfl (by simp) (by simp) (by simp)
def cviV (k:IntKind) (v:AVal):Option AVal:=
 match v with
 | .int _ n=>some (.int k (k.wrap n))
 | _=>none
theorem op_cvi (d:Option Nat) (k:IntKind) (x:AOpd):runOp base call p d (.cvi k x) s = putV d s (cviV k (ev s.t x)):=by
 rw [op_pure _ _ rfl (by simp) (by simp) (by simp)]
 simp only [pureV]
 cases ev s.t x <;> rfl
theorem cviV_int (k j:IntKind) (n:Int):cviV k (.int j n) = some (.int k (k.wrap n)):=rfl
def mmV (isMax:Bool) (x y:AVal):Option AVal:=
 match x,y with
 | .int k a,.int _ b=>some (.int k (if isMax then (if b > a then b else a) else (if b < a then b else a)))
 | _,_=>none
theorem op_mm (d:Option Nat) (m:Bool) (x y:AOpd):runOp base call p d (.mm m x y) s = putV d s (mmV m (ev s.t x) (ev s.t y)):=by
 rw [op_pure _ _ rfl (by simp) (by simp) (by simp)]
 simp only [pureV]
 cases ev s.t x <;> cases ev s.t y <;> rfl
theorem mmV_max (k j:IntKind) (a b:Int):mmV true (.int k a) (.int j b) = some (.int k (if b > a then b else a)):=rfl
theorem mm_nat (k j:IntKind) (a b:Nat):mmV true (.int k (a:Int)) (.int j (b:Int)) = some (.int k ((max a b:Nat):Int)):=by
 simp only [mmV,if_true]
 congr 2
 split <;> omega
theorem mmV_min (k j:IntKind) (a b:Int):mmV false (.int k a) (.int j b) = some (.int k (if b < a then b else a)):=rfl
def panW (s:St) (v:AVal):Option (Ex×St):=
 match v with
 | .iface u v=>some (.pan (.iface u v),s)
 | _=>none
theorem op_pan (d:Option Nat) (x:AOpd):runOp base call p d (.pan x) s = panW s (ev s.t x):=by
 simp only [runOp]
 cases ev s.t x <;> rfl
theorem panW_iface (s:St) (u:TypeId) (v:AVal):panW s (.iface u v) = some (.pan (.iface u v),s):=rfl
end
end Go.AE
namespace Go.AE
section
variable {base:Nat} {call:Call} {p:Prov} {s:St}
def ixAV (len:Nat) (k:Option Nat) (a i:AVal):Option AVal:=
 match a,i with
 | .agg cs,.int _ n=>if 0 ≤ n∧n < (len:Int) then cut cs (n.toNat * k.getD 1) k else none
 | _,_=>none
theorem op_ixA (d:Option Nat) (len:Nat) (k:Option Nat) (a i:AOpd):runOp base call p d (.ixA len k a i) s = putV d s (ixAV len k (ev s.t a) (ev s.t i)):=by
 rw [op_pure _ _ rfl (by simp) (by simp) (by simp)]
 simp only [pureV]
 cases ev s.t a <;> cases ev s.t i <;> rfl
theorem ixAV_get {len n:Nat} {j:IntKind} {cs:List AVal} {v:AVal} (hn:n < len) (hv:cs[n]? = some v):ixAV len none (.agg cs) (.int j n) = some v.dim:=by
 simp only [ixAV]
 rw [if_pos ⟨by omega,by omega⟩]
 simp only [Int.toNat_natCast,Option.getD_none,Nat.mul_one,cut_none,hv,Option.map_some]
end
end Go.AE
namespace Go.AE
section
variable {base:Nat} {call:Call} {p q:Prov} {s:St} {t:List AVal} {h:List ABox}
def AOp.isApp:AOp→Bool
 | .app ..=>true
 | _=>false
def noApp:List AOper→Bool
 | []=>true
 | o :: os=>!o.op.isApp && noApp os
def lookV (s:St):AOp→Option AVal
 | .mov x=>some (ev s.t x)
 | .pick c a b=>pickW (ev s.t c) (ev s.t a) (ev s.t b)
 | .ld k a=>ldAt s.h (ev s.t a) k
 | .bin op x y=>binV op (ev s.t x) (ev s.t y)
 | .un op x=>unV op (ev s.t x)
 | .fa off a=>faV off (ev s.t a)
 | .nilc x=>nilcV (ev s.t x)
 | .len b x=>lenV b (ev s.t x)
 | .ixaL k x i=>ixaV k (ev s.t x) (ev s.t i)
 | .fld off k x=>fldV off k (ev s.t x)
 | .ixS x i=>ixSV (ev s.t x) (ev s.t i)
 | .ixA l k a i=>ixAV l k (ev s.t a) (ev s.t i)
 | .ext x i=>extV i (ev s.t x)
 | .eqb n x y=>eqbV n (ev s.t x) (ev s.t y)
 | .eqi k n x y=>eqiV k n (ev s.t x) (ev s.t y)
 | .cvi k x=>cviV k (ev s.t x)
 | .mm m x y=>mmV m (ev s.t x) (ev s.t y)
 | .mkI t x=>mkIV t (ev s.t x)
 | .lk sh z ok m key=>lkAt s.h sh z ok (ev s.t m) (ev s.t key)
 | o=>pureV s.t o
def AOp.plain:AOp→Bool
 | .asg .. | .new .. | .box .. | .st .. | .call .. | .app .. | .pan .. | .hx ..=>false
 | _=>true
theorem runOp_plain {d:Option Nat} {o:AOp} (ho:o.plain = true):runOp base call p d o s = putV d s (lookV s o):=by
 cases o <;> simp only [AOp.plain,Bool.false_eq_true] at ho
 case mov=>rfl
 case pick=>exact op_pick _ _ _ _
 case ld=>exact op_ld _ _ _
 case bin=>exact op_bin _ _ _ _
 case un=>exact op_un _ _ _
 case fa=>exact op_fa _ _ _
 case nilc=>exact op_nilc _ _
 case len=>exact op_len _ _ _
 case ixaL=>exact op_ixaL _ _ _ _
 case fld=>exact op_fld _ _ _ _
 case ixS=>exact op_ixS _ _ _
 case ixA=>exact op_ixA _ _ _ _ _
 case ext=>exact op_ext _ _ _
 case eqb=>exact op_eqb _ _ _ _
 case eqi=>exact op_eqi _ _ _ _ _
 case cvi=>exact op_cvi _ _ _
 case mm=>exact op_mm _ _ _ _
 case mkI=>exact op_mkI _ _ _
 case lk sh z ok m key=>simp only [runOp,lookV];generalize lkAt s.h sh z ok (ev s.t m) (ev s.t key) = r;cases r <;> rfl
 all_goals (simp only [runOp,lookV];generalize pureV s.t _ = r;cases r <;> rfl)
theorem runOp_prov {d:Option Nat} {o:AOp} (ho:o.isApp = false):runOp base call p d o s = runOp base call q d o s:=by
 cases o <;> first | rfl | (simp [AOp.isApp] at ho)
def gv (q:Bool) (v:AVal):AVal:=bif q then v else .tup []
def guardQ (q:Bool) (d:Option Nat) (s:St) (r:Option AVal) (k:St→Option (Ex×St)):Option (Ex×St):=
 bif q then (match r with | some v=>k { s with t:=put d v s.t} | none=>none) else k { s with t:=put d (.tup []) s.t}
def gate (c:Bool) (r:Option AVal):Option AVal:=bif c then r else some (.tup [])
def guardP (g:AVal) (b:Bool) (d:Option Nat) (s:St) (r:Option AVal) (k:St→Option (Ex×St)):Option (Ex×St):=
 match g with
 | .bool c=>guardQ (c == b) d s r k
 | .tup []=>guardQ false d s r k
 | _=>none
def guardJ (g:AVal) (b:Bool) (d:Option Nat) (s:St) (r:Option (Ex×St)) (k:St→Option (Ex×St)):Option (Ex×St):=
 match g with
 | .bool c=>bif c == b then thenW k r else k { s with t:=put d (.tup []) s.t}
 | .tup []=>k { s with t:=put d (.tup []) s.t}
 | _=>none
def runQ (base:Nat) (call:Call):List AOper→St→Option (Ex×St)
 | [],s=>some (.nor,s)
 | o :: os,s=>
  match o.guard with
  | none=>thenW (runQ base call os) (runOp base call [] o.dst o.op s)
  | some (j,b)=>
   match o.op.plain with
   | true=>guardP (lkp s.t j) b o.dst s (lookV s o.op) (runQ base call os)
   | false=>guardJ (lkp s.t j) b o.dst s (runOp base call [] o.dst o.op s) (runQ base call os)
theorem runOps_q:∀(os:List AOper) (p:Prov) (s:St),noApp os = true→runOps base call p os s = runQ base call os s
 | [],p,s,_=>rfl
 | o :: os,p,s,hn=>by
  simp only [noApp,Bool.and_eq_true,Bool.not_eq_true'] at hn
  obtain ⟨d,op,g⟩:=o
  have ih:=fun p s=>runOps_q os p s hn.2
  cases g with
  | none=>
   simp only [ops_cons,runQ]
   rw [runOp_prov (q:=[]) hn.1]
   congr 1
   funext s
   exact ih _ s
  | some jb=>
   obtain ⟨j,b⟩:=jb
   simp only [ops_guard,runQ]
   have e1:(runOps base call (provNext p ⟨d,op,some (j,b)⟩) os) = runQ base call os:=funext fun s=>ih _ s
   rw [e1,ih,runOp_prov (q:=[]) hn.1]
   cases hpl:op.plain with
   | true=>
    simp only
    rw [runOp_plain hpl]
    generalize lookV s op = r
    generalize lkp s.t j = g
    cases g with
    | bool c=>
     simp only [guardW,guardP,guardQ]
     cases c == b with
     | true=>cases r <;> rfl
     | false=>rfl
    | tup vs=>cases vs <;> rfl
    | _=>rfl
   | false=>
    simp only
    generalize lkp s.t j = g
    cases g with
    | bool c=>
     simp only [guardW,guardJ]
     cases c == b <;> rfl
    | tup vs=>cases vs <;> rfl
    | _=>rfl
theorem reg_q {ops:List AOper} (hn:noApp ops = true):execW base call (.reg ops) s = runQ base call ops s:=by
 rw [execW_reg,runOps_q ops [] s hn]
theorem reg_app {ops:List AOper} (_hn:noApp ops = false):execW base call (.reg ops) s = runOps base call [] ops s:=execW_reg ops s
theorem q_nil:runQ base call [] s = some (.nor,s):=rfl
theorem q_cons (d:Option Nat) (o:AOp) (os:List AOper):runQ base call (⟨d,o,none⟩ :: os) s = thenW (runQ base call os) (runOp base call [] d o s):=rfl
theorem q_plain (d:Option Nat) (o:AOp) (j:Nat) (b:Bool) (os:List AOper) (ho:o.plain = true):runQ base call (⟨d,o,some (j,b)⟩ :: os) s = guardP (lkp s.t j) b d s (lookV s o) (runQ base call os):=by
 simp only [runQ,ho]
theorem q_guard (d:Option Nat) (o:AOp) (j:Nat) (b:Bool) (os:List AOper) (ho:o.plain = false):runQ base call (⟨d,o,some (j,b)⟩ :: os) s = guardJ (lkp s.t j) b d s (runOp base call [] d o s) (runQ base call os):=by
 simp only [runQ,ho]
theorem guardP_gv (q c b:Bool) (d:Option Nat) (s:St) (r:Option AVal) (k:St→Option (Ex×St)):guardP (gv q (.bool c)) b d s r k = guardQ q d s (gate (c == b) r) k:=by
 cases q <;> cases c <;> cases b <;> rfl
theorem guardP_gv2 (q x c b:Bool) (d:Option Nat) (s:St) (r:Option AVal) (k:St→Option (Ex×St)):guardP (gv q (gv x (.bool c))) b d s r k = guardQ q d s (gate x (gate (c == b) r)) k:=by
 cases q <;> cases x <;> cases c <;> cases b <;> rfl
theorem guardQ_true (d:Option Nat) (t:List AVal) (h:List ABox) (e:Bool) (v:AVal) (k:St→Option (Ex×St)):guardQ true d ⟨t,h,e⟩ (some v) k = k ⟨put d v t,h,e⟩:=rfl
theorem guardQ_some (q:Bool) (d:Nat) (t:List AVal) (h:List ABox) (e:Bool) (v:AVal) (k:St→Option (Ex×St)):guardQ q (some d) ⟨t,h,e⟩ (some v) k = k ⟨up t d (gv q v),h,e⟩:=by
 cases q <;> rfl
theorem gate_some (c:Bool) (v:AVal):gate c (some v) = some (gv c v):=by cases c <;> rfl
theorem guardJ_hit (b:Bool) (d:Option Nat) (s:St) (r:Option (Ex×St)) (k:St→Option (Ex×St)):guardJ (.bool b) b d s r k = thenW k r:=by cases b <;> rfl
theorem gv_gv (q:Bool) (v:AVal):gv q (gv q v) = gv q v:=by cases q <;> rfl
theorem dim_gv (q:Bool) (v:AVal):(gv q v).dim = gv q v.dim:=by cases q <;> rfl
theorem pick_and (c x:Bool):pickW (.bool c) (gv c (.bool x)) (.bool false) = some (.bool (c && x)):=by cases c <;> rfl
theorem pick_or (c x:Bool):pickW (.bool c) (.bool true) (gv (!c) (.bool x)) = some (.bool (c || x)):=by cases c <;> rfl
theorem is_true (b:Bool):(b == true) = b:=by cases b <;> rfl
theorem is_false (b:Bool):(b == false) = !b:=by cases b <;> rfl
end
end Go.AE
namespace Go.AE
section
variable {s:St} {d:Option Nat} {k:St→Option (Ex×St)}
theorem in_some (q:Bool) (v:AVal) :guardQ q d s (some (gv q v)) k = guardQ q d s (some v) k:=by cases q <;> rfl
theorem at_some (c:Bool) (v:AVal) :gate c (some (gv c v)) = gate c (some v):=by cases c <;> rfl
theorem inat_some (q c:Bool) (v:AVal) :guardQ q d s (gate c (some (gv q v))) k = guardQ q d s (gate c (some v)) k:=by cases q <;> rfl
theorem in_ld (q:Bool) (v:AVal) (h':List ABox) (kk:Option Nat):guardQ q d s (ldAt h' (gv q v) kk) k = guardQ q d s (ldAt h' v kk) k:=by cases q <;> rfl
theorem at_ld (c:Bool) (v:AVal) (h':List ABox) (kk:Option Nat):gate c (ldAt h' (gv c v) kk) = gate c (ldAt h' v kk):=by cases c <;> rfl
theorem inat_ld (q c:Bool) (v:AVal) (h':List ABox) (kk:Option Nat):guardQ q d s (gate c (ldAt h' (gv q v) kk)) k = guardQ q d s (gate c (ldAt h' v kk)) k:=by cases q <;> rfl
theorem in_fa (q:Bool) (v:AVal) (o:Nat):guardQ q d s (faV o (gv q v)) k = guardQ q d s (faV o v) k:=by cases q <;> rfl
theorem at_fa (c:Bool) (v:AVal) (o:Nat):gate c (faV o (gv c v)) = gate c (faV o v):=by cases c <;> rfl
theorem inat_fa (q c:Bool) (v:AVal) (o:Nat):guardQ q d s (gate c (faV o (gv q v))) k = guardQ q d s (gate c (faV o v)) k:=by cases q <;> rfl
theorem in_len (q:Bool) (v:AVal) (b:Bool):guardQ q d s (lenV b (gv q v)) k = guardQ q d s (lenV b v) k:=by cases q <;> rfl
theorem at_len (c:Bool) (v:AVal) (b:Bool):gate c (lenV b (gv c v)) = gate c (lenV b v):=by cases c <;> rfl
theorem inat_len (q c:Bool) (v:AVal) (b:Bool):guardQ q d s (gate c (lenV b (gv q v))) k = guardQ q d s (gate c (lenV b v)) k:=by cases q <;> rfl
theorem in_fld (q:Bool) (v:AVal) (o:Nat) (kk:Option Nat):guardQ q d s (fldV o kk (gv q v)) k = guardQ q d s (fldV o kk v) k:=by cases q <;> rfl
theorem at_fld (c:Bool) (v:AVal) (o:Nat) (kk:Option Nat):gate c (fldV o kk (gv c v)) = gate c (fldV o kk v):=by cases c <;> rfl
theorem inat_fld (q c:Bool) (v:AVal) (o:Nat) (kk:Option Nat):guardQ q d s (gate c (fldV o kk (gv q v))) k = guardQ q d s (gate c (fldV o kk v)) k:=by cases q <;> rfl
theorem in_un (q:Bool) (v:AVal) (op:UnOp):guardQ q d s (unV op (gv q v)) k = guardQ q d s (unV op v) k:=by cases q <;> rfl
theorem at_un (c:Bool) (v:AVal) (op:UnOp):gate c (unV op (gv c v)) = gate c (unV op v):=by cases c <;> rfl
theorem inat_un (q c:Bool) (v:AVal) (op:UnOp):guardQ q d s (gate c (unV op (gv q v))) k = guardQ q d s (gate c (unV op v)) k:=by cases q <;> rfl
theorem in_nilc (q:Bool) (v:AVal) :guardQ q d s (nilcV (gv q v)) k = guardQ q d s (nilcV v) k:=by cases q <;> rfl
theorem at_nilc (c:Bool) (v:AVal) :gate c (nilcV (gv c v)) = gate c (nilcV v):=by cases c <;> rfl
theorem inat_nilc (q c:Bool) (v:AVal) :guardQ q d s (gate c (nilcV (gv q v))) k = guardQ q d s (gate c (nilcV v)) k:=by cases q <;> rfl
theorem in_ext (q:Bool) (v:AVal) (o:Nat):guardQ q d s (extV o (gv q v)) k = guardQ q d s (extV o v) k:=by cases q <;> rfl
theorem at_ext (c:Bool) (v:AVal) (o:Nat):gate c (extV o (gv c v)) = gate c (extV o v):=by cases c <;> rfl
theorem inat_ext (q c:Bool) (v:AVal) (o:Nat):guardQ q d s (gate c (extV o (gv q v))) k = guardQ q d s (gate c (extV o v)) k:=by cases q <;> rfl
theorem in_cvi (q:Bool) (v:AVal) (ik:IntKind):guardQ q d s (cviV ik (gv q v)) k = guardQ q d s (cviV ik v) k:=by cases q <;> rfl
theorem at_cvi (c:Bool) (v:AVal) (ik:IntKind):gate c (cviV ik (gv c v)) = gate c (cviV ik v):=by cases c <;> rfl
theorem inat_cvi (q c:Bool) (v:AVal) (ik:IntKind):guardQ q d s (gate c (cviV ik (gv q v))) k = guardQ q d s (gate c (cviV ik v)) k:=by cases q <;> rfl
theorem in_mkI (q:Bool) (v:AVal) (ty:TypeId):guardQ q d s (mkIV ty (gv q v)) k = guardQ q d s (mkIV ty v) k:=by cases q <;> rfl
theorem at_mkI (c:Bool) (v:AVal) (ty:TypeId):gate c (mkIV ty (gv c v)) = gate c (mkIV ty v):=by cases c <;> rfl
theorem inat_mkI (q c:Bool) (v:AVal) (ty:TypeId):guardQ q d s (gate c (mkIV ty (gv q v))) k = guardQ q d s (gate c (mkIV ty v)) k:=by cases q <;> rfl
theorem in_ixS (q:Bool) (v:AVal) (w:AVal):guardQ q d s (ixSV (gv q v) w) k = guardQ q d s (ixSV v w) k:=by cases q <;> rfl
theorem at_ixS (c:Bool) (v:AVal) (w:AVal):gate c (ixSV (gv c v) w) = gate c (ixSV v w):=by cases c <;> rfl
theorem inat_ixS (q c:Bool) (v:AVal) (w:AVal):guardQ q d s (gate c (ixSV (gv q v) w)) k = guardQ q d s (gate c (ixSV v w)) k:=by cases q <;> rfl
theorem in_ixS2 (q:Bool) (v:AVal) (w:AVal):guardQ q d s (ixSV w (gv q v)) k = guardQ q d s (ixSV w v) k:=by cases q <;> rfl
theorem at_ixS2 (c:Bool) (v:AVal) (w:AVal):gate c (ixSV w (gv c v)) = gate c (ixSV w v):=by cases c <;> rfl
theorem inat_ixS2 (q c:Bool) (v:AVal) (w:AVal):guardQ q d s (gate c (ixSV w (gv q v))) k = guardQ q d s (gate c (ixSV w v)) k:=by cases q <;> rfl
theorem in_ixa (q:Bool) (v:AVal) (o:Nat) (w:AVal):guardQ q d s (ixaV o (gv q v) w) k = guardQ q d s (ixaV o v w) k:=by cases q <;> rfl
theorem at_ixa (c:Bool) (v:AVal) (o:Nat) (w:AVal):gate c (ixaV o (gv c v) w) = gate c (ixaV o v w):=by cases c <;> rfl
theorem inat_ixa (q c:Bool) (v:AVal) (o:Nat) (w:AVal):guardQ q d s (gate c (ixaV o (gv q v) w)) k = guardQ q d s (gate c (ixaV o v w)) k:=by cases q <;> rfl
theorem in_ixa2 (q:Bool) (v:AVal) (o:Nat) (w:AVal):guardQ q d s (ixaV o w (gv q v)) k = guardQ q d s (ixaV o w v) k:=by cases q <;> rfl
theorem at_ixa2 (c:Bool) (v:AVal) (o:Nat) (w:AVal):gate c (ixaV o w (gv c v)) = gate c (ixaV o w v):=by cases c <;> rfl
theorem inat_ixa2 (q c:Bool) (v:AVal) (o:Nat) (w:AVal):guardQ q d s (gate c (ixaV o w (gv q v))) k = guardQ q d s (gate c (ixaV o w v)) k:=by cases q <;> rfl
theorem in_ixA (q:Bool) (v:AVal) (o:Nat) (kk:Option Nat) (w:AVal):guardQ q d s (ixAV o kk (gv q v) w) k = guardQ q d s (ixAV o kk v w) k:=by cases q <;> rfl
theorem at_ixA (c:Bool) (v:AVal) (o:Nat) (kk:Option Nat) (w:AVal):gate c (ixAV o kk (gv c v) w) = gate c (ixAV o kk v w):=by cases c <;> rfl
theorem inat_ixA (q c:Bool) (v:AVal) (o:Nat) (kk:Option Nat) (w:AVal):guardQ q d s (gate c (ixAV o kk (gv q v) w)) k = guardQ q d s (gate c (ixAV o kk v w)) k:=by cases q <;> rfl
theorem in_ixA2 (q:Bool) (v:AVal) (o:Nat) (kk:Option Nat) (w:AVal):guardQ q d s (ixAV o kk w (gv q v)) k = guardQ q d s (ixAV o kk w v) k:=by cases q <;> rfl
theorem at_ixA2 (c:Bool) (v:AVal) (o:Nat) (kk:Option Nat) (w:AVal):gate c (ixAV o kk w (gv c v)) = gate c (ixAV o kk w v):=by cases c <;> rfl
theorem inat_ixA2 (q c:Bool) (v:AVal) (o:Nat) (kk:Option Nat) (w:AVal):guardQ q d s (gate c (ixAV o kk w (gv q v))) k = guardQ q d s (gate c (ixAV o kk w v)) k:=by cases q <;> rfl
theorem in_bin (q:Bool) (v:AVal) (op:BinOp) (w:AVal):guardQ q d s (binV op (gv q v) w) k = guardQ q d s (binV op v w) k:=by cases q <;> rfl
theorem at_bin (c:Bool) (v:AVal) (op:BinOp) (w:AVal):gate c (binV op (gv c v) w) = gate c (binV op v w):=by cases c <;> rfl
theorem inat_bin (q c:Bool) (v:AVal) (op:BinOp) (w:AVal):guardQ q d s (gate c (binV op (gv q v) w)) k = guardQ q d s (gate c (binV op v w)) k:=by cases q <;> rfl
theorem in_bin2 (q:Bool) (v:AVal) (op:BinOp) (w:AVal):guardQ q d s (binV op w (gv q v)) k = guardQ q d s (binV op w v) k:=by cases q <;> rfl
theorem at_bin2 (c:Bool) (v:AVal) (op:BinOp) (w:AVal):gate c (binV op w (gv c v)) = gate c (binV op w v):=by cases c <;> rfl
theorem inat_bin2 (q c:Bool) (v:AVal) (op:BinOp) (w:AVal):guardQ q d s (gate c (binV op w (gv q v))) k = guardQ q d s (gate c (binV op w v)) k:=by cases q <;> rfl
theorem in_eqb (q:Bool) (v:AVal) (b:Bool) (w:AVal):guardQ q d s (eqbV b (gv q v) w) k = guardQ q d s (eqbV b v w) k:=by cases q <;> rfl
theorem at_eqb (c:Bool) (v:AVal) (b:Bool) (w:AVal):gate c (eqbV b (gv c v) w) = gate c (eqbV b v w):=by cases c <;> rfl
theorem inat_eqb (q c:Bool) (v:AVal) (b:Bool) (w:AVal):guardQ q d s (gate c (eqbV b (gv q v) w)) k = guardQ q d s (gate c (eqbV b v w)) k:=by cases q <;> rfl
theorem in_eqb2 (q:Bool) (v:AVal) (b:Bool) (w:AVal):guardQ q d s (eqbV b w (gv q v)) k = guardQ q d s (eqbV b w v) k:=by cases q <;> rfl
theorem at_eqb2 (c:Bool) (v:AVal) (b:Bool) (w:AVal):gate c (eqbV b w (gv c v)) = gate c (eqbV b w v):=by cases c <;> rfl
theorem inat_eqb2 (q c:Bool) (v:AVal) (b:Bool) (w:AVal):guardQ q d s (gate c (eqbV b w (gv q v))) k = guardQ q d s (gate c (eqbV b w v)) k:=by cases q <;> rfl
theorem in_eqi (q:Bool) (v:AVal) (o:Nat) (b:Bool) (w:AVal):guardQ q d s (eqiV o b (gv q v) w) k = guardQ q d s (eqiV o b v w) k:=by cases q <;> rfl
theorem at_eqi (c:Bool) (v:AVal) (o:Nat) (b:Bool) (w:AVal):gate c (eqiV o b (gv c v) w) = gate c (eqiV o b v w):=by cases c <;> rfl
theorem inat_eqi (q c:Bool) (v:AVal) (o:Nat) (b:Bool) (w:AVal):guardQ q d s (gate c (eqiV o b (gv q v) w)) k = guardQ q d s (gate c (eqiV o b v w)) k:=by cases q <;> rfl
theorem in_eqi2 (q:Bool) (v:AVal) (o:Nat) (b:Bool) (w:AVal):guardQ q d s (eqiV o b w (gv q v)) k = guardQ q d s (eqiV o b w v) k:=by cases q <;> rfl
theorem at_eqi2 (c:Bool) (v:AVal) (o:Nat) (b:Bool) (w:AVal):gate c (eqiV o b w (gv c v)) = gate c (eqiV o b w v):=by cases c <;> rfl
theorem inat_eqi2 (q c:Bool) (v:AVal) (o:Nat) (b:Bool) (w:AVal):guardQ q d s (gate c (eqiV o b w (gv q v))) k = guardQ q d s (gate c (eqiV o b w v)) k:=by cases q <;> rfl
theorem in_mm (q:Bool) (v:AVal) (b:Bool) (w:AVal):guardQ q d s (mmV b (gv q v) w) k = guardQ q d s (mmV b v w) k:=by cases q <;> rfl
theorem at_mm (c:Bool) (v:AVal) (b:Bool) (w:AVal):gate c (mmV b (gv c v) w) = gate c (mmV b v w):=by cases c <;> rfl
theorem inat_mm (q c:Bool) (v:AVal) (b:Bool) (w:AVal):guardQ q d s (gate c (mmV b (gv q v) w)) k = guardQ q d s (gate c (mmV b v w)) k:=by cases q <;> rfl
theorem in_mm2 (q:Bool) (v:AVal) (b:Bool) (w:AVal):guardQ q d s (mmV b w (gv q v)) k = guardQ q d s (mmV b w v) k:=by cases q <;> rfl
theorem at_mm2 (c:Bool) (v:AVal) (b:Bool) (w:AVal):gate c (mmV b w (gv c v)) = gate c (mmV b w v):=by cases c <;> rfl
theorem inat_mm2 (q c:Bool) (v:AVal) (b:Bool) (w:AVal):guardQ q d s (gate c (mmV b w (gv q v))) k = guardQ q d s (gate c (mmV b w v)) k:=by cases q <;> rfl
theorem in_pick (q:Bool) (v:AVal) (w z:AVal):guardQ q d s (pickW (gv q v) w z) k = guardQ q d s (pickW v w z) k:=by cases q <;> rfl
theorem at_pick (c:Bool) (v:AVal) (w z:AVal):gate c (pickW (gv c v) w z) = gate c (pickW v w z):=by cases c <;> rfl
theorem inat_pick (q c:Bool) (v:AVal) (w z:AVal):guardQ q d s (gate c (pickW (gv q v) w z)) k = guardQ q d s (gate c (pickW v w z)) k:=by cases q <;> rfl
theorem in_pick2 (q:Bool) (v:AVal) (w z:AVal):guardQ q d s (pickW w (gv q v) z) k = guardQ q d s (pickW w v z) k:=by cases q <;> rfl
theorem at_pick2 (c:Bool) (v:AVal) (w z:AVal):gate c (pickW w (gv c v) z) = gate c (pickW w v z):=by cases c <;> rfl
theorem inat_pick2 (q c:Bool) (v:AVal) (w z:AVal):guardQ q d s (gate c (pickW w (gv q v) z)) k = guardQ q d s (gate c (pickW w v z)) k:=by cases q <;> rfl
theorem in_pick3 (q:Bool) (v:AVal) (w z:AVal):guardQ q d s (pickW w z (gv q v)) k = guardQ q d s (pickW w z v) k:=by cases q <;> rfl
theorem at_pick3 (c:Bool) (v:AVal) (w z:AVal):gate c (pickW w z (gv c v)) = gate c (pickW w z v):=by cases c <;> rfl
theorem inat_pick3 (q c:Bool) (v:AVal) (w z:AVal):guardQ q d s (gate c (pickW w z (gv q v))) k = guardQ q d s (gate c (pickW w z v)) k:=by cases q <;> rfl
end
end Go.AE
namespace Go.AE
section
variable {base:Nat} {call:Call} {s:St}
def maskW (dsts:List Nat):Option (Ex×St)→Option (Ex×St)
 | some (.pan v,s)=>some (.pan v,{ s with t:=mask dsts s.t})
 | r=>r
theorem noPan {base:Nat} {call:Call} {p:Prov} {d:Option Nat} {o:AOp} {s s':St} {x:Ex} (ho:o.effs = false) (h:runOp base call p d o s = some (x,s')):x = .nor:=by
 cases o <;> simp only [AOp.effs,Bool.true_eq_false] at ho
 case new=>simp only [runOp,Option.some.injEq,Prod.mk.injEq] at h;exact h.1.symm
 case box=>
  simp only [runOp] at h
  split at h
  ·cases h;rfl
  ·cases h
 case ld=>
  simp only [runOp] at h
  cases hl:ldAt s.h (ev s.t _) _ with
  | none=>rw [hl] at h;cases h
  | some v=>rw [hl] at h;cases h;rfl
 case lk sh z ok m key=>
  simp only [runOp] at h
  cases hl:lkAt s.h sh z ok (ev s.t m) (ev s.t key) with
  | none=>rw [hl] at h;cases h
  | some v=>rw [hl] at h;cases h;rfl
 all_goals
  simp only [runOp] at h
  revert h
  generalize pureV s.t _ = r
  intro h
  cases r <;> cases h
  rfl
theorem maskW_nor (dsts:List Nat) (s:St):maskW dsts (some (.nor,s)) = some (.nor,s):=rfl
theorem maskW_pan (dsts:List Nat) (v:AVal) (t:List AVal) (h:List ABox) (e:Bool):maskW dsts (some (.pan v,⟨t,h,e⟩)) = some (.pan v,⟨mask dsts t,h,e⟩):=rfl
theorem loop_rule {b:ACode} (I:Nat→St→Prop) (Q:Ex→St→Prop)
  (step:∀k s,I k s→(∃s' k',execW base call b s = some (.nor,s')∧k' < k∧I k' s')∨∃x s',execW base call b s = some (x,s')∧x ≠ .nor∧Q x s') :
  ∀k s,I k s→∃x s',execW base call (.loop b) s = some (x,s')∧Q x s':=by
 intro k
 induction k using Nat.strongRecOn with
 | ind k ih=>
  intro s hs
  rw [execW_loop]
  rcases step k s hs with ⟨s',k',h1,h2,h3⟩ | ⟨x,s',h1,h2,h3⟩
  ·rw [h1]
   exact ih k' h2 s' h3
  ·rw [h1]
   refine ⟨x,s',?_,h3⟩
   cases x with
   | nor=>exact absurd rfl h2
   | _=>rfl
end
end Go.AE
namespace Go.AE
section
variable {s:St} {t:List AVal} {h:List ABox}
def drainW (v:AVal) (i:Nat) (t:List AVal):List AVal:=
 match v with
 | .lst xs (.own _)=>t.set i (.lst xs .no)
 | _=>t
theorem drained_t (t:List AVal) (i:Nat):drained t (.t i) = drainW (lkp t i) i t:=rfl
theorem drained_c (t:List AVal) (v:AVal):drained t (.c v) = t:=rfl
theorem drain_bool (b:Bool) (i:Nat) (t:List AVal):drainW (.bool b) i t = t:=rfl
theorem drain_int (k:IntKind) (n:Int) (i:Nat) (t:List AVal):drainW (.int k n) i t = t:=rfl
theorem drain_str (b:List UInt8) (i:Nat) (t:List AVal):drainW (.str b) i t = t:=rfl
theorem drain_nilptr (i:Nat) (t:List AVal):drainW .nilptr i t = t:=rfl
theorem drain_ptr (a o:Nat) (i:Nat) (t:List AVal):drainW (.ptr a o) i t = t:=rfl
theorem drain_iptr (cs:List AVal) (o:Nat) (i:Nat) (t:List AVal):drainW (.iptr cs o) i t = t:=rfl
theorem drain_agg (cs:List AVal) (i:Nat) (t:List AVal):drainW (.agg cs) i t = t:=rfl
theorem drain_tup (cs:List AVal) (i:Nat) (t:List AVal):drainW (.tup cs) i t = t:=rfl
theorem drain_fn (f:FuncId) (a b:List AVal) (i:Nat) (t:List AVal):drainW (.fn f a b) i t = t:=rfl
theorem drain_no (xs:List AVal) (i:Nat) (t:List AVal):drainW (.lst xs .no) i t = t:=rfl
theorem drain_full (xs:List AVal) (i:Nat) (t:List AVal):drainW (.lst xs .full) i t = t:=rfl
theorem drain_own (xs:List AVal) (k i:Nat) (t:List AVal):drainW (.lst xs (.own k)) i t = up t i (.lst xs .no):=rfl
theorem drain_iface (ty:TypeId) (v:AVal) (i:Nat) (t:List AVal):drainW (.iface ty v) i t = t:=rfl
theorem drain_dim (v:AVal) (i:Nat) (t:List AVal):drainW v.dim i t = t:=by
 cases v with
 | lst xs f=>cases f <;> rfl
 | _=>rfl
def consR (v:Option AVal) (vs:Option (List AVal)):Option (List AVal):=
 match v,vs with
 | some v,some vs=>some (v :: vs)
 | _,_=>none
theorem res_nil:readRes s [] = some []:=rfl
theorem res_tmp (i:Nat) (rs:List ARes):readRes s (.tmp i :: rs) = consR (some (lkp s.t i).dim) (readRes s rs):=by
 simp only [readRes,lkp]
 cases readRes s rs <;> rfl
theorem res_cell (a:Nat) (k:Option Nat) (rs:List ARes):readRes s (.cell a k :: rs) = consR (ldAt s.h (lkp s.t a) k) (readRes s rs):=by
 simp only [readRes,lkp]
 cases ldAt s.h (s.t.getD a .undef) k <;> cases readRes s rs <;> rfl
theorem consR_some (v:AVal) (vs:List AVal):consR (some v) (some vs) = some (v :: vs):=rfl
theorem oneRes_one (v:AVal):oneRes [v] = v:=rfl
theorem oneRes_nil:oneRes [] = .tup []:=rfl
theorem oneRes_two (a b:AVal) (vs:List AVal):oneRes (a :: b :: vs) = .tup (a :: b :: vs):=rfl
def endW (h:List ABox) (s:St):Option (List AVal)→Option (CRes×List ABox×Bool)
 | some vs=>some (leave h.length (.ret (oneRes vs)) s.h s.e)
 | none=>none
theorem endW_some (h:List ABox) (s:St) (vs:List AVal):endW h s (some vs) = some (leave h.length (.ret (oneRes vs)) s.h s.e):=rfl
theorem end_nor (fn:AFunc) (h:List ABox) (s:St):endOf fn h (some (.nor,s)) = endW h s (readRes s fn.results):=by
 simp only [endOf];cases readRes s fn.results <;> rfl
theorem end_ret (fn:AFunc) (h:List ABox) (s:St):endOf fn h (some (.ret,s)) = endW h s (readRes s fn.results):=by
 simp only [endOf];cases readRes s fn.results <;> rfl
end
end Go.AE
namespace Go.AE
section
theorem plain_mov (x:AOpd):(AOp.mov x).plain = true:=Eq.trans rfl rfl
theorem effs_mov (x:AOpd):(AOp.mov x).effs = false:=Eq.trans rfl rfl
theorem isApp_mov (x:AOpd):(AOp.mov x).isApp = false:=Eq.trans rfl rfl
theorem plain_pick (c a b:AOpd):(AOp.pick c a b).plain = true:=Eq.trans rfl rfl
theorem effs_pick (c a b:AOpd):(AOp.pick c a b).effs = false:=Eq.trans rfl rfl
theorem isApp_pick (c a b:AOpd):(AOp.pick c a b).isApp = false:=Eq.trans rfl rfl
theorem plain_build (z:List AVal) (ps:List (Nat×Nat×AOpd)):(AOp.build z ps).plain = true:=Eq.trans rfl rfl
theorem effs_build (z:List AVal) (ps:List (Nat×Nat×AOpd)):(AOp.build z ps).effs = false:=Eq.trans rfl rfl
theorem isApp_build (z:List AVal) (ps:List (Nat×Nat×AOpd)):(AOp.build z ps).isApp = false:=Eq.trans rfl rfl
theorem plain_list (k:Nat) (z:List AVal) (l:Nat) (ps:List (Nat×AOpd)):(AOp.list k z l ps).plain = true:=Eq.trans rfl rfl
theorem effs_list (k:Nat) (z:List AVal) (l:Nat) (ps:List (Nat×AOpd)):(AOp.list k z l ps).effs = false:=Eq.trans rfl rfl
theorem isApp_list (k:Nat) (z:List AVal) (l:Nat) (ps:List (Nat×AOpd)):(AOp.list k z l ps).isApp = false:=Eq.trans rfl rfl
theorem plain_ld (k:Option Nat) (a:AOpd):(AOp.ld k a).plain = true:=Eq.trans rfl rfl
theorem effs_ld (k:Option Nat) (a:AOpd):(AOp.ld k a).effs = false:=Eq.trans rfl rfl
theorem isApp_ld (k:Option Nat) (a:AOpd):(AOp.ld k a).isApp = false:=Eq.trans rfl rfl
theorem plain_nilc (x:AOpd):(AOp.nilc x).plain = true:=Eq.trans rfl rfl
theorem effs_nilc (x:AOpd):(AOp.nilc x).effs = false:=Eq.trans rfl rfl
theorem isApp_nilc (x:AOpd):(AOp.nilc x).isApp = false:=Eq.trans rfl rfl
theorem plain_bin (op:BinOp) (x y:AOpd):(AOp.bin op x y).plain = true:=Eq.trans rfl rfl
theorem effs_bin (op:BinOp) (x y:AOpd):(AOp.bin op x y).effs = false:=Eq.trans rfl rfl
theorem isApp_bin (op:BinOp) (x y:AOpd):(AOp.bin op x y).isApp = false:=Eq.trans rfl rfl
theorem plain_eqb (n:Bool) (x y:AOpd):(AOp.eqb n x y).plain = true:=Eq.trans rfl rfl
theorem effs_eqb (n:Bool) (x y:AOpd):(AOp.eqb n x y).effs = false:=Eq.trans rfl rfl
theorem isApp_eqb (n:Bool) (x y:AOpd):(AOp.eqb n x y).isApp = false:=Eq.trans rfl rfl
theorem plain_eqi (k:Nat) (n:Bool) (x y:AOpd):(AOp.eqi k n x y).plain = true:=Eq.trans rfl rfl
theorem effs_eqi (k:Nat) (n:Bool) (x y:AOpd):(AOp.eqi k n x y).effs = false:=Eq.trans rfl rfl
theorem isApp_eqi (k:Nat) (n:Bool) (x y:AOpd):(AOp.eqi k n x y).isApp = false:=Eq.trans rfl rfl
theorem plain_eqa (n:Bool) (x y:AOpd):(AOp.eqa n x y).plain = true:=Eq.trans rfl rfl
theorem effs_eqa (n:Bool) (x y:AOpd):(AOp.eqa n x y).effs = false:=Eq.trans rfl rfl
theorem isApp_eqa (n:Bool) (x y:AOpd):(AOp.eqa n x y).isApp = false:=Eq.trans rfl rfl
theorem plain_un (op:UnOp) (x:AOpd):(AOp.un op x).plain = true:=Eq.trans rfl rfl
theorem effs_un (op:UnOp) (x:AOpd):(AOp.un op x).effs = false:=Eq.trans rfl rfl
theorem isApp_un (op:UnOp) (x:AOpd):(AOp.un op x).isApp = false:=Eq.trans rfl rfl
theorem plain_cvi (k:IntKind) (x:AOpd):(AOp.cvi k x).plain = true:=Eq.trans rfl rfl
theorem effs_cvi (k:IntKind) (x:AOpd):(AOp.cvi k x).effs = false:=Eq.trans rfl rfl
theorem isApp_cvi (k:IntKind) (x:AOpd):(AOp.cvi k x).isApp = false:=Eq.trans rfl rfl
theorem plain_cvs (x:AOpd):(AOp.cvs x).plain = true:=Eq.trans rfl rfl
theorem effs_cvs (x:AOpd):(AOp.cvs x).effs = false:=Eq.trans rfl rfl
theorem isApp_cvs (x:AOpd):(AOp.cvs x).isApp = false:=Eq.trans rfl rfl
theorem plain_cvb (x:AOpd):(AOp.cvb x).plain = true:=Eq.trans rfl rfl
theorem effs_cvb (x:AOpd):(AOp.cvb x).effs = false:=Eq.trans rfl rfl
theorem isApp_cvb (x:AOpd):(AOp.cvb x).isApp = false:=Eq.trans rfl rfl
theorem plain_mkI (t:TypeId) (x:AOpd):(AOp.mkI t x).plain = true:=Eq.trans rfl rfl
theorem effs_mkI (t:TypeId) (x:AOpd):(AOp.mkI t x).effs = false:=Eq.trans rfl rfl
theorem isApp_mkI (t:TypeId) (x:AOpd):(AOp.mkI t x).isApp = false:=Eq.trans rfl rfl
theorem plain_mkF (f:FuncId) (a b:List AOpd):(AOp.mkF f a b).plain = true:=Eq.trans rfl rfl
theorem effs_mkF (f:FuncId) (a b:List AOpd):(AOp.mkF f a b).effs = false:=Eq.trans rfl rfl
theorem isApp_mkF (f:FuncId) (a b:List AOpd):(AOp.mkF f a b).isApp = false:=Eq.trans rfl rfl
theorem plain_subS (x:AOpd) (l h:Option AOpd):(AOp.subS x l h).plain = true:=Eq.trans rfl rfl
theorem effs_subS (x:AOpd) (l h:Option AOpd):(AOp.subS x l h).effs = false:=Eq.trans rfl rfl
theorem isApp_subS (x:AOpd) (l h:Option AOpd):(AOp.subS x l h).isApp = false:=Eq.trans rfl rfl
theorem plain_subL (k:Nat) (x:AOpd) (l h:Option AOpd):(AOp.subL k x l h).plain = true:=Eq.trans rfl rfl
theorem effs_subL (k:Nat) (x:AOpd) (l h:Option AOpd):(AOp.subL k x l h).effs = false:=Eq.trans rfl rfl
theorem isApp_subL (k:Nat) (x:AOpd) (l h:Option AOpd):(AOp.subL k x l h).isApp = false:=Eq.trans rfl rfl
theorem plain_fa (o:Nat) (a:AOpd):(AOp.fa o a).plain = true:=Eq.trans rfl rfl
theorem effs_fa (o:Nat) (a:AOpd):(AOp.fa o a).effs = false:=Eq.trans rfl rfl
theorem isApp_fa (o:Nat) (a:AOpd):(AOp.fa o a).isApp = false:=Eq.trans rfl rfl
theorem plain_ixaL (k:Nat) (s i:AOpd):(AOp.ixaL k s i).plain = true:=Eq.trans rfl rfl
theorem effs_ixaL (k:Nat) (s i:AOpd):(AOp.ixaL k s i).effs = false:=Eq.trans rfl rfl
theorem isApp_ixaL (k:Nat) (s i:AOpd):(AOp.ixaL k s i).isApp = false:=Eq.trans rfl rfl
theorem plain_ixaA (n k:Nat) (a i:AOpd):(AOp.ixaA n k a i).plain = true:=Eq.trans rfl rfl
theorem effs_ixaA (n k:Nat) (a i:AOpd):(AOp.ixaA n k a i).effs = false:=Eq.trans rfl rfl
theorem isApp_ixaA (n k:Nat) (a i:AOpd):(AOp.ixaA n k a i).isApp = false:=Eq.trans rfl rfl
theorem plain_ixS (s i:AOpd):(AOp.ixS s i).plain = true:=Eq.trans rfl rfl
theorem effs_ixS (s i:AOpd):(AOp.ixS s i).effs = false:=Eq.trans rfl rfl
theorem isApp_ixS (s i:AOpd):(AOp.ixS s i).isApp = false:=Eq.trans rfl rfl
theorem plain_ixA (n:Nat) (k:Option Nat) (a i:AOpd):(AOp.ixA n k a i).plain = true:=Eq.trans rfl rfl
theorem effs_ixA (n:Nat) (k:Option Nat) (a i:AOpd):(AOp.ixA n k a i).effs = false:=Eq.trans rfl rfl
theorem isApp_ixA (n:Nat) (k:Option Nat) (a i:AOpd):(AOp.ixA n k a i).isApp = false:=Eq.trans rfl rfl
theorem plain_fld (o:Nat) (k:Option Nat) (x:AOpd):(AOp.fld o k x).plain = true:=Eq.trans rfl rfl
theorem effs_fld (o:Nat) (k:Option Nat) (x:AOpd):(AOp.fld o k x).effs = false:=Eq.trans rfl rfl
theorem isApp_fld (o:Nat) (k:Option Nat) (x:AOpd):(AOp.fld o k x).isApp = false:=Eq.trans rfl rfl
theorem plain_ext (x:AOpd) (i:Nat):(AOp.ext x i).plain = true:=Eq.trans rfl rfl
theorem effs_ext (x:AOpd) (i:Nat):(AOp.ext x i).effs = false:=Eq.trans rfl rfl
theorem isApp_ext (x:AOpd) (i:Nat):(AOp.ext x i).isApp = false:=Eq.trans rfl rfl
theorem plain_len (b:Bool) (x:AOpd):(AOp.len b x).plain = true:=Eq.trans rfl rfl
theorem effs_len (b:Bool) (x:AOpd):(AOp.len b x).effs = false:=Eq.trans rfl rfl
theorem isApp_len (b:Bool) (x:AOpd):(AOp.len b x).isApp = false:=Eq.trans rfl rfl
theorem plain_mm (b:Bool) (x y:AOpd):(AOp.mm b x y).plain = true:=Eq.trans rfl rfl
theorem effs_mm (b:Bool) (x y:AOpd):(AOp.mm b x y).effs = false:=Eq.trans rfl rfl
theorem isApp_mm (b:Bool) (x y:AOpd):(AOp.mm b x y).isApp = false:=Eq.trans rfl rfl
theorem plain_tas (t:TypeId) (z:AVal) (x:AOpd):(AOp.tas t z x).plain = true:=Eq.trans rfl rfl
theorem effs_tas (t:TypeId) (z:AVal) (x:AOpd):(AOp.tas t z x).effs = false:=Eq.trans rfl rfl
theorem isApp_tas (t:TypeId) (z:AVal) (x:AOpd):(AOp.tas t z x).isApp = false:=Eq.trans rfl rfl
theorem plain_asg (x:AOpd):(AOp.asg x).plain = false:=Eq.trans rfl rfl
theorem effs_asg (x:AOpd):(AOp.asg x).effs = true:=Eq.trans rfl rfl
theorem isApp_asg (x:AOpd):(AOp.asg x).isApp = false:=Eq.trans rfl rfl
theorem plain_new (cs:List AVal):(AOp.new cs).plain = false:=Eq.trans rfl rfl
theorem effs_new (cs:List AVal):(AOp.new cs).effs = false:=Eq.trans rfl rfl
theorem isApp_new (cs:List AVal):(AOp.new cs).isApp = false:=Eq.trans rfl rfl
theorem plain_box (k:Nat) (x:AOpd):(AOp.box k x).plain = false:=Eq.trans rfl rfl
theorem effs_box (k:Nat) (x:AOpd):(AOp.box k x).effs = false:=Eq.trans rfl rfl
theorem isApp_box (k:Nat) (x:AOpd):(AOp.box k x).isApp = false:=Eq.trans rfl rfl
theorem plain_st (k:Option Nat) (a x:AOpd):(AOp.st k a x).plain = false:=Eq.trans rfl rfl
theorem effs_st (k:Option Nat) (a x:AOpd):(AOp.st k a x).effs = true:=Eq.trans rfl rfl
theorem isApp_st (k:Option Nat) (a x:AOpd):(AOp.st k a x).isApp = false:=Eq.trans rfl rfl
theorem plain_call (f:AOpd) (aS:List AOpd):(AOp.call f aS).plain = false:=Eq.trans rfl rfl
theorem effs_call (f:AOpd) (aS:List AOpd):(AOp.call f aS).effs = true:=Eq.trans rfl rfl
theorem isApp_call (f:AOpd) (aS:List AOpd):(AOp.call f aS).isApp = false:=Eq.trans rfl rfl
theorem plain_app (k:Nat) (x y:AOpd):(AOp.app k x y).plain = false:=Eq.trans rfl rfl
theorem effs_app (k:Nat) (x y:AOpd):(AOp.app k x y).effs = true:=Eq.trans rfl rfl
theorem isApp_app (k:Nat) (x y:AOpd):(AOp.app k x y).isApp = true:=Eq.trans rfl rfl
theorem plain_pan (x:AOpd):(AOp.pan x).plain = false:=Eq.trans rfl rfl
theorem effs_pan (x:AOpd):(AOp.pan x).effs = true:=Eq.trans rfl rfl
theorem isApp_pan (x:AOpd):(AOp.pan x).isApp = false:=Eq.trans rfl rfl
theorem lower_undef (n:Nat):AVal.undef.lower n = true:=Eq.trans rfl rfl
theorem lower_bool (n:Nat) (b:Bool):(AVal.bool b).lower n = true:=Eq.trans rfl rfl
theorem lower_int (n:Nat) (k:IntKind) (z:Int):(AVal.int k z).lower n = true:=Eq.trans rfl rfl
theorem lower_str (n:Nat) (s:List UInt8):(AVal.str s).lower n = true:=Eq.trans rfl rfl
theorem lower_nilptr (n:Nat):AVal.nilptr.lower n = true:=Eq.trans rfl rfl
theorem lower_ptr (n i o:Nat):(AVal.ptr i o).lower n = Nat.blt i n:=Eq.trans rfl rfl
theorem lower_yld (n i:Nat):(AVal.yld i).lower n = Nat.blt i n:=Eq.trans rfl rfl
theorem lower_iptr (n o:Nat) (cs:List AVal):(AVal.iptr cs o).lower n = lowerL n cs:=Eq.trans rfl rfl
theorem lower_lst (n:Nat) (xs:List AVal) (f:Flag):(AVal.lst xs f).lower n = lowerL n xs:=Eq.trans rfl rfl
theorem lower_nilfunc (n:Nat):AVal.nilfunc.lower n = true:=Eq.trans rfl rfl
theorem lower_niliface (n:Nat):AVal.niliface.lower n = true:=Eq.trans rfl rfl
theorem lower_iface (n:Nat) (t:TypeId) (v:AVal):(AVal.iface t v).lower n = v.lower n:=Eq.trans rfl rfl
theorem lower_fn (n:Nat) (f:FuncId) (a b:List AVal):(AVal.fn f a b).lower n = (lowerL n a && lowerL n b):=Eq.trans rfl rfl
theorem lower_agg (n:Nat) (cs:List AVal):(AVal.agg cs).lower n = lowerL n cs:=Eq.trans rfl rfl
theorem lower_tup (n:Nat) (cs:List AVal):(AVal.tup cs).lower n = lowerL n cs:=Eq.trans rfl rfl
theorem lowerL_nil (n:Nat):lowerL n [] = true:=Eq.trans rfl rfl
theorem lowerL_cons (n:Nat) (v:AVal) (vs:List AVal):lowerL n (v :: vs) = (v.lower n && lowerL n vs):=Eq.trans rfl rfl
def endR (rs:List ARes) (h:List ABox):Option (Ex×St)→Option (CRes×List ABox×Bool)
 | some (.nor,s) | some (.ret,s)=>endW h s (readRes s rs)
 | some (.pan v,s)=>some (leave h.length (.pan v) s.h s.e)
 | _=>none
theorem endR_eq (fn:AFunc) (h:List ABox) (r:Option (Ex×St)):endOf fn h r = endR fn.results h r:=by
 cases r with
 | none=>rfl
 | some r=>obtain ⟨x,s⟩:=r;cases x <;> first | rfl | exact end_nor _ _ _ | exact end_ret _ _ _
theorem endR_nor (rs:List ARes) (h:List ABox) (s:St):endR rs h (some (.nor,s)) = endW h s (readRes s rs):=rfl
theorem endR_ret (rs:List ARes) (h:List ABox) (s:St):endR rs h (some (.ret,s)) = endW h s (readRes s rs):=rfl
theorem endR_pan (rs:List ARes) (h:List ABox) (s:St) (v:AVal):endR rs h (some (.pan v,s)) = some (leave h.length (.pan v) s.h s.e):=rfl
theorem W_go {F:FuncId→Option AFunc} {X:Exts} (hX:XFine X) {f:FuncId} {first args cap:List AVal} {h:List ABox} {fn:AFunc} (h1:X f = none) (h2:F f = some fn) :
  W F X (.fn f first cap) args h = endR fn.results h (execW h.length (W F X) fn.code ⟨(first ++ args ++ cap).map AVal.dim ++ List.replicate (fn.ntmps - ((first ++ args ++ cap).map AVal.dim).length) (.tup []),h,false⟩):=by
 rw [W_fn hX h1 h2,endR_eq]
end
end Go.AE
namespace Go.AE
section
variable {h:List ABox}
theorem cells_agg (cs:List AVal):(AVal.agg cs).cells = cs:=rfl
theorem cells_int (k:IntKind) (n:Int):(AVal.int k n).cells = [.int k n]:=rfl
theorem cells_str (s:List UInt8):(AVal.str s).cells = [.str s]:=rfl
theorem cells_bool (b:Bool):(AVal.bool b).cells = [.bool b]:=rfl
theorem cells_lst (xs:List AVal) (f:Flag):(AVal.lst xs f).cells = [.lst xs f]:=rfl
theorem cells_ptr (i o:Nat):(AVal.ptr i o).cells = [.ptr i o]:=rfl
theorem cells_nilptr:AVal.nilptr.cells = [.nilptr]:=rfl
theorem cells_fn (f:FuncId) (a b:List AVal):(AVal.fn f a b).cells = [.fn f a b]:=rfl
theorem cells_niliface:AVal.niliface.cells = [.niliface]:=rfl
theorem cells_iface (t:TypeId) (v:AVal):(AVal.iface t v).cells = [.iface t v]:=rfl
theorem cells_yld (i:Nat):(AVal.yld i).cells = [.yld i]:=rfl
theorem stor_int (k:IntKind) (n:Int):(AVal.int k n).storable = true:=Eq.trans rfl rfl
theorem stor_str (s:List UInt8):(AVal.str s).storable = true:=Eq.trans rfl rfl
theorem stor_bool (b:Bool):(AVal.bool b).storable = true:=Eq.trans rfl rfl
theorem stor_lst (xs:List AVal) (f:Flag):(AVal.lst xs f).storable = true:=Eq.trans rfl rfl
theorem stor_ptr (i o:Nat):(AVal.ptr i o).storable = true:=Eq.trans rfl rfl
theorem stor_iptr (cs:List AVal) (o:Nat):(AVal.iptr cs o).storable = true:=Eq.trans rfl rfl
theorem stor_nilptr:AVal.nilptr.storable = true:=Eq.trans rfl rfl
theorem stor_nilfunc:AVal.nilfunc.storable = true:=Eq.trans rfl rfl
theorem stor_fn (f:FuncId) (a b:List AVal):(AVal.fn f a b).storable = true:=Eq.trans rfl rfl
theorem stor_yld (i:Nat):(AVal.yld i).storable = true:=Eq.trans rfl rfl
theorem stor_niliface:AVal.niliface.storable = true:=Eq.trans rfl rfl
theorem stor_iface (t:TypeId) (v:AVal):(AVal.iface t v).storable = true:=Eq.trans rfl rfl
theorem cut_cons (c:AVal) (cs:List AVal) (o k:Nat):cut (c :: cs) o (some k) = if o + k ≤ (c :: cs).length then some (.agg ((((c :: cs).drop o).take k).map AVal.dim)) else none:=rfl
def ldB (k:Option Nat) (o:Nat):Option ABox→Option AVal
 | some (.cells cs)=>cut cs o k
 | _=>none
theorem ldAt_box (i o:Nat) (k:Option Nat):ldAt h (.ptr i o) k = ldB k o h[i]?:=by
 simp only [ldAt,ldB]
 cases h[i]? with
 | none=>rfl
 | some b=>cases b <;> rfl
theorem ldB_cells (k:Option Nat) (o:Nat) (cs:List AVal):ldB k o (some (.cells cs)) = cut cs o k:=rfl
def putC (k:Option Nat) (v:AVal):List AVal:=
 match k with
 | none=>[v]
 | some _=>v.dim.cells.map AVal.dim
theorem putC_none (v:AVal):putC none v = [v]:=rfl
theorem putC_some (k:Nat) (v:AVal):putC (some k) v = v.dim.cells.map AVal.dim:=rfl
def stB (base:Nat) (k:Option Nat) (id o:Nat) (vs:List AVal) (h:List ABox):Option ABox→Option (List ABox×Bool)
 | some (.cells cs)=>if vs.length = k.getD 1∧o + vs.length ≤ cs.length∧vs.all AVal.storable then some (h.set id (.cells (splice cs o vs)),!(Nat.ble base id || lowerL (id + 1) vs)) else none
 | _=>none
theorem stV_box (base:Nat) (k:Option Nat) (id o:Nat) (v:AVal):stV base k (.ptr id o) v h = stB base k id o (putC k v) h h[id]?:=by
 simp only [stV,stB]
 cases h[id]? with
 | none=>rfl
 | some b=>cases b <;> cases k <;> rfl
theorem stB_cells (base:Nat) (k:Option Nat) (id o:Nat) (vs cs:List AVal):stB base k id o vs h (some (.cells cs)) = if vs.length = k.getD 1∧o + vs.length ≤ cs.length∧vs.all AVal.storable then some (h.set id (.cells (splice cs o vs)),!(Nat.ble base id || lowerL (id + 1) vs)) else none:=rfl
theorem ble_true {a b:Nat} (h:a ≤ b):Nat.ble a b = true:=Nat.ble_eq_true_of_le h
end
end Go.AE
namespace Go.AE
theorem known {e r:Option (Ex×St)} (hr:e = r) {Q:Ex→St→Prop} (h:∃x s',e = some (x,s')∧Q x s'):∃x s',r = some (x,s')∧Q x s':=hr▸h
end Go.AE
namespace Go.AE
mutual
theorem beq_refl:∀v:AVal,v.beq v = true
 | .undef | .nilptr | .nilfunc | .niliface | .nilmap | .nils | .empt=>rfl
 | .sl ..=>by simp [AVal.beq]
 | .mp i=>by simp [AVal.beq]
 | .bool b=>by simp [AVal.beq]
 | .int k n=>by simp [AVal.beq]
 | .str s=>by simp [AVal.beq]
 | .ptr i o=>by simp [AVal.beq]
 | .iptr cs o=>by simp [AVal.beq,beqL_refl cs]
 | .lst xs f=>by simp [AVal.beq,beqL_refl xs]
 | .fn f a b=>by simp [AVal.beq,beqL_refl a,beqL_refl b]
 | .yld i=>by simp [AVal.beq]
 | .iface t v=>by simp [AVal.beq,beq_refl v]
 | .agg cs=>by simp [AVal.beq,beqL_refl cs]
 | .tup cs=>by simp [AVal.beq,beqL_refl cs]
theorem beqL_refl:∀vs:List AVal,beqL vs vs = true
 | []=>rfl
 | v :: vs=>by simp [beqL,beq_refl v,beqL_refl vs]
end
section
variable {base:Nat} {call:Call} {dsts:List Nat} {s:St} {pend:List (Nat×Chk)} {h:List ABox}
def chksOK (h:List ABox):List (Nat×Chk)→Bool
 | []=>true
 | c :: cs=>c.2.ok h && chksOK h cs
theorem chks_nil:chksOK h [] = true:=Eq.trans rfl rfl
theorem chks_cons (i:Nat) (c:Chk) (cs:List (Nat×Chk)):chksOK h ((i,c) :: cs) = (c.ok h && chksOK h cs):=rfl
theorem chks_all (l:List (Nat×Chk)):l.all (fun c=>c.2.ok h) = chksOK h l:=by
 induction l with
 | nil=>rfl
 | cons c l ih=>simp only [List.all_cons,chksOK,ih]
def beqO (v:AVal):Option AVal→Bool
 | some w=>v.beq w
 | none=>false
theorem beqO_same (v:AVal):beqO v (some v) = true:=beq_refl v
theorem chk_ld (a:AVal) (k:Option Nat) (v:AVal):Chk.ok h (.ld a k v) = beqO v (ldAt h a k):=by
 simp only [Chk.ok];cases ldAt h a k <;> rfl
def beqB (cs:List AVal):Option ABox→Bool
 | some (.cells ds)=>beqL cs ds
 | _=>false
theorem beqB_same (cs:List AVal):beqB cs (some (.cells cs)) = true:=beqL_refl cs
theorem chk_box (id:Nat) (cs:List AVal):Chk.ok h (.box id cs) = beqB cs h[id]?:=by
 simp only [Chk.ok]
 cases h[id]? with
 | none=>rfl
 | some b=>cases b <;> rfl
def floats (cl:Nat):List (Nat×Chk)→List (Nat×Chk)
 | []=>[]
 | c :: cs=>bif cl.testBit c.1 then floats cl cs else c :: floats cl cs
theorem floats_nil (cl:Nat):floats cl [] = []:=rfl
theorem floats_cons (cl i:Nat) (c:Chk) (cs:List (Nat×Chk)):floats cl ((i,c) :: cs) = bif cl.testBit i then floats cl cs else (i,c) :: floats cl cs:=rfl
theorem floats_eq (cl:Nat) (l:List (Nat×Chk)):l.filter (fun c=>!cl.testBit c.1) = floats cl l:=by
 induction l with
 | nil=>rfl
 | cons c l ih=>
  simp only [List.filter_cons,floats,ih]
  cases cl.testBit c.1 <;> rfl
def drawE (dsts:List Nat) (pend:List (Nat×Chk)) (k:List (Nat×Chk)→St→Option (Ex×St)):Option (Ex×St)→Option (Ex×St)
 | some (.nor,s)=>bif chksOK s.h pend then k pend s else none
 | some (.pan v,s)=>some (.pan v,{ s with t:=mask dsts s.t})
 | _=>none
theorem drawE_nor (k:List (Nat×Chk)→St→Option (Ex×St)) (s:St):drawE dsts pend k (some (.nor,s)) = bif chksOK s.h pend then k pend s else none:=rfl
theorem drawE_pan (k:List (Nat×Chk)→St→Option (Ex×St)) (t:List AVal) (e:Bool) (v:AVal):drawE dsts pend k (some (.pan v,⟨t,h,e⟩)) = some (.pan v,⟨mask dsts t,h,e⟩):=rfl
theorem draw_nil:runDraw base call dsts [] pend s = some (.nor,s):=rfl
theorem draw_eff {d:Option Nat} {o:AOp} {ix cl:Nat} {ds:List DOper} (ho:o.effs = true):runDraw base call dsts (⟨⟨d,o,none⟩,ix,cl⟩ :: ds) pend s = drawE dsts (floats cl pend) (runDraw base call dsts ds) (runOp base call [] d o s):=by
 simp only [runDraw,wanted,ho,if_true,chks_all,floats_eq]
 cases hr:runOp base call [] d o s with
 | none=>rfl
 | some r=>
  obtain ⟨x,s'⟩:=r
  cases x with
  | nor=>simp only [drawE];cases chksOK s'.h (floats cl pend) <;> rfl
  | pan v=>rfl
  | exit i=>rfl
  | ret=>rfl
def AOp.light:AOp→Bool
 | .asg .. | .new .. | .box .. | .st .. | .call .. | .app .. | .pan .. | .ld .. | .hx .. | .lk ..=>false
 | _=>true
theorem draw_light {d:Option Nat} {o:AOp} {ix cl:Nat} {ds:List DOper} (ho:o.light = true):runDraw base call dsts (⟨⟨d,o,none⟩,ix,cl⟩ :: ds) pend s = thenW (runDraw base call dsts ds pend) (runOp base call [] d o s):=by
 have he:o.effs = false:=by cases o <;> simp_all [AOp.light,AOp.effs]
 have hc:chkOf s o = none:=by cases o <;> simp_all [AOp.light,chkOf]
 simp only [runDraw,wanted,he,Bool.false_eq_true,if_false,hc]
 cases hr:runOp base call [] d o s with
 | none=>rfl
 | some r=>
  obtain ⟨x,s'⟩:=r
  have:=noPan he hr
  subst this
  rfl
def ldD (d:Option Nat) (s:St) (a:AVal) (k:Option Nat) (ix:Nat) (pend:List (Nat×Chk)) (f:List (Nat×Chk)→St→Option (Ex×St)):Option AVal→Option (Ex×St)
 | some v=>f ((ix,.ld a k v) :: pend) { s with t:=put d v s.t}
 | none=>none
theorem ldD_some (d:Option Nat) (t:List AVal) (e:Bool) (a:AVal) (k:Option Nat) (ix:Nat) (f:List (Nat×Chk)→St→Option (Ex×St)) (v:AVal):ldD d ⟨t,h,e⟩ a k ix pend f (some v) = f ((ix,.ld a k v) :: pend) ⟨put d v t,h,e⟩:=rfl
theorem draw_ld {d:Option Nat} {k:Option Nat} {a:AOpd} {ix cl:Nat} {ds:List DOper}:runDraw base call dsts (⟨⟨d,.ld k a,none⟩,ix,cl⟩ :: ds) pend s = ldD d s (ev s.t a) k ix pend (runDraw base call dsts ds) (ldAt s.h (ev s.t a) k):=by
 simp only [runDraw,wanted,AOp.effs,Bool.false_eq_true,if_false,chkOf,runOp]
 cases ldAt s.h (ev s.t a) k <;> rfl
theorem draw_new {d:Option Nat} {cs:List AVal} {ix cl:Nat} {ds:List DOper}:runDraw base call dsts (⟨⟨d,.new cs,none⟩,ix,cl⟩ :: ds) pend s = runDraw base call dsts ds ((ix,.box s.h.length (cs.map AVal.dim)) :: pend) { s with t:=put d (.ptr s.h.length 0) s.t,h:=s.h ++ [.cells (cs.map AVal.dim)]}:=by
 simp only [runDraw,wanted,AOp.effs,Bool.false_eq_true,if_false,chkOf,runOp]
end
end Go.AE
namespace Go.AE
theorem light_mov (x:AOpd):(AOp.mov x).light = true:=Eq.trans rfl rfl
theorem light_pick (c a b:AOpd):(AOp.pick c a b).light = true:=Eq.trans rfl rfl
theorem light_build (z:List AVal) (ps:List (Nat×Nat×AOpd)):(AOp.build z ps).light = true:=Eq.trans rfl rfl
theorem light_list (k:Nat) (z:List AVal) (l:Nat) (ps:List (Nat×AOpd)):(AOp.list k z l ps).light = true:=Eq.trans rfl rfl
theorem light_nilc (x:AOpd):(AOp.nilc x).light = true:=Eq.trans rfl rfl
theorem light_bin (op:BinOp) (x y:AOpd):(AOp.bin op x y).light = true:=Eq.trans rfl rfl
theorem light_eqb (n:Bool) (x y:AOpd):(AOp.eqb n x y).light = true:=Eq.trans rfl rfl
theorem light_eqi (k:Nat) (n:Bool) (x y:AOpd):(AOp.eqi k n x y).light = true:=Eq.trans rfl rfl
theorem light_eqa (n:Bool) (x y:AOpd):(AOp.eqa n x y).light = true:=Eq.trans rfl rfl
theorem light_un (op:UnOp) (x:AOpd):(AOp.un op x).light = true:=Eq.trans rfl rfl
theorem light_cvi (k:IntKind) (x:AOpd):(AOp.cvi k x).light = true:=Eq.trans rfl rfl
theorem light_cvs (x:AOpd):(AOp.cvs x).light = true:=Eq.trans rfl rfl
theorem light_cvb (x:AOpd):(AOp.cvb x).light = true:=Eq.trans rfl rfl
theorem light_mkI (t:TypeId) (x:AOpd):(AOp.mkI t x).light = true:=Eq.trans rfl rfl
theorem light_mkF (f:FuncId) (a b:List AOpd):(AOp.mkF f a b).light = true:=Eq.trans rfl rfl
theorem light_subS (x:AOpd) (l h:Option AOpd):(AOp.subS x l h).light = true:=Eq.trans rfl rfl
theorem light_subL (k:Nat) (x:AOpd) (l h:Option AOpd):(AOp.subL k x l h).light = true:=Eq.trans rfl rfl
theorem light_fa (o:Nat) (a:AOpd):(AOp.fa o a).light = true:=Eq.trans rfl rfl
theorem light_ixaL (k:Nat) (s i:AOpd):(AOp.ixaL k s i).light = true:=Eq.trans rfl rfl
theorem light_ixaA (n k:Nat) (a i:AOpd):(AOp.ixaA n k a i).light = true:=Eq.trans rfl rfl
theorem light_ixS (s i:AOpd):(AOp.ixS s i).light = true:=Eq.trans rfl rfl
theorem light_ixA (n:Nat) (k:Option Nat) (a i:AOpd):(AOp.ixA n k a i).light = true:=Eq.trans rfl rfl
theorem light_fld (o:Nat) (k:Option Nat) (x:AOpd):(AOp.fld o k x).light = true:=Eq.trans rfl rfl
theorem light_ext (x:AOpd) (i:Nat):(AOp.ext x i).light = true:=Eq.trans rfl rfl
theorem light_len (b:Bool) (x:AOpd):(AOp.len b x).light = true:=Eq.trans rfl rfl
theorem light_mm (b:Bool) (x y:AOpd):(AOp.mm b x y).light = true:=Eq.trans rfl rfl
theorem light_tas (t:TypeId) (z:AVal) (x:AOpd):(AOp.tas t z x).light = true:=Eq.trans rfl rfl
end Go.AE
namespace Go.AE
section
variable {base:Nat} {call:Call} {p:Prov} {s:St} {t:List AVal} {h:List ABox}
def appOK (k:Nat) (xs ys:List AVal):Bool:=decide (xs.length + ys.length ≤ limit) && ys.all (fun y=>y.cells.length == k && y.cells.all AVal.storable) && xs.head?.all (fun y=>y.cells.length == k)
def appT (d:Option Nat) (k:Nat) (ys:List AVal):Option (List AVal×St)→Option (Ex×St)
 | some (xs,s)=>if xs.head?.all (fun y=>y.cells.length == k) then some (.nor,{ s with t:=put d (.lst (xs ++ ys) (.own k)) s.t}) else none
 | none=>none
def appV (d:Option Nat) (k:Nat) (s:St) (tk:Option (List AVal×St)) (x:AVal) (ys:Option (List AVal)):Option (Ex×St):=
 match x,ys with
 | .lst xs f,some ys=>
  if ys.isEmpty then some (.nor,{ s with t:=put d (AVal.lst xs f).dim s.t})
  else if appOK k xs ys = true then
   match f with
   | .full=>some (.nor,{ s with t:=put d (.lst (xs ++ ys) (.own k)) s.t})
   | _=>appT d k ys tk
  else none
 | _,_=>none
theorem op_app (d:Option Nat) (k:Nat) (x y:AOpd):runOp base call p d (.app k x y) s = appV d k s (taken k p x s) (raw s.t x) (tail (ev s.t y)):=by
 simp only [runOp,appV,appOK,Bool.and_eq_true,decide_eq_true_eq,and_assoc]
 generalize raw s.t x = v
 generalize tail (ev s.t y) = w
 generalize taken k p x s = z
 cases v <;> rfl
theorem tail_lst (ys:List AVal) (f:Flag):tail (.lst ys f) = some ys:=rfl
theorem tail_str (b:List UInt8):tail (.str b) = some (ints b):=rfl
theorem app_nil (d:Option Nat) (k:Nat) (t:List AVal) (e:Bool) (tk:Option (List AVal×St)) (xs:List AVal) (f:Flag):appV d k ⟨t,h,e⟩ tk (.lst xs f) (some []) = some (.nor,⟨put d (AVal.lst xs f).dim t,h,e⟩):=rfl
theorem app_full {d:Option Nat} {k:Nat} {t:List AVal} {e:Bool} {tk:Option (List AVal×St)} {xs ys:List AVal} (hy:ys.isEmpty = false) (hc:appOK k xs ys = true):appV d k ⟨t,h,e⟩ tk (.lst xs .full) (some ys) = some (.nor,⟨put d (.lst (xs ++ ys) (.own k)) t,h,e⟩):=by
 simp only [appV,hy,hc,Bool.false_eq_true,if_false,if_true]
theorem app_own {d:Option Nat} {k j:Nat} {s:St} {tk:Option (List AVal×St)} {xs ys:List AVal} (hy:ys.isEmpty = false) (hc:appOK k xs ys = true):appV d k s tk (.lst xs (.own j)) (some ys) = appT d k ys tk:=by
 simp only [appV,hy,hc,Bool.false_eq_true,if_false,if_true]
theorem app_no {d:Option Nat} {k:Nat} {s:St} {tk:Option (List AVal×St)} {xs ys:List AVal} (hy:ys.isEmpty = false) (hc:appOK k xs ys = true):appV d k s tk (.lst xs .no) (some ys) = appT d k ys tk:=by
 simp only [appV,hy,hc,Bool.false_eq_true,if_false,if_true]
theorem appT_some {d:Option Nat} {k:Nat} {t:List AVal} {e:Bool} {xs ys:List AVal} (hc:appOK k xs ys = true):appT d k ys (some (xs,⟨t,h,e⟩)) = some (.nor,⟨put d (.lst (xs ++ ys) (.own k)) t,h,e⟩):=by
 simp only [appOK,Bool.and_eq_true] at hc
 simp only [appT,hc.2,if_true]
def srcOf (p:Prov) (i:Nat):Option Src:=(p.find? (·.1 == i)).map (·.2)
def takeT (k b:Nat) (s:St) (v:AVal):Option (List AVal×St):=
 match v with
 | .lst xs (.own j)=>if j = k then some (xs,{ s with t:=s.t.set b (.lst xs .no)}) else none
 | _=>none
def takeC (k:Nat) (s:St) (id o:Nat) (c:Option ABox):Option (List AVal×St):=
 match c with
 | some (.cells cs)=>
  match cs[o]? with
  | some (.lst xs (.own j))=>if j = k then some (xs,{ s with h:=s.h.set id (.cells (cs.set o (.lst xs .no)))}) else none
  | _=>none
 | _=>none
def takeP (k:Nat) (s:St) (a:AVal):Option (List AVal×St):=
 match a with
 | .ptr id o=>takeC k s id o s.h[id]?
 | _=>none
def takeS (k:Nat) (s:St):Option Src→Option (List AVal×St)
 | some (.tmp b)=>takeT k b s (lkp s.t b)
 | some (.cell a)=>takeP k s (ev s.t a)
 | none=>none
def takeV (k i:Nat) (s:St) (v:AVal) (src:Option Src):Option (List AVal×St):=
 match v with
 | .lst xs (.own j)=>if j = k then some (xs,{ s with t:=s.t.set i (.lst xs .no)}) else none
 | _=>takeS k s src
theorem taken_t (k:Nat) (i:Nat):taken k p (.t i) s = takeV k i s (lkp s.t i) (srcOf p i):=by
 simp only [taken,takeV,lkp,srcOf]
 generalize hv:s.t.getD i .undef = v
 have key:(match p.find? (·.1 == i) with
   | some (_,.tmp b)=>
    match s.t.getD b .undef with
    | .lst xs (.own j)=>if j = k then some (xs,{ s with t:=s.t.set b (.lst xs .no)}) else none
    | _=>none
   | some (_,.cell a)=>
    match ev s.t a with
    | .ptr id o=>
     match s.h[id]? with
     | some (.cells cs)=>
      match cs[o]? with
      | some (.lst xs (.own j))=>if j = k then some (xs,{ s with h:=s.h.set id (.cells (cs.set o (.lst xs .no)))}) else none
      | _=>none
     | _=>none
    | _=>none
   | none=>none) = takeS k s ((p.find? (·.1 == i)).map (·.2)):=by
  cases p.find? (·.1 == i) with
  | none=>rfl
  | some q=>
   obtain ⟨_,src⟩:=q
   cases src with
   | tmp b=>rfl
   | cell a=>
    simp only [Option.map_some,takeS,takeP]
    cases ev s.t a <;> rfl
 cases v with
 | lst xs f=>cases f <;> first | rfl | exact key
 | _=>exact key
theorem takeV_own (k i:Nat) (t:List AVal) (e:Bool) (xs:List AVal) (src:Option Src):takeV k i ⟨t,h,e⟩ (.lst xs (.own k)) src = some (xs,⟨up t i (.lst xs .no),h,e⟩):=by simp [takeV,up]
theorem takeV_no (k i:Nat) (xs:List AVal) (src:Option Src):takeV k i s (.lst xs .no) src = takeS k s src:=rfl
theorem takeS_tmp (k b:Nat):takeS k s (some (.tmp b)) = takeT k b s (lkp s.t b):=rfl
theorem takeS_cell (k:Nat) (a:AOpd):takeS k s (some (.cell a)) = takeP k s (ev s.t a):=rfl
theorem takeT_own (k b:Nat) (t:List AVal) (e:Bool) (xs:List AVal):takeT k b ⟨t,h,e⟩ (.lst xs (.own k)) = some (xs,⟨up t b (.lst xs .no),h,e⟩):=by simp [takeT,up]
theorem takeP_ptr (k id o:Nat):takeP k s (.ptr id o) = takeC k s id o s.h[id]?:=rfl
def takeD (k:Nat) (s:St) (id o:Nat) (cs:List AVal) (v:Option AVal):Option (List AVal×St):=
 match v with
 | some (.lst xs (.own j))=>if j = k then some (xs,{ s with h:=s.h.set id (.cells (cs.set o (.lst xs .no)))}) else none
 | _=>none
theorem takeC_cells (k id o:Nat) (cs:List AVal):takeC k s id o (some (.cells cs)) = takeD k s id o cs cs[o]?:=rfl
theorem takeD_own (k id o:Nat) (t:List AVal) (e:Bool) (cs xs:List AVal):takeD k ⟨t,h,e⟩ id o cs (some (.lst xs (.own k))) = some (xs,⟨t,h.set id (.cells (cs.set o (.lst xs .no))),e⟩):=by simp [takeD]
theorem src_nil (i:Nat):srcOf [] i = none:=rfl
def provA (p:Prov) (d:Option Nat) (o:AOp):Prov:=
 match d with
 | none=>p
 | some d=>
  let q:=p.filter fun x=>x.1 != d && !x.2.hangs d
  match provOf o with
  | some s=>if s.hangs d then q else (d,s) :: q
  | none=>q
def provE (p:Prov) (d:Option Nat):Prov:=
 match d with
 | none=>p.filter fun x=>x.2.isTmp
 | some d=>p.filter fun x=>x.2.isTmp && (x.1 != d && !x.2.hangs d)
theorem prov_eff {d:Option Nat} {o:AOp} {g:Option (Nat×Bool)} (ho:o.effs = true):provNext p ⟨d,o,g⟩ = provE p d:=by simp only [provNext,ho,if_true,provE];cases d <;> rfl
theorem prov_no {d:Option Nat} {o:AOp} {g:Option (Nat×Bool)} (ho:o.effs = false):provNext p ⟨d,o,g⟩ = provA p d o:=by simp only [provNext,ho,Bool.false_eq_true,if_false,provA];cases d <;> rfl
end
end Go.AE
namespace Go.AE
theorem bin_add (k:IntKind) (a b:Int):binV .add (.int k a) (.int k b) = some (.int k (k.wrap (a + b))):=by simp [binV,intBin]
theorem bin_sub (k:IntKind) (a b:Int):binV .sub (.int k a) (.int k b) = some (.int k (k.wrap (a - b))):=by simp [binV,intBin]
theorem bin_mul (k:IntKind) (a b:Int):binV .mul (.int k a) (.int k b) = some (.int k (k.wrap (a * b))):=by simp [binV,intBin]
theorem bin_quo (k:IntKind) (a b:Int):binV .quo (.int k a) (.int k b) = if b = 0 then none else some (.int k (k.wrap (a.tdiv b))):=by simp [binV,intBin]
theorem bin_rem (k:IntKind) (a b:Int):binV .rem (.int k a) (.int k b) = if b = 0 then none else some (.int k (a.tmod b)):=by simp [binV,intBin]
theorem bin_eql (k:IntKind) (a b:Int):binV .eql (.int k a) (.int k b) = some (.bool (a == b)):=by simp [binV,intBin]
theorem bin_neq (k:IntKind) (a b:Int):binV .neq (.int k a) (.int k b) = some (.bool (!(a == b))):=by simp [binV,intBin,bne]
theorem bin_lss (k:IntKind) (a b:Int):binV .lss (.int k a) (.int k b) = some (.bool (ilt a b)):=by simp [binV,intBin]
theorem bin_leq (k:IntKind) (a b:Int):binV .leq (.int k a) (.int k b) = some (.bool (ile a b)):=by simp [binV,intBin]
theorem bin_gtr (k:IntKind) (a b:Int):binV .gtr (.int k a) (.int k b) = some (.bool (ilt b a)):=by simp [binV,intBin]
theorem bin_geq (k:IntKind) (a b:Int):binV .geq (.int k a) (.int k b) = some (.bool (ile b a)):=by simp [binV,intBin]
theorem str_add (a b:List UInt8):binV .add (.str a) (.str b) = if a.length + b.length ≤ limit then some (.str (a ++ b)) else none:=rfl
theorem str_eql (a b:List UInt8):binV .eql (.str a) (.str b) = some (.bool (a == b)):=rfl
theorem str_neq (a b:List UInt8):binV .neq (.str a) (.str b) = some (.bool (!(a == b))):=rfl
theorem str_lss (a b:List UInt8):binV .lss (.str a) (.str b) = some (.bool (Op.bytesLess a b)):=rfl
theorem str_gtr (a b:List UInt8):binV .gtr (.str a) (.str b) = some (.bool (!(Op.bytesLess a b || a == b))):=rfl
theorem un_neg (k:IntKind) (n:Int):unV .neg (.int k n) = some (.int k (k.wrap (0 - n))):=rfl
theorem un_not (b:Bool):unV .not (.bool b) = some (.bool (!b)):=rfl
end Go.AE
namespace Go.AE
section
variable {base:Nat} {call:Call} {p:Prov} {s:St}
def listV (k:Nat) (zero:List AVal) (len:Nat) (parts:List (Nat×AVal)):Option AVal:=
 if zero.length = k∧len * k ≤ 2 ^ 24 then
  match fillS ((List.replicate len zero).flatten) (parts.map fun (i,x)=>(i * k,k,x)) with
  | some cs=>if cs.all AVal.storable then some (.lst ((List.range len).map fun i=>if k = 1 then (cs.getD i .undef) else .agg ((cs.drop (i * k)).take k)) .full) else none
  | none=>none
 else none
theorem op_list (d:Option Nat) (k:Nat) (z:List AVal) (len:Nat) (ps:List (Nat×AOpd)):runOp base call p d (.list k z len ps) s = putV d s (listV k z len (ps.map fun (i,x)=>(i,ev s.t x))):=by
 rw [op_pure _ _ rfl (by simp) (by simp) (by simp)]
 simp only [pureV,listV,List.map_map]
 rfl
end
end Go.AE
namespace Go.AE
theorem guardP_boolK (c b:Bool) (d:Option Nat) (s:St) (r:Option AVal) (k:St→Option (Ex×St)):guardP (.bool c) b d s r k = guardQ (c == b) d s r k:=Eq.trans rfl rfl
theorem guardP_tupK (b:Bool) (d:Option Nat) (s:St) (r:Option AVal) (k:St→Option (Ex×St)):guardP (.tup []) b d s r k = guardQ false d s r k:=Eq.trans rfl rfl
theorem guardQ_trueK (d:Option Nat) (t:List AVal) (h:List ABox) (e:Bool) (v:AVal) (k:St→Option (Ex×St)):guardQ true d ⟨t,h,e⟩ (some v) k = k ⟨put d v t,h,e⟩:=Eq.trans rfl rfl
theorem guardQ_falseK (d:Option Nat) (t:List AVal) (h:List ABox) (e:Bool) (r:Option AVal) (k:St→Option (Ex×St)):guardQ false d ⟨t,h,e⟩ r k = k ⟨put d (.tup []) t,h,e⟩:=Eq.trans rfl rfl
theorem guardJ_tfK (d:Option Nat) (t:List AVal) (h:List ABox) (e:Bool) (r:Option (Ex×St)) (k:St→Option (Ex×St)):guardJ (.bool true) false d ⟨t,h,e⟩ r k = k ⟨put d (.tup []) t,h,e⟩:=Eq.trans rfl rfl
theorem guardJ_ftK (d:Option Nat) (t:List AVal) (h:List ABox) (e:Bool) (r:Option (Ex×St)) (k:St→Option (Ex×St)):guardJ (.bool false) true d ⟨t,h,e⟩ r k = k ⟨put d (.tup []) t,h,e⟩:=Eq.trans rfl rfl
theorem guardJ_tupK (b:Bool) (d:Option Nat) (t:List AVal) (h:List ABox) (e:Bool) (r:Option (Ex×St)) (k:St→Option (Ex×St)):guardJ (.tup []) b d ⟨t,h,e⟩ r k = k ⟨put d (.tup []) t,h,e⟩:=Eq.trans rfl rfl
theorem gate_trueK (r:Option AVal):gate true r = r:=Eq.trans rfl rfl
theorem gate_falseK (r:Option AVal):gate false r = some (.tup []):=Eq.trans rfl rfl
theorem gv_trueK (v:AVal):gv true v = v:=Eq.trans rfl rfl
theorem gv_falseK (v:AVal):gv false v = .tup []:=Eq.trans rfl rfl
end Go.AE
namespace Go.AE
end Go.AE
namespace Go.AE
section
variable {base:Nat} {call:Call} {p:Prov} {s:St}
theorem thenW_norK (f:St→Option (Ex×St)) (s:St):thenW f (some (.nor,s)) = f s:=Eq.trans rfl rfl
end
end Go.AE
namespace Go.AE
theorem condW_trueK (a b:Option (Ex×St)):condW (.bool true) a b = a:=Eq.trans rfl rfl
theorem condW_falseK (a b:Option (Ex×St)):condW (.bool false) a b = b:=Eq.trans rfl rfl
end Go.AE
namespace Go.AE
theorem ao_eq (d:Nat) (o:AOp):ao d o = ⟨some d,o,none⟩:=Eq.trans rfl rfl
theorem ag_eq (d:Nat) (o:AOp) (j:Nat) (b:Bool):ag d o j b = ⟨some d,o,some (j,b)⟩:=Eq.trans rfl rfl
theorem an_eq (o:AOp):an o = ⟨none,o,none⟩:=Eq.trans rfl rfl
theorem splice_eq (cs:List AVal) (o:Nat) (vs:List AVal):splice cs o vs = cs.take o ++ vs ++ cs.drop (o + vs.length):=Eq.trans rfl rfl
def sT:=PLift.up (And.intro (And.intro (And.intro (And.intro (And.intro (And.intro (And.intro (And.intro @execW_seq (And.intro @execW_skip @execW_if)) (And.intro (And.intro @execW_exit @execW_ret) (And.intro @execW_block @reg_q))) (And.intro (And.intro @execW_draw (And.intro @draw_nil @draw_eff)) (And.intro (And.intro @draw_light @draw_ld) (And.intro @draw_new @ldD_some)))) (And.intro (And.intro (And.intro @drawE_nor (And.intro @drawE_pan @floats_nil)) (And.intro (And.intro @floats_cons @chks_nil) (And.intro @chks_cons @chk_ld))) (And.intro (And.intro @chk_box (And.intro @beqO_same @beqB_same)) (And.intro (And.intro @light_mov @light_pick) (And.intro @light_build @light_list))))) (And.intro (And.intro (And.intro (And.intro @light_nilc (And.intro @light_bin @light_eqb)) (And.intro (And.intro @light_eqi @light_eqa) (And.intro @light_un @light_cvi))) (And.intro (And.intro @light_cvs (And.intro @light_cvb @light_mkI)) (And.intro (And.intro @light_mkF @light_subS) (And.intro @light_subL @light_fa)))) (And.intro (And.intro (And.intro @light_ixaL (And.intro @light_ixaA @light_ixS)) (And.intro (And.intro @light_ixA @light_fld) (And.intro @light_ext @light_len))) (And.intro (And.intro (And.intro @light_mm @light_tas) (And.intro @plain_mov @effs_mov)) (And.intro (And.intro @isApp_mov @plain_pick) (And.intro @effs_pick @isApp_pick)))))) (And.intro (And.intro (And.intro (And.intro (And.intro @plain_build (And.intro @effs_build @isApp_build)) (And.intro (And.intro @plain_list @effs_list) (And.intro @isApp_list @plain_ld))) (And.intro (And.intro @effs_ld (And.intro @isApp_ld @plain_nilc)) (And.intro (And.intro @effs_nilc @isApp_nilc) (And.intro @plain_bin @effs_bin)))) (And.intro (And.intro (And.intro @isApp_bin (And.intro @plain_eqb @effs_eqb)) (And.intro (And.intro @isApp_eqb @plain_eqi) (And.intro @effs_eqi @isApp_eqi))) (And.intro (And.intro (And.intro @plain_eqa @effs_eqa) (And.intro @isApp_eqa @plain_un)) (And.intro (And.intro @effs_un @isApp_un) (And.intro @plain_cvi @effs_cvi))))) (And.intro (And.intro (And.intro (And.intro @isApp_cvi (And.intro @plain_cvs @effs_cvs)) (And.intro (And.intro @isApp_cvs @plain_cvb) (And.intro @effs_cvb @isApp_cvb))) (And.intro (And.intro @plain_mkI (And.intro @effs_mkI @isApp_mkI)) (And.intro (And.intro @plain_mkF @effs_mkF) (And.intro @isApp_mkF @plain_subS)))) (And.intro (And.intro (And.intro @effs_subS (And.intro @isApp_subS @plain_subL)) (And.intro (And.intro @effs_subL @isApp_subL) (And.intro @plain_fa @effs_fa))) (And.intro (And.intro (And.intro @isApp_fa @plain_ixaL) (And.intro @effs_ixaL @isApp_ixaL)) (And.intro (And.intro @plain_ixaA @effs_ixaA) (And.intro @isApp_ixaA @plain_ixS))))))) (And.intro (And.intro (And.intro (And.intro (And.intro (And.intro @effs_ixS (And.intro @isApp_ixS @plain_ixA)) (And.intro (And.intro @effs_ixA @isApp_ixA) (And.intro @plain_fld @effs_fld))) (And.intro (And.intro @isApp_fld (And.intro @plain_ext @effs_ext)) (And.intro (And.intro @isApp_ext @plain_len) (And.intro @effs_len @isApp_len)))) (And.intro (And.intro (And.intro @plain_mm (And.intro @effs_mm @isApp_mm)) (And.intro (And.intro @plain_tas @effs_tas) (And.intro @isApp_tas @plain_asg))) (And.intro (And.intro (And.intro @effs_asg @isApp_asg) (And.intro @plain_new @effs_new)) (And.intro (And.intro @isApp_new @plain_box) (And.intro @effs_box @isApp_box))))) (And.intro (And.intro (And.intro (And.intro @plain_st (And.intro @effs_st @isApp_st)) (And.intro (And.intro @plain_call @effs_call) (And.intro @isApp_call @plain_app))) (And.intro (And.intro @effs_app (And.intro @isApp_app @plain_pan)) (And.intro (And.intro @effs_pan @isApp_pan) (And.intro @q_nil @q_cons)))) (And.intro (And.intro (And.intro @q_plain (And.intro @q_guard @op_mov)) (And.intro (And.intro @op_asg @op_pick) (And.intro @op_fa @op_bin))) (And.intro (And.intro (And.intro @op_un @op_nilc) (And.intro @op_len @op_ixaL)) (And.intro (And.intro @op_new @op_ld) (And.intro @op_st @op_fld)))))) (And.intro (And.intro (And.intro (And.intro (And.intro @op_call (And.intro @op_build @op_list)) (And.intro (And.intro @op_box @boxW_eq) (And.intro @op_mkI @mkIV_agg))) (And.intro (And.intro @mkIV_int (And.intro @op_mkF @op_ixS)) (And.intro (And.intro @op_ixA @op_ext) (And.intro @extV_tup @op_eqb)))) (And.intro (And.intro (And.intro @eqbV_bool (And.intro @op_eqi @op_cvi)) (And.intro (And.intro @cviV_int @op_mm) (And.intro @mm_nat @mmV_min))) (And.intro (And.intro (And.intro @op_pan @panW_iface) (And.intro @callV_ret @callV_pan)) (And.intro (And.intro @put_some @put_none) (And.intro @thenW_norK @thenW_ret))))) (And.intro (And.intro (And.intro (And.intro @thenW_exit (And.intro @thenW_pan @blockW_nor)) (And.intro (And.intro @blockW_ret @blockW_pan) (And.intro @blockW_exit @condW_trueK))) (And.intro (And.intro @condW_falseK (And.intro @maskW_nor @maskW_pan)) (And.intro (And.intro @ev_t @ev_c) (And.intro @raw_t @raw_c)))) (And.intro (And.intro (And.intro @length_up (And.intro @look_eq @look_ne)) (And.intro (And.intro @look_zero @look_succ) (And.intro @drained_t @drained_c))) (And.intro (And.intro (And.intro @drain_bool @drain_int) (And.intro @drain_str @drain_nilptr)) (And.intro (And.intro @drain_ptr @drain_iptr) (And.intro @drain_agg @drain_tup)))))))) (And.intro (And.intro (And.intro (And.intro (And.intro (And.intro (And.intro @drain_fn (And.intro @drain_no @drain_full)) (And.intro (And.intro @drain_own @drain_iface) (And.intro @drain_dim @dim_bool))) (And.intro (And.intro @dim_int (And.intro @dim_str @dim_ptr)) (And.intro (And.intro @dim_iptr @dim_agg) (And.intro @dim_tup @dim_fn)))) (And.intro (And.intro (And.intro @dim_undef (And.intro @dim_nilptr @dim_nilfunc)) (And.intro (And.intro @dim_niliface @dim_iface) (And.intro @dim_yld @dim_no))) (And.intro (And.intro (And.intro @dim_full @dim_own) (And.intro @dim_gv @get_at)) (And.intro (And.intro @get_past @get_old) (And.intro @set_old @set_twice))))) (And.intro (And.intro (And.intro (And.intro @get_set (And.intro @get_at2 @set_at2)) (And.intro (And.intro @get_past2 @set_past2) (And.intro @get_set_ne @set_at))) (And.intro (And.intro @set_past (And.intro @cells_agg @cells_int)) (And.intro (And.intro @cells_str @cells_bool) (And.intro @cells_lst @cells_ptr)))) (And.intro (And.intro (And.intro @cells_nilptr (And.intro @cells_fn @cells_niliface)) (And.intro (And.intro @cells_iface @cells_yld) (And.intro @cut_cons @ldAt_iptr))) (And.intro (And.intro (And.intro @ldAt_box @ldB_cells) (And.intro @putC_none @putC_some)) (And.intro (And.intro @stV_box @stB_cells) (And.intro @stor_int @stor_str)))))) (And.intro (And.intro (And.intro (And.intro (And.intro @stor_bool (And.intro @stor_lst @stor_ptr)) (And.intro (And.intro @stor_iptr @stor_nilptr) (And.intro @stor_nilfunc @stor_fn))) (And.intro (And.intro @stor_yld (And.intro @stor_niliface @stor_iface)) (And.intro (And.intro @lower_undef @lower_bool) (And.intro @lower_int @lower_str)))) (And.intro (And.intro (And.intro @lower_nilptr (And.intro @lower_ptr @lower_yld)) (And.intro (And.intro @lower_iptr @lower_lst) (And.intro @lower_nilfunc @lower_niliface))) (And.intro (And.intro (And.intro @lower_iface @lower_fn) (And.intro @lower_agg @lower_tup)) (And.intro (And.intro @lowerL_nil @lowerL_cons) (And.intro @stW_some @faV_ptr))))) (And.intro (And.intro (And.intro (And.intro @faV_iptr (And.intro @nilcV_ptr @nilcV_iptr)) (And.intro (And.intro @lenV_str @lenV_lst) (And.intro @fldV_agg @putV_some))) (And.intro (And.intro @cut_none (And.intro @bin_add @bin_sub)) (And.intro (And.intro @bin_mul @bin_quo) (And.intro @bin_rem @bin_eql)))) (And.intro (And.intro (And.intro @bin_neq (And.intro @bin_lss @bin_leq)) (And.intro (And.intro @bin_gtr @bin_geq) (And.intro @str_add @str_eql))) (And.intro (And.intro (And.intro @str_neq @str_lss) (And.intro @str_gtr @un_neg)) (And.intro (And.intro @un_not @pickW_true) (And.intro @pickW_false @pick_and))))))) (And.intro (And.intro (And.intro (And.intro (And.intro (And.intro @pick_or (And.intro @guardP_boolK @guardP_tupK)) (And.intro (And.intro @guardP_gv @guardP_gv2) (And.intro @guardQ_trueK @guardQ_falseK))) (And.intro (And.intro @guardQ_some (And.intro @in_some @at_some)) (And.intro (And.intro @inat_some @in_ld) (And.intro @at_ld @inat_ld)))) (And.intro (And.intro (And.intro @in_fa (And.intro @at_fa @inat_fa)) (And.intro (And.intro @in_len @at_len) (And.intro @inat_len @in_fld))) (And.intro (And.intro (And.intro @at_fld @inat_fld) (And.intro @in_un @at_un)) (And.intro (And.intro @inat_un @in_nilc) (And.intro @at_nilc @inat_nilc))))) (And.intro (And.intro (And.intro (And.intro @in_ext (And.intro @at_ext @inat_ext)) (And.intro (And.intro @in_cvi @at_cvi) (And.intro @inat_cvi @in_mkI))) (And.intro (And.intro @at_mkI (And.intro @inat_mkI @in_ixS)) (And.intro (And.intro @at_ixS @inat_ixS) (And.intro @in_ixS2 @at_ixS2)))) (And.intro (And.intro (And.intro @inat_ixS2 (And.intro @in_ixa @at_ixa)) (And.intro (And.intro @inat_ixa @in_ixa2) (And.intro @at_ixa2 @inat_ixa2))) (And.intro (And.intro (And.intro @in_ixA @at_ixA) (And.intro @inat_ixA @in_ixA2)) (And.intro (And.intro @at_ixA2 @inat_ixA2) (And.intro @in_bin @at_bin)))))) (And.intro (And.intro (And.intro (And.intro (And.intro @inat_bin (And.intro @in_bin2 @at_bin2)) (And.intro (And.intro @inat_bin2 @in_eqb) (And.intro @at_eqb @inat_eqb))) (And.intro (And.intro @in_eqb2 (And.intro @at_eqb2 @inat_eqb2)) (And.intro (And.intro @in_eqi @at_eqi) (And.intro @inat_eqi @in_eqi2)))) (And.intro (And.intro (And.intro @at_eqi2 (And.intro @inat_eqi2 @in_mm)) (And.intro (And.intro @at_mm @inat_mm) (And.intro @in_mm2 @at_mm2))) (And.intro (And.intro (And.intro @inat_mm2 @in_pick) (And.intro @at_pick @inat_pick)) (And.intro (And.intro @in_pick2 @at_pick2) (And.intro @inat_pick2 @in_pick3))))) (And.intro (And.intro (And.intro (And.intro @at_pick3 (And.intro @inat_pick3 @gate_some)) (And.intro (And.intro @gate_trueK @gate_falseK) (And.intro @gv_gv @gv_trueK))) (And.intro (And.intro @gv_falseK (And.intro @guardJ_hit @guardJ_tfK)) (And.intro (And.intro @guardJ_ftK @guardJ_tupK) (And.intro @is_true @is_false)))) (And.intro (And.intro (And.intro @endR_nor (And.intro @endR_ret @endR_pan)) (And.intro (And.intro @endW_some @res_nil) (And.intro @res_tmp @res_cell))) (And.intro (And.intro (And.intro @consR_some @oneRes_one) (And.intro @oneRes_nil @oneRes_two)) (And.intro (And.intro @leave_ret @leave_ret0) (And.intro @leave_pan @leave_pan0)))))))))
def sC:=PLift.up (And.intro (And.intro (And.intro (And.intro (And.intro @List.nil_append.{0} (And.intro @List.append_nil.{0} @List.map_cons.{0,0})) (And.intro (And.intro @List.map_nil.{0,0} @List.length_cons.{0}) (And.intro @List.length_nil.{0} @List.cons_append.{0}))) (And.intro (And.intro (And.intro @ao_eq @ag_eq) (And.intro @an_eq @Option.map_some.{0,0})) (And.intro (And.intro @ne_eq.{1} @not_false_eq_true) (And.intro @List.length_set.{0} @List.length_replicate.{0})))) (And.intro (And.intro (And.intro @Bool.or_false (And.intro @Bool.or_true @Bool.false_or)) (And.intro (And.intro @Bool.true_or @Bool.and_true) (And.intro @Bool.and_false @Bool.true_and))) (And.intro (And.intro (And.intro @Bool.false_and @Bool.not_true) (And.intro @Bool.not_false @eq_self.{1})) (And.intro (And.intro @List.getElem?_cons_zero.{0} @List.getElem?_cons_succ.{0}) (And.intro @List.set_cons_zero.{0} @List.set_cons_succ.{0}))))) (And.intro (And.intro (And.intro (And.intro @List.append_assoc.{0} (And.intro @List.length_append.{0} @splice_eq)) (And.intro (And.intro @List.take_zero.{0} @List.drop_zero.{0}) (And.intro @List.take_succ_cons.{0} @List.drop_succ_cons.{0}))) (And.intro (And.intro (And.intro @List.drop_nil.{0} @List.take_nil.{0}) (And.intro @List.all_cons.{0} @List.all_nil.{0})) (And.intro (And.intro @Option.getD_some.{0} @Option.getD_none.{0}) (And.intro @and_self @and_true)))) (And.intro (And.intro (And.intro (And.intro @true_and @if_true.{1}) (And.intro @if_false.{1} @Nat.le_refl)) (And.intro (And.intro @Nat.ble_self_eq_true @Nat.zero_add) (And.intro @Nat.add_zero @beq_self_eq_true.{0}))) (And.intro (And.intro (And.intro @Bool.false_eq_true @bne_self_eq_false.{0}) (And.intro @List.isEmpty_nil.{0} @List.isEmpty_cons.{0})) (And.intro (And.intro @cond_true.{1} @cond_false.{1}) (And.intro @List.filterMap_cons.{0,0} @List.filterMap_nil.{0,0}))))))
def sTA:=PLift.up (And.intro (And.intro (And.intro (And.intro @reg_app (And.intro @ops_nil @ops_cons)) (And.intro @ops_guard (And.intro @op_app @tail_lst))) (And.intro (And.intro @tail_str (And.intro @app_nil @app_full)) (And.intro @app_own (And.intro @app_no @appT_some)))) (And.intro (And.intro (And.intro @taken_t (And.intro @takeV_own @takeV_no)) (And.intro @takeS_tmp (And.intro @takeS_cell @takeT_own))) (And.intro (And.intro @takeP_ptr (And.intro @takeC_cells @takeD_own)) (And.intro @src_nil (And.intro @prov_eff @prov_no)))))
def sCA:=PLift.up (And.intro (And.intro @List.filter_cons.{0} @List.filter_nil.{0}) (And.intro @List.find?_cons.{0} @List.find?_nil.{0}))
end Go.AE
namespace Go.AE
section
variable {base:Nat} {call:Call} {p:Prov} {s:St} {t:List AVal} {h:List ABox}
def hxW (d:Option Nat) (s:St):Option (AVal×List ABox×Bool)→Option (Ex×St)
 | some (v,h,e)=>some (.nor,{ t:=put d v.dim s.t,h,e:=s.e || e})
 | none=>none
theorem hxW_some (d:Option Nat) (t:List AVal) (h h':List ABox) (e e':Bool) (v:AVal):hxW d ⟨t,h,e⟩ (some (v,h',e')) = some (.nor,⟨put d v.dim t,h',e || e'⟩):=rfl
theorem op_hx (d:Option Nat) (o:HOp) (aS:List AOpd):runOp base call p d (.hx o aS) s = hxW d s (hop base o (aS.map (ev s.t)) s.h):=by
 simp only [runOp]
 cases hop base o (aS.map (ev s.t)) s.h with
 | none=>rfl
 | some r=>rfl
theorem plain_hx (o:HOp) (aS:List AOpd):(AOp.hx o aS).plain = false:=Eq.trans rfl rfl
theorem effs_hx (o:HOp) (aS:List AOpd):(AOp.hx o aS).effs = true:=Eq.trans rfl rfl
theorem isApp_hx (o:HOp) (aS:List AOpd):(AOp.hx o aS).isApp = false:=Eq.trans rfl rfl
theorem lenV_sl (id o len cap more:Nat):lenV false (.sl id o len cap more) = some (.int .i64 len):=rfl
theorem dim_sl (id o len cap more:Nat):(AVal.sl id o len cap more).dim = .sl id o len cap more:=rfl
theorem drain_sl (id o len cap more i:Nat) (t:List AVal):drainW (.sl id o len cap more) i t = t:=rfl
theorem stor_sl (id o len cap more:Nat):(AVal.sl id o len cap more).storable = true:=Eq.trans rfl rfl
theorem cells_sl (id o len cap more:Nat):(AVal.sl id o len cap more).cells = [.sl id o len cap more]:=rfl
theorem lower_sl (n id o len cap more:Nat):(AVal.sl id o len cap more).lower n = Nat.blt id n:=Eq.trans rfl rfl
theorem ixaV_sl (k id o len cap more:Nat) (j:IntKind) (n:Int):ixaV k (.sl id o len cap more) (.int j n) = if 0 ≤ n∧n < len then some (.ptr id (o + n.toNat * k)) else none:=rfl
end
end Go.AE
namespace Go.AE
section
variable {P:Program} {gl:Nat→Option (List AVal)}
noncomputable def cellsOf (W:World):Nat→Nat→Option Value:=fun b o=>clean (W.cell? ⟨b,o,none⟩)
def dataT (P:Program) (S:List TypeId):Bool:=S.all fun t=>decide (t < P.types.size) && P.readableRec t && match P.underlying t with
 | some .bool | some (.int _) | some .string=>true
 | some (.slice e)=>S.contains e && decide (0 < P.cellsOf e)
 | some (.struct fs)=>fs.toList.all fun f=>S.contains f.type
 | _=>false
def isStruct (P:Program) (t:TypeId):Bool:=
 match P.underlying t with
 | some (.struct _)=>true
 | _=>false
def el (P:Program) (t:TypeId) (cs:List AVal):AVal:=bif isStruct P t then .agg cs else cs.headD .undef
def FitsAll (R:TypeId→List AVal→Prop):List TypeId→List (List AVal)→Prop
 | [],[]=>True
 | t :: ts,a :: aS=>R t a∧FitsAll R ts aS
 | _,_=>False
def Fits (P:Program):Nat→TypeId→List AVal→Prop
 | 0,_,_=>False
 | n + 1,t,aS=>
  match P.underlying t with
  | some .bool=>∃b,aS = [.bool b]
  | some (.int k)=>∃z,aS = [.int k z]∧(Lit.int k z).wf = true
  | some .string=>∃s:List UInt8,aS = [.str s]∧s.length ≤ maxLen
  | some (.slice e)=>∃xs:List (List AVal),aS = [.lst (xs.map (el P e)) .no]∧xs.length ≤ maxLen∧∀x ∈ xs,Fits P n e x
  | some (.struct fs)=>∃ass:List (List AVal),aS = ass.flatten∧FitsAll (Fits P n) (fs.toList.map (·.type)) ass
  | _=>False
theorem IElems_of {γ:Nat→Option Nat} {imm:Nat→Nat→Option Value} {k:Nat} {b:Nat}:∀(xs:List AVal) (p:Nat),(∀(i:Nat) (x:AVal),xs[i]? = some x→x.cells.length = k∧ICells γ imm x.cells b (p + i * k))→IElems γ imm xs b p
 | [],_,_=>trivial
 | x :: xs,p,h=>by
  obtain ⟨h1,h2⟩:=h 0 x rfl
  have ih:=IElems_of xs (p + k) fun i y hy=>by
   obtain ⟨k1,k2⟩:=h (i + 1) y (by simpa using hy)
   refine ⟨k1,?_⟩
   rw [Nat.add_mul,Nat.one_mul] at k2
   rw [Nat.add_assoc,Nat.add_comm k]
   exact k2
  simp only [Nat.zero_mul,Nat.add_zero] at h2
  cases x with
  | agg cs=>simp only [AVal.cells] at h1 h2;simp only [IElems,h1];exact ⟨h2,ih⟩
  | _=>
   simp only [AVal.cells,List.length_cons,List.length_nil,Nat.zero_add] at h1
   subst h1
   simp only [AVal.cells,ICells] at h2
   exact ⟨h2.1,ih⟩
theorem ICells_of {γ:Nat→Option Nat} {W:World} {b:Nat}:∀(aS:List AVal) (vs:List Value) (p:Nat),VRelL γ (cellsOf W) aS vs→(∀i,i < vs.length→W.cell? ⟨b,p + i,none⟩ = vs[i]?)→ICells γ (cellsOf W) aS b p
 | [],_,_,_,_=>trivial
 | a :: aS,vs,p,h,hc=>by
  simp only [VRelL] at h
  obtain ⟨v,rest,rfl,h1,h2⟩:=h
  refine ⟨⟨v,clean_iff.2 ⟨by simpa using hc 0 (by simp),not_mark h1⟩,h1⟩,ICells_of aS rest (p + 1) h2 fun i hi=>?_⟩
  have:=hc (i + 1) (by simpa using hi)
  rw [Nat.add_assoc,Nat.add_comm 1]
  simpa using this
theorem struct_open {γ:Nat→Option Nat} {imm:Nat→Nat→Option Value} {R:TypeId→List AVal→Prop} {size:TypeId→Nat}:∀(fs:List Field) (o:Nat) (cs:List Value),cs.length = o + (fs.map fun f=>size f.type).sum→
  (∀(j:Nat) f,fs[j]? = some f→f.offset = o + ((fs.take j).map fun f=>size f.type).sum)→(∀f ∈ fs,∃aS,VRelL γ imm aS ((cs.drop f.offset).take (size f.type))∧R f.type aS)→
  ∃ass:List (List AVal),VRelL γ imm ass.flatten (cs.drop o)∧FitsAll R (fs.map (·.type)) ass
 | [],o,cs,hl,_,_=>⟨[],by simp only [List.map_nil,List.sum_nil,Nat.add_zero] at hl;simp [VRelL,←hl],trivial⟩
 | f :: fs,o,cs,hl,ho,hr=>by
  have h0:f.offset = o:=by simpa using ho 0 f rfl
  obtain ⟨aS,h1,h2⟩:=hr f (List.mem_cons_self ..)
  rw [h0] at h1
  simp only [List.map_cons,List.sum_cons] at hl
  obtain ⟨ass,h3,h4⟩:=struct_open fs (o + size f.type) cs (by omega) (fun j g hg=>by
   have:=ho (j + 1) g (by simpa using hg)
   simp only [List.take_succ_cons,List.map_cons,List.sum_cons] at this
   omega) (fun g hg=>hr g (List.mem_cons_of_mem _ hg))
  refine ⟨aS :: ass,?_,h2,h4⟩
  have e:cs.drop o = (cs.drop o).take (size f.type) ++ cs.drop (o + size f.type):=by
   rw [←List.drop_drop,List.take_append_drop]
  rw [e,List.flatten_cons]
  exact VRelL.append h1 h3
theorem Fits.cells_el {n:Nat} {t:TypeId} {x:List AVal} (h:Fits P n t x):(el P t x).cells = x:=by
 cases n with
 | zero=>exact h.elim
 | succ n=>
  simp only [Fits] at h
  simp only [el,isStruct]
  split at h
  ·rename_i hu;obtain ⟨b,rfl⟩:=h;rw [hu];rfl
  ·rename_i hu;obtain ⟨b,rfl,_⟩:=h;rw [hu];rfl
  ·rename_i hu;obtain ⟨b,rfl,_⟩:=h;rw [hu];rfl
  ·rename_i hu;obtain ⟨b,rfl,_⟩:=h;rw [hu];rfl
  ·rename_i hu;rw [hu];rfl
  ·exact h.elim
theorem collect {α:Type} {Q:Nat→α→Prop}:∀len:Nat,(∀i,i < len→∃a,Q i a)→∃xs:List α,xs.length = len∧∀i x,xs[i]? = some x→Q i x
 | 0,_=>⟨[],rfl,fun i x h=>by simp at h⟩
 | len + 1,h=>by
  obtain ⟨xs,h1,h2⟩:=collect len fun i hi=>h i (by omega)
  obtain ⟨y,h3⟩:=h len (by omega)
  refine ⟨xs ++ [y],by simp [h1],fun i x hi=>?_⟩
  rcases Nat.lt_or_ge i xs.length with hlt | hge
  ·rw [List.getElem?_append_left hlt] at hi;exact h2 i x hi
  ·rw [List.getElem?_append_right hge] at hi
   have:i - xs.length = 0:=by
    rcases Nat.eq_zero_or_pos (i - xs.length) with h | h
    ·exact h
    ·rw [List.getElem?_eq_none (by simp only [List.length_cons,List.length_nil];omega)] at hi;cases hi
   rw [this] at hi
   simp only [List.getElem?_cons_zero,Option.some.injEq] at hi
   subst hi
   have:i = len:=by omega
   subst this
   exact h3
theorem add_eq {a:Addr} (h:a.spot = none) (n:Nat):a.add n = ⟨a.block,a.off + n,none⟩:=by
 unfold Addr.add
 split
 ·rename_i h0
  subst h0
  cases a
  simp_all
 ·rfl
theorem open_fits {H:Type} {enc:TypeId×Value→H} {W:World} {base:Nat} {sp:Nat→Bool} {held:Bool} {S:List TypeId} (hl:laidOutB P = true) (hS:dataT P S = true):∀(n:Nat) (t:TypeId) (cs:List Value) (x:DataW H×List MemPlace),t ∈ S→
  DataW.trod enc P W base sp held n t cs = some x→∃aS,VRelL (fun _=>none) (cellsOf W) aS cs∧Fits P n t aS
 | 0,t,cs,x,_,h=>by simp [DataW.trod] at h
 | n + 1,t,cs,x,ht,h=>by
  have hd:=List.all_eq_true.1 hS t ht
  simp only [Bool.and_eq_true,decide_eq_true_eq] at hd
  obtain ⟨⟨hrow,_⟩,hd⟩:=hd
  have ih:=open_fits (base:=base) (sp:=sp) (held:=held) (enc:=enc) (W:=W) hl hS n
  split at hd
  ·rename_i hu
   obtain ⟨b,rfl,_⟩:=DataW.trod_bool hu h
   exact ⟨[.bool b],by simp [VRelL,VRel],by simp only [Fits,hu];exact ⟨b,rfl⟩⟩
  ·rename_i k hu
   obtain ⟨z,rfl,_,hw⟩:=DataW.trod_int hu h
   exact ⟨[.int k z],by simp [VRelL,VRel],by simp only [Fits,hu];exact ⟨z,rfl,hw⟩⟩
  ·rename_i hu
   obtain ⟨s,rfl,_,hw⟩:=DataW.trod_string hu h
   exact ⟨[.str s.data.toList],by simp only [VRelL,VRel];exact ⟨_,_,rfl,⟨s,rfl,rfl⟩,rfl⟩,by simp only [Fits,hu];exact ⟨_,rfl,by simpa using hw⟩⟩
  ·rename_i e hu
   simp only [Bool.and_eq_true,decide_eq_true_eq,List.contains_iff_mem] at hd
   obtain ⟨he,hpos⟩:=hd
   rcases DataW.trod_slice hu h with ⟨rfl,_⟩ | ⟨a,len,cap,elems,rest,m,hm,rfl,_,hb,hlc,hcm,hel,hget,_⟩
   ·refine ⟨[.lst [] .no],?_,by simp only [Fits,hu];exact ⟨[],rfl,Nat.zero_le _,fun _ h=>by cases h⟩⟩
    simp only [VRelL,VRel]
    exact ⟨_,_,rfl,⟨none,0,0,rfl,rfl,Nat.le_refl _,by simp,by simp,⟨0,fun _ h=>by cases h⟩,.inl trivial⟩,rfl⟩
   ·cases hm
    have one:∀i,i < len→∃aS:List AVal,(∃cs',W.cells? base (a.add (i * P.cellsOf e)) (P.cellsOf e) = some cs'∧VRelL (fun _=>none) (cellsOf W) aS cs')∧Fits P n e aS:=by
     intro i hi
     have hg:=hget i hi
     rw [List.getElem?_eq_getElem (by omega)] at hg
     simp only [Option.bind_eq_some_iff] at hg
     obtain ⟨cs',h1,h2⟩:=hg
     obtain ⟨aS,h3,h4⟩:=ih e cs' _ he h2
     exact ⟨aS,⟨cs',h1,h3⟩,h4⟩
    obtain ⟨xs,hxl,hx⟩:=collect len one
    refine ⟨[.lst (xs.map (el P e)) .no],?_,by simp only [Fits,hu];exact ⟨xs,rfl,by omega,fun x hxm=>by obtain ⟨i,hi⟩:=List.getElem?_of_mem hxm;exact (hx i x hi).2⟩⟩
    simp only [VRelL,VRel]
    refine ⟨_,_,rfl,⟨some a,len,cap,rfl,by simp [hxl],hlc,by simp,by simp,⟨P.cellsOf e,fun y hy=>?_⟩,?_⟩,rfl⟩
    ·obtain ⟨x,hxm,rfl⟩:=List.mem_map.1 hy
     obtain ⟨i,hi⟩:=List.getElem?_of_mem hxm
     obtain ⟨⟨cs',h1,h2⟩,h3⟩:=hx i x hi
     rw [h3.cells_el,h2.length,(World.cells?_some h1).2.1]
    ·rcases Nat.eq_zero_or_pos len with h0 | h0
     ·left
      have:xs = []:=List.eq_nil_of_length_eq_zero (by omega)
      simp [this]
     ·right
      have hspot:a.spot = none:=by
       obtain ⟨⟨cs',h1,h2⟩,_⟩:=hx 0 xs[0] (List.getElem?_eq_getElem (by omega))
       obtain ⟨_,h3,h4⟩:=World.cells?_some h1
       have h5:=h4 0 hpos
       rw [List.getElem?_eq_getElem (by omega)] at h5
       simp only [Nat.zero_mul,Addr.add,if_pos] at h5
       cases hsp:a.spot with
       | none=>rfl
       | some s=>
        simp only [World.cell?] at h5
        split at h5
        ·simp [hsp] at h5
        ·cases h5
      refine ⟨a.block,a.off,by rw [←hspot],IElems_of (k:=P.cellsOf e) _ _ fun i y hy=>?_⟩
      rw [List.getElem?_map,Option.map_eq_some_iff] at hy
      obtain ⟨x,hi,rfl⟩:=hy
      obtain ⟨⟨cs',h1,h2⟩,h3⟩:=hx i x hi
      obtain ⟨_,h4,h5⟩:=World.cells?_some h1
      rw [h3.cells_el]
      refine ⟨by rw [h2.length,h4],ICells_of x cs' _ h2 fun j hj=>?_⟩
      have h6:=h5 j (by omega)
      rw [←h6]
      rw [add_eq hspot,add_eq rfl,Nat.add_assoc]
  ·rename_i fs hu
   simp only [List.all_eq_true,List.contains_iff_mem] at hd
   obtain ⟨xs,m,hm,_,hlen,_,hget⟩:=DataW.trod_struct hu h
   cases hm
   obtain ⟨_,h2,h3⟩:=kid_struct hl hrow hu
   obtain ⟨ass,h4,h5⟩:=struct_open (γ:=fun _=>none) (imm:=cellsOf W) (R:=Fits P n) (size:=P.cellsOf) fs.toList 0 cs (by rw [hlen,h2];simp) (fun j f hj=>by rw [h3 j f hj];simp) (fun f hf=>by
    obtain ⟨i,hi⟩:=List.getElem?_of_mem hf
    have hi':fs[i]? = some f:=by simpa using hi
    have hg:=hget i f hi'
    have hil:i < xs.length:=by
     have:=(Array.getElem?_eq_some_iff.1 hi').1
     omega
    rw [List.getElem?_eq_getElem hil] at hg
    exact ih f.type _ _ (hd f hf) hg)
   exact ⟨ass.flatten,by simpa using h4,by simp only [Fits,hu];exact ⟨ass,rfl,h5⟩⟩
  ·cases hd
theorem open_arg {H:Type} {enc:TypeId×Value→H} {W W0:World} {base b0:Nat} {r:Reach} {sp:Nat→Bool} {held:Bool} {S:List TypeId} (hl:laidOutB P = true) (hS:dataT P S = true) {t:TypeId} (ht:t ∈ S) {v:Value} {d:DataW H} {ps:List MemPlace}
  (hok:Value.okWide P W0 r b0 t v) (h:DataW.Trod enc P W base sp held t v d ps):∃n aS,Fits P n t aS∧VRel (fun _=>none) (cellsOf W) (el P t aS) v:=by
 obtain ⟨n,hn⟩:=h
 obtain ⟨aS,h1,h2⟩:=open_fits hl hS n t _ _ ht hn
 refine ⟨n,aS,h2,?_⟩
 have hd:=List.all_eq_true.1 hS t ht
 simp only [Bool.and_eq_true,decide_eq_true_eq] at hd
 obtain ⟨_,hd⟩:=hd
 have scalar:isStruct P t = false→v.cells = #[v]→VRel (fun _=>none) (cellsOf W) (el P t aS) v:=by
  intro hs hv
  rw [hv] at h1
  simp only [el,hs,cond_false]
  cases aS with
  | nil=>simp [VRelL] at h1
  | cons a aS=>
   simp only [VRelL] at h1
   obtain ⟨u,rest,he,h3,h4⟩:=h1
   cases he
   exact h3
 split at hd
 ·rename_i hu
  simp only [Value.okWide,hu,Cell.okWide,Cell.ok] at hok
  refine scalar (by simp [isStruct,hu]) ?_
  cases v <;> first | rfl | (exact hok.elim)
 ·rename_i k hu
  simp only [Value.okWide,hu,Cell.okWide,Cell.ok] at hok
  refine scalar (by simp [isStruct,hu]) ?_
  cases v <;> first | rfl | (exact hok.elim)
 ·rename_i hu
  simp only [Value.okWide,hu,Cell.okWide,Cell.ok] at hok
  refine scalar (by simp [isStruct,hu]) ?_
  cases v <;> first | rfl | (exact hok.elim)
 ·rename_i e hu
  simp only [Value.okWide,hu,Cell.okWide,Cell.ok] at hok
  refine scalar (by simp [isStruct,hu]) ?_
  cases v <;> first | rfl | (exact hok.elim)
 ·rename_i fs hu
  simp only [Value.okWide,hu] at hok
  obtain ⟨cs,rfl,_⟩:=hok
  simp only [el,isStruct,hu,cond_true,VRel]
  exact ⟨cs,rfl,h1⟩
 ·cases hd
noncomputable def Ghost.whole (W:World):Ghost:={ γ:=fun _=>none,imm:=fun b o=>match W.heap[b]? with | some (.cells c _ (0,0))=>if 0 < o∧o = c.size then some mark else cellsOf W b o | _=>cellsOf W b o,ow:=fun _=>none}
theorem whole_imm {W:World} {b o:Nat} {v:Value} (hv:(Ghost.whole W).imm b o = some v):(v ≠ mark→W.cell? ⟨b,o,none⟩ = some v∧b < W.heap.size)∧(v = mark→0 < o∧∃c e,W.heap[b]? = some (.cells c e (0,0))∧o = c.size):=by
 have key:cellsOf W b o = some v→(v ≠ mark→W.cell? ⟨b,o,none⟩ = some v∧b < W.heap.size)∧(v = mark→0 < o∧∃c e,W.heap[b]? = some (.cells c e (0,0))∧o = c.size):=fun hv=>by
  obtain ⟨k1,k2⟩:=clean_iff.1 hv
  refine ⟨fun _=>⟨k1,?_⟩,fun q=>absurd q k2⟩
  rcases Nat.lt_or_ge b W.heap.size with hb | hb
  ·exact hb
  ·simp [World.cell?,Array.getElem?_eq_none hb] at k1
 simp only [Ghost.whole] at hv
 split at hv
 ·rename_i c e h1
  split at hv
  ·rename_i hh
   cases hv
   exact ⟨fun q=>absurd rfl q,fun _=>⟨hh.1,c,e,h1,hh.2⟩⟩
  ·exact key hv
 ·exact key hv
theorem whole_of {W:World} {b o:Nat} {v:Value} (hv:cellsOf W b o = some v):(Ghost.whole W).imm b o = some v:=by
 simp only [Ghost.whole]
 split
 ·rename_i c e h1
  split
  ·rename_i hh
   have:=(clean_iff.1 hv).1
   simp [World.cell?,h1,hh.2] at this
  ·exact hv
 ·exact hv
theorem whole_rel {W:World} (h:Told gl W):Rel P gl (Ghost.whole W) [] W∧NoTmp (Ghost.whole W):=by
 refine ⟨⟨(fun _ _ h=>by cases h),(fun _ _ _ h=>by cases h),(fun _ _ _ h=>by cases h),fun b o v hv hm=>(whole_imm hv).1 hm,(fun _ _ _ _ _ _ h=>by cases h),(fun b o hv=>(whole_imm hv).2 rfl),(fun _ _ h=>by cases h),fun g cs hg=>?_⟩,(fun _ _ h=>by cases h)⟩
 obtain ⟨h1,vs,h2,h3,h4⟩:=h g cs hg
 refine ⟨⟨ICells.of_get fun i c hc=>?_,fun h0=>?_⟩,h1⟩
 ·obtain ⟨v,hv,hr⟩:=h2.get hc
  refine ⟨v,?_,?_⟩
  ·rw [Nat.zero_add]
   exact whole_of (clean_iff.2 ⟨h3 i v hv,not_mark hr⟩)
  ·exact VRel.mono (fun _ _ _ h=>by cases h) 0 (fun i _ hi=>absurd hi (Nat.not_lt_zero _)) c v (lowerL_get h1 hc) hr
 ·obtain ⟨c,e,k1,k2⟩:=h4 h0
  simp only [Ghost.whole,k1]
  rw [if_pos ⟨h0,k2⟩]
theorem whole_kept {n:Nat} {W W':World} {G':Ghost} (he:Ext n (Ghost.whole W) W G' W'):W.keptBut W' (fun _=>False):=by
 refine ⟨he.os,he.output,fun i hi=>?_⟩
 rw [he.heap i hi ⟨fun _ h=>by simp [Ghost.whole] at h,rfl⟩]
 split
 ·rename_i h1 h2
  rw [h1] at h2
  cases h2
  exact ⟨rfl,rfl,rfl,fun _ _=>rfl⟩
 ·rename_i h1 h2
  rw [h1] at h2
  cases h2
  exact .inr ⟨rfl,rfl⟩
 ·rfl
theorem kept_same {W W':World} (h:W.keptBut W' (fun _=>False)) {p:MemPlace} (hp:p.block < W.heap.size):W.sameAt W' p:=by
 have h1:=h.2.2 p.block hp
 cases p with
 | cell b off=>
  simp only [MemPlace.block] at h1 hp
  simp only [World.sameAt,World.cell?]
  split at h1
  ·rename_i e1 e2
   rw [e1,e2]
   simp only [Option.isSome_none,Bool.false_eq_true,if_false]
   exact h1.2.2.2 off (fun h=>h)
  ·rename_i e1 e2
   rw [e1,e2]
  ·rw [h1]
 | map b=>
  simp only [MemPlace.block] at h1 hp
  simp only [World.sameAt]
  split at h1
  ·rename_i c t fr c' t' fr' e1 e2
   obtain ⟨rfl,rfl,h3,h4⟩:=h1
   rw [e1,e2]
   have:c' = c:=by
    apply Array.ext_getElem?
    intro j
    exact h4 j (fun h=>h)
   rw [this]
  ·rename_i e1 e2
   rcases h1 with h1 | ⟨rfl,rfl⟩
   ·exact h1.elim
   ·rw [e1,e2]
  ·exact h1
theorem call_whole {call : AE.Call} (hcall : CallOK P gl call) {f : FuncId} {pf : Func} {c : Code} (h1 : P.funcs[f]? = some pf) (h2 : (pf.name == "runtime.NumGoroutine") = false) (h3 : pf.body = some c) {args : List AVal} {rv : AVal} {h' : List ABox} {e' : Bool}
  (hrun:call (.fn f [] []) args [] = some (.ret rv,h',e')) {W:World} (ht:Told gl W) {vs:Array Value} (hargs:VRelL (fun _=>none) (cellsOf W) args vs.toList) :
  Calls P f vs W fun e W'=>∃v G',e = .returned v∧Ghost.V G' rv v∧W.keptBut W' (fun _=>False):=by
 obtain ⟨hr,hn⟩:=whole_rel (P:=P) ht
 have hfv:(Ghost.whole W).V (.fn f [] []) (.func (.func f) #[] #[]):=by simp [Ghost.V,VRel,VRelL]
 replace hargs:(Ghost.whole W).VL args vs.toList:=VRelL.mono (fun _ _ _ h=>whole_of h) 0 (fun i _ hi=>absurd hi (Nat.not_lt_zero _)) args _ (VL_lower (n:=0) (fun _ _ h=>by cases h) args _ hargs) hargs
 have hS:(callS (.func (.func f) #[] #[]) vs).run P W = .ok (.enter f vs) W:=by
  rw [callS_fn,callFunc_enter h1 h2 h3]
  simp
 rcases hcall _ _ _ _ _ _ hrun _ W _ vs hr hn hfv hargs with ⟨f',aS,k1,k2⟩ | ⟨_,_,_,_,_,_,hy,_⟩ | ⟨v,w',_,k1,_⟩
 ·rw [hS] at k1
  cases k1
  refine (callsIn_wide (n:=0)).1 (CallsIn.mono (k2 none 0) fun e W' hb=>?_)
  cases e with
  | returned v=>
   obtain ⟨rv',G',g1,g2,g3,g4,g5⟩:=hb
   cases g1
   exact ⟨v,G',rfl,g5,whole_kept g2⟩
  | panicked ch=>obtain ⟨_,_,_,g1,_⟩:=hb;cases g1
  | outgrown=>exact hb.elim
 ·cases hy
 ·rw [hS] at k1
  cases k1
end
end Go.AE
