/- A part of the proof: the abstract executor and what goes through it (part 4). No condition. -/
import Derived.Test.YtlognicjhmcgjaaGreatDoorMr3
import Derived.KernelRfl
import Derived.Laws.BitsLemmas
set_option maxRecDepth 100000
namespace Go.AE
def lkp (t:List qc) (i:Nat):qc:=t.getD i .undef
section
variable {base:Nat} {call:Call} {p:qdp} {s:St} {t:List qc} {h:List qx}
theorem qF6 (t:List qc) (i:Nat):ev t (.t i) = (lkp t i).dim:=rfl
theorem qGE (t:List qc) (v:qc):ev t (.c v) = v.dim:=rfl
theorem qDB (t:List qc) (i:Nat):raw t (.t i) = lkp t i:=rfl
theorem qC9 (t:List qc) (v:qc):raw t (.c v) = v:=rfl
def up (t:List qc) (i:Nat) (v:qc):List qc:=t.set i v
theorem qK (t:List qc) (i:Nat) (v:qc):(up t i v).length = t.length:=by simp [up]
theorem qzg {i:Nat} {v:qc} (h:i < t.length):lkp (up t i v) i = v:=by simp [lkp,up,List.getD,h]
theorem qxt {i j:Nat} {v:qc} (h:i ≠ j):lkp (up t i v) j = lkp t j:=by simp [lkp,up,List.getD,List.getElem?_set_ne h]
theorem qpD (a:qc) (t:List qc):lkp (a :: t) 0 = a:=rfl
theorem qsa (a:qc) (t:List qc) (i:Nat):lkp (a :: t) (i + 1) = lkp t i:=rfl
theorem qiJ (d:Nat) (v:qc) (t:List qc):put (some d) v t = up t d v:=rfl
theorem quA (v:qc) (t:List qc):put none v t = t:=rfl
theorem qqG:qc.undef.dim = .undef:=rfl
theorem qvo (b:Bool):(qc.bool b).dim = .bool b:=rfl
theorem qxF (k:IntKind) (n:Int):(qc.int k n).dim = .int k n:=rfl
theorem qlt (s:List UInt8):(qc.str s).dim = .str s:=rfl
theorem qoB:qc.nilptr.dim = .nilptr:=rfl
theorem qlO (i o:Nat):(qc.ptr i o).dim = .ptr i o:=rfl
theorem qwc (cs:List qc) (o:Nat):(qc.iptr cs o).dim = .iptr cs o:=rfl
theorem qAY (xs:List qc):(qc.lst xs .no).dim = .lst xs .no:=rfl
theorem qvW (xs:List qc):(qc.lst xs .full).dim = .lst xs .full:=rfl
theorem qxY (xs:List qc) (k:Nat):(qc.lst xs (.own k)).dim = .lst xs .no:=rfl
theorem qk1:qc.nilfunc.dim = .nilfunc:=rfl
theorem qrx (f:FuncId) (a b:List qc):(qc.fn f a b).dim = .fn f a b:=rfl
theorem qyW (i:Nat):(qc.yld i).dim = .yld i:=rfl
theorem qj1:qc.niliface.dim = .niliface:=rfl
theorem qhn (t:TypeId) (v:qc):(qc.iface t v).dim = .iface t v:=rfl
theorem qyT (cs:List qc):(qc.agg cs).dim = .agg cs:=rfl
theorem qls (cs:List qc):(qc.tup cs).dim = .tup cs:=rfl
theorem qjH (v:qc):v.dim.dim = v.dim:=by
 cases v with
 | lst xs f=>cases f <;> rfl
 | _=>rfl
def qgz (dst:Option Nat) (s:St):Option qc→Option (Ex×St)
 | some v=>some (.nor,{ s with t:=put dst v s.t})
 | none=>none
theorem qti (dst:Option Nat) (t:List qc) (h:List qx) (e:Bool) (v:qc):qgz dst ⟨t,h,e⟩ (some v) = some (.nor,⟨put dst v t,h,e⟩):=rfl
theorem qdN (f:St→Option (Ex×St)) (s:St):qcd f (some (.nor,s)) = f s:=rfl
theorem qr9 (f:St→Option (Ex×St)) (s:St):qcd f (some (.ret,s)) = some (.ret,s):=rfl
theorem qno (f:St→Option (Ex×St)) (id:Nat) (s:St):qcd f (some (.exit id,s)) = some (.exit id,s):=rfl
theorem qtc (f:St→Option (Ex×St)) (v:qc) (s:St):qcd f (some (.pan v,s)) = some (.pan v,s):=rfl
theorem qn9 (id:Nat) (s:St):qc7 id (some (.nor,s)) = some (.nor,s):=rfl
theorem qmZ (id:Nat) (s:St):qc7 id (some (.ret,s)) = some (.ret,s):=rfl
theorem qna (id:Nat) (v:qc) (s:St):qc7 id (some (.pan v,s)) = some (.pan v,s):=rfl
theorem qlC (id j:Nat) (s:St):qc7 id (some (.exit j,s)) = if j = id then some (.nor,s) else some (.exit j,s):=rfl
def qxz (v:qc) (a b:Option (Ex×St)):Option (Ex×St):=
 match v with
 | .bool true=>a
 | .bool false=>b
 | _=>none
theorem qv0 (q:qz) (a b:qV) (s:St):qH base call (.cond q a b) s = qxz (ev s.t q) (qH base call a s) (qH base call b s):=qob q a b s
def qmw (v:qc) (b:Bool) (yes no:Option (Ex×St)):Option (Ex×St):=
 match v with
 | .bool c=>if c == b then yes else no
 | .tup []=>no
 | _=>none
theorem qyj:qa7 base call p [] s = some (.nor,s):=rfl
theorem qmB (d:Option Nat) (o:AOp) (os:List qbl):qa7 base call p (⟨d,o,none⟩ :: os) s = qcd (qa7 base call (qbb p ⟨d,o,none⟩) os) (qJ base call p d o s):=by
 simp only [qa7,wanted]
 unfold qcd
 split <;> split <;> simp_all
theorem qkt (d:Option Nat) (o:AOp) (j:Nat) (b:Bool) (os:List qbl) :
  qa7 base call p (⟨d,o,some (j,b)⟩ :: os) s = qmw (lkp s.t j) b (qcd (qa7 base call (qbb p ⟨d,o,some (j,b)⟩) os) (qJ base call p d o s))
   (qa7 base call (qbb p { dst:=d,op:=.pick (.c .undef) (.c .undef) (.c .undef),guard:=some (j,b)}) os { s with t:=put d (.tup []) s.t}):=by
 simp only [qa7,wanted,lkp]
 generalize s.t.getD j .undef = v
 cases v with
 | bool c=>
  simp only [qmw]
  cases hc:c == b with
  | false=>simp
  | true=>
   simp only [if_true]
   unfold qcd
   split <;> split <;> simp_all
 | tup vs=>cases vs <;> rfl
 | _=>rfl
theorem qAJ (d:Option Nat) (x:qz):qJ base call p d (.mov x) s = some (.nor,{ s with t:=put d (ev s.t x) s.t}):=rfl
theorem qBH (d:Option Nat) (x:qz):qJ base call p d (.asg x) s = some (.nor,{ s with t:=put d (raw s.t x) (qar s.t x)}):=rfl
def qcU (v a b:qc):Option qc:=
 match v with
 | .bool true=>some a
 | .bool false=>some b
 | _=>none
theorem qnB (a b:qc):qcU (.bool true) a b = some a:=rfl
theorem qkV (a b:qc):qcU (.bool false) a b = some b:=rfl
theorem qrB (d:Option Nat) (c a b:qz):qJ base call p d (.pick c a b) s = qgz d s (qcU (ev s.t c) (ev s.t a) (ev s.t b)):=by
 simp only [qJ,pureV]
 generalize ev s.t c = v
 cases v with
 | bool b=>cases b <;> rfl
 | _=>rfl
theorem qbr (d:Option Nat) (o:AOp) (ho:o.effs = false) (h1:∀cs,o ≠ .new cs) (h2:∀k x,o ≠ .box k x) (h3:∀k x,o ≠ .ld k x) (h4:∀sh z ok m key,o ≠ .lk sh z ok m key:=by simp):qJ base call p d o s = qgz d s (pureV s.t o):=by
 cases o <;> first | exact absurd rfl (h4 _ _ _ _ _) | (simp [AOp.effs] at ho h1 h2 h3 <;> (simp only [qJ];cases pureV s.t _ <;> rfl))
def faV (off:Nat):qc→Option qc
 | .ptr i o=>some (.ptr i (o + off))
 | .iptr cs o=>some (.iptr cs (o + off))
 | _=>none
theorem qwV (off i o:Nat):faV off (.ptr i o) = some (.ptr i (o + off)):=rfl
theorem qvz (off o:Nat) (cs:List qc):faV off (.iptr cs o) = some (.iptr cs (o + off)):=rfl
theorem qAV (d:Option Nat) (off:Nat) (a:qz):qJ base call p d (.fa off a) s = qgz d s (faV off (ev s.t a)):=by
 rw [qbr _ _ rfl (by simp) (by simp) (by simp)]
 simp only [pureV]
 cases ev s.t a <;> rfl
theorem qwN (d:Option Nat) (op:BinOp) (x y:qz):qJ base call p d (.bin op x y) s = qgz d s (qdb op (ev s.t x) (ev s.t y)):=qbr _ _ rfl (by simp) (by simp) (by simp)
theorem qBw (d:Option Nat) (op:UnOp) (x:qz):qJ base call p d (.un op x) s = qgz d s (unV op (ev s.t x)):=qbr _ _ rfl (by simp) (by simp) (by simp)
def qh1:qc→Option qc
 | .ptr i o=>some (.ptr i o)
 | .iptr cs o=>some (.iptr cs o)
 | .fn f a b=>some (.fn f a b)
 | .yld l=>some (.yld l)
 | .iface u v=>some (.iface u v)
 | _=>none
theorem qrS (d:Option Nat) (x:qz):qJ base call p d (.nilc x) s = qgz d s (qh1 (ev s.t x)):=by
 rw [qbr _ _ rfl (by simp) (by simp) (by simp)]
 simp only [pureV]
 cases ev s.t x <;> rfl
theorem qq3 (i o:Nat):qh1 (.ptr i o) = some (.ptr i o):=rfl
theorem qoc (cs:List qc) (o:Nat):qh1 (.iptr cs o) = some (.iptr cs o):=rfl
def qmt (b:Bool) (v:qc):Option qc:=
 match b,v with
 | true,.str s=>some (.int .i64 s.length)
 | false,.lst xs _=>some (.int .i64 xs.length)
 | false,.sl _ _ len _ _=>some (.int .i64 len)
 | false,.nils=>some (.int .i64 0)
 | false,.empt=>some (.int .i64 0)
 | _,_=>none
theorem qwP (d:Option Nat) (b:Bool) (x:qz):qJ base call p d (.len b x) s = qgz d s (qmt b (ev s.t x)):=by
 rw [qbr _ _ rfl (by simp) (by simp) (by simp)]
 cases b <;> simp only [pureV] <;> cases ev s.t x <;> rfl
theorem qvw (s:List UInt8):qmt true (.str s) = some (.int .i64 s.length):=rfl
theorem qvg (xs:List qc) (f:qgA):qmt false (.lst xs f) = some (.int .i64 xs.length):=rfl
def qhM (k:Nat) (s i:qc):Option qc:=
 match s,i with
 | .lst xs _,.int _ n=>
  if 0 ≤ n∧n < xs.length then
   match xs[n.toNat]? with
   | some x=>if x.cells.length = k then some (.iptr x.cells 0) else none
   | none=>none
  else none
 | .sl id o len _ _,.int _ n=>if 0 ≤ n∧n < len then some (.ptr id (o + n.toNat * k)) else none
 | _,_=>none
theorem qsQ (d:Option Nat) (k:Nat) (x i:qz):qJ base call p d (.ixaL k x i) s = qgz d s (qhM k (ev s.t x) (ev s.t i)):=by
 rw [qbr _ _ rfl (by simp) (by simp) (by simp)]
 simp only [pureV]
 cases ev s.t x <;> cases ev s.t i <;> rfl
theorem qcP {k:Nat} {xs:List qc} {f:qgA} {j:IntKind} {n:Nat} {x:qc} (hx:xs[n]? = some x) (hk:x.cells.length = k):qhM k (.lst xs f) (.int j n) = some (.iptr x.cells 0):=by
 have hn:n < xs.length:=(List.getElem?_eq_some_iff.1 hx).1
 simp only [qhM,Int.toNat_natCast,hx]
 rw [if_pos ⟨by omega,by omega⟩,if_pos hk]
def quJ (off:Nat) (k:Option Nat):qc→Option qc
 | .agg cs=>cut cs off k
 | _=>none
theorem qtL (off:Nat) (k:Option Nat) (cs:List qc):quJ off k (.agg cs) = cut cs off k:=rfl
theorem qwx (d:Option Nat) (off:Nat) (k:Option Nat) (x:qz):qJ base call p d (.fld off k x) s = qgz d s (quJ off k (ev s.t x)):=by
 rw [qbr _ _ rfl (by simp) (by simp) (by simp)]
 simp only [pureV]
 cases ev s.t x <;> rfl
theorem qvC (d:Option Nat) (z:List qc) (ps:List (Nat×Nat×qz)):qJ base call p d (.build z ps) s = qgz d s ((qu z (ps.map fun (o,n,x)=>(o,n,ev s.t x))).map .agg):=qbr _ _ rfl (by simp) (by simp) (by simp)
theorem qAe (d:Option Nat) (cs:List qc):qJ base call p d (.new cs) s = some (.nor,{ s with t:=put d (.ptr s.h.length 0) s.t,h:=s.h ++ [.cells (cs.map qc.dim)]}):=rfl
theorem qBz (d:Option Nat) (k:Option Nat) (a:qz):qJ base call p d (.ld k a) s = qgz d s (qee s.h (ev s.t a) k):=by
 simp only [qJ]
 cases qee s.h (ev s.t a) k <;> rfl
theorem qsI (cs:List qc) (o:Nat) (k:Option Nat):qee h (.iptr cs o) k = cut cs o k:=rfl
theorem qmx (cs:List qc) (o:Nat):cut cs o none = (cs[o]?).map qc.dim:=rfl
theorem qdS {cs:List qc} {o k:Nat} (h:o + k ≤ cs.length):cut cs o (some k) = some (.agg (((cs.drop o).take k).map qc.dim)):=if_pos h
def stV (base:Nat) (k:Option Nat) (a v:qc) (h:List qx):Option (List qx×Bool):=
 match a with
 | .ptr id o=>
  match h[id]? with
  | some (.cells cs)=>
   let vs:=match k with | none=>[v] | some _=>v.dim.cells.map qc.dim
   if vs.length = k.getD 1∧o + vs.length ≤ cs.length∧vs.all qc.storable then
    some (h.set id (.cells (splice cs o vs)),!(Nat.ble base id || qD (id + 1) vs))
   else none
  | _=>none
 | _=>none
def stW (d:Option Nat) (t:List qc) (e:Bool):Option (List qx×Bool)→Option (Ex×St)
 | some (h,e')=>some (.nor,{ t:=put d .undef t,h,e:=e || e'})
 | none=>none
theorem qws (d:Option Nat) (t:List qc) (e e':Bool) (h:List qx):stW d t e (some (h,e')) = some (.nor,⟨put d .undef t,h,e || e'⟩):=rfl
theorem qDT (d:Option Nat) (k:Option Nat) (a x:qz):qJ base call p d (.st k a x) s = stW d (qar s.t x) s.e (stV base k (ev s.t a) (raw s.t x) s.h):=by
 simp only [qJ,stV]
 cases ev s.t a with
 | ptr id o=>
  simp only
  cases s.h[id]? with
  | none=>rfl
  | some b=>
   cases b with
   | cells cs=>cases k <;> (simp only;split <;> rfl)
   | _=>rfl
 | _=>rfl
end
section
variable {base:Nat} {call:Call} {p:qdp} {s:St} {t:List qc} {h:List qx}
def qyJ (d:Option Nat) (s:St):Option (qeh×List qx×Bool)→Option (Ex×St)
 | some (.ret v,h,e)=>some (.nor,{ t:=put d v.dim s.t,h,e:=s.e || e})
 | some (.pan v,h,e)=>some (.pan v,{ s with h,e:=s.e || e})
 | none=>none
theorem qzp (d:Option Nat) (f:qz) (args:List qz):qJ base call p d (.call f args) s = qyJ d s (call (ev s.t f) (args.map (ev s.t)) s.h):=by
 simp only [qJ]
 cases call (ev s.t f) (args.map (ev s.t)) s.h with
 | none=>rfl
 | some r=>obtain ⟨r,h,e⟩:=r;cases r <;> rfl
theorem qpE (d:Option Nat) (t:List qc) (h h':List qx) (e e':Bool) (v:qc):qyJ d ⟨t,h,e⟩ (some (.ret v,h',e')) = some (.nor,⟨put d v.dim t,h',e || e'⟩):=rfl
theorem qsh (d:Option Nat) (t:List qc) (h h':List qx) (e e':Bool) (v:qc):qyJ d ⟨t,h,e⟩ (some (.pan v,h',e')) = some (.pan v,⟨t,h',e || e'⟩):=rfl
theorem qwy (h l:List qx):(h ++ l)[h.length]? = l[0]?:=by rw [List.getElem?_append_right (Nat.le_refl _),Nat.sub_self]
theorem qbj (h l:List qx) (k:Nat):(h ++ l)[h.length + k]? = l[k]?:=by rw [List.getElem?_append_right (by omega),Nat.add_sub_cancel_left]
theorem qwD (h l:List qx) (b:qx):(h ++ l).set h.length b = h ++ l.set 0 b:=by rw [List.set_append_right _ _ (Nat.le_refl _),Nat.sub_self]
theorem qmS (h l:List qx) (k:Nat) (b:qx):(h ++ l).set (h.length + k) b = h ++ l.set k b:=by rw [List.set_append_right _ _ (by omega),Nat.add_sub_cancel_left]
theorem qcv {h l:List qx} {i:Nat} (hi:i < h.length):(h ++ l)[i]? = h[i]?:=List.getElem?_append_left hi
theorem qxZ {h l:List qx} {i:Nat} {b:qx} (hi:i < h.length):(h ++ l).set i b = h.set i b ++ l:=List.set_append_left _ _ hi
theorem qtr {n:Nat} {h l:List qx} {v:qc} (hl:h.length = n) (hv:v.lower n = true):qbp n (.ret v) (h ++ l) false = (.ret v,h,false):=by subst hl;simp [qbp,hv]
theorem qnQ {n:Nat} {h:List qx} {v:qc} (hl:h.length = n) (hv:v.lower n = true):qbp n (.ret v) h false = (.ret v,h,false):=by subst hl;simp [qbp,hv]
theorem qpn {n:Nat} {h l:List qx} {v:qc} (hl:h.length = n) (hv:v.lower n = true):qbp n (.pan v) (h ++ l) false = (.pan v,h,false):=by subst hl;simp [qbp,hv]
theorem qoI {n:Nat} {h:List qx} {v:qc} (hl:h.length = n) (hv:v.lower n = true):qbp n (.pan v) h false = (.pan v,h,false):=by subst hl;simp [qbp,hv]
theorem qb7 {n:Nat} {H h:List qx} {v:qc} (hc:H.take n = h) (hv:v.lower n = true):qbp n (.ret v) H false = (.ret v,h,false):=by simp [qbp,hv,hc]
theorem qa6 {n:Nat} {H h:List qx} {v:qc} (hc:H.take n = h) (hv:v.lower n = true):qbp n (.pan v) H false = (.pan v,h,false):=by simp [qbp,hv,hc]
theorem qfH (h:List qx) (i:Nat) (a b:qx):(h.set i a).set i b = h.set i b:=List.set_set ..
theorem qcE {h l:List qx} {n:Nat} (hl:h.length = n):(h ++ l)[n]? = l[0]?:=by subst hl;exact qwy h l
theorem qxc {h l:List qx} {n:Nat} {b:qx} (hl:h.length = n):(h ++ l).set n b = h ++ l.set 0 b:=by subst hl;exact qwD h l b
theorem qsN {h l:List qx} {n k:Nat} (hl:h.length = n):(h ++ l)[n + k]? = l[k]?:=by subst hl;exact qbj h l k
theorem qrZ {h l:List qx} {n k:Nat} {b:qx} (hl:h.length = n):(h ++ l).set (n + k) b = h ++ l.set k b:=by subst hl;exact qmS h l k b
theorem qcx {h:List qx} {i j:Nat} {b:qx} (hij:i ≠ j):(h.set i b)[j]? = h[j]?:=List.getElem?_set_ne hij
theorem qep {h:List qx} {i:Nat} {b:qx} (hi:i < h.length):(h.set i b)[i]? = some b:=List.getElem?_set_self hi
end
section
variable {base:Nat} {call:Call} {p:qdp} {s:St}
def qE8 (d:Option Nat) (s:St) (k:Nat) (vs:List qc):Option (Ex×St):=
 if vs.length = k∧vs.all qc.storable then some (.nor,{ s with t:=put d (.ptr s.h.length 0) s.t,h:=s.h ++ [.cells vs]}) else none
theorem qAi (d:Option Nat) (k:Nat) (x:qz):qJ base call p d (.box k x) s = qE8 d s k ((ev s.t x).cells.map qc.dim):=rfl
theorem qzi (d:Option Nat) (t:List qc) (h:List qx) (e:Bool) (k:Nat) (vs:List qc):qE8 d ⟨t,h,e⟩ k vs = if vs.length = k∧vs.all qc.storable then some (.nor,⟨put d (.ptr h.length 0) t,h ++ [.cells vs],e⟩) else none:=rfl
def qtD (ty:TypeId) (v:qc):Option qc:=
 match v with
 | .undef=>none
 | v=>some (.iface ty v)
theorem qwG (d:Option Nat) (ty:TypeId) (x:qz):qJ base call p d (.mkI ty x) s = qgz d s (qtD ty (ev s.t x)):=by
 rw [qbr _ _ rfl (by simp) (by simp) (by simp)]
 simp only [pureV]
 cases ev s.t x <;> rfl
theorem qv6 (ty:TypeId) (cs:List qc):qtD ty (.agg cs) = some (.iface ty (.agg cs)):=rfl
theorem qvu (ty:TypeId) (k:IntKind) (n:Int):qtD ty (.int k n) = some (.iface ty (.int k n)):=rfl
theorem qAR (d:Option Nat) (f:FuncId) (a b:List qz):qJ base call p d (.mkF f a b) s = some (.nor,{ s with t:=put d (.fn f (a.map (ev s.t)) (b.map (ev s.t))) s.t}):=rfl
def qeL (s i:qc):Option qc:=
 match s,i with
 | .str l,.int _ n=>if 0 ≤ n then (l[n.toNat]?).map fun b=>.int .u8 b.toNat else none
 | _,_=>none
theorem qwH (d:Option Nat) (x i:qz):qJ base call p d (.ixS x i) s = qgz d s (qeL (ev s.t x) (ev s.t i)):=by
 rw [qbr _ _ rfl (by simp) (by simp) (by simp)]
 simp only [pureV]
 cases ev s.t x <;> cases ev s.t i <;> rfl
theorem qba {l:List UInt8} {k:IntKind} {n:Nat} {b:UInt8} (h:l[n]? = some b):qeL (.str l) (.int k n) = some (.int .u8 b.toNat):=by
 simp only [qeL,Int.toNat_natCast,h,Option.map_some]
 rw [if_pos (Int.natCast_nonneg n)]
def quU (i:Nat) (v:qc):Option qc:=
 match v with
 | .tup vs=>(vs[i]?).map qc.dim
 | _=>none
theorem qwA (d:Option Nat) (x:qz) (i:Nat):qJ base call p d (.ext x i) s = qgz d s (quU i (ev s.t x)):=by
 rw [qbr _ _ rfl (by simp) (by simp) (by simp)]
 simp only [pureV]
 cases ev s.t x <;> rfl
theorem quy (i:Nat) (vs:List qc):quU i (.tup vs) = (vs[i]?).map qc.dim:=rfl
def qk0 (neg:Bool) (x y:qc):Option qc:=
 match x,y with
 | .bool a,.bool b=>some (.bool ((a == b) != neg))
 | _,_=>none
theorem qwK (d:Option Nat) (neg:Bool) (x y:qz):qJ base call p d (.eqb neg x y) s = qgz d s (qk0 neg (ev s.t x) (ev s.t y)):=by
 rw [qbr _ _ rfl (by simp) (by simp) (by simp)]
 simp only [pureV]
 cases ev s.t x <;> cases ev s.t y <;> rfl
theorem qrt (neg a b:Bool):qk0 neg (.bool a) (.bool b) = some (.bool ((a == b) != neg)):=rfl
def qkL (k:Nat) (neg:Bool) (x y:qc):Option qc:=(qzP k x y).map fun b=>.bool (b != neg)
theorem qij (d:Option Nat) (k:Nat) (neg:Bool) (x y:qz):qJ base call p d (.eqi k neg x y) s = qgz d s (qkL k neg (ev s.t x) (ev s.t y)):=qbr _ _ rfl (by simp) (by simp) (by simp)
def qvL (k:IntKind) (v:qc):Option qc:=
 match v with
 | .int _ n=>some (.int k (k.wrap n))
 | _=>none
theorem qwR (d:Option Nat) (k:IntKind) (x:qz):qJ base call p d (.cvi k x) s = qgz d s (qvL k (ev s.t x)):=by
 rw [qbr _ _ rfl (by simp) (by simp) (by simp)]
 simp only [pureV]
 cases ev s.t x <;> rfl
theorem quO (k j:IntKind) (n:Int):qvL k (.int j n) = some (.int k (k.wrap n)):=rfl
def mmV (isMax:Bool) (x y:qc):Option qc:=
 match x,y with
 | .int k a,.int _ b=>some (.int k (if isMax then (if b > a then b else a) else (if b < a then b else a)))
 | _,_=>none
theorem qAO (d:Option Nat) (m:Bool) (x y:qz):qJ base call p d (.mm m x y) s = qgz d s (mmV m (ev s.t x) (ev s.t y)):=by
 rw [qbr _ _ rfl (by simp) (by simp) (by simp)]
 simp only [pureV]
 cases ev s.t x <;> cases ev s.t y <;> rfl
theorem qBn (k j:IntKind) (a b:Nat):mmV true (.int k (a:Int)) (.int j (b:Int)) = some (.int k ((max a b:Nat):Int)):=by
 simp only [mmV,if_true]
 congr 2
 split <;> omega
theorem qxi (k j:IntKind) (a b:Int):mmV false (.int k a) (.int j b) = some (.int k (if b < a then b else a)):=rfl
def qFA (s:St) (v:qc):Option (Ex×St):=
 match v with
 | .iface u v=>some (.pan (.iface u v),s)
 | _=>none
theorem qz8 (d:Option Nat) (x:qz):qJ base call p d (.pan x) s = qFA s (ev s.t x):=by
 simp only [qJ]
 cases ev s.t x <;> rfl
theorem qnN (s:St) (u:TypeId) (v:qc):qFA s (.iface u v) = some (.pan (.iface u v),s):=rfl
end
section
variable {base:Nat} {call:Call} {p:qdp} {s:St}
def qjj (len:Nat) (k:Option Nat) (a i:qc):Option qc:=
 match a,i with
 | .agg cs,.int _ n=>if 0 ≤ n∧n < (len:Int) then cut cs (n.toNat * k.getD 1) k else none
 | _,_=>none
theorem qwB (d:Option Nat) (len:Nat) (k:Option Nat) (a i:qz):qJ base call p d (.ixA len k a i) s = qgz d s (qjj len k (ev s.t a) (ev s.t i)):=by
 rw [qbr _ _ rfl (by simp) (by simp) (by simp)]
 simp only [pureV]
 cases ev s.t a <;> cases ev s.t i <;> rfl
theorem qmR {len n:Nat} {j:IntKind} {cs:List qc} {v:qc} (hn:n < len) (hv:cs[n]? = some v):qjj len none (.agg cs) (.int j n) = some v.dim:=by
 simp only [qjj]
 rw [if_pos ⟨by omega,by omega⟩]
 simp only [Int.toNat_natCast,Option.getD_none,Nat.mul_one,qmx,hv,Option.map_some]
end
section
variable {base:Nat} {call:Call} {p q:qdp} {s:St} {t:List qc} {h:List qx}
def AOp.isApp:AOp→Bool
 | .app ..=>true
 | _=>false
def qf:List qbl→Bool
 | []=>true
 | o :: os=>!o.op.isApp && qf os
def qe (s:St):AOp→Option qc
 | .mov x=>some (ev s.t x)
 | .pick c a b=>qcU (ev s.t c) (ev s.t a) (ev s.t b)
 | .ld k a=>qee s.h (ev s.t a) k
 | .bin op x y=>qdb op (ev s.t x) (ev s.t y)
 | .un op x=>unV op (ev s.t x)
 | .fa off a=>faV off (ev s.t a)
 | .nilc x=>qh1 (ev s.t x)
 | .len b x=>qmt b (ev s.t x)
 | .ixaL k x i=>qhM k (ev s.t x) (ev s.t i)
 | .fld off k x=>quJ off k (ev s.t x)
 | .ixS x i=>qeL (ev s.t x) (ev s.t i)
 | .ixA l k a i=>qjj l k (ev s.t a) (ev s.t i)
 | .ext x i=>quU i (ev s.t x)
 | .eqb n x y=>qk0 n (ev s.t x) (ev s.t y)
 | .eqi k n x y=>qkL k n (ev s.t x) (ev s.t y)
 | .cvi k x=>qvL k (ev s.t x)
 | .mm m x y=>mmV m (ev s.t x) (ev s.t y)
 | .mkI t x=>qtD t (ev s.t x)
 | .lk sh z ok m key=>qmN s.h sh z ok (ev s.t m) (ev s.t key)
 | o=>pureV s.t o
def AOp.plain:AOp→Bool
 | .asg .. | .new .. | .box .. | .st .. | .call .. | .app .. | .pan .. | .hx ..=>false
 | _=>true
theorem qhf {d:Option Nat} {o:AOp} (ho:o.plain = true):qJ base call p d o s = qgz d s (qe s o):=by
 cases o <;> simp only [AOp.plain,Bool.false_eq_true] at ho
 case mov=>rfl
 case pick=>exact qrB _ _ _ _
 case ld=>exact qBz _ _ _
 case bin=>exact qwN _ _ _ _
 case un=>exact qBw _ _ _
 case fa=>exact qAV _ _ _
 case nilc=>exact qrS _ _
 case len=>exact qwP _ _ _
 case ixaL=>exact qsQ _ _ _ _
 case fld=>exact qwx _ _ _ _
 case ixS=>exact qwH _ _ _
 case ixA=>exact qwB _ _ _ _ _
 case ext=>exact qwA _ _ _
 case eqb=>exact qwK _ _ _ _
 case eqi=>exact qij _ _ _ _ _
 case cvi=>exact qwR _ _ _
 case mm=>exact qAO _ _ _ _
 case mkI=>exact qwG _ _ _
 case lk sh z ok m key=>simp only [qJ,qe];generalize qmN s.h sh z ok (ev s.t m) (ev s.t key) = r;cases r <;> rfl
 all_goals (simp only [qJ,qe];generalize pureV s.t _ = r;cases r <;> rfl)
theorem qiv {d:Option Nat} {o:AOp} (ho:o.isApp = false):qJ base call p d o s = qJ base call q d o s:=by
 cases o <;> first | rfl | (simp [AOp.isApp] at ho)
def gv (q:Bool) (v:qc):qc:=bif q then v else .tup []
def qE (q:Bool) (d:Option Nat) (s:St) (r:Option qc) (k:St→Option (Ex×St)):Option (Ex×St):=
 bif q then (match r with | some v=>k { s with t:=put d v s.t} | none=>none) else k { s with t:=put d (.tup []) s.t}
def qaQ (c:Bool) (r:Option qc):Option qc:=bif c then r else some (.tup [])
def qfB (g:qc) (b:Bool) (d:Option Nat) (s:St) (r:Option qc) (k:St→Option (Ex×St)):Option (Ex×St):=
 match g with
 | .bool c=>qE (c == b) d s r k
 | .tup []=>qE false d s r k
 | _=>none
def qfu (g:qc) (b:Bool) (d:Option Nat) (s:St) (r:Option (Ex×St)) (k:St→Option (Ex×St)):Option (Ex×St):=
 match g with
 | .bool c=>bif c == b then qcd k r else k { s with t:=put d (.tup []) s.t}
 | .tup []=>k { s with t:=put d (.tup []) s.t}
 | _=>none
def qhL (base:Nat) (call:Call):List qbl→St→Option (Ex×St)
 | [],s=>some (.nor,s)
 | o :: os,s=>
  match o.guard with
  | none=>qcd (qhL base call os) (qJ base call [] o.dst o.op s)
  | some (j,b)=>
   match o.op.plain with
   | true=>qfB (lkp s.t j) b o.dst s (qe s o.op) (qhL base call os)
   | false=>qfu (lkp s.t j) b o.dst s (qJ base call [] o.dst o.op s) (qhL base call os)
theorem qma:∀(os:List qbl) (p:qdp) (s:St),qf os = true→qa7 base call p os s = qhL base call os s
 | [],p,s,_=>rfl
 | o :: os,p,s,hn=>by
  simp only [qf,Bool.and_eq_true,Bool.not_eq_true'] at hn
  obtain ⟨d,op,g⟩:=o
  have ih:=fun p s=>qma os p s hn.2
  cases g with
  | none=>
   simp only [qmB,qhL]
   rw [qiv (q:=[]) hn.1]
   congr 1
   funext s
   exact ih _ s
  | some jb=>
   obtain ⟨j,b⟩:=jb
   simp only [qkt,qhL]
   have e1:(qa7 base call (qbb p ⟨d,op,some (j,b)⟩) os) = qhL base call os:=funext fun s=>ih _ s
   rw [e1,ih,qiv (q:=[]) hn.1]
   cases hpl:op.plain with
   | true=>
    simp only
    rw [qhf hpl]
    generalize qe s op = r
    generalize lkp s.t j = g
    cases g with
    | bool c=>
     simp only [qmw,qfB,qE]
     cases c == b with
     | true=>cases r <;> rfl
     | false=>rfl
    | tup vs=>cases vs <;> rfl
    | _=>rfl
   | false=>
    simp only
    generalize lkp s.t j = g
    cases g with
    | bool c=>
     simp only [qmw,qfu]
     cases c == b <;> rfl
    | tup vs=>cases vs <;> rfl
    | _=>rfl
theorem qDj {ops:List qbl} (hn:qf ops = true):qH base call (.reg ops) s = qhL base call ops s:=by
 rw [qgY,qma ops [] s hn]
theorem qyH {ops:List qbl} (_hn:qf ops = false):qH base call (.reg ops) s = qa7 base call [] ops s:=qgY ops s
theorem qD7:qhL base call [] s = some (.nor,s):=rfl
theorem qBX (d:Option Nat) (o:AOp) (os:List qbl):qhL base call (⟨d,o,none⟩ :: os) s = qcd (qhL base call os) (qJ base call [] d o s):=rfl
theorem qxI (d:Option Nat) (o:AOp) (j:Nat) (b:Bool) (os:List qbl) (ho:o.plain = true):qhL base call (⟨d,o,some (j,b)⟩ :: os) s = qfB (lkp s.t j) b d s (qe s o) (qhL base call os):=by
 simp only [qhL,ho]
theorem qxu (d:Option Nat) (o:AOp) (j:Nat) (b:Bool) (os:List qbl) (ho:o.plain = false):qhL base call (⟨d,o,some (j,b)⟩ :: os) s = qfu (lkp s.t j) b d s (qJ base call [] d o s) (qhL base call os):=by
 simp only [qhL,ho]
theorem qqH (q c b:Bool) (d:Option Nat) (s:St) (r:Option qc) (k:St→Option (Ex×St)):qfB (gv q (.bool c)) b d s r k = qE q d s (qaQ (c == b) r) k:=by
 cases q <;> cases c <;> cases b <;> rfl
theorem qmW (q x c b:Bool) (d:Option Nat) (s:St) (r:Option qc) (k:St→Option (Ex×St)):qfB (gv q (gv x (.bool c))) b d s r k = qE q d s (qaQ x (qaQ (c == b) r)) k:=by
 cases q <;> cases x <;> cases c <;> cases b <;> rfl
theorem qk8 (q:Bool) (d:Nat) (t:List qc) (h:List qx) (e:Bool) (v:qc) (k:St→Option (Ex×St)):qE q (some d) ⟨t,h,e⟩ (some v) k = k ⟨up t d (gv q v),h,e⟩:=by
 cases q <;> rfl
theorem qs0 (c:Bool) (v:qc):qaQ c (some v) = some (gv c v):=by cases c <;> rfl
theorem qm3 (b:Bool) (d:Option Nat) (s:St) (r:Option (Ex×St)) (k:St→Option (Ex×St)):qfu (.bool b) b d s r k = qcd k r:=by cases b <;> rfl
theorem qDh (q:Bool) (v:qc):gv q (gv q v) = gv q v:=by cases q <;> rfl
theorem qBV (q:Bool) (v:qc):(gv q v).dim = gv q v.dim:=by cases q <;> rfl
theorem qu1 (c x:Bool):qcU (.bool c) (gv c (.bool x)) (.bool false) = some (.bool (c && x)):=by cases c <;> rfl
theorem qyw (c x:Bool):qcU (.bool c) (.bool true) (gv (!c) (.bool x)) = some (.bool (c || x)):=by cases c <;> rfl
theorem qy1 (b:Bool):(b == true) = b:=by cases b <;> rfl
theorem qvt (b:Bool):(b == false) = !b:=by cases b <;> rfl
end
section
variable {s:St} {d:Option Nat} {k:St→Option (Ex×St)}
theorem qzd (q:Bool) (v:qc) :qE q d s (some (gv q v)) k = qE q d s (some v) k:=by cases q <;> rfl
theorem qyU (c:Bool) (v:qc) :qaQ c (some (gv c v)) = qaQ c (some v):=by cases c <;> rfl
theorem qrk (q c:Bool) (v:qc) :qE q d s (qaQ c (some (gv q v))) k = qE q d s (qaQ c (some v)) k:=by cases q <;> rfl
theorem qEQ (q:Bool) (v:qc) (h':List qx) (kk:Option Nat):qE q d s (qee h' (gv q v) kk) k = qE q d s (qee h' v kk) k:=by cases q <;> rfl
theorem qDi (c:Bool) (v:qc) (h':List qx) (kk:Option Nat):qaQ c (qee h' (gv c v) kk) = qaQ c (qee h' v kk):=by cases c <;> rfl
theorem qxP (q c:Bool) (v:qc) (h':List qx) (kk:Option Nat):qE q d s (qaQ c (qee h' (gv q v) kk)) k = qE q d s (qaQ c (qee h' v kk)) k:=by cases q <;> rfl
theorem qD9 (q:Bool) (v:qc) (o:Nat):qE q d s (faV o (gv q v)) k = qE q d s (faV o v) k:=by cases q <;> rfl
theorem qEl (c:Bool) (v:qc) (o:Nat):qaQ c (faV o (gv c v)) = qaQ c (faV o v):=by cases c <;> rfl
theorem qxM (q c:Bool) (v:qc) (o:Nat):qE q d s (qaQ c (faV o (gv q v))) k = qE q d s (qaQ c (faV o v)) k:=by cases q <;> rfl
theorem qAA (q:Bool) (v:qc) (b:Bool):qE q d s (qmt b (gv q v)) k = qE q d s (qmt b v) k:=by cases q <;> rfl
theorem qz5 (c:Bool) (v:qc) (b:Bool):qaQ c (qmt b (gv c v)) = qaQ c (qmt b v):=by cases c <;> rfl
theorem qu0 (q c:Bool) (v:qc) (b:Bool):qE q d s (qaQ c (qmt b (gv q v))) k = qE q d s (qaQ c (qmt b v)) k:=by cases q <;> rfl
theorem qA5 (q:Bool) (v:qc) (o:Nat) (kk:Option Nat):qE q d s (quJ o kk (gv q v)) k = qE q d s (quJ o kk v) k:=by cases q <;> rfl
theorem qBT (c:Bool) (v:qc) (o:Nat) (kk:Option Nat):qaQ c (quJ o kk (gv c v)) = qaQ c (quJ o kk v):=by cases c <;> rfl
theorem qvq (q c:Bool) (v:qc) (o:Nat) (kk:Option Nat):qE q d s (qaQ c (quJ o kk (gv q v))) k = qE q d s (qaQ c (quJ o kk v)) k:=by cases q <;> rfl
theorem qCY (q:Bool) (v:qc) (op:UnOp):qE q d s (unV op (gv q v)) k = qE q d s (unV op v) k:=by cases q <;> rfl
theorem qCw (c:Bool) (v:qc) (op:UnOp):qaQ c (unV op (gv c v)) = qaQ c (unV op v):=by cases c <;> rfl
theorem qw6 (q c:Bool) (v:qc) (op:UnOp):qE q d s (qaQ c (unV op (gv q v))) k = qE q d s (qaQ c (unV op v)) k:=by cases q <;> rfl
theorem qx7 (q:Bool) (v:qc) :qE q d s (qh1 (gv q v)) k = qE q d s (qh1 v) k:=by cases q <;> rfl
theorem qxb (c:Bool) (v:qc) :qaQ c (qh1 (gv c v)) = qaQ c (qh1 v):=by cases c <;> rfl
theorem qtv (q c:Bool) (v:qc) :qE q d s (qaQ c (qh1 (gv q v))) k = qE q d s (qaQ c (qh1 v)) k:=by cases q <;> rfl
theorem qz1 (q:Bool) (v:qc) (o:Nat):qE q d s (quU o (gv q v)) k = qE q d s (quU o v) k:=by cases q <;> rfl
theorem qBs (c:Bool) (v:qc) (o:Nat):qaQ c (quU o (gv c v)) = qaQ c (quU o v):=by cases c <;> rfl
theorem qvk (q c:Bool) (v:qc) (o:Nat):qE q d s (qaQ c (quU o (gv q v))) k = qE q d s (qaQ c (quU o v)) k:=by cases q <;> rfl
theorem qBv (q:Bool) (v:qc) (ik:IntKind):qE q d s (qvL ik (gv q v)) k = qE q d s (qvL ik v) k:=by cases q <;> rfl
theorem qBp (c:Bool) (v:qc) (ik:IntKind):qaQ c (qvL ik (gv c v)) = qaQ c (qvL ik v):=by cases c <;> rfl
theorem qvF (q c:Bool) (v:qc) (ik:IntKind):qE q d s (qaQ c (qvL ik (gv q v))) k = qE q d s (qaQ c (qvL ik v)) k:=by cases q <;> rfl
theorem qAQ (q:Bool) (v:qc) (ty:TypeId):qE q d s (qtD ty (gv q v)) k = qE q d s (qtD ty v) k:=by cases q <;> rfl
theorem qBW (c:Bool) (v:qc) (ty:TypeId):qaQ c (qtD ty (gv c v)) = qaQ c (qtD ty v):=by cases c <;> rfl
theorem quY (q c:Bool) (v:qc) (ty:TypeId):qE q d s (qaQ c (qtD ty (gv q v))) k = qE q d s (qaQ c (qtD ty v)) k:=by cases q <;> rfl
theorem qAd (q:Bool) (v:qc) (w:qc):qE q d s (qeL (gv q v) w) k = qE q d s (qeL v w) k:=by cases q <;> rfl
theorem qBR (c:Bool) (v:qc) (w:qc):qaQ c (qeL (gv c v) w) = qaQ c (qeL v w):=by cases c <;> rfl
theorem qt6 (q c:Bool) (v:qc) (w:qc):qE q d s (qaQ c (qeL (gv q v) w)) k = qE q d s (qaQ c (qeL v w)) k:=by cases q <;> rfl
theorem qyf (q:Bool) (v:qc) (w:qc):qE q d s (qeL w (gv q v)) k = qE q d s (qeL w v) k:=by cases q <;> rfl
theorem qxa (c:Bool) (v:qc) (w:qc):qaQ c (qeL w (gv c v)) = qaQ c (qeL w v):=by cases c <;> rfl
theorem qp0 (q c:Bool) (v:qc) (w:qc):qE q d s (qaQ c (qeL w (gv q v))) k = qE q d s (qaQ c (qeL w v)) k:=by cases q <;> rfl
theorem qAZ (q:Bool) (v:qc) (o:Nat) (w:qc):qE q d s (qhM o (gv q v) w) k = qE q d s (qhM o v w) k:=by cases q <;> rfl
theorem qBb (c:Bool) (v:qc) (o:Nat) (w:qc):qaQ c (qhM o (gv c v) w) = qaQ c (qhM o v w):=by cases c <;> rfl
theorem qv7 (q c:Bool) (v:qc) (o:Nat) (w:qc):qE q d s (qaQ c (qhM o (gv q v) w)) k = qE q d s (qaQ c (qhM o v w)) k:=by cases q <;> rfl
theorem qyK (q:Bool) (v:qc) (o:Nat) (w:qc):qE q d s (qhM o w (gv q v)) k = qE q d s (qhM o w v) k:=by cases q <;> rfl
theorem qzc (c:Bool) (v:qc) (o:Nat) (w:qc):qaQ c (qhM o w (gv c v)) = qaQ c (qhM o w v):=by cases c <;> rfl
theorem qtx (q c:Bool) (v:qc) (o:Nat) (w:qc):qE q d s (qaQ c (qhM o w (gv q v))) k = qE q d s (qaQ c (qhM o w v)) k:=by cases q <;> rfl
theorem qz9 (q:Bool) (v:qc) (o:Nat) (kk:Option Nat) (w:qc):qE q d s (qjj o kk (gv q v) w) k = qE q d s (qjj o kk v w) k:=by cases q <;> rfl
theorem qAW (c:Bool) (v:qc) (o:Nat) (kk:Option Nat) (w:qc):qaQ c (qjj o kk (gv c v) w) = qaQ c (qjj o kk v w):=by cases c <;> rfl
theorem qtS (q c:Bool) (v:qc) (o:Nat) (kk:Option Nat) (w:qc):qE q d s (qaQ c (qjj o kk (gv q v) w)) k = qE q d s (qaQ c (qjj o kk v w)) k:=by cases q <;> rfl
theorem qye (q:Bool) (v:qc) (o:Nat) (kk:Option Nat) (w:qc):qE q d s (qjj o kk w (gv q v)) k = qE q d s (qjj o kk w v) k:=by cases q <;> rfl
theorem qx9 (c:Bool) (v:qc) (o:Nat) (kk:Option Nat) (w:qc):qaQ c (qjj o kk w (gv c v)) = qaQ c (qjj o kk w v):=by cases c <;> rfl
theorem qrw (q c:Bool) (v:qc) (o:Nat) (kk:Option Nat) (w:qc):qE q d s (qaQ c (qjj o kk w (gv q v))) k = qE q d s (qaQ c (qjj o kk w v)) k:=by cases q <;> rfl
theorem qAl (q:Bool) (v:qc) (op:BinOp) (w:qc):qE q d s (qdb op (gv q v) w) k = qE q d s (qdb op v w) k:=by cases q <;> rfl
theorem qzW (c:Bool) (v:qc) (op:BinOp) (w:qc):qaQ c (qdb op (gv c v) w) = qaQ c (qdb op v w):=by cases c <;> rfl
theorem qtT (q c:Bool) (v:qc) (op:BinOp) (w:qc):qE q d s (qaQ c (qdb op (gv q v) w)) k = qE q d s (qaQ c (qdb op v w)) k:=by cases q <;> rfl
theorem qyB (q:Bool) (v:qc) (op:BinOp) (w:qc):qE q d s (qdb op w (gv q v)) k = qE q d s (qdb op w v) k:=by cases q <;> rfl
theorem qyR (c:Bool) (v:qc) (op:BinOp) (w:qc):qaQ c (qdb op w (gv c v)) = qaQ c (qdb op w v):=by cases c <;> rfl
theorem qrf (q c:Bool) (v:qc) (op:BinOp) (w:qc):qE q d s (qaQ c (qdb op w (gv q v))) k = qE q d s (qaQ c (qdb op w v)) k:=by cases q <;> rfl
theorem qA2 (q:Bool) (v:qc) (b:Bool) (w:qc):qE q d s (qk0 b (gv q v) w) k = qE q d s (qk0 b v w) k:=by cases q <;> rfl
theorem qBm (c:Bool) (v:qc) (b:Bool) (w:qc):qaQ c (qk0 b (gv c v) w) = qaQ c (qk0 b v w):=by cases c <;> rfl
theorem quq (q c:Bool) (v:qc) (b:Bool) (w:qc):qE q d s (qaQ c (qk0 b (gv q v) w)) k = qE q d s (qaQ c (qk0 b v w)) k:=by cases q <;> rfl
theorem qyZ (q:Bool) (v:qc) (b:Bool) (w:qc):qE q d s (qk0 b w (gv q v)) k = qE q d s (qk0 b w v) k:=by cases q <;> rfl
theorem qzj (c:Bool) (v:qc) (b:Bool) (w:qc):qaQ c (qk0 b w (gv c v)) = qaQ c (qk0 b w v):=by cases c <;> rfl
theorem qsF (q c:Bool) (v:qc) (b:Bool) (w:qc):qE q d s (qaQ c (qk0 b w (gv q v))) k = qE q d s (qaQ c (qk0 b w v)) k:=by cases q <;> rfl
theorem qBE (q:Bool) (v:qc) (o:Nat) (b:Bool) (w:qc):qE q d s (qkL o b (gv q v) w) k = qE q d s (qkL o b v w) k:=by cases q <;> rfl
theorem qA1 (c:Bool) (v:qc) (o:Nat) (b:Bool) (w:qc):qaQ c (qkL o b (gv c v) w) = qaQ c (qkL o b v w):=by cases c <;> rfl
theorem qwa (q c:Bool) (v:qc) (o:Nat) (b:Bool) (w:qc):qE q d s (qaQ c (qkL o b (gv q v) w)) k = qE q d s (qaQ c (qkL o b v w)) k:=by cases q <;> rfl
theorem qw2 (q:Bool) (v:qc) (o:Nat) (b:Bool) (w:qc):qE q d s (qkL o b w (gv q v)) k = qE q d s (qkL o b w v) k:=by cases q <;> rfl
theorem qx8 (c:Bool) (v:qc) (o:Nat) (b:Bool) (w:qc):qaQ c (qkL o b w (gv c v)) = qaQ c (qkL o b w v):=by cases c <;> rfl
theorem qrR (q c:Bool) (v:qc) (o:Nat) (b:Bool) (w:qc):qE q d s (qaQ c (qkL o b w (gv q v))) k = qE q d s (qaQ c (qkL o b w v)) k:=by cases q <;> rfl
theorem qEc (q:Bool) (v:qc) (b:Bool) (w:qc):qE q d s (mmV b (gv q v) w) k = qE q d s (mmV b v w) k:=by cases q <;> rfl
theorem qEj (c:Bool) (v:qc) (b:Bool) (w:qc):qaQ c (mmV b (gv c v) w) = qaQ c (mmV b v w):=by cases c <;> rfl
theorem qzs (q c:Bool) (v:qc) (b:Bool) (w:qc):qE q d s (qaQ c (mmV b (gv q v) w)) k = qE q d s (qaQ c (mmV b v w)) k:=by cases q <;> rfl
theorem qAI (q:Bool) (v:qc) (b:Bool) (w:qc):qE q d s (mmV b w (gv q v)) k = qE q d s (mmV b w v) k:=by cases q <;> rfl
theorem qz0 (c:Bool) (v:qc) (b:Bool) (w:qc):qaQ c (mmV b w (gv c v)) = qaQ c (mmV b w v):=by cases c <;> rfl
theorem qud (q c:Bool) (v:qc) (b:Bool) (w:qc):qE q d s (qaQ c (mmV b w (gv q v))) k = qE q d s (qaQ c (mmV b w v)) k:=by cases q <;> rfl
theorem qxf (q:Bool) (v:qc) (w z:qc):qE q d s (qcU (gv q v) w z) k = qE q d s (qcU v w z) k:=by cases q <;> rfl
theorem qxV (c:Bool) (v:qc) (w z:qc):qaQ c (qcU (gv c v) w z) = qaQ c (qcU v w z):=by cases c <;> rfl
theorem qpz (q c:Bool) (v:qc) (w z:qc):qE q d s (qaQ c (qcU (gv q v) w z)) k = qE q d s (qaQ c (qcU v w z)) k:=by cases q <;> rfl
theorem qvK (q:Bool) (v:qc) (w z:qc):qE q d s (qcU w (gv q v) z) k = qE q d s (qcU w v z) k:=by cases q <;> rfl
theorem quf (c:Bool) (v:qc) (w z:qc):qaQ c (qcU w (gv c v) z) = qaQ c (qcU w v z):=by cases c <;> rfl
theorem qoa (q c:Bool) (v:qc) (w z:qc):qE q d s (qaQ c (qcU w (gv q v) z)) k = qE q d s (qaQ c (qcU w v z)) k:=by cases q <;> rfl
theorem qtU (q:Bool) (v:qc) (w z:qc):qE q d s (qcU w z (gv q v)) k = qE q d s (qcU w z v) k:=by cases q <;> rfl
theorem qwf (c:Bool) (v:qc) (w z:qc):qaQ c (qcU w z (gv c v)) = qaQ c (qcU w z v):=by cases c <;> rfl
theorem qnq (q c:Bool) (v:qc) (w z:qc):qE q d s (qaQ c (qcU w z (gv q v))) k = qE q d s (qaQ c (qcU w z v)) k:=by cases q <;> rfl
end
section
variable {base:Nat} {call:Call} {s:St}
def qhg:List Nat→List qT→Bool
 | _,[]=>true
 | seen,d :: ds=>(bif d.o.op.effs then ds.isEmpty && seen.all (fun i=>d.cl.testBit i) else true) && qhg (d.ix :: seen) ds
def qtd (dsts:List Nat):Option (Ex×St)→Option (Ex×St)
 | some (.pan v,s)=>some (.pan v,{ s with t:=qcS dsts s.t})
 | r=>r
theorem qAa {base:Nat} {call:Call} {p:qdp} {d:Option Nat} {o:AOp} {s s':St} {x:Ex} (ho:o.effs = false) (h:qJ base call p d o s = some (x,s')):x = .nor:=by
 cases o <;> simp only [AOp.effs,Bool.true_eq_false] at ho
 case new=>simp only [qJ,Option.some.injEq,Prod.mk.injEq] at h;exact h.1.symm
 case box=>
  simp only [qJ] at h
  split at h
  ·cases h;rfl
  ·cases h
 case ld=>
  simp only [qJ] at h
  cases hl:qee s.h (ev s.t _) _ with
  | none=>rw [hl] at h;cases h
  | some v=>rw [hl] at h;cases h;rfl
 case lk sh z ok m key=>
  simp only [qJ] at h
  cases hl:qmN s.h sh z ok (ev s.t m) (ev s.t key) with
  | none=>rw [hl] at h;cases h
  | some v=>rw [hl] at h;cases h;rfl
 all_goals
  simp only [qJ] at h
  revert h
  generalize pureV s.t _ = r
  intro h
  cases r <;> cases h
  rfl
theorem qth (dsts:List Nat) (s:St):qtd dsts (some (.nor,s)) = some (.nor,s):=rfl
theorem qqW (dsts:List Nat) (v:qc) (t:List qc) (h:List qx) (e:Bool):qtd dsts (some (.pan v,⟨t,h,e⟩)) = some (.pan v,⟨qcS dsts t,h,e⟩):=rfl
theorem qyP (dsts:List Nat):∀(ds:List qT) (seen:List Nat) (pend:List (Nat×Chk)) (s:St),qhg seen ds = true→(∀c ∈ pend,c.1 ∈ seen)→
  qL base call dsts ds pend s = qtd dsts (qhL base call (ds.map (·.o)) s)
 | [],_,_,s,_,_=>rfl
 | d :: ds,seen,pend,s,hd,hp=>by
  simp only [qhg,Bool.and_eq_true] at hd
  obtain ⟨h1,h2⟩:=hd
  have ih:=fun pend s h=>qyP dsts ds (d.ix :: seen) pend s h2 h
  have hp':∀c ∈ pend,c.1 ∈ d.ix :: seen:=fun c hc=>List.mem_cons_of_mem _ (hp c hc)
  have one:(match qJ base call [] d.o.dst d.o.op s with
   | some (.nor,s')=>
    if d.o.op.effs then
     let pend':=pend.filter fun c=>!d.cl.testBit c.1
     if pend'.all (fun c=>c.2.ok s'.h) then qL base call dsts ds pend' s' else none
    else
     match qfm s d.o.op with
     | some c=>qL base call dsts ds ((d.ix,c) :: pend) s'
     | none=>qL base call dsts ds pend s'
   | some (.pan v,s')=>if d.o.op.effs then some (.pan v,{ s' with t:=qcS dsts s'.t}) else none
   | _=>none) = qtd dsts (qcd (qhL base call (ds.map (·.o))) (qJ base call [] d.o.dst d.o.op s)):=by
   cases hr:qJ base call [] d.o.dst d.o.op s with
   | none=>rfl
   | some r=>
    obtain ⟨x,s'⟩:=r
    cases he:d.o.op.effs with
    | true=>
     rw [he] at h1
     simp only [cond_true,Bool.and_eq_true,List.isEmpty_iff] at h1
     obtain ⟨rfl,h1⟩:=h1
     cases x with
     | nor=>
      have hf:(pend.filter fun c=>!d.cl.testBit c.1) = []:=by
       rw [List.filter_eq_nil_iff]
       intro c hc
       have:=List.all_eq_true.1 h1 c.1 (hp c hc)
       simp [this]
      simp only [if_true,hf,List.all_nil]
      rfl
     | pan v=>rfl
     | exit i=>
      exfalso
      revert hr
      cases hop:d.o.op <;> rw [hop] at he <;> simp only [AOp.effs,Bool.false_eq_true] at he <;> simp only [qJ] <;> intro hr <;> first | (rw [Option.map_eq_some_iff] at hr;obtain ⟨_,_,hr⟩:=hr;cases hr;done) | repeat' (first | cases hr | split at hr)
     | ret=>
      exfalso
      revert hr
      cases hop:d.o.op <;> rw [hop] at he <;> simp only [AOp.effs,Bool.false_eq_true] at he <;> simp only [qJ] <;> intro hr <;> first | (rw [Option.map_eq_some_iff] at hr;obtain ⟨_,_,hr⟩:=hr;cases hr;done) | repeat' (first | cases hr | split at hr)
    | false=>
     have:=qAa he hr
     subst this
     simp only [Bool.false_eq_true,if_false,qcd]
     split
     ·exact ih _ s' fun c hc=>by
       rcases List.mem_cons.1 hc with rfl | hc
       ·exact List.mem_cons_self ..
       ·exact hp' c hc
     ·exact ih _ s' hp'
  simp only [qL,List.map_cons,qhL]
  obtain ⟨⟨dst,op,g⟩,ix,cl⟩:=d
  cases g with
  | none=>simp only [wanted];exact one
  | some jb=>
   obtain ⟨j,b⟩:=jb
   have miss:=ih pend { s with t:=put dst (.tup []) s.t} hp'
   simp only [wanted]
   have key:∀g:qc,(match (match g with
     | .bool c=>some (c == b)
     | .tup []=>some false
     | _=>none) with
    | some true=>match qJ base call [] dst op s with
     | some (.nor,s')=>
      if op.effs then
       let pend':=pend.filter fun c=>!cl.testBit c.1
       if pend'.all (fun c=>c.2.ok s'.h) then qL base call dsts ds pend' s' else none
      else
       match qfm s op with
       | some c=>qL base call dsts ds ((ix,c) :: pend) s'
       | none=>qL base call dsts ds pend s'
     | some (.pan v,s')=>if op.effs then some (.pan v,{ s' with t:=qcS dsts s'.t}) else none
     | _=>none
    | some false=>qL base call dsts ds pend { s with t:=put dst (.tup []) s.t}
    | none=>none) = qtd dsts (match op.plain with
     | true=>qfB g b dst s (qe s op) (qhL base call (ds.map (·.o)))
     | false=>qfu g b dst s (qJ base call [] dst op s) (qhL base call (ds.map (·.o)))):=by
    intro g
    cases hpl:op.plain with
    | true=>
     simp only
     rw [qhf hpl] at one ⊢
     cases g with
     | bool c=>
      simp only [qfB,qE]
      cases hcb:c == b with
      | true=>
       simp only [hcb,cond_true]
       rw [one]
       cases qe s op <;> rfl
      | false=>simp only [hcb,cond_false];exact miss
     | tup vs=>
      cases vs with
      | nil=>exact miss
      | cons=>rfl
     | _=>rfl
    | false=>
     simp only
     cases g with
     | bool c=>
      simp only [qfu]
      cases hcb:c == b with
      | true=>simp only [hcb,cond_true];exact one
      | false=>simp only [hcb,cond_false];exact miss
     | tup vs=>
      cases vs with
      | nil=>exact miss
      | cons=>rfl
     | _=>rfl
   exact key (s.t.getD j .undef)
theorem qho {b:qV} (I:Nat→St→Prop) (Q:Ex→St→Prop)
  (step:∀k s,I k s→(∃s' k',qH base call b s = some (.nor,s')∧k' < k∧I k' s')∨∃x s',qH base call b s = some (x,s')∧x ≠ .nor∧Q x s') :
  ∀k s,I k s→∃x s',qH base call (.loop b) s = some (x,s')∧Q x s':=by
 intro k
 induction k using Nat.strongRecOn with
 | ind k ih=>
  intro s hs
  rw [qn]
  rcases step k s hs with ⟨s',k',h1,h2,h3⟩ | ⟨x,s',h1,h2,h3⟩
  ·rw [h1]
   exact ih k' h2 s' h3
  ·rw [h1]
   refine ⟨x,s',?_,h3⟩
   cases x with
   | nor=>exact absurd rfl h2
   | _=>rfl
end
section
variable {s:St} {t:List qc} {h:List qx}
def qcf (v:qc) (i:Nat) (t:List qc):List qc:=
 match v with
 | .lst xs (.own _)=>t.set i (.lst xs .no)
 | _=>t
theorem qrI (t:List qc) (i:Nat):qar t (.t i) = qcf (lkp t i) i t:=rfl
theorem qsC (t:List qc) (v:qc):qar t (.c v) = t:=rfl
theorem qoD (b:Bool) (i:Nat) (t:List qc):qcf (.bool b) i t = t:=rfl
theorem qsO (k:IntKind) (n:Int) (i:Nat) (t:List qc):qcf (.int k n) i t = t:=rfl
theorem qrs (b:List UInt8) (i:Nat) (t:List qc):qcf (.str b) i t = t:=rfl
theorem qju (i:Nat) (t:List qc):qcf .nilptr i t = t:=rfl
theorem qp6 (a o:Nat) (i:Nat) (t:List qc):qcf (.ptr a o) i t = t:=rfl
theorem qnO (cs:List qc) (o:Nat) (i:Nat) (t:List qc):qcf (.iptr cs o) i t = t:=rfl
theorem qpU (cs:List qc) (i:Nat) (t:List qc):qcf (.agg cs) i t = t:=rfl
theorem qq7 (cs:List qc) (i:Nat) (t:List qc):qcf (.tup cs) i t = t:=rfl
theorem qwn (f:FuncId) (a b:List qc) (i:Nat) (t:List qc):qcf (.fn f a b) i t = t:=rfl
theorem quS (xs:List qc) (i:Nat) (t:List qc):qcf (.lst xs .no) i t = t:=rfl
theorem qnk (xs:List qc) (i:Nat) (t:List qc):qcf (.lst xs .full) i t = t:=rfl
theorem qsB (xs:List qc) (k i:Nat) (t:List qc):qcf (.lst xs (.own k)) i t = up t i (.lst xs .no):=rfl
theorem qln (ty:TypeId) (v:qc) (i:Nat) (t:List qc):qcf (.iface ty v) i t = t:=rfl
theorem qtB (v:qc) (i:Nat) (t:List qc):qcf v.dim i t = t:=by
 cases v with
 | lst xs f=>cases f <;> rfl
 | _=>rfl
def qzb (v:Option qc) (vs:Option (List qc)):Option (List qc):=
 match v,vs with
 | some v,some vs=>some (v :: vs)
 | _,_=>none
theorem qyD:qaM s [] = some []:=rfl
theorem qxr (i:Nat) (rs:List qo7):qaM s (.tmp i :: rs) = qzb (some (lkp s.t i).dim) (qaM s rs):=by
 simp only [qaM,lkp]
 cases qaM s rs <;> rfl
theorem quQ (a:Nat) (k:Option Nat) (rs:List qo7):qaM s (.cell a k :: rs) = qzb (qee s.h (lkp s.t a) k) (qaM s rs):=by
 simp only [qaM,lkp]
 cases qee s.h (s.t.getD a .undef) k <;> cases qaM s rs <;> rfl
theorem qnG (v:qc) (vs:List qc):qzb (some v) (some vs) = some (v :: vs):=rfl
theorem qnJ (v:qc):qcu [v] = v:=rfl
theorem qnc:qcu [] = .tup []:=rfl
theorem qnl (a b:qc) (vs:List qc):qcu (a :: b :: vs) = .tup (a :: b :: vs):=rfl
def qxs (h:List qx) (s:St):Option (List qc)→Option (qeh×List qx×Bool)
 | some vs=>some (qbp h.length (.ret (qcu vs)) s.h s.e)
 | none=>none
theorem qpG (h:List qx) (s:St) (vs:List qc):qxs h s (some vs) = some (qbp h.length (.ret (qcu vs)) s.h s.e):=rfl
theorem qy2 (fn:qG) (h:List qx) (s:St):qlj fn h (some (.nor,s)) = qxs h s (qaM s fn.results):=by
 simp only [qlj];cases qaM s fn.results <;> rfl
theorem qyF (fn:qG) (h:List qx) (s:St):qlj fn h (some (.ret,s)) = qxs h s (qaM s fn.results):=by
 simp only [qlj];cases qaM s fn.results <;> rfl
end
section
theorem qtk (x:qz):(AOp.mov x).plain = true:=Eq.trans rfl rfl
theorem qve (x:qz):(AOp.mov x).effs = false:=Eq.trans rfl rfl
theorem qsm (x:qz):(AOp.mov x).isApp = false:=Eq.trans rfl rfl
theorem qnH (c a b:qz):(AOp.pick c a b).plain = true:=Eq.trans rfl rfl
theorem qpJ (c a b:qz):(AOp.pick c a b).effs = false:=Eq.trans rfl rfl
theorem qox (c a b:qz):(AOp.pick c a b).isApp = false:=Eq.trans rfl rfl
theorem qkN (z:List qc) (ps:List (Nat×Nat×qz)):(AOp.build z ps).plain = true:=Eq.trans rfl rfl
theorem qnn (z:List qc) (ps:List (Nat×Nat×qz)):(AOp.build z ps).effs = false:=Eq.trans rfl rfl
theorem qlx (z:List qc) (ps:List (Nat×Nat×qz)):(AOp.build z ps).isApp = false:=Eq.trans rfl rfl
theorem qon (k:Nat) (z:List qc) (l:Nat) (ps:List (Nat×qz)):(AOp.list k z l ps).plain = true:=Eq.trans rfl rfl
theorem qqi (k:Nat) (z:List qc) (l:Nat) (ps:List (Nat×qz)):(AOp.list k z l ps).effs = false:=Eq.trans rfl rfl
theorem qoZ (k:Nat) (z:List qc) (l:Nat) (ps:List (Nat×qz)):(AOp.list k z l ps).isApp = false:=Eq.trans rfl rfl
theorem qut (k:Option Nat) (a:qz):(AOp.ld k a).plain = true:=Eq.trans rfl rfl
theorem qy0 (k:Option Nat) (a:qz):(AOp.ld k a).effs = false:=Eq.trans rfl rfl
theorem quB (k:Option Nat) (a:qz):(AOp.ld k a).isApp = false:=Eq.trans rfl rfl
theorem qmY (x:qz):(AOp.nilc x).plain = true:=Eq.trans rfl rfl
theorem qrN (x:qz):(AOp.nilc x).effs = false:=Eq.trans rfl rfl
theorem qou (x:qz):(AOp.nilc x).isApp = false:=Eq.trans rfl rfl
theorem qtf (op:BinOp) (x y:qz):(AOp.bin op x y).plain = true:=Eq.trans rfl rfl
theorem qt1 (op:BinOp) (x y:qz):(AOp.bin op x y).effs = false:=Eq.trans rfl rfl
theorem qsg (op:BinOp) (x y:qz):(AOp.bin op x y).isApp = false:=Eq.trans rfl rfl
theorem qrH (n:Bool) (x y:qz):(AOp.eqb n x y).plain = true:=Eq.trans rfl rfl
theorem qvl (n:Bool) (x y:qz):(AOp.eqb n x y).effs = false:=Eq.trans rfl rfl
theorem qqg (n:Bool) (x y:qz):(AOp.eqb n x y).isApp = false:=Eq.trans rfl rfl
theorem qpd (k:Nat) (n:Bool) (x y:qz):(AOp.eqi k n x y).plain = true:=Eq.trans rfl rfl
theorem qwq (k:Nat) (n:Bool) (x y:qz):(AOp.eqi k n x y).effs = false:=Eq.trans rfl rfl
theorem qsw (k:Nat) (n:Bool) (x y:qz):(AOp.eqi k n x y).isApp = false:=Eq.trans rfl rfl
theorem qtC (n:Bool) (x y:qz):(AOp.eqa n x y).plain = true:=Eq.trans rfl rfl
theorem qtK (n:Bool) (x y:qz):(AOp.eqa n x y).effs = false:=Eq.trans rfl rfl
theorem qsH (n:Bool) (x y:qz):(AOp.eqa n x y).isApp = false:=Eq.trans rfl rfl
theorem qvG (op:UnOp) (x:qz):(AOp.un op x).plain = true:=Eq.trans rfl rfl
theorem qxL (op:UnOp) (x:qz):(AOp.un op x).effs = false:=Eq.trans rfl rfl
theorem qu3 (op:UnOp) (x:qz):(AOp.un op x).isApp = false:=Eq.trans rfl rfl
theorem qqT (k:IntKind) (x:qz):(AOp.cvi k x).plain = true:=Eq.trans rfl rfl
theorem qwd (k:IntKind) (x:qz):(AOp.cvi k x).effs = false:=Eq.trans rfl rfl
theorem qpR (k:IntKind) (x:qz):(AOp.cvi k x).isApp = false:=Eq.trans rfl rfl
theorem qrp (x:qz):(AOp.cvs x).plain = true:=Eq.trans rfl rfl
theorem qv8 (x:qz):(AOp.cvs x).effs = false:=Eq.trans rfl rfl
theorem qrW (x:qz):(AOp.cvs x).isApp = false:=Eq.trans rfl rfl
theorem qqP (x:qz):(AOp.cvb x).plain = true:=Eq.trans rfl rfl
theorem qt9 (x:qz):(AOp.cvb x).effs = false:=Eq.trans rfl rfl
theorem qsE (x:qz):(AOp.cvb x).isApp = false:=Eq.trans rfl rfl
theorem qqL (t:TypeId) (x:qz):(AOp.mkI t x).plain = true:=Eq.trans rfl rfl
theorem qvX (t:TypeId) (x:qz):(AOp.mkI t x).effs = false:=Eq.trans rfl rfl
theorem qtp (t:TypeId) (x:qz):(AOp.mkI t x).isApp = false:=Eq.trans rfl rfl
theorem qqe (f:FuncId) (a b:List qz):(AOp.mkF f a b).plain = true:=Eq.trans rfl rfl
theorem quz (f:FuncId) (a b:List qz):(AOp.mkF f a b).effs = false:=Eq.trans rfl rfl
theorem qrD (f:FuncId) (a b:List qz):(AOp.mkF f a b).isApp = false:=Eq.trans rfl rfl
theorem qop (x:qz) (l h:Option qz):(AOp.subS x l h).plain = true:=Eq.trans rfl rfl
theorem qta (x:qz) (l h:Option qz):(AOp.subS x l h).effs = false:=Eq.trans rfl rfl
theorem qoq (x:qz) (l h:Option qz):(AOp.subS x l h).isApp = false:=Eq.trans rfl rfl
theorem qoe (k:Nat) (x:qz) (l h:Option qz):(AOp.subL k x l h).plain = true:=Eq.trans rfl rfl
theorem qqQ (k:Nat) (x:qz) (l h:Option qz):(AOp.subL k x l h).effs = false:=Eq.trans rfl rfl
theorem qm5 (k:Nat) (x:qz) (l h:Option qz):(AOp.subL k x l h).isApp = false:=Eq.trans rfl rfl
theorem qu7 (o:Nat) (a:qz):(AOp.fa o a).plain = true:=Eq.trans rfl rfl
theorem qyC (o:Nat) (a:qz):(AOp.fa o a).effs = false:=Eq.trans rfl rfl
theorem qvf (o:Nat) (a:qz):(AOp.fa o a).isApp = false:=Eq.trans rfl rfl
theorem qod (k:Nat) (s i:qz):(AOp.ixaL k s i).plain = true:=Eq.trans rfl rfl
theorem qsr (k:Nat) (s i:qz):(AOp.ixaL k s i).effs = false:=Eq.trans rfl rfl
theorem qom (k:Nat) (s i:qz):(AOp.ixaL k s i).isApp = false:=Eq.trans rfl rfl
theorem qnd (n k:Nat) (a i:qz):(AOp.ixaA n k a i).plain = true:=Eq.trans rfl rfl
theorem qrX (n k:Nat) (a i:qz):(AOp.ixaA n k a i).effs = false:=Eq.trans rfl rfl
theorem qnf (n k:Nat) (a i:qz):(AOp.ixaA n k a i).isApp = false:=Eq.trans rfl rfl
theorem qpH (s i:qz):(AOp.ixS s i).plain = true:=Eq.trans rfl rfl
theorem qwk (s i:qz):(AOp.ixS s i).effs = false:=Eq.trans rfl rfl
theorem qr6 (s i:qz):(AOp.ixS s i).isApp = false:=Eq.trans rfl rfl
theorem qp5 (n:Nat) (k:Option Nat) (a i:qz):(AOp.ixA n k a i).plain = true:=Eq.trans rfl rfl
theorem qu9 (n:Nat) (k:Option Nat) (a i:qz):(AOp.ixA n k a i).effs = false:=Eq.trans rfl rfl
theorem qqc (n:Nat) (k:Option Nat) (a i:qz):(AOp.ixA n k a i).isApp = false:=Eq.trans rfl rfl
theorem qrn (o:Nat) (k:Option Nat) (x:qz):(AOp.fld o k x).plain = true:=Eq.trans rfl rfl
theorem qvd (o:Nat) (k:Option Nat) (x:qz):(AOp.fld o k x).effs = false:=Eq.trans rfl rfl
theorem qtj (o:Nat) (k:Option Nat) (x:qz):(AOp.fld o k x).isApp = false:=Eq.trans rfl rfl
theorem qsW (x:qz) (i:Nat):(AOp.ext x i).plain = true:=Eq.trans rfl rfl
theorem quF (x:qz) (i:Nat):(AOp.ext x i).effs = false:=Eq.trans rfl rfl
theorem qs3 (x:qz) (i:Nat):(AOp.ext x i).isApp = false:=Eq.trans rfl rfl
theorem qfA (b:Bool) (x:qz):(AOp.len b x).plain = true:=Eq.trans rfl rfl
theorem qvA (b:Bool) (x:qz):(AOp.len b x).effs = false:=Eq.trans rfl rfl
theorem qsG (b:Bool) (x:qz):(AOp.len b x).isApp = false:=Eq.trans rfl rfl
theorem qvD (b:Bool) (x y:qz):(AOp.mm b x y).plain = true:=Eq.trans rfl rfl
theorem qzr (b:Bool) (x y:qz):(AOp.mm b x y).effs = false:=Eq.trans rfl rfl
theorem quE (b:Bool) (x y:qz):(AOp.mm b x y).isApp = false:=Eq.trans rfl rfl
theorem qpi (t:TypeId) (z:qc) (x:qz):(AOp.tas t z x).plain = true:=Eq.trans rfl rfl
theorem qwo (t:TypeId) (z:qc) (x:qz):(AOp.tas t z x).effs = false:=Eq.trans rfl rfl
theorem qqn (t:TypeId) (z:qc) (x:qz):(AOp.tas t z x).isApp = false:=Eq.trans rfl rfl
theorem qpI (x:qz):(AOp.asg x).plain = false:=Eq.trans rfl rfl
theorem qvn (x:qz):(AOp.asg x).effs = true:=Eq.trans rfl rfl
theorem qpl (x:qz):(AOp.asg x).isApp = false:=Eq.trans rfl rfl
theorem qpC (cs:List qc):(AOp.new cs).plain = false:=Eq.trans rfl rfl
theorem qvc (cs:List qc):(AOp.new cs).effs = false:=Eq.trans rfl rfl
theorem qqk (cs:List qc):(AOp.new cs).isApp = false:=Eq.trans rfl rfl
theorem qpg (k:Nat) (x:qz):(AOp.box k x).plain = false:=Eq.trans rfl rfl
theorem quL (k:Nat) (x:qz):(AOp.box k x).effs = false:=Eq.trans rfl rfl
theorem qpe (k:Nat) (x:qz):(AOp.box k x).isApp = false:=Eq.trans rfl rfl
theorem qvr (k:Option Nat) (a x:qz):(AOp.st k a x).plain = false:=Eq.trans rfl rfl
theorem qxm (k:Option Nat) (a x:qz):(AOp.st k a x).effs = true:=Eq.trans rfl rfl
theorem qvO (k:Option Nat) (a x:qz):(AOp.st k a x).isApp = false:=Eq.trans rfl rfl
theorem qoJ (f:qz) (aS:List qz):(AOp.call f aS).plain = false:=Eq.trans rfl rfl
theorem qpB (f:qz) (aS:List qz):(AOp.call f aS).effs = true:=Eq.trans rfl rfl
theorem qnW (f:qz) (aS:List qz):(AOp.call f aS).isApp = false:=Eq.trans rfl rfl
theorem qrA (k:Nat) (x y:qz):(AOp.app k x y).plain = false:=Eq.trans rfl rfl
theorem quH (k:Nat) (x y:qz):(AOp.app k x y).effs = true:=Eq.trans rfl rfl
theorem qre (k:Nat) (x y:qz):(AOp.app k x y).isApp = true:=Eq.trans rfl rfl
theorem qto (x:qz):(AOp.pan x).plain = false:=Eq.trans rfl rfl
theorem quC (x:qz):(AOp.pan x).effs = true:=Eq.trans rfl rfl
theorem qsD (x:qz):(AOp.pan x).isApp = false:=Eq.trans rfl rfl
theorem qlX (n:Nat):qc.undef.lower n = true:=Eq.trans rfl rfl
theorem qoi (n:Nat) (b:Bool):(qc.bool b).lower n = true:=Eq.trans rfl rfl
theorem qp1 (n:Nat) (k:IntKind) (z:Int):(qc.int k z).lower n = true:=Eq.trans rfl rfl
theorem qrL (n:Nat) (s:List UInt8):(qc.str s).lower n = true:=Eq.trans rfl rfl
theorem qjR (n:Nat):qc.nilptr.lower n = true:=Eq.trans rfl rfl
theorem qpq (n i o:Nat):(qc.ptr i o).lower n = Nat.blt i n:=Eq.trans rfl rfl
theorem qq4 (n i:Nat):(qc.yld i).lower n = Nat.blt i n:=Eq.trans rfl rfl
theorem qnz (n o:Nat) (cs:List qc):(qc.iptr cs o).lower n = qD n cs:=Eq.trans rfl rfl
theorem qql (n:Nat) (xs:List qc) (f:qgA):(qc.lst xs f).lower n = qD n xs:=Eq.trans rfl rfl
theorem qiR (n:Nat):qc.nilfunc.lower n = true:=Eq.trans rfl rfl
theorem qhW (n:Nat):qc.niliface.lower n = true:=Eq.trans rfl rfl
theorem qle (n:Nat) (t:TypeId) (v:qc):(qc.iface t v).lower n = v.lower n:=Eq.trans rfl rfl
theorem qwe (n:Nat) (f:FuncId) (a b:List qc):(qc.fn f a b).lower n = (qD n a && qD n b):=Eq.trans rfl rfl
theorem qqY (n:Nat) (cs:List qc):(qc.agg cs).lower n = qD n cs:=Eq.trans rfl rfl
theorem qqa (n:Nat) (cs:List qc):(qc.tup cs).lower n = qD n cs:=Eq.trans rfl rfl
theorem qng (n:Nat):qD n [] = true:=Eq.trans rfl rfl
theorem qdU (n:Nat) (v:qc) (vs:List qc):qD n (v :: vs) = (v.lower n && qD n vs):=Eq.trans rfl rfl
def qfU (rs:List qo7) (h:List qx):Option (Ex×St)→Option (qeh×List qx×Bool)
 | some (.nor,s) | some (.ret,s)=>qxs h s (qaM s rs)
 | some (.pan v,s)=>some (qbp h.length (.pan v) s.h s.e)
 | _=>none
theorem qxv (fn:qG) (h:List qx) (r:Option (Ex×St)):qlj fn h r = qfU fn.results h r:=by
 cases r with
 | none=>rfl
 | some r=>obtain ⟨x,s⟩:=r;cases x <;> first | rfl | exact qy2 _ _ _ | exact qyF _ _ _
theorem qvj (rs:List qo7) (h:List qx) (s:St):qfU rs h (some (.nor,s)) = qxs h s (qaM s rs):=rfl
theorem quR (rs:List qo7) (h:List qx) (s:St):qfU rs h (some (.ret,s)) = qxs h s (qaM s rs):=rfl
theorem qup (rs:List qo7) (h:List qx) (s:St) (v:qc):qfU rs h (some (.pan v,s)) = some (qbp h.length (.pan v) s.h s.e):=rfl
theorem qGk {F:FuncId→Option qG} {X:qnZ} (hX:qos X) {f:FuncId} {first args cap:List qc} {h:List qx} {fn:qG} (h1:X f = none) (h2:F f = some fn) :
  W F X (.fn f first cap) args h = qfU fn.results h (qH h.length (W F X) fn.code ⟨(first ++ args ++ cap).map qc.dim ++ List.replicate (fn.ntmps - ((first ++ args ++ cap).map qc.dim).length) (.tup []),h,false⟩):=by
 rw [qGl hX h1 h2,qxv]
end
section
variable {h:List qx}
theorem qqq (cs:List qc):(qc.agg cs).cells = cs:=rfl
theorem qr4 (k:IntKind) (n:Int):(qc.int k n).cells = [.int k n]:=rfl
theorem qsJ (s:List UInt8):(qc.str s).cells = [.str s]:=rfl
theorem qm0 (b:Bool):(qc.bool b).cells = [.bool b]:=rfl
theorem qp2 (xs:List qc) (f:qgA):(qc.lst xs f).cells = [.lst xs f]:=rfl
theorem qqA (i o:Nat):(qc.ptr i o).cells = [.ptr i o]:=rfl
theorem qkb:qc.nilptr.cells = [.nilptr]:=rfl
theorem qum (f:FuncId) (a b:List qc):(qc.fn f a b).cells = [.fn f a b]:=rfl
theorem qh0:qc.niliface.cells = [.niliface]:=rfl
theorem qk6 (t:TypeId) (v:qc):(qc.iface t v).cells = [.iface t v]:=rfl
theorem qso (i:Nat):(qc.yld i).cells = [.yld i]:=rfl
theorem qvY (k:IntKind) (n:Int):(qc.int k n).storable = true:=Eq.trans rfl rfl
theorem qua (s:List UInt8):(qc.str s).storable = true:=Eq.trans rfl rfl
theorem qqy (b:Bool):(qc.bool b).storable = true:=Eq.trans rfl rfl
theorem qvV (xs:List qc) (f:qgA):(qc.lst xs f).storable = true:=Eq.trans rfl rfl
theorem quD (i o:Nat):(qc.ptr i o).storable = true:=Eq.trans rfl rfl
theorem qtw (cs:List qc) (o:Nat):(qc.iptr cs o).storable = true:=Eq.trans rfl rfl
theorem qlI:qc.nilptr.storable = true:=Eq.trans rfl rfl
theorem qj2:qc.nilfunc.storable = true:=Eq.trans rfl rfl
theorem qyk (f:FuncId) (a b:List qc):(qc.fn f a b).storable = true:=Eq.trans rfl rfl
theorem qt8 (i:Nat):(qc.yld i).storable = true:=Eq.trans rfl rfl
theorem qiW:qc.niliface.storable = true:=Eq.trans rfl rfl
theorem qn7 (t:TypeId) (v:qc):(qc.iface t v).storable = true:=Eq.trans rfl rfl
theorem qjc (c:qc) (cs:List qc) (o k:Nat):cut (c :: cs) o (some k) = if o + k ≤ (c :: cs).length then some (.agg ((((c :: cs).drop o).take k).map qc.dim)) else none:=rfl
def ldB (k:Option Nat) (o:Nat):Option qx→Option qc
 | some (.cells cs)=>cut cs o k
 | _=>none
theorem qvH (i o:Nat) (k:Option Nat):qee h (.ptr i o) k = ldB k o h[i]?:=by
 simp only [qee,ldB]
 cases h[i]? with
 | none=>rfl
 | some b=>cases b <;> rfl
theorem qs9 (k:Option Nat) (o:Nat) (cs:List qc):ldB k o (some (.cells cs)) = cut cs o k:=rfl
def qDO (k:Option Nat) (v:qc):List qc:=
 match k with
 | none=>[v]
 | some _=>v.dim.cells.map qc.dim
theorem qpp (v:qc):qDO none v = [v]:=rfl
theorem qq1 (k:Nat) (v:qc):qDO (some k) v = v.dim.cells.map qc.dim:=rfl
def stB (base:Nat) (k:Option Nat) (id o:Nat) (vs:List qc) (h:List qx):Option qx→Option (List qx×Bool)
 | some (.cells cs)=>if vs.length = k.getD 1∧o + vs.length ≤ cs.length∧vs.all qc.storable then some (h.set id (.cells (splice cs o vs)),!(Nat.ble base id || qD (id + 1) vs)) else none
 | _=>none
theorem qzk (base:Nat) (k:Option Nat) (id o:Nat) (v:qc):stV base k (.ptr id o) v h = stB base k id o (qDO k v) h h[id]?:=by
 simp only [stV,stB]
 cases h[id]? with
 | none=>rfl
 | some b=>cases b <;> cases k <;> rfl
theorem qqJ (base:Nat) (k:Option Nat) (id o:Nat) (vs cs:List qc):stB base k id o vs h (some (.cells cs)) = if vs.length = k.getD 1∧o + vs.length ≤ cs.length∧vs.all qc.storable then some (h.set id (.cells (splice cs o vs)),!(Nat.ble base id || qD (id + 1) vs)) else none:=rfl
theorem qr (h:List qx) (k:Nat):Nat.ble h.length (h.length + k) = true:=Nat.ble_eq_true_of_le (Nat.le_add_right _ _)
theorem qao {a b:Nat} (h:a ≤ b):Nat.ble a b = true:=Nat.ble_eq_true_of_le h
end
theorem qyh {e r:Option (Ex×St)} (hr:e = r) {Q:Ex→St→Prop} (h:∃x s',e = some (x,s')∧Q x s'):∃x s',r = some (x,s')∧Q x s':=hr▸h
mutual
theorem qiE:∀v:qc,v.beq v = true
 | .undef | .nilptr | .nilfunc | .niliface | .nilmap | .nils | .empt=>rfl
 | .sl ..=>by simp [qc.beq]
 | .mp i=>by simp [qc.beq]
 | .bool b=>by simp [qc.beq]
 | .int k n=>by simp [qc.beq]
 | .str s=>by simp [qc.beq]
 | .ptr i o=>by simp [qc.beq]
 | .iptr cs o=>by simp [qc.beq,qcI cs]
 | .lst xs f=>by simp [qc.beq,qcI xs]
 | .fn f a b=>by simp [qc.beq,qcI a,qcI b]
 | .yld i=>by simp [qc.beq]
 | .iface t v=>by simp [qc.beq,qiE v]
 | .agg cs=>by simp [qc.beq,qcI cs]
 | .tup cs=>by simp [qc.beq,qcI cs]
theorem qcI:∀vs:List qc,qkI vs vs = true
 | []=>rfl
 | v :: vs=>by simp [qkI,qiE v,qcI vs]
end
section
variable {base:Nat} {call:Call} {dsts:List Nat} {s:St} {pend:List (Nat×Chk)} {h:List qx}
def qfw (h:List qx):List (Nat×Chk)→Bool
 | []=>true
 | c :: cs=>c.2.ok h && qfw h cs
theorem quu:qfw h [] = true:=Eq.trans rfl rfl
theorem qq0 (i:Nat) (c:Chk) (cs:List (Nat×Chk)):qfw h ((i,c) :: cs) = (c.ok h && qfw h cs):=rfl
theorem qvs (l:List (Nat×Chk)):l.all (fun c=>c.2.ok h) = qfw h l:=by
 induction l with
 | nil=>rfl
 | cons c l ih=>simp only [List.all_cons,qfw,ih]
def qFv (v:qc):Option qc→Bool
 | some w=>v.beq w
 | none=>false
theorem qsf (v:qc):qFv v (some v) = true:=qiE v
theorem qAU (a:qc) (k:Option Nat) (v:qc):Chk.ok h (.ld a k v) = qFv v (qee h a k):=by
 simp only [Chk.ok];cases qee h a k <;> rfl
def qFo (cs:List qc):Option qx→Bool
 | some (.cells ds)=>qkI cs ds
 | _=>false
theorem qrv (cs:List qc):qFo cs (some (.cells cs)) = true:=qcI cs
theorem qw3 (id:Nat) (cs:List qc):Chk.ok h (.box id cs) = qFo cs h[id]?:=by
 simp only [Chk.ok]
 cases h[id]? with
 | none=>rfl
 | some b=>cases b <;> rfl
def qe5 (cl:Nat):List (Nat×Chk)→List (Nat×Chk)
 | []=>[]
 | c :: cs=>bif cl.testBit c.1 then qe5 cl cs else c :: qe5 cl cs
theorem qoK (cl:Nat):qe5 cl [] = []:=rfl
theorem qlF (cl i:Nat) (c:Chk) (cs:List (Nat×Chk)):qe5 cl ((i,c) :: cs) = bif cl.testBit i then qe5 cl cs else (i,c) :: qe5 cl cs:=rfl
theorem qpL (cl:Nat) (l:List (Nat×Chk)):l.filter (fun c=>!cl.testBit c.1) = qe5 cl l:=by
 induction l with
 | nil=>rfl
 | cons c l ih=>
  simp only [List.filter_cons,qe5,ih]
  cases cl.testBit c.1 <;> rfl
def qu4 (dsts:List Nat) (pend:List (Nat×Chk)) (k:List (Nat×Chk)→St→Option (Ex×St)):Option (Ex×St)→Option (Ex×St)
 | some (.nor,s)=>bif qfw s.h pend then k pend s else none
 | some (.pan v,s)=>some (.pan v,{ s with t:=qcS dsts s.t})
 | _=>none
theorem qp8 (k:List (Nat×Chk)→St→Option (Ex×St)) (s:St):qu4 dsts pend k (some (.nor,s)) = bif qfw s.h pend then k pend s else none:=rfl
theorem qtn (k:List (Nat×Chk)→St→Option (Ex×St)) (t:List qc) (e:Bool) (v:qc):qu4 dsts pend k (some (.pan v,⟨t,h,e⟩)) = some (.pan v,⟨qcS dsts t,h,e⟩):=rfl
theorem quj:qL base call dsts [] pend s = some (.nor,s):=rfl
theorem qu8 {d:Option Nat} {o:AOp} {ix cl:Nat} {ds:List qT} (ho:o.effs = true):qL base call dsts (⟨⟨d,o,none⟩,ix,cl⟩ :: ds) pend s = qu4 dsts (qe5 cl pend) (qL base call dsts ds) (qJ base call [] d o s):=by
 simp only [qL,wanted,ho,if_true,qvs,qpL]
 cases hr:qJ base call [] d o s with
 | none=>rfl
 | some r=>
  obtain ⟨x,s'⟩:=r
  cases x with
  | nor=>simp only [qu4];cases qfw s'.h (qe5 cl pend) <;> rfl
  | pan v=>rfl
  | exit i=>rfl
  | ret=>rfl
def AOp.light:AOp→Bool
 | .asg .. | .new .. | .box .. | .st .. | .call .. | .app .. | .pan .. | .ld .. | .hx .. | .lk ..=>false
 | _=>true
theorem qoN {d:Option Nat} {o:AOp} {ix cl:Nat} {ds:List qT} (ho:o.light = true):qL base call dsts (⟨⟨d,o,none⟩,ix,cl⟩ :: ds) pend s = qcd (qL base call dsts ds pend) (qJ base call [] d o s):=by
 have he:o.effs = false:=by cases o <;> simp_all [AOp.light,AOp.effs]
 have hc:qfm s o = none:=by cases o <;> simp_all [AOp.light,qfm]
 simp only [qL,wanted,he,Bool.false_eq_true,if_false,hc]
 cases hr:qJ base call [] d o s with
 | none=>rfl
 | some r=>
  obtain ⟨x,s'⟩:=r
  have:=qAa he hr
  subst this
  rfl
def ldD (d:Option Nat) (s:St) (a:qc) (k:Option Nat) (ix:Nat) (pend:List (Nat×Chk)) (f:List (Nat×Chk)→St→Option (Ex×St)):Option qc→Option (Ex×St)
 | some v=>f ((ix,.ld a k v) :: pend) { s with t:=put d v s.t}
 | none=>none
theorem qvm (d:Option Nat) (t:List qc) (e:Bool) (a:qc) (k:Option Nat) (ix:Nat) (f:List (Nat×Chk)→St→Option (Ex×St)) (v:qc):ldD d ⟨t,h,e⟩ a k ix pend f (some v) = f ((ix,.ld a k v) :: pend) ⟨put d v t,h,e⟩:=rfl
theorem qyz {d:Option Nat} {k:Option Nat} {a:qz} {ix cl:Nat} {ds:List qT}:qL base call dsts (⟨⟨d,.ld k a,none⟩,ix,cl⟩ :: ds) pend s = ldD d s (ev s.t a) k ix pend (qL base call dsts ds) (qee s.h (ev s.t a) k):=by
 simp only [qL,wanted,AOp.effs,Bool.false_eq_true,if_false,qfm,qJ]
 cases qee s.h (ev s.t a) k <;> rfl
theorem quP {d:Option Nat} {cs:List qc} {ix cl:Nat} {ds:List qT}:qL base call dsts (⟨⟨d,.new cs,none⟩,ix,cl⟩ :: ds) pend s = qL base call dsts ds ((ix,.box s.h.length (cs.map qc.dim)) :: pend) { s with t:=put d (.ptr s.h.length 0) s.t,h:=s.h ++ [.cells (cs.map qc.dim)]}:=by
 simp only [qL,wanted,AOp.effs,Bool.false_eq_true,if_false,qfm,qJ]
end
theorem qqs (x:qz):(AOp.mov x).light = true:=Eq.trans rfl rfl
theorem qm4 (c a b:qz):(AOp.pick c a b).light = true:=Eq.trans rfl rfl
theorem qlg (z:List qc) (ps:List (Nat×Nat×qz)):(AOp.build z ps).light = true:=Eq.trans rfl rfl
theorem qov (k:Nat) (z:List qc) (l:Nat) (ps:List (Nat×qz)):(AOp.list k z l ps).light = true:=Eq.trans rfl rfl
theorem qnh (x:qz):(AOp.nilc x).light = true:=Eq.trans rfl rfl
theorem qrQ (op:BinOp) (x y:qz):(AOp.bin op x y).light = true:=Eq.trans rfl rfl
theorem qrU (n:Bool) (x y:qz):(AOp.eqb n x y).light = true:=Eq.trans rfl rfl
theorem qsn (k:Nat) (n:Bool) (x y:qz):(AOp.eqi k n x y).light = true:=Eq.trans rfl rfl
theorem qqO (n:Bool) (x y:qz):(AOp.eqa n x y).light = true:=Eq.trans rfl rfl
theorem qt0 (op:UnOp) (x:qz):(AOp.un op x).light = true:=Eq.trans rfl rfl
theorem qpX (k:IntKind) (x:qz):(AOp.cvi k x).light = true:=Eq.trans rfl rfl
theorem qrT (x:qz):(AOp.cvs x).light = true:=Eq.trans rfl rfl
theorem qr1 (x:qz):(AOp.cvb x).light = true:=Eq.trans rfl rfl
theorem qqv (t:TypeId) (x:qz):(AOp.mkI t x).light = true:=Eq.trans rfl rfl
theorem qs1 (f:FuncId) (a b:List qz):(AOp.mkF f a b).light = true:=Eq.trans rfl rfl
theorem qog (x:qz) (l h:Option qz):(AOp.subS x l h).light = true:=Eq.trans rfl rfl
theorem qn3 (k:Nat) (x:qz) (l h:Option qz):(AOp.subL k x l h).light = true:=Eq.trans rfl rfl
theorem qv1 (o:Nat) (a:qz):(AOp.fa o a).light = true:=Eq.trans rfl rfl
theorem qm7 (k:Nat) (s i:qz):(AOp.ixaL k s i).light = true:=Eq.trans rfl rfl
theorem qnC (n k:Nat) (a i:qz):(AOp.ixaA n k a i).light = true:=Eq.trans rfl rfl
theorem qr0 (s i:qz):(AOp.ixS s i).light = true:=Eq.trans rfl rfl
theorem qsd (n:Nat) (k:Option Nat) (a i:qz):(AOp.ixA n k a i).light = true:=Eq.trans rfl rfl
theorem qps (o:Nat) (k:Option Nat) (x:qz):(AOp.fld o k x).light = true:=Eq.trans rfl rfl
theorem qqU (x:qz) (i:Nat):(AOp.ext x i).light = true:=Eq.trans rfl rfl
theorem qpQ (b:Bool) (x:qz):(AOp.len b x).light = true:=Eq.trans rfl rfl
theorem quk (b:Bool) (x y:qz):(AOp.mm b x y).light = true:=Eq.trans rfl rfl
theorem qqF (t:TypeId) (z:qc) (x:qz):(AOp.tas t z x).light = true:=Eq.trans rfl rfl
section
variable {base:Nat} {call:Call} {p:qdp} {s:St} {t:List qc} {h:List qx}
def qdw (k:Nat) (xs ys:List qc):Bool:=decide (xs.length + ys.length ≤ qcs) && ys.all (fun y=>y.cells.length == k && y.cells.all qc.storable) && xs.head?.all (fun y=>y.cells.length == k)
def qmr (d:Option Nat) (k:Nat) (ys:List qc):Option (List qc×St)→Option (Ex×St)
 | some (xs,s)=>if xs.head?.all (fun y=>y.cells.length == k) then some (.nor,{ s with t:=put d (.lst (xs ++ ys) (.own k)) s.t}) else none
 | none=>none
def qt4 (d:Option Nat) (k:Nat) (s:St) (tk:Option (List qc×St)) (x:qc) (ys:Option (List qc)):Option (Ex×St):=
 match x,ys with
 | .lst xs f,some ys=>
  if ys.isEmpty then some (.nor,{ s with t:=put d (qc.lst xs f).dim s.t})
  else if qdw k xs ys = true then
   match f with
   | .full=>some (.nor,{ s with t:=put d (.lst (xs ++ ys) (.own k)) s.t})
   | _=>qmr d k ys tk
  else none
 | _,_=>none
theorem qzI (d:Option Nat) (k:Nat) (x y:qz):qJ base call p d (.app k x y) s = qt4 d k s (qfl k p x s) (raw s.t x) (tail (ev s.t y)):=by
 simp only [qJ,qt4,qdw,Bool.and_eq_true,decide_eq_true_eq,and_assoc]
 generalize raw s.t x = v
 generalize tail (ev s.t y) = w
 generalize qfl k p x s = z
 cases v <;> rfl
theorem qv5 (ys:List qc) (f:qgA):tail (.lst ys f) = some ys:=rfl
theorem qwr (b:List UInt8):tail (.str b) = some (qef b):=rfl
theorem qyv (d:Option Nat) (k:Nat) (t:List qc) (e:Bool) (tk:Option (List qc×St)) (xs:List qc) (f:qgA):qt4 d k ⟨t,h,e⟩ tk (.lst xs f) (some []) = some (.nor,⟨put d (qc.lst xs f).dim t,h,e⟩):=rfl
theorem qwl {d:Option Nat} {k:Nat} {t:List qc} {e:Bool} {tk:Option (List qc×St)} {xs ys:List qc} (hy:ys.isEmpty = false) (hc:qdw k xs ys = true):qt4 d k ⟨t,h,e⟩ tk (.lst xs .full) (some ys) = some (.nor,⟨put d (.lst (xs ++ ys) (.own k)) t,h,e⟩):=by
 simp only [qt4,hy,hc,Bool.false_eq_true,if_false,if_true]
theorem qyb {d:Option Nat} {k j:Nat} {s:St} {tk:Option (List qc×St)} {xs ys:List qc} (hy:ys.isEmpty = false) (hc:qdw k xs ys = true):qt4 d k s tk (.lst xs (.own j)) (some ys) = qmr d k ys tk:=by
 simp only [qt4,hy,hc,Bool.false_eq_true,if_false,if_true]
theorem qBY {d:Option Nat} {k:Nat} {s:St} {tk:Option (List qc×St)} {xs ys:List qc} (hy:ys.isEmpty = false) (hc:qdw k xs ys = true):qt4 d k s tk (.lst xs .no) (some ys) = qmr d k ys tk:=by
 simp only [qt4,hy,hc,Bool.false_eq_true,if_false,if_true]
theorem qtt {d:Option Nat} {k:Nat} {t:List qc} {e:Bool} {xs ys:List qc} (hc:qdw k xs ys = true):qmr d k ys (some (xs,⟨t,h,e⟩)) = some (.nor,⟨put d (.lst (xs ++ ys) (.own k)) t,h,e⟩):=by
 simp only [qdw,Bool.and_eq_true] at hc
 simp only [qmr,hc.2,if_true]
def qbc (p:qdp) (i:Nat):Option Src:=(p.find? (·.1 == i)).map (·.2)
def qva (k b:Nat) (s:St) (v:qc):Option (List qc×St):=
 match v with
 | .lst xs (.own j)=>if j = k then some (xs,{ s with t:=s.t.set b (.lst xs .no)}) else none
 | _=>none
def qw8 (k:Nat) (s:St) (id o:Nat) (c:Option qx):Option (List qc×St):=
 match c with
 | some (.cells cs)=>
  match cs[o]? with
  | some (.lst xs (.own j))=>if j = k then some (xs,{ s with h:=s.h.set id (.cells (cs.set o (.lst xs .no)))}) else none
  | _=>none
 | _=>none
def quv (k:Nat) (s:St) (a:qc):Option (List qc×St):=
 match a with
 | .ptr id o=>qw8 k s id o s.h[id]?
 | _=>none
def qoO (k:Nat) (s:St):Option Src→Option (List qc×St)
 | some (.tmp b)=>qva k b s (lkp s.t b)
 | some (.cell a)=>quv k s (ev s.t a)
 | none=>none
def qsx (k i:Nat) (s:St) (v:qc) (src:Option Src):Option (List qc×St):=
 match v with
 | .lst xs (.own j)=>if j = k then some (xs,{ s with t:=s.t.set i (.lst xs .no)}) else none
 | _=>qoO k s src
theorem qwY (k:Nat) (i:Nat):qfl k p (.t i) s = qsx k i s (lkp s.t i) (qbc p i):=by
 simp only [qfl,qsx,lkp,qbc]
 generalize hv:s.t.getD i .undef = v
 have key:(match p.find? (·.1 == i) with
   | some (_,.tmp b)=>
    match s.t.getD b .undef with
    | .lst xs (.own j)=>if j = k then some (xs,{ s with t:=s.t.set b (.lst xs .no)}) else none
    | _=>none
   | some (_,.cell a)=>
    match ev s.t a with
    | .ptr id o=>
     match s.h[id]? with
     | some (.cells cs)=>
      match cs[o]? with
      | some (.lst xs (.own j))=>if j = k then some (xs,{ s with h:=s.h.set id (.cells (cs.set o (.lst xs .no)))}) else none
      | _=>none
     | _=>none
    | _=>none
   | none=>none) = qoO k s ((p.find? (·.1 == i)).map (·.2)):=by
  cases p.find? (·.1 == i) with
  | none=>rfl
  | some q=>
   obtain ⟨_,src⟩:=q
   cases src with
   | tmp b=>rfl
   | cell a=>
    simp only [Option.map_some,qoO,quv]
    cases ev s.t a <;> rfl
 cases v with
 | lst xs f=>cases f <;> first | rfl | exact key
 | _=>exact key
theorem qsS (k i:Nat) (t:List qc) (e:Bool) (xs:List qc) (src:Option Src):qsx k i ⟨t,h,e⟩ (.lst xs (.own k)) src = some (xs,⟨up t i (.lst xs .no),h,e⟩):=by simp [qsx,up]
theorem quV (k i:Nat) (xs:List qc) (src:Option Src):qsx k i s (.lst xs .no) src = qoO k s src:=rfl
theorem qsY (k b:Nat):qoO k s (some (.tmp b)) = qva k b s (lkp s.t b):=rfl
theorem qn0 (k:Nat) (a:qz):qoO k s (some (.cell a)) = quv k s (ev s.t a):=rfl
theorem qqE (k b:Nat) (t:List qc) (e:Bool) (xs:List qc):qva k b ⟨t,h,e⟩ (.lst xs (.own k)) = some (xs,⟨up t b (.lst xs .no),h,e⟩):=by simp [qva,up]
theorem qq9 (k id o:Nat):quv k s (.ptr id o) = qw8 k s id o s.h[id]?:=rfl
def qxl (k:Nat) (s:St) (id o:Nat) (cs:List qc) (v:Option qc):Option (List qc×St):=
 match v with
 | some (.lst xs (.own j))=>if j = k then some (xs,{ s with h:=s.h.set id (.cells (cs.set o (.lst xs .no)))}) else none
 | _=>none
theorem qkS (k id o:Nat) (cs:List qc):qw8 k s id o (some (.cells cs)) = qxl k s id o cs cs[o]?:=rfl
theorem qrY (k id o:Nat) (t:List qc) (e:Bool) (cs xs:List qc):qxl k ⟨t,h,e⟩ id o cs (some (.lst xs (.own k))) = some (xs,⟨t,h.set id (.cells (cs.set o (.lst xs .no))),e⟩):=by simp [qxl]
theorem qyd (i:Nat):qbc [] i = none:=rfl
def qbe (p:qdp) (d:Option Nat) (o:AOp):qdp:=
 match d with
 | none=>p
 | some d=>
  let q:=p.filter fun x=>x.1 != d && !x.2.hangs d
  match qay o with
  | some s=>if s.hangs d then q else (d,s) :: q
  | none=>q
def qbf (p:qdp) (d:Option Nat):qdp:=
 match d with
 | none=>p.filter fun x=>x.2.isTmp
 | some d=>p.filter fun x=>x.2.isTmp && (x.1 != d && !x.2.hangs d)
theorem quX {d:Option Nat} {o:AOp} {g:Option (Nat×Bool)} (ho:o.effs = true):qbb p ⟨d,o,g⟩ = qbf p d:=by simp only [qbb,ho,if_true,qbf];cases d <;> rfl
theorem qw9 {d:Option Nat} {o:AOp} {g:Option (Nat×Bool)} (ho:o.effs = false):qbb p ⟨d,o,g⟩ = qbe p d o:=by simp only [qbb,ho,Bool.false_eq_true,if_false,qbe];cases d <;> rfl
end
theorem qyc (k:IntKind) (a b:Int):qdb .add (.int k a) (.int k b) = some (.int k (k.wrap (a + b))):=by simp [qdb,qc8]
theorem qyL (k:IntKind) (a b:Int):qdb .sub (.int k a) (.int k b) = some (.int k (k.wrap (a - b))):=by simp [qdb,qc8]
theorem qxj (k:IntKind) (a b:Int):qdb .mul (.int k a) (.int k b) = some (.int k (k.wrap (a * b))):=by simp [qdb,qc8]
theorem qwW (k:IntKind) (a b:Int):qdb .quo (.int k a) (.int k b) = if b = 0 then none else some (.int k (k.wrap (a.tdiv b))):=by simp [qdb,qc8]
theorem qyM (k:IntKind) (a b:Int):qdb .rem (.int k a) (.int k b) = if b = 0 then none else some (.int k (a.tmod b)):=by simp [qdb,qc8]
theorem qy4 (k:IntKind) (a b:Int):qdb .eql (.int k a) (.int k b) = some (.bool (a == b)):=by simp [qdb,qc8]
theorem qyx (k:IntKind) (a b:Int):qdb .neq (.int k a) (.int k b) = some (.bool (!(a == b))):=by simp [qdb,qc8,bne]
theorem qx0 (k:IntKind) (a b:Int):qdb .lss (.int k a) (.int k b) = some (.bool (ilt a b)):=by simp [qdb,qc8]
theorem qyr (k:IntKind) (a b:Int):qdb .leq (.int k a) (.int k b) = some (.bool (ile a b)):=by simp [qdb,qc8]
theorem qxU (k:IntKind) (a b:Int):qdb .gtr (.int k a) (.int k b) = some (.bool (ilt b a)):=by simp [qdb,qc8]
theorem qxJ (k:IntKind) (a b:Int):qdb .geq (.int k a) (.int k b) = some (.bool (ile b a)):=by simp [qdb,qc8]
theorem qxG (a b:List UInt8):qdb .add (.str a) (.str b) = if a.length + b.length ≤ qcs then some (.str (a ++ b)) else none:=rfl
theorem qzm (a b:List UInt8):qdb .eql (.str a) (.str b) = some (.bool (a == b)):=rfl
theorem qzl (a b:List UInt8):qdb .neq (.str a) (.str b) = some (.bool (!(a == b))):=rfl
theorem qyl (a b:List UInt8):qdb .lss (.str a) (.str b) = some (.bool (Op.bytesLess a b)):=rfl
theorem qw7 (a b:List UInt8):qdb .gtr (.str a) (.str b) = some (.bool (!(Op.bytesLess a b || a == b))):=rfl
theorem qAF (k:IntKind) (n:Int):unV .neg (.int k n) = some (.int k (k.wrap (0 - n))):=rfl
theorem qBh (b:Bool):unV .not (.bool b) = some (.bool (!b)):=rfl
section
variable {base:Nat} {call:Call} {p:qdp} {s:St}
def qfc (k:Nat) (zero:List qc) (len:Nat) (parts:List (Nat×qc)):Option qc:=
 if zero.length = k∧len * k ≤ 2 ^ 24 then
  match qu ((List.replicate len zero).flatten) (parts.map fun (i,x)=>(i * k,k,x)) with
  | some cs=>if cs.all qc.storable then some (.lst ((List.range len).map fun i=>if k = 1 then (cs.getD i .undef) else .agg ((cs.drop (i * k)).take k)) .full) else none
  | none=>none
 else none
theorem qw5 (d:Option Nat) (k:Nat) (z:List qc) (len:Nat) (ps:List (Nat×qz)):qJ base call p d (.list k z len ps) s = qgz d s (qfc k z len (ps.map fun (i,x)=>(i,ev s.t x))):=by
 rw [qbr _ _ rfl (by simp) (by simp) (by simp)]
 simp only [pureV,qfc,List.map_map]
 rfl
theorem qkg {k:Nat} {z:List qc} (hz:z.length = k):∀(vs:List qc) (D:List qc) (j:Nat),D.length = j * k→(∀v ∈ vs,v.cells.length = k∧v.cells.all qc.storable = true)→
  qu (D ++ (List.replicate vs.length z).flatten) ((vs.zipIdx j).map fun x=>(x.2 * k,k,x.1)) = some (D ++ (vs.map qc.cells).flatten)
 | [],D,j,_,_=>by simp [qu]
 | v :: vs,D,j,hD,hv=>by
  obtain ⟨h1,h2⟩:=hv v (List.mem_cons_self ..)
  have ih:=qkg hz vs (D ++ v.cells) (j + 1) (by rw [List.length_append,hD,h1,Nat.add_mul,Nat.one_mul]) fun w hw=>hv w (List.mem_cons_of_mem _ hw)
  simp only [List.zipIdx_cons,List.map_cons,qu,List.length_cons,List.replicate_succ,List.flatten_cons,h2]
  rw [if_pos ⟨h1,by simp [hD,hz],trivial⟩]
  have e:splice (D ++ (z ++ (List.replicate vs.length z).flatten)) (j * k) v.cells = (D ++ v.cells) ++ (List.replicate vs.length z).flatten:=by
   unfold splice
   rw [←hD,List.take_left,h1,←List.drop_drop,List.drop_left,←hz,List.drop_left]
  rw [e,ih,List.append_assoc]
theorem qj0 {k:Nat}:∀(vs:List (List qc)) (i:Nat),(∀v ∈ vs,v.length = k)→i < vs.length→(vs.flatten.drop (i * k)).take k = vs.getD i []
 | [],i,_,h=>by simp at h
 | v :: vs,0,hv,_=>by
  have:=hv v (List.mem_cons_self ..)
  simp [←this]
 | v :: vs,i + 1,hv,h=>by
  have h1:=hv v (List.mem_cons_self ..)
  rw [List.flatten_cons,Nat.add_mul,Nat.one_mul,Nat.add_comm,←List.drop_drop,←h1,List.drop_left,h1,qj0 vs i (fun w hw=>hv w (List.mem_cons_of_mem _ hw)) (by simpa using h)]
  rfl
theorem qhd {k:Nat} {z:List qc} (hz:z.length = k) (h1:k ≠ 1) (vs:List (List qc)) (hl:vs.length * k ≤ 2 ^ 24) (hv:∀v ∈ vs,v.length = k∧v.all qc.storable = true) :
  qfc k z vs.length ((vs.map qc.agg).zipIdx.map fun x=>(x.2,x.1)) = some (.lst (vs.map qc.agg) .full):=by
 have hf:=qkg hz (vs.map qc.agg) [] 0 (by simp) (by simpa [qc.cells] using hv)
 simp only [List.nil_append,List.length_map,List.map_map] at hf
 have hc:(vs.map (qc.cells ∘ qc.agg)).flatten = vs.flatten:=by
  congr 1
  exact (List.map_congr_left fun v _=>rfl).trans (List.map_id vs)
 simp only [qfc,List.map_map]
 rw [if_pos ⟨hz,hl⟩]
 rw [show ((fun x:Nat×qc=>(x.1 * k,k,x.2)) ∘ fun x:qc×Nat=>(x.2,x.1)) = fun x:qc×Nat=>(x.2 * k,k,x.1) from rfl,hf,hc]
 have hst:vs.flatten.all qc.storable = true:=by
  simp only [List.all_flatten,List.all_eq_true]
  exact fun v hvm=>List.all_eq_true.1 (hv v hvm).2
 simp only [hst,if_true,if_neg h1]
 congr 2
 apply List.ext_getElem?
 intro i
 rw [List.getElem?_map,List.getElem?_map]
 by_cases hi:i < vs.length
 ·rw [List.getElem?_range hi,List.getElem?_eq_getElem hi]
  simp only [Option.map_some]
  rw [qj0 vs i (fun v hvm=>(hv v hvm).1) hi]
  simp [List.getD,List.getElem?_eq_getElem hi]
 ·rw [List.getElem?_eq_none (by simpa using hi),List.getElem?_eq_none (by simpa using hi)]
  rfl
theorem qdG {k:Nat} {z a:List qc} (hz:z.length = k) (h1:k ≠ 1) (ha:a.length = k) (sa:a.all qc.storable = true) (hl:k ≤ 1000):qfc k z 1 [(0,.agg a)] = some (.lst [.agg a] .full):=
 qhd hz h1 [a] (by simp;omega) (by simpa using ⟨ha,by simpa using sa⟩)
theorem qqS {k:Nat} {z a b:List qc} (hz:z.length = k) (h1:k ≠ 1) (ha:a.length = k) (sa:a.all qc.storable = true) (hb:b.length = k) (sb:b.all qc.storable = true) (hl:k ≤ 1000):qfc k z 2 [(0,.agg a),(1,.agg b)] = some (.lst [.agg a,.agg b] .full):=
 qhd hz h1 [a,b] (by simp;omega) (by simpa using ⟨⟨ha,by simpa using sa⟩,hb,by simpa using sb⟩)
theorem qsi {k:Nat} {z a b c:List qc} (hz:z.length = k) (h1:k ≠ 1) (ha:a.length = k) (sa:a.all qc.storable = true) (hb:b.length = k) (sb:b.all qc.storable = true) (hc:c.length = k) (sc:c.all qc.storable = true) (hl:k ≤ 1000):qfc k z 3 [(0,.agg a),(1,.agg b),(2,.agg c)] = some (.lst [.agg a,.agg b,.agg c] .full):=
 qhd hz h1 [a,b,c] (by simp;omega) (by simpa using ⟨⟨ha,by simpa using sa⟩,⟨hb,by simpa using sb⟩,hc,by simpa using sc⟩)
end
theorem qjl (c b:Bool) (d:Option Nat) (s:St) (r:Option qc) (k:St→Option (Ex×St)):qfB (.bool c) b d s r k = qE (c == b) d s r k:=Eq.trans rfl rfl
theorem qlw (b:Bool) (d:Option Nat) (s:St) (r:Option qc) (k:St→Option (Ex×St)):qfB (.tup []) b d s r k = qE false d s r k:=Eq.trans rfl rfl
theorem qjD (d:Option Nat) (t:List qc) (h:List qx) (e:Bool) (v:qc) (k:St→Option (Ex×St)):qE true d ⟨t,h,e⟩ (some v) k = k ⟨put d v t,h,e⟩:=Eq.trans rfl rfl
theorem qje (d:Option Nat) (t:List qc) (h:List qx) (e:Bool) (r:Option qc) (k:St→Option (Ex×St)):qE false d ⟨t,h,e⟩ r k = k ⟨put d (.tup []) t,h,e⟩:=Eq.trans rfl rfl
theorem qot (d:Option Nat) (t:List qc) (h:List qx) (e:Bool) (r:Option (Ex×St)) (k:St→Option (Ex×St)):qfu (.bool true) false d ⟨t,h,e⟩ r k = k ⟨put d (.tup []) t,h,e⟩:=Eq.trans rfl rfl
theorem qoF (d:Option Nat) (t:List qc) (h:List qx) (e:Bool) (r:Option (Ex×St)) (k:St→Option (Ex×St)):qfu (.bool false) true d ⟨t,h,e⟩ r k = k ⟨put d (.tup []) t,h,e⟩:=Eq.trans rfl rfl
theorem qkW (b:Bool) (d:Option Nat) (t:List qc) (h:List qx) (e:Bool) (r:Option (Ex×St)) (k:St→Option (Ex×St)):qfu (.tup []) b d ⟨t,h,e⟩ r k = k ⟨put d (.tup []) t,h,e⟩:=Eq.trans rfl rfl
theorem qnY (r:Option qc):qaQ true r = r:=Eq.trans rfl rfl
theorem ql4 (r:Option qc):qaQ false r = some (.tup []):=Eq.trans rfl rfl
theorem quT (v:qc):gv true v = v:=Eq.trans rfl rfl
theorem qri (v:qc):gv false v = .tup []:=Eq.trans rfl rfl
section
variable {base:Nat} {call:Call} {p:qdp} {s:St}
theorem qow (f:St→Option (Ex×St)) (s:St):qcd f (some (.nor,s)) = f s:=Eq.trans rfl rfl
end
theorem qlv (a b:Option (Ex×St)):qxz (.bool true) a b = a:=Eq.trans rfl rfl
theorem qjq (a b:Option (Ex×St)):qxz (.bool false) a b = b:=Eq.trans rfl rfl
theorem qEa (d:Nat) (o:AOp):ao d o = ⟨some d,o,none⟩:=Eq.trans rfl rfl
theorem qDo (d:Nat) (o:AOp) (j:Nat) (b:Bool):ag d o j b = ⟨some d,o,some (j,b)⟩:=Eq.trans rfl rfl
theorem qEC (o:AOp):an o = ⟨none,o,none⟩:=Eq.trans rfl rfl
theorem qpA (cs:List qc) (o:Nat) (vs:List qc):splice cs o vs = cs.take o ++ vs ++ cs.drop (o + vs.length):=Eq.trans rfl rfl
theorem aI {a b:Prop} (x:a) (y:b):a ∧ b:=⟨x,y⟩
def sT:=PLift.up (aI (aI (aI (aI (aI (aI (aI (aI @qs7 (aI @qnm @qv0)) (aI (aI @qny @qqf) (aI @qlJ @qDj))) (aI (aI @qm2 (aI @quj @qu8)) (aI (aI @qoN @qyz) (aI @quP @qvm)))) (aI (aI (aI @qp8 (aI @qtn @qoK)) (aI (aI @qlF @quu) (aI @qq0 @qAU))) (aI (aI @qw3 (aI @qsf @qrv)) (aI (aI @qqs @qm4) (aI @qlg @qov))))) (aI (aI (aI (aI @qnh (aI @qrQ @qrU)) (aI (aI @qsn @qqO) (aI @qt0 @qpX))) (aI (aI @qrT (aI @qr1 @qqv)) (aI (aI @qs1 @qog) (aI @qn3 @qv1)))) (aI (aI (aI @qm7 (aI @qnC @qr0)) (aI (aI @qsd @qps) (aI @qqU @qpQ))) (aI (aI (aI @quk @qqF) (aI @qtk @qve)) (aI (aI @qsm @qnH) (aI @qpJ @qox)))))) (aI (aI (aI (aI (aI @qkN (aI @qnn @qlx)) (aI (aI @qon @qqi) (aI @qoZ @qut))) (aI (aI @qy0 (aI @quB @qmY)) (aI (aI @qrN @qou) (aI @qtf @qt1)))) (aI (aI (aI @qsg (aI @qrH @qvl)) (aI (aI @qqg @qpd) (aI @qwq @qsw))) (aI (aI (aI @qtC @qtK) (aI @qsH @qvG)) (aI (aI @qxL @qu3) (aI @qqT @qwd))))) (aI (aI (aI (aI @qpR (aI @qrp @qv8)) (aI (aI @qrW @qqP) (aI @qt9 @qsE))) (aI (aI @qqL (aI @qvX @qtp)) (aI (aI @qqe @quz) (aI @qrD @qop)))) (aI (aI (aI @qta (aI @qoq @qoe)) (aI (aI @qqQ @qm5) (aI @qu7 @qyC))) (aI (aI (aI @qvf @qod) (aI @qsr @qom)) (aI (aI @qnd @qrX) (aI @qnf @qpH))))))) (aI (aI (aI (aI (aI (aI @qwk (aI @qr6 @qp5)) (aI (aI @qu9 @qqc) (aI @qrn @qvd))) (aI (aI @qtj (aI @qsW @quF)) (aI (aI @qs3 @qfA) (aI @qvA @qsG)))) (aI (aI (aI @qvD (aI @qzr @quE)) (aI (aI @qpi @qwo) (aI @qqn @qpI))) (aI (aI (aI @qvn @qpl) (aI @qpC @qvc)) (aI (aI @qqk @qpg) (aI @quL @qpe))))) (aI (aI (aI (aI @qvr (aI @qxm @qvO)) (aI (aI @qoJ @qpB) (aI @qnW @qrA))) (aI (aI @quH (aI @qre @qto)) (aI (aI @quC @qsD) (aI @qD7 @qBX)))) (aI (aI (aI @qxI (aI @qxu @qAJ)) (aI (aI @qBH @qrB) (aI @qAV @qwN))) (aI (aI (aI @qBw @qrS) (aI @qwP @qsQ)) (aI (aI @qAe @qBz) (aI @qDT @qwx)))))) (aI (aI (aI (aI (aI @qzp (aI @qvC @qw5)) (aI (aI @qAi @qzi) (aI @qwG @qv6))) (aI (aI @qvu (aI @qAR @qwH)) (aI (aI @qwB @qwA) (aI @quy @qwK)))) (aI (aI (aI @qrt (aI @qij @qwR)) (aI (aI @quO @qAO) (aI @qBn @qxi))) (aI (aI (aI @qz8 @qnN) (aI @qpE @qsh)) (aI (aI @qiJ @quA) (aI @qow @qr9))))) (aI (aI (aI (aI @qno (aI @qtc @qn9)) (aI (aI @qmZ @qna) (aI @qlC @qlv))) (aI (aI @qjq (aI @qth @qqW)) (aI (aI @qF6 @qGE) (aI @qDB @qC9)))) (aI (aI (aI @qK (aI @qzg @qxt)) (aI (aI @qpD @qsa) (aI @qrI @qsC))) (aI (aI (aI @qoD @qsO) (aI @qrs @qju)) (aI (aI @qp6 @qnO) (aI @qpU @qq7)))))))) (aI (aI (aI (aI (aI (aI (aI @qwn (aI @quS @qnk)) (aI (aI @qsB @qln) (aI @qtB @qvo))) (aI (aI @qxF (aI @qlt @qlO)) (aI (aI @qwc @qyT) (aI @qls @qrx)))) (aI (aI (aI @qqG (aI @qoB @qk1)) (aI (aI @qj1 @qhn) (aI @qyW @qAY))) (aI (aI (aI @qvW @qxY) (aI @qBV @qwy)) (aI (aI @qbj @qcv) (aI @qxZ @qfH))))) (aI (aI (aI (aI @qep (aI @qcE @qxc)) (aI (aI @qsN @qrZ) (aI @qcx @qwD))) (aI (aI @qmS (aI @qqq @qr4)) (aI (aI @qsJ @qm0) (aI @qp2 @qqA)))) (aI (aI (aI @qkb (aI @qum @qh0)) (aI (aI @qk6 @qso) (aI @qjc @qsI))) (aI (aI (aI @qvH @qs9) (aI @qpp @qq1)) (aI (aI @qzk @qqJ) (aI @qvY @qua)))))) (aI (aI (aI (aI (aI @qqy (aI @qvV @quD)) (aI (aI @qtw @qlI) (aI @qj2 @qyk))) (aI (aI @qt8 (aI @qiW @qn7)) (aI (aI @qlX @qoi) (aI @qp1 @qrL)))) (aI (aI (aI @qjR (aI @qpq @qq4)) (aI (aI @qnz @qql) (aI @qiR @qhW))) (aI (aI (aI @qle @qwe) (aI @qqY @qqa)) (aI (aI @qng @qdU) (aI @qws @qwV))))) (aI (aI (aI (aI @qvz (aI @qq3 @qoc)) (aI (aI @qvw @qvg) (aI @qtL @qti))) (aI (aI @qmx (aI @qyc @qyL)) (aI (aI @qxj @qwW) (aI @qyM @qy4)))) (aI (aI (aI @qyx (aI @qx0 @qyr)) (aI (aI @qxU @qxJ) (aI @qxG @qzm))) (aI (aI (aI @qzl @qyl) (aI @qw7 @qAF)) (aI (aI @qBh @qnB) (aI @qkV @qu1))))))) (aI (aI (aI (aI (aI (aI @qyw (aI @qjl @qlw)) (aI (aI @qqH @qmW) (aI @qjD @qje))) (aI (aI @qk8 (aI @qzd @qyU)) (aI (aI @qrk @qEQ) (aI @qDi @qxP)))) (aI (aI (aI @qD9 (aI @qEl @qxM)) (aI (aI @qAA @qz5) (aI @qu0 @qA5))) (aI (aI (aI @qBT @qvq) (aI @qCY @qCw)) (aI (aI @qw6 @qx7) (aI @qxb @qtv))))) (aI (aI (aI (aI @qz1 (aI @qBs @qvk)) (aI (aI @qBv @qBp) (aI @qvF @qAQ))) (aI (aI @qBW (aI @quY @qAd)) (aI (aI @qBR @qt6) (aI @qyf @qxa)))) (aI (aI (aI @qp0 (aI @qAZ @qBb)) (aI (aI @qv7 @qyK) (aI @qzc @qtx))) (aI (aI (aI @qz9 @qAW) (aI @qtS @qye)) (aI (aI @qx9 @qrw) (aI @qAl @qzW)))))) (aI (aI (aI (aI (aI @qtT (aI @qyB @qyR)) (aI (aI @qrf @qA2) (aI @qBm @quq))) (aI (aI @qyZ (aI @qzj @qsF)) (aI (aI @qBE @qA1) (aI @qwa @qw2)))) (aI (aI (aI @qx8 (aI @qrR @qEc)) (aI (aI @qEj @qzs) (aI @qAI @qz0))) (aI (aI (aI @qud @qxf) (aI @qxV @qpz)) (aI (aI @qvK @quf) (aI @qoa @qtU))))) (aI (aI (aI (aI @qwf (aI @qnq @qs0)) (aI (aI @qnY @ql4) (aI @qDh @quT))) (aI (aI @qri (aI @qm3 @qot)) (aI (aI @qoF @qkW) (aI @qy1 @qvt)))) (aI (aI (aI @qvj (aI @quR @qup)) (aI (aI @qpG @qyD) (aI @qxr @quQ))) (aI (aI (aI @qnG @qnJ) (aI @qnc @qnl)) (aI (aI @qtr @qnQ) (aI @qpn @qoI)))))))))
def sC:=PLift.up (aI (aI (aI (aI (aI @List.nil_append.{0} (aI @List.append_nil.{0} @List.map_cons.{0,0})) (aI (aI @List.map_nil.{0,0} @List.length_cons.{0}) (aI @List.length_nil.{0} @List.cons_append.{0}))) (aI (aI (aI @qEa @qDo) (aI @qEC @Option.map_some.{0,0})) (aI (aI @ne_eq.{1} @not_false_eq_true) (aI @List.length_set.{0} @List.length_replicate.{0})))) (aI (aI (aI @Bool.or_false (aI @Bool.or_true @Bool.false_or)) (aI (aI @Bool.true_or @Bool.and_true) (aI @Bool.and_false @Bool.true_and))) (aI (aI (aI @Bool.false_and @Bool.not_true) (aI @Bool.not_false @eq_self.{1})) (aI (aI @List.getElem?_cons_zero.{0} @List.getElem?_cons_succ.{0}) (aI @List.set_cons_zero.{0} @List.set_cons_succ.{0}))))) (aI (aI (aI (aI @List.append_assoc.{0} (aI @List.length_append.{0} @qpA)) (aI (aI @List.take_zero.{0} @List.drop_zero.{0}) (aI @List.take_succ_cons.{0} @List.drop_succ_cons.{0}))) (aI (aI (aI @List.drop_nil.{0} @List.take_nil.{0}) (aI @List.all_cons.{0} @List.all_nil.{0})) (aI (aI @Option.getD_some.{0} @Option.getD_none.{0}) (aI @and_self @and_true)))) (aI (aI (aI (aI @true_and @if_true.{1}) (aI @if_false.{1} @Nat.le_refl)) (aI (aI @Nat.ble_self_eq_true @Nat.zero_add) (aI @Nat.add_zero @beq_self_eq_true.{0}))) (aI (aI (aI @Bool.false_eq_true @bne_self_eq_false.{0}) (aI @List.isEmpty_nil.{0} @List.isEmpty_cons.{0})) (aI (aI @cond_true.{1} @cond_false.{1}) (aI @List.filterMap_cons.{0,0} @List.filterMap_nil.{0,0}))))))
def sTA:=PLift.up (aI (aI (aI (aI @qyH (aI @qyj @qmB)) (aI @qkt (aI @qzI @qv5))) (aI (aI @qwr (aI @qyv @qwl)) (aI @qyb (aI @qBY @qtt)))) (aI (aI (aI @qwY (aI @qsS @quV)) (aI @qsY (aI @qn0 @qqE))) (aI (aI @qq9 (aI @qkS @qrY)) (aI @qyd (aI @quX @qw9)))))
def sCA:=PLift.up (aI (aI @List.filter_cons.{0} @List.filter_nil.{0}) (aI @List.find?_cons.{0} @List.find?_nil.{0}))
end Go.AE
namespace Go.Proofs.YtlognicjhmcgjaaGreatDoor.AE
open Go.AE
theorem qgC:qos X where
 mono f g h:=by
  unfold X at h
  split at h
  all_goals first
   | (cases h;exact fun c d hc aS h=>qoL hc (Nat.le_refl _))
   | (cases h;exact fun c d hc aS h x hx=>hx)
   | cases h
 cont f g h:=by
  unfold X at h
  split at h
  all_goals first
   | (cases h;exact fun c hc aS h x hx=>qnb hc hx)
   | (cases h;exact fun c hc aS h x hx=>⟨0,hx⟩)
   | cases h
noncomputable def Wd:AE.Call:=W T.get X
theorem qm {f:FuncId} {first args cap:List qc} {h:List qx} {fn:qG} (h1:X f = none) (h2:T.get f = some fn) :
  Wd (.fn f first cap) args h = qfU fn.results h (qH h.length Wd fn.code ⟨(first ++ args ++ cap).map qc.dim ++ List.replicate (fn.ntmps - ((first ++ args ++ cap).map qc.dim).length) (.tup []),h,false⟩):=qGk qgC h1 h2
theorem qcA {n:Int} (h1:-9223372036854775808 ≤ n) (h2:n ≤ 9223372036854775807):IntKind.i64.wrap n = n:=by
 rw [IntKind.wrap_i64]
 omega
theorem qap {n:Nat} (h:n < 9223372036854775807):IntKind.i64.wrap ((n:Int) + 1) = ((n + 1:Nat):Int):=by
 rw [qcA (by omega) (by omega)]
 rfl
abbrev Str:=List UInt8
def qb0 (c:UInt8):Bool:=ile 97 (c.toNat:Int) && ile (c.toNat:Int) 122
def qaJ (c:UInt8):Bool:=ile 48 (c.toNat:Int) && ile (c.toNat:Int) 57
def qaN:Nat→Str→Bool
 | _,[]=>true
 | i,c :: s=>bif !qb0 c && (i == 0 || !qaJ c) then false else qaN (i + 1) s
def qfW (s:Str):Bool:=decide (1 ≤ s.length) && decide (s.length ≤ 16) && qaN 0 s
theorem qmg (s:Str) (h:List qx):Wd (.fn 92 [] []) [.str s] h = some (.ret (.bool (qfW s)),h,false):=by
 have loop:∀k st,(∃tt i,st = ⟨tt,h,false⟩∧tt.length = 50∧lkp tt 0 = .str s∧lkp tt 15 = .int .i64 (s.length:Nat)∧lkp tt 16 = .int .i64 (i:Nat)∧i + k = s.length∧qaN i (s.drop i) = qaN 0 s∧s.length ≤ 16)→
   ∃x st',qH h.length Wd (.loop qoT) st = some (x,st')∧((x = .exit 0∧qaN 0 s = true∧∃tt,st' = ⟨tt,h,false⟩∧tt.length = 50)∨(x = .ret∧qaN 0 s = false∧∃tt,st' = ⟨tt,h,false⟩∧tt.length = 50∧lkp tt 2 = .bool false)):=by
  refine qho _ (fun x st'=>(x = .exit 0∧qaN 0 s = true∧∃tt,st' = ⟨tt,h,false⟩∧tt.length = 50)∨(x = .ret∧qaN 0 s = false∧∃tt,st' = ⟨tt,h,false⟩∧tt.length = 50∧lkp tt 2 = .bool false)) ?_
  rintro k st ⟨tt,i,rfl,ht,e0,e15,e16,hik,hR,hl⟩
  generalize he:qH h.length Wd qoT _ = r
  rcases Nat.lt_or_ge i s.length with hi | hi
  ·have c1:ilt (i:Int) (s.length:Int) = true:=by rw [qaw];simp;omega
   have hx:qeL (.str s) (.int .i64 (i:Nat)) = some (.int .u8 (s[i].toNat:Nat)):=qba (List.getElem?_eq_getElem hi)
   have w:=qap (n:=i) (by omega)
   rw [List.drop_eq_getElem_cons hi,qaN] at hR
   simp only [qb0,qaJ] at hR
   have hz:((i:Int) == 0) = (i == 0):=by rw [Bool.eq_iff_iff];simp
   simp only [qoT,sT.1,sC.1,qf,qe,Nat.testBit,simprocAttr,-Int.reduceNatCast',ht,e0,e15,e16,c1,hx,w,hz] at he
   cases hb:(!(ile 97 (s[i].toNat:Int) && ile (s[i].toNat:Int) 122) && (i == 0 || !(ile 48 (s[i].toNat:Int) && ile (s[i].toNat:Int) 57))) with
   | true=>
    rw [hb] at hR
    simp only [hb,sT.1,sC.1,qf,qe,Nat.testBit,simprocAttr,-Int.reduceNatCast',ht] at he
    subst he
    refine .inr ⟨_,_,rfl,by simp,.inr ⟨rfl,by simpa using hR.symm,_,rfl,by simp only [qK,ht],?_⟩⟩
    simp only [sT.1,sC.1,qf,qe,Nat.testBit,simprocAttr,-Int.reduceNatCast',ht]
   | false=>
    rw [hb] at hR
    simp only [hb,sT.1,sC.1,qf,qe,Nat.testBit,simprocAttr,-Int.reduceNatCast',ht,e16,w] at he
    subst he
    refine .inl ⟨_,k - 1,rfl,by omega,_,i + 1,rfl,by simp only [qK,ht],?_,?_,?_,by omega,by simpa using hR,hl⟩
    ·simp only [sT.1,sC.1,qf,qe,Nat.testBit,simprocAttr,-Int.reduceNatCast',ht,e0]
    ·simp only [sT.1,sC.1,qf,qe,Nat.testBit,simprocAttr,-Int.reduceNatCast',ht,e15]
    ·simp only [sT.1,sC.1,qf,qe,Nat.testBit,simprocAttr,-Int.reduceNatCast',ht]
  ·have c1:ilt (i:Int) (s.length:Int) = false:=by rw [qaw];simp;omega
   simp only [qoT,sT.1,sC.1,qf,qe,Nat.testBit,simprocAttr,-Int.reduceNatCast',ht,e0,e15,e16,c1] at he
   subst he
   rw [List.drop_eq_nil_of_le hi,qaN] at hR
   exact .inr ⟨_,_,rfl,by simp,.inl ⟨rfl,hR.symm,_,rfl,by simp only [qK,ht]⟩⟩
 rw [qm rfl (show T.get 92 = some c92 by kernel_rfl)]
 by_cases g1:1 ≤ s.length
 ·have d1:ilt (s.length:Int) 1 = false:=by rw [qaw];simp;omega
  by_cases g2:s.length ≤ 16
  ·have d2:ilt 16 (s.length:Int) = false:=by rw [qaw];simp;omega
   simp only [c92,sT.1,sC.1,qf,qe,Nat.testBit,simprocAttr,-Int.reduceNatCast',d1,d2]
   generalize hr:qH h.length Wd (.loop qoT) _ = r
   obtain ⟨x,st',rfl,hq⟩:=qyh hr (loop s.length _ ⟨_,0,rfl,by simp only [sT.1,sC.1,qf,qe,Nat.testBit,simprocAttr,-Int.reduceNatCast'],by simp only [sT.1,sC.1,qf,qe,Nat.testBit,simprocAttr,-Int.reduceNatCast'],by simp only [sT.1,sC.1,qf,qe,Nat.testBit,simprocAttr,-Int.reduceNatCast'],by simp only [sT.1,sC.1,qf,qe,Nat.testBit,simprocAttr,-Int.reduceNatCast',Int.natCast_zero],by omega,rfl,g2⟩)
   rcases hq with ⟨rfl,hv,tt,rfl,ht⟩ | ⟨rfl,hv,tt,rfl,ht,e2⟩
   ·simp only [sT.1,sC.1,qf,qe,Nat.testBit,simprocAttr,-Int.reduceNatCast',ht]
    simp [qfW,g1,g2,hv]
   ·simp only [sT.1,sC.1,qf,qe,Nat.testBit,simprocAttr,-Int.reduceNatCast',ht,e2]
    simp [qfW,g1,g2,hv]
  ·have d2:ilt 16 (s.length:Int) = true:=by rw [qaw];simp;omega
   simp only [c92,sT.1,sC.1,qf,qe,Nat.testBit,simprocAttr,-Int.reduceNatCast',d1,d2]
   simp [qfW,g2]
 ·have d1:ilt (s.length:Int) 1 = true:=by rw [qaw];simp;omega
  simp only [c92,sT.1,sC.1,qf,qe,Nat.testBit,simprocAttr,-Int.reduceNatCast',d1]
  simp [qfW,g1]
def qFJ:List qc:=g0
def qBC:qc→Str
 | .str s=>s
 | _=>[]
def words:List Str:=g0.map qBC
theorem qv9:g0 = words.map qc.str:=by kernel_rfl
theorem qpF:words.length = 33:=by kernel_rfl
def qdk (s:Str):Bool:=words.any (· == s)
theorem qk5 (s:Str) (h:List qx):Wd (.fn 93 [] []) [.str s] h = some (.ret (.bool (qdk s)),h,false):=by
 have loop:∀k st,(∃tt i,st = ⟨tt,h,false⟩∧tt.length = 13∧lkp tt 0 = .str s∧lkp tt 5 = .agg g0∧lkp tt 6 = .int .i64 (i:Nat)∧i + k = 33∧(words.drop i).any (· == s) = qdk s)→
   ∃x st',qH h.length Wd (.loop qlG) st = some (x,st')∧((x = .exit 0∧qdk s = false∧∃tt,st' = ⟨tt,h,false⟩∧tt.length = 13)∨(x = .ret∧qdk s = true∧∃tt,st' = ⟨tt,h,false⟩∧tt.length = 13∧lkp tt 2 = .bool true)):=by
  refine qho _ (fun x st'=>(x = .exit 0∧qdk s = false∧∃tt,st' = ⟨tt,h,false⟩∧tt.length = 13)∨(x = .ret∧qdk s = true∧∃tt,st' = ⟨tt,h,false⟩∧tt.length = 13∧lkp tt 2 = .bool true)) ?_
  rintro k st ⟨tt,i,rfl,ht,e0,e5,e6,hik,hR⟩
  generalize he:qH h.length Wd qlG _ = r
  have hlen:=qpF
  rcases Nat.lt_or_ge i 33 with hi | hi
  ·have c1:ilt (i:Int) 33 = true:=by rw [qaw];simp;omega
   have hx:qjj 33 none (.agg g0) (.int .i64 (i:Nat)) = some (.str (words[i]'(by omega))):=by
    rw [qmR (v:=.str (words[i]'(by omega))) hi (by rw [qv9,List.getElem?_map,List.getElem?_eq_getElem (by omega)];rfl)]
    rfl
   have w:=qap (n:=i) (by omega)
   rw [List.drop_eq_getElem_cons (by omega),List.any_cons] at hR
   cases hb:((words[i]'(by omega)) == s) with
   | true=>
    rw [hb] at hR
    simp only [qlG,sT.1,sC.1,qf,qe,Nat.testBit,simprocAttr,-Int.reduceNatCast',ht,e0,e5,e6,c1,hx,hb] at he
    subst he
    refine .inr ⟨_,_,rfl,by simp,.inr ⟨rfl,by simpa using hR.symm,_,rfl,by simp only [qK,ht],?_⟩⟩
    simp only [sT.1,sC.1,qf,qe,Nat.testBit,simprocAttr,-Int.reduceNatCast',ht]
   | false=>
    rw [hb] at hR
    simp only [qlG,sT.1,sC.1,qf,qe,Nat.testBit,simprocAttr,-Int.reduceNatCast',ht,e0,e5,e6,c1,hx,hb,w] at he
    subst he
    refine .inl ⟨_,k - 1,rfl,by omega,_,i + 1,rfl,by simp only [qK,ht],?_,?_,?_,by omega,by simpa using hR⟩
    ·simp only [sT.1,sC.1,qf,qe,Nat.testBit,simprocAttr,-Int.reduceNatCast',ht,e0]
    ·simp only [sT.1,sC.1,qf,qe,Nat.testBit,simprocAttr,-Int.reduceNatCast',ht,e5]
    ·simp only [sT.1,sC.1,qf,qe,Nat.testBit,simprocAttr,-Int.reduceNatCast',ht]
  ·have c1:ilt (i:Int) 33 = false:=by rw [qaw];simp;omega
   simp only [qlG,sT.1,sC.1,qf,qe,Nat.testBit,simprocAttr,-Int.reduceNatCast',ht,e0,e5,e6,c1] at he
   subst he
   rw [List.drop_eq_nil_of_le (by omega),List.any_nil] at hR
   exact .inr ⟨_,_,rfl,by simp,.inl ⟨rfl,hR.symm,_,rfl,by simp only [qK,ht]⟩⟩
 have hg:cut g0 0 (some 33) = some (.agg g0):=by kernel_rfl
 rw [qm rfl (show T.get 93 = some c93 by kernel_rfl)]
 simp only [c93,sT.1,sC.1,qf,qe,Nat.testBit,simprocAttr,-Int.reduceNatCast',hg]
 generalize hr:qH h.length Wd (.loop qlG) _ = r
 obtain ⟨x,st',rfl,hq⟩:=qyh hr (loop 33 _ ⟨_,0,rfl,by simp only [sT.1,sC.1,qf,qe,Nat.testBit,simprocAttr,-Int.reduceNatCast'],by simp only [sT.1,sC.1,qf,qe,Nat.testBit,simprocAttr,-Int.reduceNatCast'],by simp only [sT.1,sC.1,qf,qe,Nat.testBit,simprocAttr,-Int.reduceNatCast'],by simp only [sT.1,sC.1,qf,qe,Nat.testBit,simprocAttr,-Int.reduceNatCast',Int.natCast_zero],by omega,rfl⟩)
 rcases hq with ⟨rfl,hv,tt,rfl,ht⟩ | ⟨rfl,hv,tt,rfl,ht,e2⟩
 ·simp only [sT.1,sC.1,qf,qe,Nat.testBit,simprocAttr,-Int.reduceNatCast',ht,hv]
 ·simp only [sT.1,sC.1,qf,qe,Nat.testBit,simprocAttr,-Int.reduceNatCast',ht,e2,hv]
def qa2 (s:Str):Bool:=qfW s && !qdk s
theorem qaV (s:Str) (h:List qx):Wd (.fn 48 [] []) [.str s] h = some (.ret (.bool (qa2 s)),h,false):=by
 rw [qm rfl (show T.get 48 = some c48 by kernel_rfl)]
 cases hv:qfW s <;> cases hr:qdk s <;> (simp only [c48,sT.1,sC.1,qf,qe,Nat.testBit,simprocAttr,-Int.reduceNatCast',qmg,qk5,hv,hr];simp [qa2,hv,hr])
structure Tok where
 kind:Int
 s:Str
 n:Int
 pos:Int
def Tok.enc (t:Tok):qc:=.agg [.int .i64 t.kind,.str t.s,.int .i64 t.n,.int .i64 t.pos]
def PB (ws:List Tok) (n:Nat):qx:=.cells [.lst (ws.map Tok.enc) .no,.int .i64 (n:Int)]
structure WF (ws:List Tok):Prop where
 len:ws.length < 100000
 last:∀n w,ws[n]? = some w→w.kind ≠ 4→n + 1 < ws.length
def word (ws:List Tok) (n:Nat):Tok:=ws.getD n ⟨4,[],0,0⟩
theorem qiT {ws:List Tok} {n:Nat} (hn:n < ws.length):ws[n]? = some (word ws n):=by
 simp [word,List.getD,List.getElem?_eq_getElem hn]
theorem WF.next {ws:List Tok} (hw:WF ws) {n:Nat} (hn:n < ws.length) (h:(word ws n).kind ≠ 4):n + 1 < ws.length:=hw.last n _ (qiT hn) h
section
variable {h:List qx} {i:Nat} {ws:List Tok} {n:Nat}
theorem qd {b:qx} (hi:h[i]? = some b):i < h.length:=(List.getElem?_eq_some_iff.1 hi).1
theorem qae (hw:WF ws) (hn:n < ws.length) (hi:h[i]? = some (PB ws n)):Wd (.fn 128 [] []) [.ptr i 0] h = some (.ret (word ws n).enc,h,false):=by
 have hl:ilt (n:Int) ((ws.map Tok.enc).length:Int) = true:=by
  rw [qaw];simp;omega
 have hx:qhM 4 (.lst (ws.map Tok.enc) .no) (.int .i64 (n:Nat)) = some (.iptr (word ws n).enc.cells 0):=qcP (by rw [List.getElem?_map,qiT hn];rfl) rfl
 have hlt:=qd hi
 rw [qm rfl (show T.get 128 = some qCg by kernel_rfl)]
 simp only [qCg,sT.1,sC.1,qf,qe,Nat.testBit,simprocAttr,-Int.reduceNatCast',PB,hi,hl,hx,hlt,Tok.enc]
theorem qam (hw:WF ws) (hn:n < ws.length) (hi:h[i]? = some (PB ws n)):Wd (.fn 124 [] []) [.ptr i 0] h = some (.ret (.int .i64 (word ws n).pos),h,false):=by
 rw [qm rfl (show T.get 124 = some qB4 by kernel_rfl)]
 simp only [qB4,sT.1,sC.1,qf,qe,Nat.testBit,simprocAttr,-Int.reduceNatCast',qae hw hn hi,Tok.enc]
def qmj:TypeId:=112
def qbo (pos e:Int):qc:=.iface qmj (.agg [.int .i64 pos,.int .i64 e])
theorem qb (pos e:Int) (n:Nat):(qbo pos e).lower n = true:=by simp [qbo,qc.lower,qD]
theorem qaC (pos e:Int) (p:qc):Wd (.fn 132 [] []) [p,.int .i64 pos,.int .i64 e] h = some (.pan (qbo pos e),h,false):=by
 rw [qm rfl (show T.get 132 = some qCs by kernel_rfl)]
 simp only [qCs,sT.1,sC.1,qf,qe,Nat.testBit,simprocAttr,-Int.reduceNatCast',qu,qbo,qmj]
theorem qaK (hw:WF ws) (hn:n < ws.length) (hi:h[i]? = some (PB ws n)):Wd (.fn 76 [] []) [.ptr i 0] h = some (.pan (qbo (word ws n).pos 6),h,false):=by
 rw [qm rfl (show T.get 76 = some c76 by kernel_rfl)]
 simp only [c76,sT.1,sC.1,qf,qe,Nat.testBit,simprocAttr,-Int.reduceNatCast',qam hw hn hi,qaC,qb]
def isW (ws:List Tok) (n:Nat) (s:Str):Bool:=((word ws n).kind == 3 || (word ws n).kind == 0) && (word ws n).s == s
theorem qbi (hw:WF ws) (hn:n < ws.length) (hi:h[i]? = some (PB ws n)) (s:Str):Wd (.fn 75 [] []) [.ptr i 0,.str s] h = some (.ret (.bool (isW ws n s)),h,false):=by
 rw [qm rfl (show T.get 75 = some c75 by kernel_rfl)]
 simp only [c75,sT.1,sC.1,qf,qe,Nat.testBit,simprocAttr,-Int.reduceNatCast',qae hw hn hi,Tok.enc,isW]
theorem qh (hw:WF ws) (hn:n < ws.length) {s:Str} (hs:isW ws n s = true):n + 1 < ws.length:=by
 refine hw.next hn fun h4=>?_
 simp [isW,h4] at hs
theorem qq (hw:WF ws) (hn:n < ws.length) (hi:h[i]? = some (PB ws n)) {s:Str} (hs:isW ws n s = false):Wd (.fn 125 [] []) [.ptr i 0,.str s] h = some (.ret (.bool false),h,false):=by
 rw [qm rfl (show T.get 125 = some qzD by kernel_rfl)]
 simp only [qzD,sT.1,sC.1,qf,qe,Nat.testBit,simprocAttr,-Int.reduceNatCast',qbi hw hn hi,hs]
theorem qdc (hi:h[i]? = some (PB ws n)):h.set i (PB ws n) = h:=by
 apply List.ext_getElem?
 intro j
 by_cases hj:i = j
 ·subst hj;rw [hi,List.getElem?_set_self (qd hi)]
 ·rw [List.getElem?_set_ne hj]
theorem ql (hw:WF ws) (hn:n < ws.length) (hi:h[i]? = some (PB ws n)) {s:Str} (hs:isW ws n s = true):Wd (.fn 125 [] []) [.ptr i 0,.str s] h = some (.ret (.bool true),h.set i (PB ws (n + 1)),false):=by
 have hlt:=qd hi
 have hl:=hw.len
 have w:=qap (n:=n) (by omega)
 have hi':h[i]? = some (.cells [.lst (ws.map Tok.enc) .no,.int .i64 (n:Int)]):=hi
 rw [qm rfl (show T.get 125 = some qzD by kernel_rfl)]
 simp only [qzD,sT.1,sC.1,qf,qe,Nat.testBit,simprocAttr,-Int.reduceNatCast',qbi hw hn hi,hs,hi',w,hlt]
 rfl
theorem qi (hw:WF ws) (hn:n < ws.length) (hi:h[i]? = some (PB ws n)) {s:Str} (hs:isW ws n s = true):Wd (.fn 79 [] []) [.ptr i 0,.str s] h = some (.ret (.tup []),h.set i (PB ws (n + 1)),false):=by
 rw [qm rfl (show T.get 79 = some c79 by kernel_rfl)]
 simp only [c79,sT.1,sC.1,qf,qe,Nat.testBit,simprocAttr,-Int.reduceNatCast',ql hw hn hi hs]
theorem qah (hw:WF ws) (hn:n < ws.length) (hi:h[i]? = some (PB ws n)) {s:Str} (hs:isW ws n s = false):Wd (.fn 79 [] []) [.ptr i 0,.str s] h = some (.pan (qbo (word ws n).pos 6),h,false):=by
 rw [qm rfl (show T.get 79 = some c79 by kernel_rfl)]
 simp only [c79,sT.1,sC.1,qf,qe,Nat.testBit,simprocAttr,-Int.reduceNatCast',qq hw hn hi hs,qaK hw hn hi,qb]
def qab (ws:List Tok) (n:Nat):Bool:=(word ws n).kind == 0 && qa2 (word ws n).s
theorem qM (hw:WF ws) (hn:n < ws.length) (hs:qab ws n = true):n + 1 < ws.length:=by
 refine hw.next hn fun h4=>?_
 simp [qab,h4] at hs
theorem q9 (hw:WF ws) (hn:n < ws.length) (hi:h[i]? = some (PB ws n)):Wd (.fn 137 [] []) [.ptr i 0] h = some (.ret (.bool (qab ws n)),h,false):=by
 rw [qm rfl (show T.get 137 = some qB9 by kernel_rfl)]
 cases hk:(word ws n).kind == 0 <;> simp only [qB9,sT.1,sC.1,qf,qe,Nat.testBit,simprocAttr,-Int.reduceNatCast',qae hw hn hi,Tok.enc,qaV,qab,hk]
theorem qP (hw:WF ws) (hn:n < ws.length) (hi:h[i]? = some (PB ws n)) (hs:qab ws n = true):Wd (.fn 80 [] []) [.ptr i 0] h = some (.ret (.str (word ws n).s),h.set i (PB ws (n + 1)),false):=by
 have hlt:=qd hi
 have hl:=hw.len
 have w:=qap (n:=n) (by omega)
 have hi':h[i]? = some (.cells [.lst (ws.map Tok.enc) .no,.int .i64 (n:Int)]):=hi
 rw [qm rfl (show T.get 80 = some c80 by kernel_rfl)]
 simp only [c80,sT.1,sC.1,qf,qe,Nat.testBit,simprocAttr,-Int.reduceNatCast',q9 hw hn hi,hs,qae hw hn hi,Tok.enc,hi',w,hlt]
 rfl
theorem qcy (hw:WF ws) (hn:n < ws.length) (hi:h[i]? = some (PB ws n)) (hs:qab ws n = false):Wd (.fn 80 [] []) [.ptr i 0] h = some (.pan (qbo (word ws n).pos 6),h,false):=by
 rw [qm rfl (show T.get 80 = some c80 by kernel_rfl)]
 simp only [c80,sT.1,sC.1,qf,qe,Nat.testBit,simprocAttr,-Int.reduceNatCast',q9 hw hn hi,hs,qaK hw hn hi,qb]
end
def fl (b:Bool):qgA:=bif b then .full else .no
theorem qt (xs:List qc) (b:Bool):(qc.lst xs (fl b)).dim = .lst xs (fl b):=by cases b <;> rfl
theorem qj (xs:List qc) (b:Bool) (i:Nat) (t:List qc):qcf (.lst xs (fl b)) i t = t:=by cases b <;> rfl
inductive Exp where
 | mk (op n:Int) (name sub:Str) (args:List Exp)
mutual
def Exp.cs (φ:Int→Nat→Bool):Exp→List qc
 | .mk op n name sub args=>[.int .i64 op,.int .i64 n,.str name,.str sub,.lst (qbE φ args) (fl (φ op args.length))]
def qbE (φ:Int→Nat→Bool):List Exp→List qc
 | []=>[]
 | e :: es=>.agg (e.cs φ) :: qbE φ es
end
def Exp.enc (φ:Int→Nat→Bool) (e:Exp):qc:=.agg (e.cs φ)
theorem qc4 (φ:Int→Nat→Bool):∀es:List Exp,qbE φ es = es.map (Exp.enc φ)
 | []=>rfl
 | e :: es=>by simp [qbE,qc4 φ es,Exp.enc]
theorem Exp.cs_len (φ:Int→Nat→Bool):∀e:Exp,(e.cs φ).length = 5
 | .mk ..=>rfl
mutual
def Exp.depth:Exp→Nat
 | .mk _ _ _ _ args=>qaz args + 1
def qaz:List Exp→Nat
 | []=>0
 | e :: es=>max e.depth (qaz es)
end
def φP:Int→Nat→Bool:=fun _ n=>n == 0
structure Nd where
 e:Exp
 pos:Int
def Nd.cs (x:Nd):List qc:=x.e.cs φP ++ [.int .i64 (x.e.depth:Nat),.int .i64 x.pos]
def Nd.enc (x:Nd):qc:=.agg x.cs
theorem qfz:∀(a b:List Exp),qaz (a ++ b) = max (qaz a) (qaz b)
 | [],b=>by simp [qaz]
 | e :: a,b=>by simp [qaz,qfz a b,Nat.max_assoc]
section
variable {h:List qx}
mutual
theorem qmo (φ:Int→Nat→Bool) (n:Nat):∀e:Exp,qD n (e.cs φ) = true
 | .mk op k name sub args=>by simp [Exp.cs,qD,qc.lower,qv φ n args]
theorem qv (φ:Int→Nat→Bool) (n:Nat):∀es:List Exp,qD n (qbE φ es) = true
 | []=>rfl
 | e :: es=>by simp [qbE,qD,qc.lower,qmo φ n e,qv φ n es]
end
theorem Nd.lower (x:Nd) (n:Nat):x.enc.lower n = true:=by
 obtain ⟨⟨op,k,name,sub,args⟩,pos⟩:=x
 simp [Nd.enc,Nd.cs,Exp.cs,qc.lower,qD,qv]
theorem qvN {es:List Exp} (φ:Int→Nat→Bool):∀x ∈ qbE φ es,x.cells.length = 5:=by
 intro x hx
 rw [qc4] at hx
 obtain ⟨e,_,rfl⟩:=List.mem_map.1 hx
 exact e.cs_len φ
theorem qq2 (φ:Int→Nat→Bool):∀e:Exp,(e.cs φ).all qc.storable = true
 | .mk ..=>rfl
theorem qes (φ:Int→Nat→Bool) (es:List Exp):(qbE φ es).length = es.length:=by rw [qc4,List.length_map]
theorem qwQ {es:List Exp} (e:Exp) (φ:Int→Nat→Bool) (hl:es.length ≤ 1000):qdw 5 (qbE φ es) [.agg (e.cs φ)] = true:=by
 simp only [qdw,Bool.and_eq_true,decide_eq_true_eq]
 refine ⟨⟨?_,?_⟩,?_⟩
 ·rw [qes]
  simp only [List.length_cons,List.length_nil,qcs]
  omega
 ·simp [qc.cells,e.cs_len φ]
  simpa using qq2 φ e
 ·cases hh:(qbE φ es).head? with
  | none=>rfl
  | some x=>simp [qvN φ x (List.mem_of_mem_head? hh)]
theorem qjv (φ:Int→Nat→Bool) (a b:List Exp):qbE φ (a ++ b) = qbE φ a ++ qbE φ b:=by simp [qc4]
def qgf (op n:Int) (name sub:Str) (pos:Int) (done:List Exp):qx:=
 .cells [.int .i64 op,.int .i64 n,.str name,.str sub,.lst (qbE φP done) (bif done.isEmpty then .full else .own 5),.int .i64 ((qaz done + 1:Nat):Int),.int .i64 pos]
def qlW (h:List qx) (p:qc) (pos op n:Int) (name sub:Str) (parts:List Nd) (f:Bool) (i:Nat) (st:St):Prop:=
 ∃tt H,st = ⟨tt,H,false⟩∧tt.length = 45∧lkp tt 0 = p.dim∧lkp tt 1 = .int .i64 pos∧lkp tt 8 = .ptr (h.length + 1) 0∧lkp tt 9 = .ptr (h.length + 2) 0∧lkp tt 15 = .lst (parts.map Nd.enc) (fl f)∧lkp tt 16 = .int .i64 (parts.length:Nat)∧lkp tt 17 = .int .i64 (i:Nat)∧
  h.length + 2 < H.length∧H[h.length + 2]? = some (qgf op n name sub pos ((parts.take i).map Nd.e))∧H[h.length + 1]? = some (.cells [.int .i64 0,.int .i64 0,.str [],.str [],.lst [] .full,.int .i64 0,.int .i64 0])∧H.take h.length = h
theorem qr5 (p:qc) (pos op n:Int) (name sub:Str) (parts:List Nd) (f:Bool) (hp:parts.length ≤ 4) (hd:∀x ∈ parts,x.e.depth ≤ 20) :
  ∀k st,(∃i,i + k = parts.length∧qlW h p pos op n name sub parts f i st)→∃x st',qH h.length Wd (.loop qhj) st = some (x,st')∧(x = .exit 0∧qlW h p pos op n name sub parts f parts.length st'):=by
 refine qho _ (fun x st'=>x = .exit 0∧qlW h p pos op n name sub parts f parts.length st') ?_
 rintro k st ⟨i,hik,tt,H,rfl,ht,e0,e1,e8,e9,e15,e16,e17,hH,g2,g1,gt⟩
 generalize he:qH h.length Wd qhj _ = r
 rcases Nat.lt_or_ge i parts.length with hi | hi
 ·have c1:ilt (i:Int) (parts.length:Int) = true:=by rw [qaw];simp;omega
  have w:=qap (n:=i) (by omega)
  have hx:qhM 7 (.lst (parts.map Nd.enc) (fl f)) (.int .i64 (i:Nat)) = some (.iptr (parts[i]).cs 0):=qcP (x:=(parts[i]).enc) (by rw [List.getElem?_map,List.getElem?_eq_getElem hi];rfl) (by simp [Nd.enc,qc.cells,Nd.cs,Exp.cs_len])
  have hdi:=hd _ (List.getElem_mem hi)
  have htk:parts.take (i + 1) = parts.take i ++ [parts[i]]:=by rw [List.take_add_one,List.getElem?_eq_getElem hi];rfl
  rcases hxi:parts[i] with ⟨⟨op',n',name',sub',args'⟩,pos'⟩
  rw [hxi] at hx hdi htk
  simp only [Nd.cs,Exp.cs,List.cons_append,List.nil_append] at hx
  have hsh:(parts.take i).length = i:=by simp;omega
  have wd:IntKind.i64.wrap (((Exp.mk op' n' name' sub' args').depth:Int) + 1) = (((Exp.mk op' n' name' sub' args').depth + 1:Nat):Int):=qap (by simp only at hdi;omega)
  have hbl:Nat.ble h.length (h.length + 2) = true:=qao (by omega)
  have hbH:Nat.ble h.length H.length = true:=qao (by omega)
  rcases Nat.eq_zero_or_pos i with h0 | h0
  ·subst h0
   simp only [List.take_zero,List.map_nil,qgf,List.isEmpty_nil,cond_true,qbE,qaz] at g2
   have hap:qdw 5 [] [.agg [.int .i64 op',.int .i64 n',.str name',.str sub',.lst (qbE φP args') (fl (φP op' args'.length))]] = true:=qwQ (es:=[]) (.mk op' n' name' sub' args') φP (by simp)
   simp only [qhj,sT.1,sC.1,sTA.1,sCA.1,qf,qbe,qbf,Src.isTmp,qay,Src.hangs,qz.isT,qbc,qe,Nat.testBit,bne,simprocAttr,-Int.reduceNatCast',qt,qj,ht,e9,e15,e16,e17,c1,hx,w,hH,g2,hap,qdG,wd,hbl,hbH] at he
   subst he
   refine .inl ⟨_,k - 1,rfl,by omega,1,by omega,_,_,rfl,by simp only [qK,ht],?_,?_,?_,?_,?_,?_,?_,?_,?_,?_,?_⟩
   ·simp only [sT.1,sC.1,qf,qe,Nat.testBit,simprocAttr,-Int.reduceNatCast',ht,e0]
   ·simp only [sT.1,sC.1,qf,qe,Nat.testBit,simprocAttr,-Int.reduceNatCast',ht,e1]
   ·simp only [sT.1,sC.1,qf,qe,Nat.testBit,simprocAttr,-Int.reduceNatCast',ht,e8]
   ·simp only [sT.1,sC.1,qf,qe,Nat.testBit,simprocAttr,-Int.reduceNatCast',ht,e9]
   ·simp only [sT.1,sC.1,qf,qe,Nat.testBit,simprocAttr,-Int.reduceNatCast',ht,e15]
   ·simp only [sT.1,sC.1,qf,qe,Nat.testBit,simprocAttr,-Int.reduceNatCast',ht,e16]
   ·simp only [sT.1,sC.1,qf,qe,Nat.testBit,simprocAttr,-Int.reduceNatCast',ht]
   ·simp only [List.length_append,List.length_set,List.length_cons,List.length_nil];omega
   ·rw [qcv (by rw [List.length_set];exact hH),qep hH,htk]
    simp [qgf,qbE,Exp.cs,qaz]
   ·rw [qcv (by rw [List.length_set];omega),qcx (by omega),g1]
   ·rw [List.take_append_of_le_length (by rw [List.length_set];omega),List.take_set_of_le (by omega),gt]
  ·have hnf:(parts.take i).map Nd.e ≠ []:=by
    intro hnil
    have:=congrArg List.length hnil
    rw [List.length_map,hsh] at this
    simp at this
    omega
   have hie:((parts.take i).map Nd.e).isEmpty = false:=by cases hq:(parts.take i).map Nd.e with | nil=>exact absurd hq hnf | cons=>rfl
   simp only [qgf,hie,cond_false] at g2
   have hap:qdw 5 (qbE φP ((parts.take i).map Nd.e)) [.agg [.int .i64 op',.int .i64 n',.str name',.str sub',.lst (qbE φP args') (fl (φP op' args'.length))]] = true:=qwQ (.mk op' n' name' sub' args') φP (by rw [List.length_map];omega)
   simp only [qhj,sT.1,sC.1,sTA.1,sCA.1,qf,qbe,qbf,Src.isTmp,qay,Src.hangs,qz.isT,qbc,qe,Nat.testBit,bne,simprocAttr,-Int.reduceNatCast',qt,qj,ht,e9,e15,e16,e17,c1,hx,w,hH,g2,hap,qdG,wd,hbl,hbH] at he
   subst he
   refine .inl ⟨_,k - 1,rfl,by omega,i + 1,by omega,_,_,rfl,by simp only [qK,ht],?_,?_,?_,?_,?_,?_,?_,?_,?_,?_,?_⟩
   ·simp only [sT.1,sC.1,qf,qe,Nat.testBit,simprocAttr,-Int.reduceNatCast',ht,e0]
   ·simp only [sT.1,sC.1,qf,qe,Nat.testBit,simprocAttr,-Int.reduceNatCast',ht,e1]
   ·simp only [sT.1,sC.1,qf,qe,Nat.testBit,simprocAttr,-Int.reduceNatCast',ht,e8]
   ·simp only [sT.1,sC.1,qf,qe,Nat.testBit,simprocAttr,-Int.reduceNatCast',ht,e9]
   ·simp only [sT.1,sC.1,qf,qe,Nat.testBit,simprocAttr,-Int.reduceNatCast',ht,e15]
   ·simp only [sT.1,sC.1,qf,qe,Nat.testBit,simprocAttr,-Int.reduceNatCast',ht,e16]
   ·simp only [sT.1,sC.1,qf,qe,Nat.testBit,simprocAttr,-Int.reduceNatCast',ht]
   ·simp only [List.length_append,List.length_set,List.length_cons,List.length_nil];omega
   ·rw [qcv (by rw [List.length_set];exact hH),qep hH,htk]
    simp [qgf,qbE,Exp.cs,qaz,qjv,qfz]
    cases List.take i (List.map Nd.e parts) <;> rfl
   ·rw [qcv (by rw [List.length_set];omega),qcx (by omega),g1]
   ·rw [List.take_append_of_le_length (by rw [List.length_set];omega),List.take_set_of_le (by omega),gt]
 ·have c1:ilt (i:Int) (parts.length:Int) = false:=by rw [qaw];simp;omega
  have hil:i = parts.length:=by omega
  subst hil
  simp only [qhj,sT.1,sC.1,qf,qe,Nat.testBit,simprocAttr,-Int.reduceNatCast',ht,e16,e17,c1] at he
  subst he
  refine .inr ⟨_,_,rfl,by simp,rfl,_,_,rfl,by simp only [qK,ht],?_,?_,?_,?_,?_,?_,?_,hH,g2,g1,gt⟩
  ·simp only [sT.1,sC.1,qf,qe,Nat.testBit,simprocAttr,-Int.reduceNatCast',ht,e0]
  ·simp only [sT.1,sC.1,qf,qe,Nat.testBit,simprocAttr,-Int.reduceNatCast',ht,e1]
  ·simp only [sT.1,sC.1,qf,qe,Nat.testBit,simprocAttr,-Int.reduceNatCast',ht,e8]
  ·simp only [sT.1,sC.1,qf,qe,Nat.testBit,simprocAttr,-Int.reduceNatCast',ht,e9]
  ·simp only [sT.1,sC.1,qf,qe,Nat.testBit,simprocAttr,-Int.reduceNatCast',ht,e15]
  ·simp only [sT.1,sC.1,qf,qe,Nat.testBit,simprocAttr,-Int.reduceNatCast',ht,e16]
  ·simp only [sT.1,sC.1,qf,qe,Nat.testBit,simprocAttr,-Int.reduceNatCast',ht,e17]
def mkE (op n:Int) (name sub:Str) (parts:List Nd):Exp:=.mk op n name sub (parts.map Nd.e)
theorem qhB (p:qc) (pos op n:Int) (name sub:Str) (parts:List Nd) (f:Bool) (hp:parts.length ≤ 4) (hd:∀x ∈ parts,x.e.depth ≤ 20) :
  Wd (.fn 127 [] []) [p,.int .i64 pos,.agg [.int .i64 op,.int .i64 n,.str name,.str sub,.lst [] .full],.lst (parts.map Nd.enc) (fl f)] h =
   if (mkE op n name sub parts).depth ≤ 20 then some (.ret (Nd.enc ⟨mkE op n name sub parts,pos⟩),h,false) else some (.pan (qbo pos 7),h,false):=by
 have hbl:Nat.ble h.length (h.length + 2) = true:=qao (by omega)
 have hbl1:Nat.ble h.length (h.length + 1) = true:=qao (by omega)
 rw [qm rfl (show T.get 127 = some qAu by kernel_rfl)]
 simp only [qAu,sT.1,sC.1,qf,qe,Nat.testBit,simprocAttr,-Int.reduceNatCast',qt,qu,hbl]
 generalize hr:qH h.length Wd (.loop qhj) _ = r
 obtain ⟨x,st',rfl,rfl,tt,H,rfl,ht,e0,e1,e8,e9,e15,e16,e17,hH,g2,g1,gt⟩:=qyh hr (qr5 (h:=h) p pos op n name sub parts f hp hd parts.length _ ⟨0,by omega,_,_,rfl,by simp only [sT.1,sC.1,qf,qe,Nat.testBit,simprocAttr,-Int.reduceNatCast'],by simp only [sT.1,sC.1,qf,qe,Nat.testBit,simprocAttr,-Int.reduceNatCast'],by simp only [sT.1,sC.1,qf,qe,Nat.testBit,simprocAttr,-Int.reduceNatCast'],by simp only [sT.1,sC.1,qf,qe,Nat.testBit,simprocAttr,-Int.reduceNatCast'],by simp only [sT.1,sC.1,qf,qe,Nat.testBit,simprocAttr,-Int.reduceNatCast'],by simp only [sT.1,sC.1,qf,qe,Nat.testBit,simprocAttr,-Int.reduceNatCast'],by simp only [sT.1,sC.1,qf,qe,Nat.testBit,simprocAttr,-Int.reduceNatCast',List.length_map],by simp only [sT.1,sC.1,qf,qe,Nat.testBit,simprocAttr,-Int.reduceNatCast',Int.natCast_zero],by simp only [sT.1,sC.1,qf,qe,Nat.testBit,simprocAttr,-Int.reduceNatCast'];omega,by simp only [sT.1,sC.1,qf,qe,Nat.testBit,simprocAttr,-Int.reduceNatCast'];rfl,by simp only [sT.1,sC.1,qf,qe,Nat.testBit,simprocAttr,-Int.reduceNatCast'],by simp⟩)
 rw [List.take_length] at g2
 simp only [qgf] at g2
 have hdep:(mkE op n name sub parts).depth = qaz (parts.map Nd.e) + 1:=rfl
 have h21:h.length + 2 ≠ h.length + 1:=by omega
 have hdm:(qc.lst (qbE φP (parts.map Nd.e)) (bif (parts.map Nd.e).isEmpty then .full else .own 5)).dim = .lst (qbE φP (parts.map Nd.e)) (fl (φP op (parts.map Nd.e).length)):=by cases parts <;> rfl
 by_cases hq:(mkE op n name sub parts).depth ≤ 20
 ·have d1:ilt 20 ((qaz (parts.map Nd.e) + 1:Nat):Int) = false:=by rw [qaw];rw [hdep] at hq;simp;omega
  simp only [sT.1,sC.1,qf,qe,Nat.testBit,simprocAttr,-Int.reduceNatCast',ht,e8,e9,g2,g1,d1,hH,hbl1,hdm,qt]
  have hH1:h.length + 1 < H.length:=by omega
  have htk:(H.set (h.length + 1) (.cells (Nd.cs ⟨mkE op n name sub parts,pos⟩))).take h.length = h:=by rw [List.take_set_of_le (by omega),gt]
  simp only [Nd.cs,Exp.cs,mkE,List.cons_append,List.nil_append] at htk
  simp only [sT.1,sC.1,qf,qe,Nat.testBit,simprocAttr,-Int.reduceNatCast',hH1,qt,qv]
  rw [if_pos hq]
  exact congrArg some (qb7 htk (Nd.lower ⟨mkE op n name sub parts,pos⟩ _))
 ·have d1:ilt 20 ((qaz (parts.map Nd.e) + 1:Nat):Int) = true:=by rw [qaw];rw [hdep] at hq;simp;omega
  simp only [sT.1,sC.1,qf,qe,Nat.testBit,simprocAttr,-Int.reduceNatCast',ht,e0,e1,e9,g2,d1,hH,qjH,qaC]
  rw [qa6 gt (qb _ _ _),if_neg hq]
end
section
variable {h:List qx} {i:Nat} {ws:List Tok} {n:Nat}
theorem qaX (p:qc) (pos op k:Int) (name sub:Str):Wd (.fn 127 [] []) [p,.int .i64 pos,.agg [.int .i64 op,.int .i64 k,.str name,.str sub,.lst [] .full],.lst [] .full] h = some (.ret (Nd.enc ⟨.mk op k name sub [],pos⟩),h,false):=by
 have:=qhB (h:=h) p pos op k name sub [] true (by simp) (by simp)
 rw [if_pos (by simp [mkE,Exp.depth,qaz])] at this
 exact this
theorem qhX (p:qc) (pos op k:Int) (name sub:Str) (x:Nd) (hx:x.e.depth ≤ 20):Wd (.fn 127 [] []) [p,.int .i64 pos,.agg [.int .i64 op,.int .i64 k,.str name,.str sub,.lst [] .full],.lst [x.enc] .full] h =
  if (Exp.mk op k name sub [x.e]).depth ≤ 20 then some (.ret (Nd.enc ⟨.mk op k name sub [x.e],pos⟩),h,false) else some (.pan (qbo pos 7),h,false):=
 qhB (h:=h) p pos op k name sub [x] true (by simp) (by simpa using hx)
theorem qdP (p:qc) (pos op k:Int) (name sub:Str) (x y:Nd) (hx:x.e.depth ≤ 20) (hy:y.e.depth ≤ 20):Wd (.fn 127 [] []) [p,.int .i64 pos,.agg [.int .i64 op,.int .i64 k,.str name,.str sub,.lst [] .full],.lst [x.enc,y.enc] .full] h =
  if (Exp.mk op k name sub [x.e,y.e]).depth ≤ 20 then some (.ret (Nd.enc ⟨.mk op k name sub [x.e,y.e],pos⟩),h,false) else some (.pan (qbo pos 7),h,false):=
 qhB (h:=h) p pos op k name sub [x,y] true (by simp) (by simpa using ⟨hx,hy⟩)
theorem qAb (p:qc) (pos op k:Int) (name sub:Str) (x y z:Nd) (hx:x.e.depth ≤ 20) (hy:y.e.depth ≤ 20) (hz:z.e.depth ≤ 20):Wd (.fn 127 [] []) [p,.int .i64 pos,.agg [.int .i64 op,.int .i64 k,.str name,.str sub,.lst [] .full],.lst [x.enc,y.enc,z.enc] .full] h =
  if (Exp.mk op k name sub [x.e,y.e,z.e]).depth ≤ 20 then some (.ret (Nd.enc ⟨.mk op k name sub [x.e,y.e,z.e],pos⟩),h,false) else some (.pan (qbo pos 7),h,false):=
 qhB (h:=h) p pos op k name sub [x,y,z] true (by simp) (by simpa using ⟨hx,hy,hz⟩)
theorem PBi (ws:List Tok) (n:Nat):PB ws n = .cells [.lst (ws.map Tok.enc) .no,.int .i64 (n:Int)]:=Eq.trans rfl rfl
theorem Nd.stor (x:Nd):x.cs.all qc.storable = true:=by
 obtain ⟨⟨op,k,name,sub,args⟩,pos⟩:=x
 rfl
theorem Nd.dims (x:Nd):x.cs.map qc.dim = x.cs:=by
 obtain ⟨⟨op,k,name,sub,args⟩,pos⟩:=x
 simp [Nd.cs,Exp.cs,qc.dim,fl]
 cases φP op args.length <;> rfl
theorem Nd.len (x:Nd):x.cs.length = 7:=by
 obtain ⟨⟨op,k,name,sub,args⟩,pos⟩:=x
 rfl
theorem Nd.dimE (x:Nd):x.enc.dim = x.enc:=rfl
theorem Nd.cellsE (x:Nd):x.enc.cells = x.cs:=rfl
theorem Nd.cutE (x:Nd):cut x.cs 0 (some 7) = some x.enc:=by
 rw [qdS (by rw [Nd.len];omega),List.drop_zero,List.take_of_length_le (by rw [Nd.len];omega),Nd.dims]
 rfl
theorem Nd.drainE (x:Nd) (j:Nat) (t:List qc):qcf x.enc j t = t:=rfl
theorem qkU (hw:WF ws) (hn:n < ws.length) (hi:h[i]? = some (PB ws n)) (h1:qab ws n = true) (h2:isW ws (n + 1) [46] = true) (h3:qab ws (n + 1 + 1) = true) :
  Wd (.fn 294 [] []) [.ptr i 0] h = some (.ret (Nd.enc ⟨.mk 5 0 (word ws n).s (word ws (n + 1 + 1)).s [],(word ws n).pos⟩),h.set i (PB ws (n + 1 + 1 + 1)),false):=by
 have hlt:=qd hi
 have hl:=hw.len
 have n1:=qM hw hn h1
 have n2:=qh hw n1 h2
 have n3:=qM hw n2 h3
 have w:=qap (n:=n + 1) (by omega)
 rw [PBi] at hi
 rw [qm rfl (show T.get 294 = some qxK by kernel_rfl)]
 simp only [qxK,sT.1,sC.1,qf,qe,Nat.testBit,simprocAttr,-Int.reduceNatCast',qam hw hn,qP hw hn,hi,h1,qbi hw n1,h2,hlt,PBi,w,q9 hw n2,h3,qP hw n2,qu,qaX,Nd.dimE,Nd.cellsE,Nd.cutE,Nd.dims,Nd.len,Nd.stor,Nd.lower,Nd.drainE]
theorem qhY (hw:WF ws) (hn:n < ws.length) (hi:h[i]? = some (PB ws n)) (h1:qab ws n = true) (h2:isW ws (n + 1) [46] = true→qab ws (n + 1 + 1) = false) :
  Wd (.fn 294 [] []) [.ptr i 0] h = some (.ret (Nd.enc ⟨.mk 4 0 (word ws n).s [] [],(word ws n).pos⟩),h.set i (PB ws (n + 1)),false):=by
 have hlt:=qd hi
 have hl:=hw.len
 have n1:=qM hw hn h1
 rw [PBi] at hi
 rw [qm rfl (show T.get 294 = some qxK by kernel_rfl)]
 cases h3:isW ws (n + 1) [46] with
 | false=>simp only [qxK,sT.1,sC.1,qf,qe,Nat.testBit,simprocAttr,-Int.reduceNatCast',qam hw hn,qP hw hn,hi,h1,qbi hw n1,h3,hlt,PBi,qu,qaX,Nd.dimE,Nd.cellsE,Nd.cutE,Nd.dims,Nd.len,Nd.stor,Nd.lower,Nd.drainE]
 | true=>
  have h4:=h2 h3
  have n2:=qh hw n1 h3
  have w:=qap (n:=n + 1) (by omega)
  have w':IntKind.i64.wrap (((n + 1 + 1:Nat):Int) - 1) = ((n + 1:Nat):Int):=by rw [qcA (by omega) (by omega)];omega
  simp only [qxK,sT.1,sC.1,qf,qe,Nat.testBit,simprocAttr,-Int.reduceNatCast',qam hw hn,qP hw hn,hi,h1,qbi hw n1,h3,hlt,PBi,w,w',q9 hw n2,h4,qu,qaX,Nd.dimE,Nd.cellsE,Nd.cutE,Nd.dims,Nd.len,Nd.stor,Nd.lower,Nd.drainE]
theorem qf2 (hw:WF ws) (hn:n < ws.length) (hi:h[i]? = some (PB ws n)) (pos op:Int) (h1:isW ws n [40] = true) (h2:qab ws (n + 1) = true) (h3:isW ws (n + 1 + 1) [41] = true) :
  Wd (.fn 298 [] []) [.ptr i 0,.int .i64 pos,.int .i64 op] h = some (.ret (Nd.enc ⟨.mk op 0 (word ws (n + 1)).s [] [],pos⟩),h.set i (PB ws (n + 1 + 1 + 1)),false):=by
 have hlt:=qd hi
 have n1:=qh hw hn h1
 have n2:=qM hw n1 h2
 rw [PBi] at hi
 rw [qm rfl (show T.get 298 = some qtE by kernel_rfl)]
 simp only [qtE,sT.1,sC.1,qf,qe,Nat.testBit,simprocAttr,-Int.reduceNatCast',qi hw hn,qi hw n2,qP hw n1,hi,h1,h2,h3,hlt,PBi,qu,qaX,Nd.dimE,Nd.cellsE,Nd.cutE,Nd.dims,Nd.len,Nd.stor,Nd.lower,Nd.drainE]
theorem qga (hw:WF ws) (hn:n < ws.length) (hi:h[i]? = some (PB ws n)) (pos op:Int) (h1:isW ws n [40] = false) :
  Wd (.fn 298 [] []) [.ptr i 0,.int .i64 pos,.int .i64 op] h = some (.pan (qbo (word ws n).pos 6),h,false):=by
 have hlt:=qd hi
 rw [PBi] at hi
 rw [qm rfl (show T.get 298 = some qtE by kernel_rfl)]
 simp only [qtE,sT.1,sC.1,qf,qe,Nat.testBit,simprocAttr,-Int.reduceNatCast',qah hw hn,hi,h1,hlt,PBi,qb]
theorem qf4 (hw:WF ws) (hn:n < ws.length) (hi:h[i]? = some (PB ws n)) (pos op:Int) (h1:isW ws n [40] = true) (h2:qab ws (n + 1) = false) :
  Wd (.fn 298 [] []) [.ptr i 0,.int .i64 pos,.int .i64 op] h = some (.pan (qbo (word ws (n + 1)).pos 6),h.set i (PB ws (n + 1)),false):=by
 have hlt:=qd hi
 have n1:=qh hw hn h1
 rw [PBi] at hi
 rw [qm rfl (show T.get 298 = some qtE by kernel_rfl)]
 simp only [qtE,sT.1,sC.1,qf,qe,Nat.testBit,simprocAttr,-Int.reduceNatCast',qi hw hn,qcy hw n1,hi,h1,h2,hlt,PBi,qb]
theorem qf7 (hw:WF ws) (hn:n < ws.length) (hi:h[i]? = some (PB ws n)) (pos op:Int) (h1:isW ws n [40] = true) (h2:qab ws (n + 1) = true) (h3:isW ws (n + 1 + 1) [41] = false) :
  Wd (.fn 298 [] []) [.ptr i 0,.int .i64 pos,.int .i64 op] h = some (.pan (qbo (word ws (n + 1 + 1)).pos 6),h.set i (PB ws (n + 1 + 1)),false):=by
 have hlt:=qd hi
 have n1:=qh hw hn h1
 have n2:=qM hw n1 h2
 rw [PBi] at hi
 rw [qm rfl (show T.get 298 = some qtE by kernel_rfl)]
 simp only [qtE,sT.1,sC.1,qf,qe,Nat.testBit,simprocAttr,-Int.reduceNatCast',qi hw hn,qah hw n2,qP hw n1,hi,h1,h2,h3,hlt,PBi,qb]
end
inductive Out where
 | ok (e:Exp) (n:Nat)
 | no (pos err:Int) (n:Nat)
def qai (f:FuncId) (ws:List Tok) (n:Nat):Out→Prop
 | .ok e n'=>n < n'∧n' < ws.length∧e.depth ≤ 20∧∀(h:List qx) (i:Nat),h[i]? = some (PB ws n)→Wd (.fn f [] []) [.ptr i 0] h = some (.ret (Nd.enc ⟨e,(word ws n).pos⟩),h.set i (PB ws n'),false)
 | .no pos err n'=>n' < ws.length∧∀(h:List qx) (i:Nat),h[i]? = some (PB ws n)→Wd (.fn f [] []) [.ptr i 0] h = some (.pan (qbo pos err),h.set i (PB ws n'),false)
section
variable {ws:List Tok} {n:Nat}
theorem qp {s s':Str} (h:isW ws n s = true) (hs:s ≠ s'):isW ws n s' = false:=by
 simp only [isW,Bool.and_eq_true,beq_iff_eq] at h
 simp only [isW,Bool.and_eq_false_iff]
 right
 rw [h.2]
 simpa using hs
theorem qnv (hw:WF ws) (hn:n < ws.length) (hs:isW ws n [116,114,117,101] = true):qai 296 ws n (.ok (.mk 1 0 [] [] []) (n + 1)):=by
 refine ⟨by omega,qh hw hn hs,by simp [Exp.depth,qaz],fun h i hi=>?_⟩
 have hlt:=qd hi
 rw [PBi] at hi
 rw [qm rfl (show T.get 296 = some qcX by kernel_rfl)]
 simp only [qcX,sT.1,sC.1,qf,qe,Nat.testBit,simprocAttr,-Int.reduceNatCast',qam hw hn,ql hw hn,qq hw hn,hi,hs,hlt,PBi,qu,qaX,Nd.dimE,Nd.cellsE,Nd.cutE,Nd.dims,Nd.len,Nd.stor,Nd.lower,Nd.drainE]
theorem qlo (hw:WF ws) (hn:n < ws.length) (hs:isW ws n [102,97,108,115,101] = true):qai 296 ws n (.ok (.mk 2 0 [] [] []) (n + 1)):=by
 refine ⟨by omega,qh hw hn hs,by simp [Exp.depth,qaz],fun h i hi=>?_⟩
 have q0:isW ws n [116,114,117,101] = false:=qp hs (by decide)
 have hlt:=qd hi
 rw [PBi] at hi
 rw [qm rfl (show T.get 296 = some qcX by kernel_rfl)]
 simp only [qcX,sT.1,sC.1,qf,qe,Nat.testBit,simprocAttr,-Int.reduceNatCast',qam hw hn,ql hw hn,qq hw hn,hi,hs,q0,hlt,PBi,qu,qaX,Nd.dimE,Nd.cellsE,Nd.cutE,Nd.dims,Nd.len,Nd.stor,Nd.lower,Nd.drainE]
theorem qjd (hw:WF ws) (hn:n < ws.length) (hs:isW ws n [101,108,97,112,115,101,100] = true):qai 296 ws n (.ok (.mk 11 0 [] [] []) (n + 1)):=by
 refine ⟨by omega,qh hw hn hs,by simp [Exp.depth,qaz],fun h i hi=>?_⟩
 have q0:isW ws n [116,114,117,101] = false:=qp hs (by decide)
 have q1:isW ws n [102,97,108,115,101] = false:=qp hs (by decide)
 have hlt:=qd hi
 rw [PBi] at hi
 rw [qm rfl (show T.get 296 = some qcX by kernel_rfl)]
 simp only [qcX,sT.1,sC.1,qf,qe,Nat.testBit,simprocAttr,-Int.reduceNatCast',qam hw hn,ql hw hn,qq hw hn,hi,hs,q0,q1,hlt,PBi,qu,qaX,Nd.dimE,Nd.cellsE,Nd.cutE,Nd.dims,Nd.len,Nd.stor,Nd.lower,Nd.drainE]
theorem qlc (hw:WF ws) (hn:n < ws.length) (hs:isW ws n [99,111,117,110,116] = true) (h1:isW ws (n + 1) [40] = true) (h2:qab ws (n + 1 + 1) = true) (h3:isW ws (n + 1 + 1 + 1) [41] = true):qai 296 ws n (.ok (.mk 7 0 (word ws (n + 1 + 1)).s [] []) (n + 1 + 1 + 1 + 1)):=by
 have n1:=qh hw hn hs
 have n2:=qh hw n1 h1
 have n3:=qM hw n2 h2
 refine ⟨by omega,qh hw n3 h3,by simp [Exp.depth,qaz],fun h i hi=>?_⟩
 have q0:isW ws n [116,114,117,101] = false:=qp hs (by decide)
 have q1:isW ws n [102,97,108,115,101] = false:=qp hs (by decide)
 have q2:isW ws n [101,108,97,112,115,101,100] = false:=qp hs (by decide)
 have hlt:=qd hi
 rw [PBi] at hi
 rw [qm rfl (show T.get 296 = some qcX by kernel_rfl)]
 simp only [qcX,sT.1,sC.1,qf,qe,Nat.testBit,simprocAttr,-Int.reduceNatCast',qam hw hn,ql hw hn,qq hw hn,hi,hs,q0,q1,q2,hlt,PBi,qf2 hw n1,h1,h2,h3,qu,qaX,Nd.dimE,Nd.cellsE,Nd.cutE,Nd.dims,Nd.len,Nd.stor,Nd.lower,Nd.drainE]
theorem qjw (hw:WF ws) (hn:n < ws.length) (hs:isW ws n [99,111,117,110,116] = true) (h1:isW ws (n + 1) [40] = false):qai 296 ws n (.no (word ws (n + 1)).pos 6 (n + 1)):=by
 have n1:=qh hw hn hs
 refine ⟨n1,fun h i hi=>?_⟩
 have q0:isW ws n [116,114,117,101] = false:=qp hs (by decide)
 have q1:isW ws n [102,97,108,115,101] = false:=qp hs (by decide)
 have q2:isW ws n [101,108,97,112,115,101,100] = false:=qp hs (by decide)
 have hlt:=qd hi
 rw [PBi] at hi
 rw [qm rfl (show T.get 296 = some qcX by kernel_rfl)]
 simp only [qcX,sT.1,sC.1,qf,qe,Nat.testBit,simprocAttr,-Int.reduceNatCast',qam hw hn,ql hw hn,qq hw hn,hi,hs,q0,q1,q2,hlt,PBi,qga hw n1,h1,qb]
theorem qjs (hw:WF ws) (hn:n < ws.length) (hs:isW ws n [99,111,117,110,116] = true) (h1:isW ws (n + 1) [40] = true) (h2:qab ws (n + 1 + 1) = false):qai 296 ws n (.no (word ws (n + 1 + 1)).pos 6 (n + 1 + 1)):=by
 have n1:=qh hw hn hs
 have n2:=qh hw n1 h1
 refine ⟨n2,fun h i hi=>?_⟩
 have q0:isW ws n [116,114,117,101] = false:=qp hs (by decide)
 have q1:isW ws n [102,97,108,115,101] = false:=qp hs (by decide)
 have q2:isW ws n [101,108,97,112,115,101,100] = false:=qp hs (by decide)
 have hlt:=qd hi
 rw [PBi] at hi
 rw [qm rfl (show T.get 296 = some qcX by kernel_rfl)]
 simp only [qcX,sT.1,sC.1,qf,qe,Nat.testBit,simprocAttr,-Int.reduceNatCast',qam hw hn,ql hw hn,qq hw hn,hi,hs,q0,q1,q2,hlt,PBi,qf4 hw n1,h1,h2,qb]
theorem qkA (hw:WF ws) (hn:n < ws.length) (hs:isW ws n [99,111,117,110,116] = true) (h1:isW ws (n + 1) [40] = true) (h2:qab ws (n + 1 + 1) = true) (h3:isW ws (n + 1 + 1 + 1) [41] = false):qai 296 ws n (.no (word ws (n + 1 + 1 + 1)).pos 6 (n + 1 + 1 + 1)):=by
 have n1:=qh hw hn hs
 have n2:=qh hw n1 h1
 have n3:=qM hw n2 h2
 refine ⟨n3,fun h i hi=>?_⟩
 have q0:isW ws n [116,114,117,101] = false:=qp hs (by decide)
 have q1:isW ws n [102,97,108,115,101] = false:=qp hs (by decide)
 have q2:isW ws n [101,108,97,112,115,101,100] = false:=qp hs (by decide)
 have hlt:=qd hi
 rw [PBi] at hi
 rw [qm rfl (show T.get 296 = some qcX by kernel_rfl)]
 simp only [qcX,sT.1,sC.1,qf,qe,Nat.testBit,simprocAttr,-Int.reduceNatCast',qam hw hn,ql hw hn,qq hw hn,hi,hs,q0,q1,q2,hlt,PBi,qf7 hw n1,h1,h2,h3,qb]
theorem qqj (hw:WF ws) (hn:n < ws.length) (hs:isW ws n [104,97,115] = true) (h1:isW ws (n + 1) [40] = true) (h2:qab ws (n + 1 + 1) = true) (h3:isW ws (n + 1 + 1 + 1) [41] = true):qai 296 ws n (.ok (.mk 8 0 (word ws (n + 1 + 1)).s [] []) (n + 1 + 1 + 1 + 1)):=by
 have n1:=qh hw hn hs
 have n2:=qh hw n1 h1
 have n3:=qM hw n2 h2
 refine ⟨by omega,qh hw n3 h3,by simp [Exp.depth,qaz],fun h i hi=>?_⟩
 have q0:isW ws n [116,114,117,101] = false:=qp hs (by decide)
 have q1:isW ws n [102,97,108,115,101] = false:=qp hs (by decide)
 have q2:isW ws n [101,108,97,112,115,101,100] = false:=qp hs (by decide)
 have q3:isW ws n [99,111,117,110,116] = false:=qp hs (by decide)
 have hlt:=qd hi
 rw [PBi] at hi
 rw [qm rfl (show T.get 296 = some qcX by kernel_rfl)]
 simp only [qcX,sT.1,sC.1,qf,qe,Nat.testBit,simprocAttr,-Int.reduceNatCast',qam hw hn,ql hw hn,qq hw hn,hi,hs,q0,q1,q2,q3,hlt,PBi,qf2 hw n1,h1,h2,h3,qu,qaX,Nd.dimE,Nd.cellsE,Nd.cutE,Nd.dims,Nd.len,Nd.stor,Nd.lower,Nd.drainE]
theorem qni (hw:WF ws) (hn:n < ws.length) (hs:isW ws n [104,97,115] = true) (h1:isW ws (n + 1) [40] = false):qai 296 ws n (.no (word ws (n + 1)).pos 6 (n + 1)):=by
 have n1:=qh hw hn hs
 refine ⟨n1,fun h i hi=>?_⟩
 have q0:isW ws n [116,114,117,101] = false:=qp hs (by decide)
 have q1:isW ws n [102,97,108,115,101] = false:=qp hs (by decide)
 have q2:isW ws n [101,108,97,112,115,101,100] = false:=qp hs (by decide)
 have q3:isW ws n [99,111,117,110,116] = false:=qp hs (by decide)
 have hlt:=qd hi
 rw [PBi] at hi
 rw [qm rfl (show T.get 296 = some qcX by kernel_rfl)]
 simp only [qcX,sT.1,sC.1,qf,qe,Nat.testBit,simprocAttr,-Int.reduceNatCast',qam hw hn,ql hw hn,qq hw hn,hi,hs,q0,q1,q2,q3,hlt,PBi,qga hw n1,h1,qb]
theorem qn5 (hw:WF ws) (hn:n < ws.length) (hs:isW ws n [104,97,115] = true) (h1:isW ws (n + 1) [40] = true) (h2:qab ws (n + 1 + 1) = false):qai 296 ws n (.no (word ws (n + 1 + 1)).pos 6 (n + 1 + 1)):=by
 have n1:=qh hw hn hs
 have n2:=qh hw n1 h1
 refine ⟨n2,fun h i hi=>?_⟩
 have q0:isW ws n [116,114,117,101] = false:=qp hs (by decide)
 have q1:isW ws n [102,97,108,115,101] = false:=qp hs (by decide)
 have q2:isW ws n [101,108,97,112,115,101,100] = false:=qp hs (by decide)
 have q3:isW ws n [99,111,117,110,116] = false:=qp hs (by decide)
 have hlt:=qd hi
 rw [PBi] at hi
 rw [qm rfl (show T.get 296 = some qcX by kernel_rfl)]
 simp only [qcX,sT.1,sC.1,qf,qe,Nat.testBit,simprocAttr,-Int.reduceNatCast',qam hw hn,ql hw hn,qq hw hn,hi,hs,q0,q1,q2,q3,hlt,PBi,qf4 hw n1,h1,h2,qb]
theorem qoG (hw:WF ws) (hn:n < ws.length) (hs:isW ws n [104,97,115] = true) (h1:isW ws (n + 1) [40] = true) (h2:qab ws (n + 1 + 1) = true) (h3:isW ws (n + 1 + 1 + 1) [41] = false):qai 296 ws n (.no (word ws (n + 1 + 1 + 1)).pos 6 (n + 1 + 1 + 1)):=by
 have n1:=qh hw hn hs
 have n2:=qh hw n1 h1
 have n3:=qM hw n2 h2
 refine ⟨n3,fun h i hi=>?_⟩
 have q0:isW ws n [116,114,117,101] = false:=qp hs (by decide)
 have q1:isW ws n [102,97,108,115,101] = false:=qp hs (by decide)
 have q2:isW ws n [101,108,97,112,115,101,100] = false:=qp hs (by decide)
 have q3:isW ws n [99,111,117,110,116] = false:=qp hs (by decide)
 have hlt:=qd hi
 rw [PBi] at hi
 rw [qm rfl (show T.get 296 = some qcX by kernel_rfl)]
 simp only [qcX,sT.1,sC.1,qf,qe,Nat.testBit,simprocAttr,-Int.reduceNatCast',qam hw hn,ql hw hn,qq hw hn,hi,hs,q0,q1,q2,q3,hlt,PBi,qf7 hw n1,h1,h2,h3,qb]
theorem qqz (hw:WF ws) (hn:n < ws.length) (hs:isW ws n [115,117,109] = true) (h1:isW ws (n + 1) [40] = true) (h2:qab ws (n + 1 + 1) = true) (h3:isW ws (n + 1 + 1 + 1) [41] = true):qai 296 ws n (.ok (.mk 9 0 (word ws (n + 1 + 1)).s [] []) (n + 1 + 1 + 1 + 1)):=by
 have n1:=qh hw hn hs
 have n2:=qh hw n1 h1
 have n3:=qM hw n2 h2
 refine ⟨by omega,qh hw n3 h3,by simp [Exp.depth,qaz],fun h i hi=>?_⟩
 have q0:isW ws n [116,114,117,101] = false:=qp hs (by decide)
 have q1:isW ws n [102,97,108,115,101] = false:=qp hs (by decide)
 have q2:isW ws n [101,108,97,112,115,101,100] = false:=qp hs (by decide)
 have q3:isW ws n [99,111,117,110,116] = false:=qp hs (by decide)
 have q4:isW ws n [104,97,115] = false:=qp hs (by decide)
 have hlt:=qd hi
 rw [PBi] at hi
 rw [qm rfl (show T.get 296 = some qcX by kernel_rfl)]
 simp only [qcX,sT.1,sC.1,qf,qe,Nat.testBit,simprocAttr,-Int.reduceNatCast',qam hw hn,ql hw hn,qq hw hn,hi,hs,q0,q1,q2,q3,q4,hlt,PBi,qf2 hw n1,h1,h2,h3,qu,qaX,Nd.dimE,Nd.cellsE,Nd.cutE,Nd.dims,Nd.len,Nd.stor,Nd.lower,Nd.drainE]
theorem qnI (hw:WF ws) (hn:n < ws.length) (hs:isW ws n [115,117,109] = true) (h1:isW ws (n + 1) [40] = false):qai 296 ws n (.no (word ws (n + 1)).pos 6 (n + 1)):=by
 have n1:=qh hw hn hs
 refine ⟨n1,fun h i hi=>?_⟩
 have q0:isW ws n [116,114,117,101] = false:=qp hs (by decide)
 have q1:isW ws n [102,97,108,115,101] = false:=qp hs (by decide)
 have q2:isW ws n [101,108,97,112,115,101,100] = false:=qp hs (by decide)
 have q3:isW ws n [99,111,117,110,116] = false:=qp hs (by decide)
 have q4:isW ws n [104,97,115] = false:=qp hs (by decide)
 have hlt:=qd hi
 rw [PBi] at hi
 rw [qm rfl (show T.get 296 = some qcX by kernel_rfl)]
 simp only [qcX,sT.1,sC.1,qf,qe,Nat.testBit,simprocAttr,-Int.reduceNatCast',qam hw hn,ql hw hn,qq hw hn,hi,hs,q0,q1,q2,q3,q4,hlt,PBi,qga hw n1,h1,qb]
theorem qnF (hw:WF ws) (hn:n < ws.length) (hs:isW ws n [115,117,109] = true) (h1:isW ws (n + 1) [40] = true) (h2:qab ws (n + 1 + 1) = false):qai 296 ws n (.no (word ws (n + 1 + 1)).pos 6 (n + 1 + 1)):=by
 have n1:=qh hw hn hs
 have n2:=qh hw n1 h1
 refine ⟨n2,fun h i hi=>?_⟩
 have q0:isW ws n [116,114,117,101] = false:=qp hs (by decide)
 have q1:isW ws n [102,97,108,115,101] = false:=qp hs (by decide)
 have q2:isW ws n [101,108,97,112,115,101,100] = false:=qp hs (by decide)
 have q3:isW ws n [99,111,117,110,116] = false:=qp hs (by decide)
 have q4:isW ws n [104,97,115] = false:=qp hs (by decide)
 have hlt:=qd hi
 rw [PBi] at hi
 rw [qm rfl (show T.get 296 = some qcX by kernel_rfl)]
 simp only [qcX,sT.1,sC.1,qf,qe,Nat.testBit,simprocAttr,-Int.reduceNatCast',qam hw hn,ql hw hn,qq hw hn,hi,hs,q0,q1,q2,q3,q4,hlt,PBi,qf4 hw n1,h1,h2,qb]
theorem qnS (hw:WF ws) (hn:n < ws.length) (hs:isW ws n [115,117,109] = true) (h1:isW ws (n + 1) [40] = true) (h2:qab ws (n + 1 + 1) = true) (h3:isW ws (n + 1 + 1 + 1) [41] = false):qai 296 ws n (.no (word ws (n + 1 + 1 + 1)).pos 6 (n + 1 + 1 + 1)):=by
 have n1:=qh hw hn hs
 have n2:=qh hw n1 h1
 have n3:=qM hw n2 h2
 refine ⟨n3,fun h i hi=>?_⟩
 have q0:isW ws n [116,114,117,101] = false:=qp hs (by decide)
 have q1:isW ws n [102,97,108,115,101] = false:=qp hs (by decide)
 have q2:isW ws n [101,108,97,112,115,101,100] = false:=qp hs (by decide)
 have q3:isW ws n [99,111,117,110,116] = false:=qp hs (by decide)
 have q4:isW ws n [104,97,115] = false:=qp hs (by decide)
 have hlt:=qd hi
 rw [PBi] at hi
 rw [qm rfl (show T.get 296 = some qcX by kernel_rfl)]
 simp only [qcX,sT.1,sC.1,qf,qe,Nat.testBit,simprocAttr,-Int.reduceNatCast',qam hw hn,ql hw hn,qq hw hn,hi,hs,q0,q1,q2,q3,q4,hlt,PBi,qf7 hw n1,h1,h2,h3,qb]
theorem qh7 (hw:WF ws) (hn:n < ws.length) (q0:isW ws n [116,114,117,101] = false) (q1:isW ws n [102,97,108,115,101] = false) (q2:isW ws n [101,108,97,112,115,101,100] = false) (q3:isW ws n [99,111,117,110,116] = false) (q4:isW ws n [104,97,115] = false) (q5:isW ws n [115,117,109] = false) (q6:isW ws n [108,101,97,115,116] = false):qai 296 ws n (.no (word ws n).pos 6 n):=by
 refine ⟨hn,fun h i hi=>?_⟩
 have hbad:=qaK hw hn hi
 have hlt:=qd hi
 rw [PBi] at hi
 rw [qm rfl (show T.get 296 = some qcX by kernel_rfl)]
 simp only [qcX,sT.1,sC.1,qf,qe,Nat.testBit,simprocAttr,-Int.reduceNatCast',qam hw hn,qq hw hn,qaK hw hn,hi,q0,q1,q2,q3,q4,q5,q6,hlt,PBi,qb]
 exact congrArg (fun x=>some (_,x,false)) (qdc (by rw [PBi];exact hi)).symm
end
theorem qag {z:List qc} (x:Nd) (hz:z.length = 7):qfc 7 z 1 [(0,x.enc)] = some (.lst [x.enc] .full):=qdG hz (by omega) x.len x.stor (by omega)
theorem qU {z:List qc} (x y:Nd) (hz:z.length = 7):qfc 7 z 2 [(0,x.enc),(1,y.enc)] = some (.lst [x.enc,y.enc] .full):=qqS hz (by omega) x.len x.stor y.len y.stor (by omega)
theorem qaB {z:List qc} (x y w:Nd) (hz:z.length = 7):qfc 7 z 3 [(0,x.enc),(1,y.enc),(2,w.enc)] = some (.lst [x.enc,y.enc,w.enc] .full):=qsi hz (by omega) x.len x.stor y.len y.stor w.len w.stor (by omega)
def qsv:qx:=.cells [.int .i64 0,.int .i64 0,.str [],.str [],.lst [] .full,.int .i64 0,.int .i64 0]
def NB (x:Nd):qx:=.cells x.cs
theorem NBi (x:Nd):NB x = .cells x.cs:=Eq.trans rfl rfl
theorem qbV:qsv = .cells [.int .i64 0,.int .i64 0,.str [],.str [],.lst [] .full,.int .i64 0,.int .i64 0]:=Eq.trans rfl rfl
theorem Nd.drop7 (x:Nd):x.cs.drop 7 = []:=List.drop_eq_nil_of_le (by rw [Nd.len];omega)
theorem Nd.cut6 (x:Nd):x.cs[6]? = some (.int .i64 x.pos):=by
 obtain ⟨⟨op,k,name,sub,args⟩,pos⟩:=x
 rfl
section
variable {ws:List Tok} {h:List qx}
structure qgq (h:List qx) (i:Nat) (ws:List Tok) (n:Nat) (x:Nd) (H:List qx):Prop where
 lt:i < h.length
 len:h.length + 1 < H.length
 par:H[i]? = some (PB ws n)
 res:H[h.length]? = some qsv
 nod:H[h.length + 1]? = some (NB x)
 old:H.take h.length = h.set i (PB ws n)
theorem qgq.next {i n n':Nat} {x x':Nd} {H:List qx} (hl:qgq h i ws n x H) (l:List qx):qgq h i ws n' x' ((H.set i (PB ws n')).set (h.length + 1) (NB x') ++ l):=by
 have h1:=hl.lt
 have h2:=hl.len
 refine ⟨hl.lt,by simp;omega,?_,?_,?_,?_⟩
 ·rw [qcv (by simp;omega),qcx (by omega),qep (by omega)]
 ·rw [qcv (by simp;omega),qcx (by omega),qcx (by omega),hl.res]
 ·rw [qcv (by simp;omega),qep (by simp;omega)]
 ·rw [List.take_append_of_le_length (by simp;omega),List.take_set_of_le (by omega),List.take_set,hl.old,qfH]
inductive qeX (ws:List Tok) (pos:Int):Exp→Nat→Out→Prop
 | stop {e n}:isW ws n [46] = false→qeX ws pos e n (.ok e n)
 | bad {e n}:isW ws n [46] = true→(word ws (n + 1)).kind ≠ 1→qeX ws pos e n (.no (word ws (n + 1)).pos 6 (n + 1))
 | many {e n}:isW ws n [46] = true→(word ws (n + 1)).kind = 1→4 ≤ (word ws (n + 1)).n→qeX ws pos e n (.no (word ws (n + 1)).pos 8 (n + 1))
 | deep {e n}:isW ws n [46] = true→(word ws (n + 1)).kind = 1→(word ws (n + 1)).n < 4→¬ (Exp.mk 12 (word ws (n + 1)).n [] [] [e]).depth ≤ 20→qeX ws pos e n (.no pos 7 (n + 1 + 1))
 | go {e n o}:isW ws n [46] = true→(word ws (n + 1)).kind = 1→(word ws (n + 1)).n < 4→(Exp.mk 12 (word ws (n + 1)).n [] [] [e]).depth ≤ 20→qeX ws pos (.mk 12 (word ws (n + 1)).n [] [] [e]) (n + 1 + 1) o→qeX ws pos e n o
def qnj (h:List qx) (i:Nat) (ws:List Tok) (pos:Int) (len:Nat) (r:Option (Ex×St)):Out→Prop
 | .ok e n=>n < ws.length∧e.depth ≤ 20∧∃tt H,r = some (.exit 0,⟨tt,H,false⟩)∧tt.length = len∧lkp tt 2 = .ptr h.length 0∧lkp tt 3 = .ptr (h.length + 1) 0∧qgq h i ws n ⟨e,pos⟩ H
 | .no p err n=>n < ws.length∧∃tt H,r = some (.pan (qbo p err),⟨tt,H,false⟩)∧H.take h.length = h.set i (PB ws n)
theorem qgq.cut {i n n':Nat} {x:Nd} {H:List qx} (hl:qgq h i ws n x H) (l:List qx):(H.set i (PB ws n') ++ l).take h.length = h.set i (PB ws n'):=by
 have h1:=hl.lt
 have h2:=hl.len
 rw [List.take_append_of_le_length (by simp;omega),List.take_set,hl.old,qfH]
theorem qtA (hw:WF ws) (i:Nat) (pos:Int) (e:Exp) (n:Nat) (o:Out) (hI:qeX ws pos e n o):∀(tt:List qc) (H:List qx),n < ws.length→e.depth ≤ 20→tt.length = 40→lkp tt 0 = .ptr i 0→lkp tt 2 = .ptr h.length 0→lkp tt 3 = .ptr (h.length + 1) 0→qgq h i ws n ⟨e,pos⟩ H→
  qnj h i ws pos 40 (qH h.length Wd (.loop qdR) ⟨tt,H,false⟩) o:=by
 induction hI with
 | @stop e n hs=>
  intro tt H hn hd ht e0 e2 e3 hL
  have hlt:i < H.length:=by have:=hL.lt;have:=hL.len;omega
  have hp:=hL.par
  rw [PBi] at hp
  rw [qn]
  generalize he:qH h.length Wd qdR _ = r
  simp only [qdR,sT.1,sC.1,qf,qe,Nat.testBit,simprocAttr,-Int.reduceNatCast',ht,e0,qq hw hn,hp,hs,PBi] at he
  subst he
  exact ⟨hn,hd,_,_,rfl,by simp only [qK,ht],by simp only [sT.1,sC.1,qf,qe,Nat.testBit,simprocAttr,-Int.reduceNatCast',e2],by simp only [sT.1,sC.1,qf,qe,Nat.testBit,simprocAttr,-Int.reduceNatCast',e3],hL⟩
 | @bad e n hs hk=>
  intro tt H hn hd ht e0 e2 e3 hL
  have n1:=qh hw hn hs
  have hlt:i < H.length:=by have:=hL.lt;have:=hL.len;omega
  have hbH:Nat.ble h.length H.length = true:=qao (by have:=hL.len;omega)
  have hp:=hL.par
  rw [PBi] at hp
  have hk':((word ws (n + 1)).kind == 1) = false:=by simpa using hk
  rw [qn]
  generalize he:qH h.length Wd qdR _ = r
  simp only [qdR,sT.1,sC.1,qf,qe,Nat.testBit,simprocAttr,-Int.reduceNatCast',ht,e0,ql hw hn,hp,hs,PBi,qae hw n1,hlt,Tok.enc,hk',qaK hw n1,hbH] at he
  subst he
  exact ⟨n1,_,_,rfl,hL.cut _⟩
 | @many e n hs hk hm=>
  intro tt H hn hd ht e0 e2 e3 hL
  have n1:=qh hw hn hs
  have hlt:i < H.length:=by have:=hL.lt;have:=hL.len;omega
  have hbH:Nat.ble h.length H.length = true:=qao (by have:=hL.len;omega)
  have hp:=hL.par
  rw [PBi] at hp
  have hk':((word ws (n + 1)).kind == 1) = true:=by simpa using hk
  have hm':ile 4 (word ws (n + 1)).n = true:=by rw [qea];simpa using hm
  rw [qn]
  generalize he:qH h.length Wd qdR _ = r
  simp only [qdR,sT.1,sC.1,qf,qe,Nat.testBit,simprocAttr,-Int.reduceNatCast',ht,e0,ql hw hn,hp,hs,PBi,qae hw n1,hlt,Tok.enc,hk',hm',qaC,hbH] at he
  subst he
  exact ⟨n1,_,_,rfl,hL.cut _⟩
 | @deep e n hs hk hm hdp=>
  intro tt H hn hd ht e0 e2 e3 hL
  have n1:=qh hw hn hs
  have n2:=hw.next n1 (by omega)
  have hlt:i < H.length:=by have:=hL.lt;have:=hL.len;omega
  have hlb:h.length + 1 < H.length:=hL.len
  have hib:i ≠ h.length + 1:=by have:=hL.lt;omega
  have hbH:Nat.ble h.length H.length = true:=qao (by have:=hL.len;omega)
  have hp:=hL.par
  have hnod:=hL.nod
  rw [NBi] at hnod
  rw [PBi] at hp
  have hk':((word ws (n + 1)).kind == 1) = true:=by simpa using hk
  have hm':ile 4 (word ws (n + 1)).n = false:=by rw [qea];simpa using hm
  have w:=qap (n:=n + 1) (by have:=hw.len;omega)
  rw [qn]
  generalize he:qH h.length Wd qdR _ = r
  simp only [qdR,sT.1,sC.1,qf,qe,Nat.testBit,simprocAttr,-Int.reduceNatCast',ht,e0,e3,ql hw hn,hp,hs,PBi,qae hw n1,hlt,Tok.enc,hk',hm',hbH,hlb,hib,hnod,w,Nd.cut6,Nd.cutE,Nd.dimE,qu,qag,qhX,hd,hdp] at he
  subst he
  exact ⟨n2,_,_,rfl,hL.cut _⟩
 | @go e n o hs hk hm hdp hI ih=>
  intro tt H hn hd ht e0 e2 e3 hL
  have n1:=qh hw hn hs
  have n2:=hw.next n1 (by omega)
  have hlt:i < H.length:=by have:=hL.lt;have:=hL.len;omega
  have hlb:h.length + 1 < H.length:=hL.len
  have hib:i ≠ h.length + 1:=by have:=hL.lt;omega
  have hbH:Nat.ble h.length H.length = true:=qao (by have:=hL.len;omega)
  have hb1:=qr h 1
  have hp:=hL.par
  have hnod:=hL.nod
  rw [NBi] at hnod
  rw [PBi] at hp
  have hk':((word ws (n + 1)).kind == 1) = true:=by simpa using hk
  have hm':ile 4 (word ws (n + 1)).n = false:=by rw [qea];simpa using hm
  have w:=qap (n:=n + 1) (by have:=hw.len;omega)
  rw [qn]
  generalize he:qH h.length Wd qdR _ = r
  simp only [qdR,sT.1,sC.1,qf,qe,Nat.testBit,simprocAttr,-Int.reduceNatCast',ht,e0,e3,ql hw hn,hp,hs,PBi,qae hw n1,hlt,Tok.enc,hk',hm',hbH,hlb,hib,hnod,w,Nd.cut6,Nd.cutE,Nd.dimE,Nd.cellsE,Nd.dims,Nd.len,Nd.stor,Nd.drainE,Nd.drop7,qu,qag,qhX,hd,hdp,hb1] at he
  subst he
  exact ih _ _ n2 hdp (by simp only [qK,ht]) (by simp only [sT.1,sC.1,qf,qe,Nat.testBit,simprocAttr,-Int.reduceNatCast',e0]) (by simp only [sT.1,sC.1,qf,qe,Nat.testBit,simprocAttr,-Int.reduceNatCast',e2]) (by simp only [sT.1,sC.1,qf,qe,Nat.testBit,simprocAttr,-Int.reduceNatCast',e3]) (hL.next _)
theorem qgq.start {i n:Nat} {x:Nd} (hi:i < h.length):qgq h i ws n x (h.set i (PB ws n) ++ [qsv,NB x]):=by
 refine ⟨hi,by simp,?_,?_,?_,?_⟩
 ·rw [qcv (by simpa using hi),qep hi]
 ·rw [qcE (by simp)];rfl
 ·rw [List.getElem?_append_right (by simp)];simp
 ·rw [List.take_append_of_le_length (by simp),List.take_of_length_le (by simp)]
theorem qgq.answer {i n:Nat} {x:Nd} {H:List qx} (hl:qgq h i ws n x H):qbp h.length (.ret x.enc) (H.set h.length (NB x)) false = (.ret x.enc,h.set i (PB ws n),false):=
 qb7 (by rw [List.take_set_of_le (by omega),hl.old]) (x.lower _)
theorem qt2 (hw:WF ws) {n:Nat} (hn:n < ws.length) {e:Exp} {n1:Nat} {o:Out} (h1:qai 293 ws n (.ok e n1)) (hI:qeX ws (word ws n).pos e n1 o) (hmono:∀e' n',o = .ok e' n'→n1 ≤ n'):qai 292 ws n o:=by
 obtain ⟨g1,g2,g3,g4⟩:=h1
 have run:∀(h:List qx) (i:Nat),h[i]? = some (PB ws n)→∃r,qnj h i ws (word ws n).pos 40 r o∧Wd (.fn 292 [] []) [.ptr i 0] h = qfU [.cell 2 (some 7)] h (qcd (qH h.length Wd (.seq (.reg [ao 39 (.ld (some 7) (.t 3)),an (.st (some 7) (.t 2) (.t 39))]) .ret)) (qc7 0 r)):=by
  intro h i hi
  have hlt:=qd hi
  rw [PBi] at hi
  generalize hr:Wd (.fn 292 [] []) [.ptr i 0] h = R
  rw [qm rfl (show T.get 292 = some qzw by kernel_rfl)] at hr
  have hbl1:Nat.ble h.length (h.length + 1) = true:=qao (by omega)
  simp only [qzw,sT.1,sC.1,qf,qe,Nat.testBit,simprocAttr,-Int.reduceNatCast',g4,hi,hlt,PBi,Nd.dimE,Nd.cellsE,Nd.cutE,Nd.dims,Nd.len,Nd.stor,Nd.drainE,hbl1] at hr
  generalize hq:qH h.length Wd (.loop qdR) _ = r at hr
  refine ⟨r,?_,?_⟩
  ·rw [←hq]
   exact qtA hw i _ e n1 o hI _ _ g2 g3 (by simp only [sT.1,sC.1,qf,qe,Nat.testBit,simprocAttr,-Int.reduceNatCast']) (by simp only [sT.1,sC.1,qf,qe,Nat.testBit,simprocAttr,-Int.reduceNatCast']) (by simp only [sT.1,sC.1,qf,qe,Nat.testBit,simprocAttr,-Int.reduceNatCast']) (by simp only [sT.1,sC.1,qf,qe,Nat.testBit,simprocAttr,-Int.reduceNatCast']) (qgq.start hlt)
  ·rw [←hr]
   simp only [sT.1,sC.1,qf,qe,Nat.testBit,simprocAttr,-Int.reduceNatCast']
 cases o with
 | ok e' n'=>
  have hm:=hmono e' n' rfl
  obtain ⟨r,hL,_⟩:=run (List.replicate 1 (PB ws n)) 0 rfl
  refine ⟨by omega,hL.1,hL.2.1,fun h i hi=>?_⟩
  obtain ⟨r,⟨q1,q2,tt,H,rfl,ht,e2,e3,hL⟩,hr⟩:=run h i hi
  have hnod:=hL.nod
  have hres:=hL.res
  have hlen:=hL.len
  have hlen':h.length < H.length:=by omega
  rw [NBi] at hnod
  rw [qbV] at hres
  rw [hr]
  simp only [sT.1,sC.1,qf,qe,Nat.testBit,simprocAttr,-Int.reduceNatCast',ht,e2,e3,hnod,hres,hlen',Nd.dimE,Nd.cellsE,Nd.cutE,Nd.dims,Nd.len,Nd.stor,Nd.drainE]
  exact congrArg some hL.answer
 | no pos err n'=>
  obtain ⟨r,hL,_⟩:=run (List.replicate 1 (PB ws n)) 0 rfl
  refine ⟨hL.1,fun h i hi=>?_⟩
  obtain ⟨r,⟨q1,tt,H,rfl,q3⟩,hr⟩:=run h i hi
  rw [hr]
  simp only [sT.1,sC.1,qf,qe,Nat.testBit,simprocAttr,-Int.reduceNatCast']
  exact congrArg some (qa6 q3 (qb _ _ _))
end
inductive qe8 (op:Nat→Option Int) (sub:Nat→Out→Prop) (pos:Int):Exp→Nat→Out→Prop
 | stop {e n}:op n = none→qe8 op sub pos e n (.ok e n)
 | bad {e n k p err m}:op n = some k→sub (n + 1) (.no p err m)→qe8 op sub pos e n (.no p err m)
 | deep {e n k x n1}:op n = some k→sub (n + 1) (.ok x n1)→¬ (Exp.mk k 0 [] [] [e,x]).depth ≤ 20→qe8 op sub pos e n (.no pos 7 n1)
 | go {e n k x n1 o}:op n = some k→sub (n + 1) (.ok x n1)→(Exp.mk k 0 [] [] [e,x]).depth ≤ 20→qe8 op sub pos (.mk k 0 [] [] [e,x]) n1 o→qe8 op sub pos e n o
theorem qe8.mono {op:Nat→Option Int} {sub:Nat→Out→Prop} {pos:Int} (hs:∀n x m,sub n (.ok x m)→n < m) {e:Exp} {n:Nat} {o:Out} (h:qe8 op sub pos e n o):∀e' n',o = .ok e' n'→n ≤ n':=by
 induction h with
 | stop _=>intro e' n' h;cases h;exact Nat.le_refl _
 | bad _ _=>intro e' n' h;cases h
 | deep _ _ _=>intro e' n' h;cases h
 | go _ h1 _ _ ih=>intro e' n' h;have:=ih e' n' h;have:=hs _ _ _ h1;omega
theorem qeX.mono {ws:List Tok} {pos:Int} {e:Exp} {n:Nat} {o:Out} (h:qeX ws pos e n o):∀e' n',o = .ok e' n'→n ≤ n':=by
 induction h with
 | stop _=>intro e' n' h;cases h;exact Nat.le_refl _
 | bad _ _=>intro e' n' h;cases h
 | many _ _ _=>intro e' n' h;cases h
 | deep _ _ _ _=>intro e' n' h;cases h
 | go _ _ _ _ _ ih=>intro e' n' h;have:=ih e' n' h;omega
section
variable {ws:List Tok} {h:List qx}
def qtV (h:List qx) (i:Nat) (ws:List Tok) (pos:Int) (len:Nat) (r:Option (Ex×St)):Out→Prop
 | .ok e n=>n < ws.length∧e.depth ≤ 20∧∃tt H,r = some (.ret,⟨tt,H.set h.length (NB ⟨e,pos⟩),false⟩)∧tt.length = len∧lkp tt 2 = .ptr h.length 0∧qgq h i ws n ⟨e,pos⟩ H
 | .no p err n=>n < ws.length∧∃tt H,r = some (.pan (qbo p err),⟨tt,H,false⟩)∧H.take h.length = h.set i (PB ws n)
theorem qgq.cut0 {i n n':Nat} {x:Nd} {H:List qx} (hl:qgq h i ws n x H):(H.set i (PB ws n')).take h.length = h.set i (PB ws n'):=by
 have:=hl.cut (n':=n') []
 simpa using this
theorem qgq.next0 {i n n':Nat} {x x':Nd} {H:List qx} (hl:qgq h i ws n x H):qgq h i ws n' x' ((H.set i (PB ws n')).set (h.length + 1) (NB x')):=by
 have:=hl.next (n':=n') (x':=x') []
 simpa using this
def qfs (ws:List Tok) (n:Nat):Option Int:=if isW ws n [42] = true then some 17 else if isW ws n [47] = true then some 18 else if isW ws n [37] = true then some 19 else none
theorem qc3 {n:Nat} {k:Int} (h:qfs ws n = some k):(isW ws n [42] = true∧k = 17)∨(isW ws n [42] = false∧isW ws n [47] = true∧k = 18)∨(isW ws n [42] = false∧isW ws n [47] = false∧isW ws n [37] = true∧k = 19):=by
 simp only [qfs] at h
 cases h0:isW ws n [42] <;> cases h1:isW ws n [47] <;> cases h2:isW ws n [37] <;> simp_all
theorem qli {n:Nat} (h:qfs ws n = none):isW ws n [42] = false∧isW ws n [47] = false∧isW ws n [37] = false:=by
 simp only [qfs] at h
 cases h0:isW ws n [42] <;> cases h1:isW ws n [47] <;> cases h2:isW ws n [37] <;> simp_all
theorem qtu (hw:WF ws) (i:Nat) (pos:Int) (e:Exp) (n:Nat) (o:Out) (hT:qe8 (qfs ws) (qai 289 ws) pos e n o):∀(tt:List qc) (H:List qx),n < ws.length→e.depth ≤ 20→tt.length = 27→lkp tt 0 = .ptr i 0→lkp tt 2 = .ptr h.length 0→lkp tt 3 = .ptr (h.length + 1) 0→qgq h i ws n ⟨e,pos⟩ H→
  qtV h i ws pos 27 (qH h.length Wd (.loop qcK) ⟨tt,H,false⟩) o:=by
 induction hT with
 | @stop e n hs=>
  intro tt H hn hd ht e0 e2 e3 hL
  have hlt:i < H.length:=by have:=hL.lt;have:=hL.len;omega
  have hlb:h.length + 1 < H.length:=hL.len
  have hl0:h.length < H.length:=by omega
  have hib:i ≠ h.length + 1:=by have:=hL.lt;omega
  have hb1:=qr h 1
  have hp:=hL.par
  have hnod:=hL.nod
  have hres:=hL.res
  rw [NBi] at hnod
  rw [PBi] at hp
  rw [qbV] at hres
  obtain ⟨s1,s2,s3⟩:=qli hs
  rw [qn]
  generalize he:qH h.length Wd qcK _ = r
  simp only [qcK,sT.1,sC.1,qf,qe,Nat.testBit,simprocAttr,-Int.reduceNatCast',ht,e0,e2,e3,ql hw hn,qq hw hn,hp,PBi,hlt,hlb,hib,hl0,hnod,hres,hb1,hd,Nd.cut6,Nd.cutE,Nd.dimE,Nd.cellsE,Nd.dims,Nd.len,Nd.stor,Nd.drainE,Nd.drop7,qu,qU,s1,s2,s3] at he
  subst he
  exact ⟨hn,hd,_,_,rfl,by simp only [qK,ht],by simp only [sT.1,sC.1,qf,qe,Nat.testBit,simprocAttr,-Int.reduceNatCast',e2],hL⟩
 | @bad e n k p err m hs hx=>
  intro tt H hn hd ht e0 e2 e3 hL
  have hlt:i < H.length:=by have:=hL.lt;have:=hL.len;omega
  have hlb:h.length + 1 < H.length:=hL.len
  have hl0:h.length < H.length:=by omega
  have hib:i ≠ h.length + 1:=by have:=hL.lt;omega
  have hb1:=qr h 1
  have hp:=hL.par
  have hnod:=hL.nod
  have hres:=hL.res
  rw [NBi] at hnod
  rw [PBi] at hp
  rw [qbV] at hres
  obtain ⟨x1,x2⟩:=hx
  rw [qn]
  generalize he:qH h.length Wd qcK _ = r
  rcases qc3 hs with ⟨s1,rfl⟩ | ⟨s1,s2,rfl⟩ | ⟨s1,s2,s3,rfl⟩
  ·simp only [qcK,sT.1,sC.1,qf,qe,Nat.testBit,simprocAttr,-Int.reduceNatCast',ht,e0,e2,e3,ql hw hn,qq hw hn,hp,PBi,hlt,hlb,hib,hl0,hnod,hres,hb1,hd,Nd.cut6,Nd.cutE,Nd.dimE,Nd.cellsE,Nd.dims,Nd.len,Nd.stor,Nd.drainE,Nd.drop7,qu,qU,s1,x2] at he
   subst he
   exact ⟨x1,_,_,rfl,hL.cut0⟩
  ·simp only [qcK,sT.1,sC.1,qf,qe,Nat.testBit,simprocAttr,-Int.reduceNatCast',ht,e0,e2,e3,ql hw hn,qq hw hn,hp,PBi,hlt,hlb,hib,hl0,hnod,hres,hb1,hd,Nd.cut6,Nd.cutE,Nd.dimE,Nd.cellsE,Nd.dims,Nd.len,Nd.stor,Nd.drainE,Nd.drop7,qu,qU,s1,s2,x2] at he
   subst he
   exact ⟨x1,_,_,rfl,hL.cut0⟩
  ·simp only [qcK,sT.1,sC.1,qf,qe,Nat.testBit,simprocAttr,-Int.reduceNatCast',ht,e0,e2,e3,ql hw hn,qq hw hn,hp,PBi,hlt,hlb,hib,hl0,hnod,hres,hb1,hd,Nd.cut6,Nd.cutE,Nd.dimE,Nd.cellsE,Nd.dims,Nd.len,Nd.stor,Nd.drainE,Nd.drop7,qu,qU,s1,s2,s3,x2] at he
   subst he
   exact ⟨x1,_,_,rfl,hL.cut0⟩
 | @deep e n k x n1 hs hx hdp=>
  intro tt H hn hd ht e0 e2 e3 hL
  have hlt:i < H.length:=by have:=hL.lt;have:=hL.len;omega
  have hlb:h.length + 1 < H.length:=hL.len
  have hl0:h.length < H.length:=by omega
  have hib:i ≠ h.length + 1:=by have:=hL.lt;omega
  have hb1:=qr h 1
  have hp:=hL.par
  have hnod:=hL.nod
  have hres:=hL.res
  rw [NBi] at hnod
  rw [PBi] at hp
  rw [qbV] at hres
  obtain ⟨x1,x2,x3,x4⟩:=hx
  rw [qn]
  generalize he:qH h.length Wd qcK _ = r
  rcases qc3 hs with ⟨s1,rfl⟩ | ⟨s1,s2,rfl⟩ | ⟨s1,s2,s3,rfl⟩
  ·simp only [qcK,sT.1,sC.1,qf,qe,Nat.testBit,simprocAttr,-Int.reduceNatCast',ht,e0,e2,e3,ql hw hn,qq hw hn,hp,PBi,hlt,hlb,hib,hl0,hnod,hres,hb1,hd,Nd.cut6,Nd.cutE,Nd.dimE,Nd.cellsE,Nd.dims,Nd.len,Nd.stor,Nd.drainE,Nd.drop7,qu,qU,s1,x4,x3,qdP,hdp] at he
   subst he
   exact ⟨x2,_,_,rfl,hL.cut0⟩
  ·simp only [qcK,sT.1,sC.1,qf,qe,Nat.testBit,simprocAttr,-Int.reduceNatCast',ht,e0,e2,e3,ql hw hn,qq hw hn,hp,PBi,hlt,hlb,hib,hl0,hnod,hres,hb1,hd,Nd.cut6,Nd.cutE,Nd.dimE,Nd.cellsE,Nd.dims,Nd.len,Nd.stor,Nd.drainE,Nd.drop7,qu,qU,s1,s2,x4,x3,qdP,hdp] at he
   subst he
   exact ⟨x2,_,_,rfl,hL.cut0⟩
  ·simp only [qcK,sT.1,sC.1,qf,qe,Nat.testBit,simprocAttr,-Int.reduceNatCast',ht,e0,e2,e3,ql hw hn,qq hw hn,hp,PBi,hlt,hlb,hib,hl0,hnod,hres,hb1,hd,Nd.cut6,Nd.cutE,Nd.dimE,Nd.cellsE,Nd.dims,Nd.len,Nd.stor,Nd.drainE,Nd.drop7,qu,qU,s1,s2,s3,x4,x3,qdP,hdp] at he
   subst he
   exact ⟨x2,_,_,rfl,hL.cut0⟩
 | @go e n k x n1 o hs hx hdp _ ih=>
  intro tt H hn hd ht e0 e2 e3 hL
  have hlt:i < H.length:=by have:=hL.lt;have:=hL.len;omega
  have hlb:h.length + 1 < H.length:=hL.len
  have hl0:h.length < H.length:=by omega
  have hib:i ≠ h.length + 1:=by have:=hL.lt;omega
  have hb1:=qr h 1
  have hp:=hL.par
  have hnod:=hL.nod
  have hres:=hL.res
  rw [NBi] at hnod
  rw [PBi] at hp
  rw [qbV] at hres
  obtain ⟨x1,x2,x3,x4⟩:=hx
  rw [qn]
  generalize he:qH h.length Wd qcK _ = r
  rcases qc3 hs with ⟨s1,rfl⟩ | ⟨s1,s2,rfl⟩ | ⟨s1,s2,s3,rfl⟩
  ·simp only [qcK,sT.1,sC.1,qf,qe,Nat.testBit,simprocAttr,-Int.reduceNatCast',ht,e0,e2,e3,ql hw hn,qq hw hn,hp,PBi,hlt,hlb,hib,hl0,hnod,hres,hb1,hd,Nd.cut6,Nd.cutE,Nd.dimE,Nd.cellsE,Nd.dims,Nd.len,Nd.stor,Nd.drainE,Nd.drop7,qu,qU,s1,x4,x3,qdP,hdp] at he
   subst he
   exact ih _ _ x2 hdp (by simp only [qK,ht]) (by simp only [sT.1,sC.1,qf,qe,Nat.testBit,simprocAttr,-Int.reduceNatCast',ht,e0]) (by simp only [sT.1,sC.1,qf,qe,Nat.testBit,simprocAttr,-Int.reduceNatCast',ht,e2]) (by simp only [sT.1,sC.1,qf,qe,Nat.testBit,simprocAttr,-Int.reduceNatCast',ht,e3]) hL.next0
  ·simp only [qcK,sT.1,sC.1,qf,qe,Nat.testBit,simprocAttr,-Int.reduceNatCast',ht,e0,e2,e3,ql hw hn,qq hw hn,hp,PBi,hlt,hlb,hib,hl0,hnod,hres,hb1,hd,Nd.cut6,Nd.cutE,Nd.dimE,Nd.cellsE,Nd.dims,Nd.len,Nd.stor,Nd.drainE,Nd.drop7,qu,qU,s1,s2,x4,x3,qdP,hdp] at he
   subst he
   exact ih _ _ x2 hdp (by simp only [qK,ht]) (by simp only [sT.1,sC.1,qf,qe,Nat.testBit,simprocAttr,-Int.reduceNatCast',ht,e0]) (by simp only [sT.1,sC.1,qf,qe,Nat.testBit,simprocAttr,-Int.reduceNatCast',ht,e2]) (by simp only [sT.1,sC.1,qf,qe,Nat.testBit,simprocAttr,-Int.reduceNatCast',ht,e3]) hL.next0
  ·simp only [qcK,sT.1,sC.1,qf,qe,Nat.testBit,simprocAttr,-Int.reduceNatCast',ht,e0,e2,e3,ql hw hn,qq hw hn,hp,PBi,hlt,hlb,hib,hl0,hnod,hres,hb1,hd,Nd.cut6,Nd.cutE,Nd.dimE,Nd.cellsE,Nd.dims,Nd.len,Nd.stor,Nd.drainE,Nd.drop7,qu,qU,s1,s2,s3,x4,x3,qdP,hdp] at he
   subst he
   exact ih _ _ x2 hdp (by simp only [qK,ht]) (by simp only [sT.1,sC.1,qf,qe,Nat.testBit,simprocAttr,-Int.reduceNatCast',ht,e0]) (by simp only [sT.1,sC.1,qf,qe,Nat.testBit,simprocAttr,-Int.reduceNatCast',ht,e2]) (by simp only [sT.1,sC.1,qf,qe,Nat.testBit,simprocAttr,-Int.reduceNatCast',ht,e3]) hL.next0
theorem qrd (hw:WF ws) {n:Nat} (hn:n < ws.length) {p err:Int} {m:Nat} (h1:qai 289 ws n (.no p err m)):qai 283 ws n (.no p err m):=by
 obtain ⟨g1,g2⟩:=h1
 refine ⟨g1,fun h i hi=>?_⟩
 have hlt:=qd hi
 rw [PBi] at hi
 rw [qm rfl (show T.get 283 = some qzx by kernel_rfl)]
 simp only [qzx,sT.1,sC.1,qf,qe,Nat.testBit,simprocAttr,-Int.reduceNatCast',g2,hi,hlt,PBi,qb]
theorem qvI (hw:WF ws) {n:Nat} (hn:n < ws.length) {e:Exp} {n1:Nat} {o:Out} (h1:qai 289 ws n (.ok e n1)) (hT:qe8 (qfs ws) (qai 289 ws) (word ws n).pos e n1 o):qai 283 ws n o:=by
 obtain ⟨g1,g2,g3,g4⟩:=h1
 have hmono:=hT.mono (fun n x m h=>h.1)
 have run:∀(h:List qx) (i:Nat),h[i]? = some (PB ws n)→∃r,qtV h i ws (word ws n).pos 27 r o∧Wd (.fn 283 [] []) [.ptr i 0] h = qfU [.cell 2 (some 7)] h (qc7 0 r):=by
  intro h i hi
  have hlt:=qd hi
  rw [PBi] at hi
  generalize hr:Wd (.fn 283 [] []) [.ptr i 0] h = R
  rw [qm rfl (show T.get 283 = some qzx by kernel_rfl)] at hr
  have hbl1:Nat.ble h.length (h.length + 1) = true:=qao (by omega)
  simp only [qzx,sT.1,sC.1,qf,qe,Nat.testBit,simprocAttr,-Int.reduceNatCast',g4,hi,hlt,PBi,Nd.dimE,Nd.cellsE,Nd.cutE,Nd.dims,Nd.len,Nd.stor,Nd.drainE,hbl1] at hr
  generalize hq:qH h.length Wd (.loop qcK) _ = r at hr
  refine ⟨r,?_,?_⟩
  ·rw [←hq]
   exact qtu hw i _ e n1 o hT _ _ g2 g3 (by simp only [sT.1,sC.1,qf,qe,Nat.testBit,simprocAttr,-Int.reduceNatCast']) (by simp only [sT.1,sC.1,qf,qe,Nat.testBit,simprocAttr,-Int.reduceNatCast']) (by simp only [sT.1,sC.1,qf,qe,Nat.testBit,simprocAttr,-Int.reduceNatCast']) (by simp only [sT.1,sC.1,qf,qe,Nat.testBit,simprocAttr,-Int.reduceNatCast']) (qgq.start hlt)
  ·rw [←hr]
 cases o with
 | ok e' n'=>
  have hm:=hmono e' n' rfl
  obtain ⟨r,hL,_⟩:=run (List.replicate 1 (PB ws n)) 0 rfl
  refine ⟨by omega,hL.1,hL.2.1,fun h i hi=>?_⟩
  obtain ⟨r,⟨q1,q2,tt,H,rfl,ht,e2,hL⟩,hr⟩:=run h i hi
  have hnod:=hL.nod
  have hres:=hL.res
  have hlen:=hL.len
  have hlen':h.length < H.length:=by omega
  rw [NBi] at hnod
  rw [qbV] at hres
  rw [hr]
  simp only [sT.1,sC.1,qf,qe,Nat.testBit,simprocAttr,-Int.reduceNatCast',ht,e2,hlen',Nd.cutE,NBi]
  exact congrArg some hL.answer
 | no pos err n'=>
  obtain ⟨r,hL,_⟩:=run (List.replicate 1 (PB ws n)) 0 rfl
  refine ⟨hL.1,fun h i hi=>?_⟩
  obtain ⟨r,⟨q1,tt,H,rfl,q3⟩,hr⟩:=run h i hi
  rw [hr]
  simp only [sT.1,sC.1,qf,qe,Nat.testBit,simprocAttr,-Int.reduceNatCast']
  exact congrArg some (qa6 q3 (qb _ _ _))
def qi9 (ws:List Tok) (n:Nat):Option Int:=if isW ws n [43] = true then some 15 else if isW ws n [45] = true then some 16 else none
theorem qdO {n:Nat} {k:Int} (h:qi9 ws n = some k):(isW ws n [43] = true∧k = 15)∨(isW ws n [43] = false∧isW ws n [45] = true∧k = 16):=by
 simp only [qi9] at h
 cases h0:isW ws n [43] <;> cases h1:isW ws n [45] <;> simp_all
theorem qnu {n:Nat} (h:qi9 ws n = none):isW ws n [43] = false∧isW ws n [45] = false:=by
 simp only [qi9] at h
 cases h0:isW ws n [43] <;> cases h1:isW ws n [45] <;> simp_all
theorem qtY (hw:WF ws) (i:Nat) (pos:Int) (e:Exp) (n:Nat) (o:Out) (hT:qe8 (qi9 ws) (qai 283 ws) pos e n o):∀(tt:List qc) (H:List qx),n < ws.length→e.depth ≤ 20→tt.length = 24→lkp tt 0 = .ptr i 0→lkp tt 2 = .ptr h.length 0→lkp tt 3 = .ptr (h.length + 1) 0→qgq h i ws n ⟨e,pos⟩ H→
  qtV h i ws pos 24 (qH h.length Wd (.loop qdt) ⟨tt,H,false⟩) o:=by
 induction hT with
 | @stop e n hs=>
  intro tt H hn hd ht e0 e2 e3 hL
  have hlt:i < H.length:=by have:=hL.lt;have:=hL.len;omega
  have hlb:h.length + 1 < H.length:=hL.len
  have hl0:h.length < H.length:=by omega
  have hib:i ≠ h.length + 1:=by have:=hL.lt;omega
  have hb1:=qr h 1
  have hp:=hL.par
  have hnod:=hL.nod
  have hres:=hL.res
  rw [NBi] at hnod
  rw [PBi] at hp
  rw [qbV] at hres
  obtain ⟨s1,s2⟩:=qnu hs
  rw [qn]
  generalize he:qH h.length Wd qdt _ = r
  simp only [qdt,sT.1,sC.1,qf,qe,Nat.testBit,simprocAttr,-Int.reduceNatCast',ht,e0,e2,e3,ql hw hn,qq hw hn,hp,PBi,hlt,hlb,hib,hl0,hnod,hres,hb1,hd,Nd.cut6,Nd.cutE,Nd.dimE,Nd.cellsE,Nd.dims,Nd.len,Nd.stor,Nd.drainE,Nd.drop7,qu,qU,s1,s2] at he
  subst he
  exact ⟨hn,hd,_,_,rfl,by simp only [qK,ht],by simp only [sT.1,sC.1,qf,qe,Nat.testBit,simprocAttr,-Int.reduceNatCast',e2],hL⟩
 | @bad e n k p err m hs hx=>
  intro tt H hn hd ht e0 e2 e3 hL
  have hlt:i < H.length:=by have:=hL.lt;have:=hL.len;omega
  have hlb:h.length + 1 < H.length:=hL.len
  have hl0:h.length < H.length:=by omega
  have hib:i ≠ h.length + 1:=by have:=hL.lt;omega
  have hb1:=qr h 1
  have hp:=hL.par
  have hnod:=hL.nod
  have hres:=hL.res
  rw [NBi] at hnod
  rw [PBi] at hp
  rw [qbV] at hres
  obtain ⟨x1,x2⟩:=hx
  rw [qn]
  generalize he:qH h.length Wd qdt _ = r
  rcases qdO hs with ⟨s1,rfl⟩ | ⟨s1,s2,rfl⟩
  ·simp only [qdt,sT.1,sC.1,qf,qe,Nat.testBit,simprocAttr,-Int.reduceNatCast',ht,e0,e2,e3,ql hw hn,qq hw hn,hp,PBi,hlt,hlb,hib,hl0,hnod,hres,hb1,hd,Nd.cut6,Nd.cutE,Nd.dimE,Nd.cellsE,Nd.dims,Nd.len,Nd.stor,Nd.drainE,Nd.drop7,qu,qU,s1,x2] at he
   subst he
   exact ⟨x1,_,_,rfl,hL.cut0⟩
  ·simp only [qdt,sT.1,sC.1,qf,qe,Nat.testBit,simprocAttr,-Int.reduceNatCast',ht,e0,e2,e3,ql hw hn,qq hw hn,hp,PBi,hlt,hlb,hib,hl0,hnod,hres,hb1,hd,Nd.cut6,Nd.cutE,Nd.dimE,Nd.cellsE,Nd.dims,Nd.len,Nd.stor,Nd.drainE,Nd.drop7,qu,qU,s1,s2,x2] at he
   subst he
   exact ⟨x1,_,_,rfl,hL.cut0⟩
 | @deep e n k x n1 hs hx hdp=>
  intro tt H hn hd ht e0 e2 e3 hL
  have hlt:i < H.length:=by have:=hL.lt;have:=hL.len;omega
  have hlb:h.length + 1 < H.length:=hL.len
  have hl0:h.length < H.length:=by omega
  have hib:i ≠ h.length + 1:=by have:=hL.lt;omega
  have hb1:=qr h 1
  have hp:=hL.par
  have hnod:=hL.nod
  have hres:=hL.res
  rw [NBi] at hnod
  rw [PBi] at hp
  rw [qbV] at hres
  obtain ⟨x1,x2,x3,x4⟩:=hx
  rw [qn]
  generalize he:qH h.length Wd qdt _ = r
  rcases qdO hs with ⟨s1,rfl⟩ | ⟨s1,s2,rfl⟩
  ·simp only [qdt,sT.1,sC.1,qf,qe,Nat.testBit,simprocAttr,-Int.reduceNatCast',ht,e0,e2,e3,ql hw hn,qq hw hn,hp,PBi,hlt,hlb,hib,hl0,hnod,hres,hb1,hd,Nd.cut6,Nd.cutE,Nd.dimE,Nd.cellsE,Nd.dims,Nd.len,Nd.stor,Nd.drainE,Nd.drop7,qu,qU,s1,x4,x3,qdP,hdp] at he
   subst he
   exact ⟨x2,_,_,rfl,hL.cut0⟩
  ·simp only [qdt,sT.1,sC.1,qf,qe,Nat.testBit,simprocAttr,-Int.reduceNatCast',ht,e0,e2,e3,ql hw hn,qq hw hn,hp,PBi,hlt,hlb,hib,hl0,hnod,hres,hb1,hd,Nd.cut6,Nd.cutE,Nd.dimE,Nd.cellsE,Nd.dims,Nd.len,Nd.stor,Nd.drainE,Nd.drop7,qu,qU,s1,s2,x4,x3,qdP,hdp] at he
   subst he
   exact ⟨x2,_,_,rfl,hL.cut0⟩
 | @go e n k x n1 o hs hx hdp _ ih=>
  intro tt H hn hd ht e0 e2 e3 hL
  have hlt:i < H.length:=by have:=hL.lt;have:=hL.len;omega
  have hlb:h.length + 1 < H.length:=hL.len
  have hl0:h.length < H.length:=by omega
  have hib:i ≠ h.length + 1:=by have:=hL.lt;omega
  have hb1:=qr h 1
  have hp:=hL.par
  have hnod:=hL.nod
  have hres:=hL.res
  rw [NBi] at hnod
  rw [PBi] at hp
  rw [qbV] at hres
  obtain ⟨x1,x2,x3,x4⟩:=hx
  rw [qn]
  generalize he:qH h.length Wd qdt _ = r
  rcases qdO hs with ⟨s1,rfl⟩ | ⟨s1,s2,rfl⟩
  ·simp only [qdt,sT.1,sC.1,qf,qe,Nat.testBit,simprocAttr,-Int.reduceNatCast',ht,e0,e2,e3,ql hw hn,qq hw hn,hp,PBi,hlt,hlb,hib,hl0,hnod,hres,hb1,hd,Nd.cut6,Nd.cutE,Nd.dimE,Nd.cellsE,Nd.dims,Nd.len,Nd.stor,Nd.drainE,Nd.drop7,qu,qU,s1,x4,x3,qdP,hdp] at he
   subst he
   exact ih _ _ x2 hdp (by simp only [qK,ht]) (by simp only [sT.1,sC.1,qf,qe,Nat.testBit,simprocAttr,-Int.reduceNatCast',ht,e0]) (by simp only [sT.1,sC.1,qf,qe,Nat.testBit,simprocAttr,-Int.reduceNatCast',ht,e2]) (by simp only [sT.1,sC.1,qf,qe,Nat.testBit,simprocAttr,-Int.reduceNatCast',ht,e3]) hL.next0
  ·simp only [qdt,sT.1,sC.1,qf,qe,Nat.testBit,simprocAttr,-Int.reduceNatCast',ht,e0,e2,e3,ql hw hn,qq hw hn,hp,PBi,hlt,hlb,hib,hl0,hnod,hres,hb1,hd,Nd.cut6,Nd.cutE,Nd.dimE,Nd.cellsE,Nd.dims,Nd.len,Nd.stor,Nd.drainE,Nd.drop7,qu,qU,s1,s2,x4,x3,qdP,hdp] at he
   subst he
   exact ih _ _ x2 hdp (by simp only [qK,ht]) (by simp only [sT.1,sC.1,qf,qe,Nat.testBit,simprocAttr,-Int.reduceNatCast',ht,e0]) (by simp only [sT.1,sC.1,qf,qe,Nat.testBit,simprocAttr,-Int.reduceNatCast',ht,e2]) (by simp only [sT.1,sC.1,qf,qe,Nat.testBit,simprocAttr,-Int.reduceNatCast',ht,e3]) hL.next0
theorem qwO (hw:WF ws) {n:Nat} (hn:n < ws.length) {p err:Int} {m:Nat} (h1:qai 283 ws n (.no p err m)):qai 272 ws n (.no p err m):=by
 obtain ⟨g1,g2⟩:=h1
 refine ⟨g1,fun h i hi=>?_⟩
 have hlt:=qd hi
 rw [PBi] at hi
 rw [qm rfl (show T.get 272 = some qzE by kernel_rfl)]
 simp only [qzE,sT.1,sC.1,qf,qe,Nat.testBit,simprocAttr,-Int.reduceNatCast',g2,hi,hlt,PBi,qb]
theorem qyt (hw:WF ws) {n:Nat} (hn:n < ws.length) {e:Exp} {n1:Nat} {o:Out} (h1:qai 283 ws n (.ok e n1)) (hT:qe8 (qi9 ws) (qai 283 ws) (word ws n).pos e n1 o):qai 272 ws n o:=by
 obtain ⟨g1,g2,g3,g4⟩:=h1
 have hmono:=hT.mono (fun n x m h=>h.1)
 have run:∀(h:List qx) (i:Nat),h[i]? = some (PB ws n)→∃r,qtV h i ws (word ws n).pos 24 r o∧Wd (.fn 272 [] []) [.ptr i 0] h = qfU [.cell 2 (some 7)] h (qc7 0 r):=by
  intro h i hi
  have hlt:=qd hi
  rw [PBi] at hi
  generalize hr:Wd (.fn 272 [] []) [.ptr i 0] h = R
  rw [qm rfl (show T.get 272 = some qzE by kernel_rfl)] at hr
  have hbl1:Nat.ble h.length (h.length + 1) = true:=qao (by omega)
  simp only [qzE,sT.1,sC.1,qf,qe,Nat.testBit,simprocAttr,-Int.reduceNatCast',g4,hi,hlt,PBi,Nd.dimE,Nd.cellsE,Nd.cutE,Nd.dims,Nd.len,Nd.stor,Nd.drainE,hbl1] at hr
  generalize hq:qH h.length Wd (.loop qdt) _ = r at hr
  refine ⟨r,?_,?_⟩
  ·rw [←hq]
   exact qtY hw i _ e n1 o hT _ _ g2 g3 (by simp only [sT.1,sC.1,qf,qe,Nat.testBit,simprocAttr,-Int.reduceNatCast']) (by simp only [sT.1,sC.1,qf,qe,Nat.testBit,simprocAttr,-Int.reduceNatCast']) (by simp only [sT.1,sC.1,qf,qe,Nat.testBit,simprocAttr,-Int.reduceNatCast']) (by simp only [sT.1,sC.1,qf,qe,Nat.testBit,simprocAttr,-Int.reduceNatCast']) (qgq.start hlt)
  ·rw [←hr]
 cases o with
 | ok e' n'=>
  have hm:=hmono e' n' rfl
  obtain ⟨r,hL,_⟩:=run (List.replicate 1 (PB ws n)) 0 rfl
  refine ⟨by omega,hL.1,hL.2.1,fun h i hi=>?_⟩
  obtain ⟨r,⟨q1,q2,tt,H,rfl,ht,e2,hL⟩,hr⟩:=run h i hi
  have hnod:=hL.nod
  have hres:=hL.res
  have hlen:=hL.len
  have hlen':h.length < H.length:=by omega
  rw [NBi] at hnod
  rw [qbV] at hres
  rw [hr]
  simp only [sT.1,sC.1,qf,qe,Nat.testBit,simprocAttr,-Int.reduceNatCast',ht,e2,hlen',Nd.cutE,NBi]
  exact congrArg some hL.answer
 | no pos err n'=>
  obtain ⟨r,hL,_⟩:=run (List.replicate 1 (PB ws n)) 0 rfl
  refine ⟨hL.1,fun h i hi=>?_⟩
  obtain ⟨r,⟨q1,tt,H,rfl,q3⟩,hr⟩:=run h i hi
  rw [hr]
  simp only [sT.1,sC.1,qf,qe,Nat.testBit,simprocAttr,-Int.reduceNatCast']
  exact congrArg some (qa6 q3 (qb _ _ _))
def qjb (ws:List Tok) (n:Nat):Option Int:=if isW ws n [97,110,100] = true then some 23 else none
theorem qdL {n:Nat} {k:Int} (h:qjb ws n = some k):(isW ws n [97,110,100] = true∧k = 23):=by
 simp only [qjb] at h
 cases h0:isW ws n [97,110,100] <;> simp_all
theorem qmX {n:Nat} (h:qjb ws n = none):isW ws n [97,110,100] = false:=by
 simp only [qjb] at h
 cases h0:isW ws n [97,110,100] <;> simp_all
theorem qvB (hw:WF ws) (i:Nat) (pos:Int) (e:Exp) (n:Nat) (o:Out) (hT:qe8 (qjb ws) (qai 230 ws) pos e n o):∀(tt:List qc) (H:List qx),n < ws.length→e.depth ≤ 20→tt.length = 18→lkp tt 0 = .ptr i 0→lkp tt 2 = .ptr h.length 0→lkp tt 3 = .ptr (h.length + 1) 0→qgq h i ws n ⟨e,pos⟩ H→
  qnj h i ws pos 18 (qH h.length Wd (.loop qey) ⟨tt,H,false⟩) o:=by
 induction hT with
 | @stop e n hs=>
  intro tt H hn hd ht e0 e2 e3 hL
  have hlt:i < H.length:=by have:=hL.lt;have:=hL.len;omega
  have hlb:h.length + 1 < H.length:=hL.len
  have hl0:h.length < H.length:=by omega
  have hib:i ≠ h.length + 1:=by have:=hL.lt;omega
  have hb1:=qr h 1
  have hp:=hL.par
  have hnod:=hL.nod
  have hres:=hL.res
  rw [NBi] at hnod
  rw [PBi] at hp
  rw [qbV] at hres
  have s1:=qmX hs
  rw [qn]
  generalize he:qH h.length Wd qey _ = r
  simp only [qey,sT.1,sC.1,qf,qe,Nat.testBit,simprocAttr,-Int.reduceNatCast',ht,e0,e2,e3,ql hw hn,qq hw hn,hp,PBi,hlt,hlb,hib,hl0,hnod,hres,hb1,hd,Nd.cut6,Nd.cutE,Nd.dimE,Nd.cellsE,Nd.dims,Nd.len,Nd.stor,Nd.drainE,Nd.drop7,qu,qU,s1] at he
  subst he
  exact ⟨hn,hd,_,_,rfl,by simp only [qK,ht],by simp only [sT.1,sC.1,qf,qe,Nat.testBit,simprocAttr,-Int.reduceNatCast',e2],by simp only [sT.1,sC.1,qf,qe,Nat.testBit,simprocAttr,-Int.reduceNatCast',e3],hL⟩
 | @bad e n k p err m hs hx=>
  intro tt H hn hd ht e0 e2 e3 hL
  have hlt:i < H.length:=by have:=hL.lt;have:=hL.len;omega
  have hlb:h.length + 1 < H.length:=hL.len
  have hl0:h.length < H.length:=by omega
  have hib:i ≠ h.length + 1:=by have:=hL.lt;omega
  have hb1:=qr h 1
  have hp:=hL.par
  have hnod:=hL.nod
  have hres:=hL.res
  rw [NBi] at hnod
  rw [PBi] at hp
  rw [qbV] at hres
  obtain ⟨x1,x2⟩:=hx
  rw [qn]
  generalize he:qH h.length Wd qey _ = r
  obtain ⟨s1,rfl⟩:=qdL hs
  ·simp only [qey,sT.1,sC.1,qf,qe,Nat.testBit,simprocAttr,-Int.reduceNatCast',ht,e0,e2,e3,ql hw hn,qq hw hn,hp,PBi,hlt,hlb,hib,hl0,hnod,hres,hb1,hd,Nd.cut6,Nd.cutE,Nd.dimE,Nd.cellsE,Nd.dims,Nd.len,Nd.stor,Nd.drainE,Nd.drop7,qu,qU,s1,x2] at he
   subst he
   exact ⟨x1,_,_,rfl,hL.cut0⟩
 | @deep e n k x n1 hs hx hdp=>
  intro tt H hn hd ht e0 e2 e3 hL
  have hlt:i < H.length:=by have:=hL.lt;have:=hL.len;omega
  have hlb:h.length + 1 < H.length:=hL.len
  have hl0:h.length < H.length:=by omega
  have hib:i ≠ h.length + 1:=by have:=hL.lt;omega
  have hb1:=qr h 1
  have hp:=hL.par
  have hnod:=hL.nod
  have hres:=hL.res
  rw [NBi] at hnod
  rw [PBi] at hp
  rw [qbV] at hres
  obtain ⟨x1,x2,x3,x4⟩:=hx
  rw [qn]
  generalize he:qH h.length Wd qey _ = r
  obtain ⟨s1,rfl⟩:=qdL hs
  ·simp only [qey,sT.1,sC.1,qf,qe,Nat.testBit,simprocAttr,-Int.reduceNatCast',ht,e0,e2,e3,ql hw hn,qq hw hn,hp,PBi,hlt,hlb,hib,hl0,hnod,hres,hb1,hd,Nd.cut6,Nd.cutE,Nd.dimE,Nd.cellsE,Nd.dims,Nd.len,Nd.stor,Nd.drainE,Nd.drop7,qu,qU,s1,x4,x3,qdP,hdp] at he
   subst he
   exact ⟨x2,_,_,rfl,hL.cut0⟩
 | @go e n k x n1 o hs hx hdp _ ih=>
  intro tt H hn hd ht e0 e2 e3 hL
  have hlt:i < H.length:=by have:=hL.lt;have:=hL.len;omega
  have hlb:h.length + 1 < H.length:=hL.len
  have hl0:h.length < H.length:=by omega
  have hib:i ≠ h.length + 1:=by have:=hL.lt;omega
  have hb1:=qr h 1
  have hp:=hL.par
  have hnod:=hL.nod
  have hres:=hL.res
  rw [NBi] at hnod
  rw [PBi] at hp
  rw [qbV] at hres
  obtain ⟨x1,x2,x3,x4⟩:=hx
  rw [qn]
  generalize he:qH h.length Wd qey _ = r
  obtain ⟨s1,rfl⟩:=qdL hs
  ·simp only [qey,sT.1,sC.1,qf,qe,Nat.testBit,simprocAttr,-Int.reduceNatCast',ht,e0,e2,e3,ql hw hn,qq hw hn,hp,PBi,hlt,hlb,hib,hl0,hnod,hres,hb1,hd,Nd.cut6,Nd.cutE,Nd.dimE,Nd.cellsE,Nd.dims,Nd.len,Nd.stor,Nd.drainE,Nd.drop7,qu,qU,s1,x4,x3,qdP,hdp] at he
   subst he
   exact ih _ _ x2 hdp (by simp only [qK,ht]) (by simp only [sT.1,sC.1,qf,qe,Nat.testBit,simprocAttr,-Int.reduceNatCast',ht,e0]) (by simp only [sT.1,sC.1,qf,qe,Nat.testBit,simprocAttr,-Int.reduceNatCast',ht,e2]) (by simp only [sT.1,sC.1,qf,qe,Nat.testBit,simprocAttr,-Int.reduceNatCast',ht,e3]) hL.next0
theorem qwu (hw:WF ws) {n:Nat} (hn:n < ws.length) {p err:Int} {m:Nat} (h1:qai 230 ws n (.no p err m)):qai 180 ws n (.no p err m):=by
 obtain ⟨g1,g2⟩:=h1
 refine ⟨g1,fun h i hi=>?_⟩
 have hlt:=qd hi
 rw [PBi] at hi
 rw [qm rfl (show T.get 180 = some qzz by kernel_rfl)]
 simp only [qzz,sT.1,sC.1,qf,qe,Nat.testBit,simprocAttr,-Int.reduceNatCast',g2,hi,hlt,PBi,qb]
theorem qyY (hw:WF ws) {n:Nat} (hn:n < ws.length) {e:Exp} {n1:Nat} {o:Out} (h1:qai 230 ws n (.ok e n1)) (hT:qe8 (qjb ws) (qai 230 ws) (word ws n).pos e n1 o):qai 180 ws n o:=by
 obtain ⟨g1,g2,g3,g4⟩:=h1
 have hmono:=hT.mono (fun n x m h=>h.1)
 have run:∀(h:List qx) (i:Nat),h[i]? = some (PB ws n)→∃r,qnj h i ws (word ws n).pos 18 r o∧Wd (.fn 180 [] []) [.ptr i 0] h = qfU [.cell 2 (some 7)] h (qcd (qH h.length Wd (.seq (.reg [ao 17 (.ld (some 7) (.t 3)),an (.st (some 7) (.t 2) (.t 17))]) .ret)) (qc7 0 r)):=by
  intro h i hi
  have hlt:=qd hi
  rw [PBi] at hi
  generalize hr:Wd (.fn 180 [] []) [.ptr i 0] h = R
  rw [qm rfl (show T.get 180 = some qzz by kernel_rfl)] at hr
  have hbl1:Nat.ble h.length (h.length + 1) = true:=qao (by omega)
  simp only [qzz,sT.1,sC.1,qf,qe,Nat.testBit,simprocAttr,-Int.reduceNatCast',g4,hi,hlt,PBi,Nd.dimE,Nd.cellsE,Nd.cutE,Nd.dims,Nd.len,Nd.stor,Nd.drainE,hbl1] at hr
  generalize hq:qH h.length Wd (.loop qey) _ = r at hr
  refine ⟨r,?_,?_⟩
  ·rw [←hq]
   exact qvB hw i _ e n1 o hT _ _ g2 g3 (by simp only [sT.1,sC.1,qf,qe,Nat.testBit,simprocAttr,-Int.reduceNatCast']) (by simp only [sT.1,sC.1,qf,qe,Nat.testBit,simprocAttr,-Int.reduceNatCast']) (by simp only [sT.1,sC.1,qf,qe,Nat.testBit,simprocAttr,-Int.reduceNatCast']) (by simp only [sT.1,sC.1,qf,qe,Nat.testBit,simprocAttr,-Int.reduceNatCast']) (qgq.start hlt)
  ·rw [←hr]
   simp only [sT.1,sC.1,qf,qe,Nat.testBit,simprocAttr,-Int.reduceNatCast']
 cases o with
 | ok e' n'=>
  have hm:=hmono e' n' rfl
  obtain ⟨r,hL,_⟩:=run (List.replicate 1 (PB ws n)) 0 rfl
  refine ⟨by omega,hL.1,hL.2.1,fun h i hi=>?_⟩
  obtain ⟨r,⟨q1,q2,tt,H,rfl,ht,e2,e3,hL⟩,hr⟩:=run h i hi
  have hnod:=hL.nod
  have hres:=hL.res
  have hlen:=hL.len
  have hlen':h.length < H.length:=by omega
  rw [NBi] at hnod
  rw [qbV] at hres
  rw [hr]
  simp only [sT.1,sC.1,qf,qe,Nat.testBit,simprocAttr,-Int.reduceNatCast',ht,e2,e3,hnod,hres,hlen',Nd.dimE,Nd.cellsE,Nd.cutE,Nd.dims,Nd.len,Nd.stor,Nd.drainE]
  exact congrArg some hL.answer
 | no pos err n'=>
  obtain ⟨r,hL,_⟩:=run (List.replicate 1 (PB ws n)) 0 rfl
  refine ⟨hL.1,fun h i hi=>?_⟩
  obtain ⟨r,⟨q1,tt,H,rfl,q3⟩,hr⟩:=run h i hi
  rw [hr]
  simp only [sT.1,sC.1,qf,qe,Nat.testBit,simprocAttr,-Int.reduceNatCast']
  exact congrArg some (qa6 q3 (qb _ _ _))
def qvJ (ws:List Tok) (n:Nat):Option Int:=if isW ws n [111,114] = true then some 24 else none
theorem qeE {n:Nat} {k:Int} (h:qvJ ws n = some k):(isW ws n [111,114] = true∧k = 24):=by
 simp only [qvJ] at h
 cases h0:isW ws n [111,114] <;> simp_all
theorem qqD {n:Nat} (h:qvJ ws n = none):isW ws n [111,114] = false:=by
 simp only [qvJ] at h
 cases h0:isW ws n [111,114] <;> simp_all
theorem qxy (hw:WF ws) (i:Nat) (pos:Int) (e:Exp) (n:Nat) (o:Out) (hT:qe8 (qvJ ws) (qai 180 ws) pos e n o):∀(tt:List qc) (H:List qx),n < ws.length→e.depth ≤ 20→tt.length = 18→lkp tt 0 = .ptr i 0→lkp tt 2 = .ptr h.length 0→lkp tt 3 = .ptr (h.length + 1) 0→qgq h i ws n ⟨e,pos⟩ H→
  qnj h i ws pos 18 (qH h.length Wd (.loop qet) ⟨tt,H,false⟩) o:=by
 induction hT with
 | @stop e n hs=>
  intro tt H hn hd ht e0 e2 e3 hL
  have hlt:i < H.length:=by have:=hL.lt;have:=hL.len;omega
  have hlb:h.length + 1 < H.length:=hL.len
  have hl0:h.length < H.length:=by omega
  have hib:i ≠ h.length + 1:=by have:=hL.lt;omega
  have hb1:=qr h 1
  have hp:=hL.par
  have hnod:=hL.nod
  have hres:=hL.res
  rw [NBi] at hnod
  rw [PBi] at hp
  rw [qbV] at hres
  have s1:=qqD hs
  rw [qn]
  generalize he:qH h.length Wd qet _ = r
  simp only [qet,sT.1,sC.1,qf,qe,Nat.testBit,simprocAttr,-Int.reduceNatCast',ht,e0,e2,e3,ql hw hn,qq hw hn,hp,PBi,hlt,hlb,hib,hl0,hnod,hres,hb1,hd,Nd.cut6,Nd.cutE,Nd.dimE,Nd.cellsE,Nd.dims,Nd.len,Nd.stor,Nd.drainE,Nd.drop7,qu,qU,s1] at he
  subst he
  exact ⟨hn,hd,_,_,rfl,by simp only [qK,ht],by simp only [sT.1,sC.1,qf,qe,Nat.testBit,simprocAttr,-Int.reduceNatCast',e2],by simp only [sT.1,sC.1,qf,qe,Nat.testBit,simprocAttr,-Int.reduceNatCast',e3],hL⟩
 | @bad e n k p err m hs hx=>
  intro tt H hn hd ht e0 e2 e3 hL
  have hlt:i < H.length:=by have:=hL.lt;have:=hL.len;omega
  have hlb:h.length + 1 < H.length:=hL.len
  have hl0:h.length < H.length:=by omega
  have hib:i ≠ h.length + 1:=by have:=hL.lt;omega
  have hb1:=qr h 1
  have hp:=hL.par
  have hnod:=hL.nod
  have hres:=hL.res
  rw [NBi] at hnod
  rw [PBi] at hp
  rw [qbV] at hres
  obtain ⟨x1,x2⟩:=hx
  rw [qn]
  generalize he:qH h.length Wd qet _ = r
  obtain ⟨s1,rfl⟩:=qeE hs
  ·simp only [qet,sT.1,sC.1,qf,qe,Nat.testBit,simprocAttr,-Int.reduceNatCast',ht,e0,e2,e3,ql hw hn,qq hw hn,hp,PBi,hlt,hlb,hib,hl0,hnod,hres,hb1,hd,Nd.cut6,Nd.cutE,Nd.dimE,Nd.cellsE,Nd.dims,Nd.len,Nd.stor,Nd.drainE,Nd.drop7,qu,qU,s1,x2] at he
   subst he
   exact ⟨x1,_,_,rfl,hL.cut0⟩
 | @deep e n k x n1 hs hx hdp=>
  intro tt H hn hd ht e0 e2 e3 hL
  have hlt:i < H.length:=by have:=hL.lt;have:=hL.len;omega
  have hlb:h.length + 1 < H.length:=hL.len
  have hl0:h.length < H.length:=by omega
  have hib:i ≠ h.length + 1:=by have:=hL.lt;omega
  have hb1:=qr h 1
  have hp:=hL.par
  have hnod:=hL.nod
  have hres:=hL.res
  rw [NBi] at hnod
  rw [PBi] at hp
  rw [qbV] at hres
  obtain ⟨x1,x2,x3,x4⟩:=hx
  rw [qn]
  generalize he:qH h.length Wd qet _ = r
  obtain ⟨s1,rfl⟩:=qeE hs
  ·simp only [qet,sT.1,sC.1,qf,qe,Nat.testBit,simprocAttr,-Int.reduceNatCast',ht,e0,e2,e3,ql hw hn,qq hw hn,hp,PBi,hlt,hlb,hib,hl0,hnod,hres,hb1,hd,Nd.cut6,Nd.cutE,Nd.dimE,Nd.cellsE,Nd.dims,Nd.len,Nd.stor,Nd.drainE,Nd.drop7,qu,qU,s1,x4,x3,qdP,hdp] at he
   subst he
   exact ⟨x2,_,_,rfl,hL.cut0⟩
 | @go e n k x n1 o hs hx hdp _ ih=>
  intro tt H hn hd ht e0 e2 e3 hL
  have hlt:i < H.length:=by have:=hL.lt;have:=hL.len;omega
  have hlb:h.length + 1 < H.length:=hL.len
  have hl0:h.length < H.length:=by omega
  have hib:i ≠ h.length + 1:=by have:=hL.lt;omega
  have hb1:=qr h 1
  have hp:=hL.par
  have hnod:=hL.nod
  have hres:=hL.res
  rw [NBi] at hnod
  rw [PBi] at hp
  rw [qbV] at hres
  obtain ⟨x1,x2,x3,x4⟩:=hx
  rw [qn]
  generalize he:qH h.length Wd qet _ = r
  obtain ⟨s1,rfl⟩:=qeE hs
  ·simp only [qet,sT.1,sC.1,qf,qe,Nat.testBit,simprocAttr,-Int.reduceNatCast',ht,e0,e2,e3,ql hw hn,qq hw hn,hp,PBi,hlt,hlb,hib,hl0,hnod,hres,hb1,hd,Nd.cut6,Nd.cutE,Nd.dimE,Nd.cellsE,Nd.dims,Nd.len,Nd.stor,Nd.drainE,Nd.drop7,qu,qU,s1,x4,x3,qdP,hdp] at he
   subst he
   exact ih _ _ x2 hdp (by simp only [qK,ht]) (by simp only [sT.1,sC.1,qf,qe,Nat.testBit,simprocAttr,-Int.reduceNatCast',ht,e0]) (by simp only [sT.1,sC.1,qf,qe,Nat.testBit,simprocAttr,-Int.reduceNatCast',ht,e2]) (by simp only [sT.1,sC.1,qf,qe,Nat.testBit,simprocAttr,-Int.reduceNatCast',ht,e3]) hL.next0
theorem qz3 (hw:WF ws) {n:Nat} (hn:n < ws.length) {p err:Int} {m:Nat} (h1:qai 180 ws n (.no p err m)):qai 126 ws n (.no p err m):=by
 obtain ⟨g1,g2⟩:=h1
 refine ⟨g1,fun h i hi=>?_⟩
 have hlt:=qd hi
 rw [PBi] at hi
 rw [qm rfl (show T.get 126 = some qzv by kernel_rfl)]
 simp only [qzv,sT.1,sC.1,qf,qe,Nat.testBit,simprocAttr,-Int.reduceNatCast',g2,hi,hlt,PBi,qb]
theorem qBc (hw:WF ws) {n:Nat} (hn:n < ws.length) {e:Exp} {n1:Nat} {o:Out} (h1:qai 180 ws n (.ok e n1)) (hT:qe8 (qvJ ws) (qai 180 ws) (word ws n).pos e n1 o):qai 126 ws n o:=by
 obtain ⟨g1,g2,g3,g4⟩:=h1
 have hmono:=hT.mono (fun n x m h=>h.1)
 have run:∀(h:List qx) (i:Nat),h[i]? = some (PB ws n)→∃r,qnj h i ws (word ws n).pos 18 r o∧Wd (.fn 126 [] []) [.ptr i 0] h = qfU [.cell 2 (some 7)] h (qcd (qH h.length Wd (.seq (.reg [ao 17 (.ld (some 7) (.t 3)),an (.st (some 7) (.t 2) (.t 17))]) .ret)) (qc7 0 r)):=by
  intro h i hi
  have hlt:=qd hi
  rw [PBi] at hi
  generalize hr:Wd (.fn 126 [] []) [.ptr i 0] h = R
  rw [qm rfl (show T.get 126 = some qzv by kernel_rfl)] at hr
  have hbl1:Nat.ble h.length (h.length + 1) = true:=qao (by omega)
  simp only [qzv,sT.1,sC.1,qf,qe,Nat.testBit,simprocAttr,-Int.reduceNatCast',g4,hi,hlt,PBi,Nd.dimE,Nd.cellsE,Nd.cutE,Nd.dims,Nd.len,Nd.stor,Nd.drainE,hbl1] at hr
  generalize hq:qH h.length Wd (.loop qet) _ = r at hr
  refine ⟨r,?_,?_⟩
  ·rw [←hq]
   exact qxy hw i _ e n1 o hT _ _ g2 g3 (by simp only [sT.1,sC.1,qf,qe,Nat.testBit,simprocAttr,-Int.reduceNatCast']) (by simp only [sT.1,sC.1,qf,qe,Nat.testBit,simprocAttr,-Int.reduceNatCast']) (by simp only [sT.1,sC.1,qf,qe,Nat.testBit,simprocAttr,-Int.reduceNatCast']) (by simp only [sT.1,sC.1,qf,qe,Nat.testBit,simprocAttr,-Int.reduceNatCast']) (qgq.start hlt)
  ·rw [←hr]
   simp only [sT.1,sC.1,qf,qe,Nat.testBit,simprocAttr,-Int.reduceNatCast']
 cases o with
 | ok e' n'=>
  have hm:=hmono e' n' rfl
  obtain ⟨r,hL,_⟩:=run (List.replicate 1 (PB ws n)) 0 rfl
  refine ⟨by omega,hL.1,hL.2.1,fun h i hi=>?_⟩
  obtain ⟨r,⟨q1,q2,tt,H,rfl,ht,e2,e3,hL⟩,hr⟩:=run h i hi
  have hnod:=hL.nod
  have hres:=hL.res
  have hlen:=hL.len
  have hlen':h.length < H.length:=by omega
  rw [NBi] at hnod
  rw [qbV] at hres
  rw [hr]
  simp only [sT.1,sC.1,qf,qe,Nat.testBit,simprocAttr,-Int.reduceNatCast',ht,e2,e3,hnod,hres,hlen',Nd.dimE,Nd.cellsE,Nd.cutE,Nd.dims,Nd.len,Nd.stor,Nd.drainE]
  exact congrArg some hL.answer
 | no pos err n'=>
  obtain ⟨r,hL,_⟩:=run (List.replicate 1 (PB ws n)) 0 rfl
  refine ⟨hL.1,fun h i hi=>?_⟩
  obtain ⟨r,⟨q1,tt,H,rfl,q3⟩,hr⟩:=run h i hi
  rw [hr]
  simp only [sT.1,sC.1,qf,qe,Nat.testBit,simprocAttr,-Int.reduceNatCast']
  exact congrArg some (qa6 q3 (qb _ _ _))
end
section
variable {ws:List Tok} {n:Nat}
theorem qtX (hw:WF ws) (hn:n < ws.length) (hs:isW ws n [45] = true) {x:Exp} {n1:Nat} (h1:qai 289 ws (n + 1) (.ok x n1)) (hd:(Exp.mk 13 0 [] [] [x]).depth ≤ 20):qai 289 ws n (.ok (.mk 13 0 [] [] [x]) n1):=by
 obtain ⟨g1,g2,g3,g4⟩:=h1
 refine ⟨by omega,g2,hd,fun h i hi=>?_⟩
 have hlt:=qd hi
 rw [PBi] at hi
 rw [qm rfl (show T.get 289 = some qo9 by kernel_rfl)]
 simp only [qo9,sT.1,sC.1,qf,qe,Nat.testBit,simprocAttr,-Int.reduceNatCast',qam hw hn,hi,hlt,PBi,qu,qaX,Nd.dimE,Nd.cellsE,Nd.cutE,Nd.dims,Nd.len,Nd.stor,Nd.lower,Nd.drainE,Nd.cut6,Nd.drop7,qag,qU,qaB,qb,ql hw hn,hs,g4,g3,qhX,hd]
theorem qvp (hw:WF ws) (hn:n < ws.length) (hs:isW ws n [45] = true) {x:Exp} {n1:Nat} (h1:qai 289 ws (n + 1) (.ok x n1)) (hd:¬ (Exp.mk 13 0 [] [] [x]).depth ≤ 20):qai 289 ws n (.no (word ws n).pos 7 n1):=by
 obtain ⟨g1,g2,g3,g4⟩:=h1
 refine ⟨g2,fun h i hi=>?_⟩
 have hlt:=qd hi
 rw [PBi] at hi
 rw [qm rfl (show T.get 289 = some qo9 by kernel_rfl)]
 simp only [qo9,sT.1,sC.1,qf,qe,Nat.testBit,simprocAttr,-Int.reduceNatCast',qam hw hn,hi,hlt,PBi,qu,qaX,Nd.dimE,Nd.cellsE,Nd.cutE,Nd.dims,Nd.len,Nd.stor,Nd.lower,Nd.drainE,Nd.cut6,Nd.drop7,qag,qU,qaB,qb,ql hw hn,hs,g4,g3,qhX,hd]
theorem qy8 (hw:WF ws) (hn:n < ws.length) (hs:isW ws n [45] = true) {p err:Int} {m:Nat} (h1:qai 289 ws (n + 1) (.no p err m)):qai 289 ws n (.no p err m):=by
 obtain ⟨g1,g2⟩:=h1
 refine ⟨g1,fun h i hi=>?_⟩
 have hlt:=qd hi
 rw [PBi] at hi
 rw [qm rfl (show T.get 289 = some qo9 by kernel_rfl)]
 simp only [qo9,sT.1,sC.1,qf,qe,Nat.testBit,simprocAttr,-Int.reduceNatCast',qam hw hn,hi,hlt,PBi,qu,qaX,Nd.dimE,Nd.cellsE,Nd.cutE,Nd.dims,Nd.len,Nd.stor,Nd.lower,Nd.drainE,Nd.cut6,Nd.drop7,qag,qU,qaB,qb,ql hw hn,hs,g2]
theorem qiy (hw:WF ws) (hn:n < ws.length) (hs:isW ws n [45] = false) {o:Out} (h1:qai 292 ws n o):qai 289 ws n o:=by
 cases o with
 | ok e n1=>
  obtain ⟨g1,g2,g3,g4⟩:=h1
  refine ⟨g1,g2,g3,fun h i hi=>?_⟩
  have hlt:=qd hi
  rw [PBi] at hi
  rw [qm rfl (show T.get 289 = some qo9 by kernel_rfl)]
  simp only [qo9,sT.1,sC.1,qf,qe,Nat.testBit,simprocAttr,-Int.reduceNatCast',qam hw hn,hi,hlt,PBi,qu,qaX,Nd.dimE,Nd.cellsE,Nd.cutE,Nd.dims,Nd.len,Nd.stor,Nd.lower,Nd.drainE,Nd.cut6,Nd.drop7,qag,qU,qaB,qb,qq hw hn,hs,g4]
 | no p err m=>
  obtain ⟨g1,g2⟩:=h1
  refine ⟨g1,fun h i hi=>?_⟩
  have hlt:=qd hi
  rw [PBi] at hi
  rw [qm rfl (show T.get 289 = some qo9 by kernel_rfl)]
  simp only [qo9,sT.1,sC.1,qf,qe,Nat.testBit,simprocAttr,-Int.reduceNatCast',qam hw hn,hi,hlt,PBi,qu,qaX,Nd.dimE,Nd.cellsE,Nd.cutE,Nd.dims,Nd.len,Nd.stor,Nd.lower,Nd.drainE,Nd.cut6,Nd.drop7,qag,qU,qaB,qb,qq hw hn,hs,g2]
theorem qt5 (hw:WF ws) (hn:n < ws.length) (hs:isW ws n [110,111,116] = true) {x:Exp} {n1:Nat} (h1:qai 230 ws (n + 1) (.ok x n1)) (hd:(Exp.mk 14 0 [] [] [x]).depth ≤ 20):qai 230 ws n (.ok (.mk 14 0 [] [] [x]) n1):=by
 obtain ⟨g1,g2,g3,g4⟩:=h1
 refine ⟨by omega,g2,hd,fun h i hi=>?_⟩
 have hlt:=qd hi
 rw [PBi] at hi
 rw [qm rfl (show T.get 230 = some qo6 by kernel_rfl)]
 simp only [qo6,sT.1,sC.1,qf,qe,Nat.testBit,simprocAttr,-Int.reduceNatCast',qam hw hn,hi,hlt,PBi,qu,qaX,Nd.dimE,Nd.cellsE,Nd.cutE,Nd.dims,Nd.len,Nd.stor,Nd.lower,Nd.drainE,Nd.cut6,Nd.drop7,qag,qU,qaB,qb,ql hw hn,hs,g4,g3,qhX,hd]
theorem quK (hw:WF ws) (hn:n < ws.length) (hs:isW ws n [110,111,116] = true) {x:Exp} {n1:Nat} (h1:qai 230 ws (n + 1) (.ok x n1)) (hd:¬ (Exp.mk 14 0 [] [] [x]).depth ≤ 20):qai 230 ws n (.no (word ws n).pos 7 n1):=by
 obtain ⟨g1,g2,g3,g4⟩:=h1
 refine ⟨g2,fun h i hi=>?_⟩
 have hlt:=qd hi
 rw [PBi] at hi
 rw [qm rfl (show T.get 230 = some qo6 by kernel_rfl)]
 simp only [qo6,sT.1,sC.1,qf,qe,Nat.testBit,simprocAttr,-Int.reduceNatCast',qam hw hn,hi,hlt,PBi,qu,qaX,Nd.dimE,Nd.cellsE,Nd.cutE,Nd.dims,Nd.len,Nd.stor,Nd.lower,Nd.drainE,Nd.cut6,Nd.drop7,qag,qU,qaB,qb,ql hw hn,hs,g4,g3,qhX,hd]
theorem qyE (hw:WF ws) (hn:n < ws.length) (hs:isW ws n [110,111,116] = true) {p err:Int} {m:Nat} (h1:qai 230 ws (n + 1) (.no p err m)):qai 230 ws n (.no p err m):=by
 obtain ⟨g1,g2⟩:=h1
 refine ⟨g1,fun h i hi=>?_⟩
 have hlt:=qd hi
 rw [PBi] at hi
 rw [qm rfl (show T.get 230 = some qo6 by kernel_rfl)]
 simp only [qo6,sT.1,sC.1,qf,qe,Nat.testBit,simprocAttr,-Int.reduceNatCast',qam hw hn,hi,hlt,PBi,qu,qaX,Nd.dimE,Nd.cellsE,Nd.cutE,Nd.dims,Nd.len,Nd.stor,Nd.lower,Nd.drainE,Nd.cut6,Nd.drop7,qag,qU,qaB,qb,ql hw hn,hs,g2]
theorem qmk (hw:WF ws) (hn:n < ws.length) (hs:isW ws n [110,111,116] = false) {o:Out} (h1:qai 261 ws n o):qai 230 ws n o:=by
 cases o with
 | ok e n1=>
  obtain ⟨g1,g2,g3,g4⟩:=h1
  refine ⟨g1,g2,g3,fun h i hi=>?_⟩
  have hlt:=qd hi
  rw [PBi] at hi
  rw [qm rfl (show T.get 230 = some qo6 by kernel_rfl)]
  simp only [qo6,sT.1,sC.1,qf,qe,Nat.testBit,simprocAttr,-Int.reduceNatCast',qam hw hn,hi,hlt,PBi,qu,qaX,Nd.dimE,Nd.cellsE,Nd.cutE,Nd.dims,Nd.len,Nd.stor,Nd.lower,Nd.drainE,Nd.cut6,Nd.drop7,qag,qU,qaB,qb,qq hw hn,hs,g4]
 | no p err m=>
  obtain ⟨g1,g2⟩:=h1
  refine ⟨g1,fun h i hi=>?_⟩
  have hlt:=qd hi
  rw [PBi] at hi
  rw [qm rfl (show T.get 230 = some qo6 by kernel_rfl)]
  simp only [qo6,sT.1,sC.1,qf,qe,Nat.testBit,simprocAttr,-Int.reduceNatCast',qam hw hn,hi,hlt,PBi,qu,qaX,Nd.dimE,Nd.cellsE,Nd.cutE,Nd.dims,Nd.len,Nd.stor,Nd.lower,Nd.drainE,Nd.cut6,Nd.drop7,qag,qU,qaB,qb,qq hw hn,hs,g2]
def qek (ws:List Tok) (n:Nat):Option Int:=if isW ws n [61] = true then some 20 else if isW ws n [60] = true then some 21 else if isW ws n [60,61] = true then some 22 else none
theorem qc1 {n:Nat} {k:Int} (h:qek ws n = some k):(isW ws n [61] = true∧k = 20)∨(isW ws n [61] = false∧isW ws n [60] = true∧k = 21)∨(isW ws n [61] = false∧isW ws n [60] = false∧isW ws n [60,61] = true∧k = 22):=by
 simp only [qek] at h
 cases h0:isW ws n [61] <;> cases h1:isW ws n [60] <;> cases h2:isW ws n [60,61] <;> simp_all
theorem qld {n:Nat} (h:qek ws n = none):isW ws n [61] = false∧isW ws n [60] = false∧isW ws n [60,61] = false:=by
 simp only [qek] at h
 cases h0:isW ws n [61] <;> cases h1:isW ws n [60] <;> cases h2:isW ws n [60,61] <;> simp_all
theorem ql6 (hw:WF ws) (hn:n < ws.length) {p err:Int} {m:Nat} (h1:qai 272 ws n (.no p err m)):qai 261 ws n (.no p err m):=by
 obtain ⟨g1,g2⟩:=h1
 refine ⟨g1,fun h i hi=>?_⟩
 have hlt:=qd hi
 rw [PBi] at hi
 rw [qm rfl (show T.get 261 = some qjh by kernel_rfl)]
 simp only [qjh,sT.1,sC.1,qf,qe,Nat.testBit,simprocAttr,-Int.reduceNatCast',qam hw hn,hi,hlt,PBi,qu,qaX,Nd.dimE,Nd.cellsE,Nd.cutE,Nd.dims,Nd.len,Nd.stor,Nd.lower,Nd.drainE,Nd.cut6,Nd.drop7,qag,qU,qaB,qb,g2]
theorem qvv (hw:WF ws) (hn:n < ws.length) {e:Exp} {n1:Nat} (h1:qai 272 ws n (.ok e n1)) (hs:qek ws n1 = none):qai 261 ws n (.ok e n1):=by
 obtain ⟨g1,g2,g3,g4⟩:=h1
 obtain ⟨s1,s2,s3⟩:=qld hs
 refine ⟨g1,g2,g3,fun h i hi=>?_⟩
 have hbl1:Nat.ble h.length (h.length + 1) = true:=qao (by omega)
 have hlt:=qd hi
 rw [PBi] at hi
 rw [qm rfl (show T.get 261 = some qjh by kernel_rfl)]
 simp only [qjh,sT.1,sC.1,qf,qe,Nat.testBit,simprocAttr,-Int.reduceNatCast',qam hw hn,hi,hlt,PBi,qu,qaX,Nd.dimE,Nd.cellsE,Nd.cutE,Nd.dims,Nd.len,Nd.stor,Nd.lower,Nd.drainE,Nd.cut6,Nd.drop7,qag,qU,qaB,qb,g4,qq hw g2,s1,s2,s3,hbl1]
theorem qke (hw:WF ws) (hn:n < ws.length) {e:Exp} {n1:Nat} (h1:qai 272 ws n (.ok e n1)) {k:Int} (hs:qek ws n1 = some k) {p err:Int} {m:Nat} (h2:qai 272 ws (n1 + 1) (.no p err m)):qai 261 ws n (.no p err m):=by
 obtain ⟨g1,g2,g3,g4⟩:=h1
 obtain ⟨x1,x2⟩:=h2
 refine ⟨x1,fun h i hi=>?_⟩
 have hbl1:Nat.ble h.length (h.length + 1) = true:=qao (by omega)
 have hlt:=qd hi
 rw [PBi] at hi
 rw [qm rfl (show T.get 261 = some qjh by kernel_rfl)]
 rcases qc1 hs with ⟨s1,rfl⟩ | ⟨s1,s2,rfl⟩ | ⟨s1,s2,s3,rfl⟩
 ·simp only [qjh,sT.1,sC.1,qf,qe,Nat.testBit,simprocAttr,-Int.reduceNatCast',qam hw hn,hi,hlt,PBi,qu,qaX,Nd.dimE,Nd.cellsE,Nd.cutE,Nd.dims,Nd.len,Nd.stor,Nd.lower,Nd.drainE,Nd.cut6,Nd.drop7,qag,qU,qaB,qb,g4,qq hw g2,ql hw g2,s1,hbl1,x2]
 ·simp only [qjh,sT.1,sC.1,qf,qe,Nat.testBit,simprocAttr,-Int.reduceNatCast',qam hw hn,hi,hlt,PBi,qu,qaX,Nd.dimE,Nd.cellsE,Nd.cutE,Nd.dims,Nd.len,Nd.stor,Nd.lower,Nd.drainE,Nd.cut6,Nd.drop7,qag,qU,qaB,qb,g4,qq hw g2,ql hw g2,s1,s2,hbl1,x2]
 ·simp only [qjh,sT.1,sC.1,qf,qe,Nat.testBit,simprocAttr,-Int.reduceNatCast',qam hw hn,hi,hlt,PBi,qu,qaX,Nd.dimE,Nd.cellsE,Nd.cutE,Nd.dims,Nd.len,Nd.stor,Nd.lower,Nd.drainE,Nd.cut6,Nd.drop7,qag,qU,qaB,qb,g4,qq hw g2,ql hw g2,s1,s2,s3,hbl1,x2]
theorem qi0 (hw:WF ws) (hn:n < ws.length) {e:Exp} {n1:Nat} (h1:qai 272 ws n (.ok e n1)) {k:Int} (hs:qek ws n1 = some k) {x:Exp} {n2:Nat} (h2:qai 272 ws (n1 + 1) (.ok x n2)) (hd:¬ (Exp.mk k 0 [] [] [e,x]).depth ≤ 20):qai 261 ws n (.no (word ws n).pos 7 n2):=by
 obtain ⟨g1,g2,g3,g4⟩:=h1
 obtain ⟨x1,x2,x3,x4⟩:=h2
 refine ⟨x2,fun h i hi=>?_⟩
 have hbl1:Nat.ble h.length (h.length + 1) = true:=qao (by omega)
 have hlt:=qd hi
 rw [PBi] at hi
 rw [qm rfl (show T.get 261 = some qjh by kernel_rfl)]
 rcases qc1 hs with ⟨s1,rfl⟩ | ⟨s1,s2,rfl⟩ | ⟨s1,s2,s3,rfl⟩
 ·simp only [qjh,sT.1,sC.1,qf,qe,Nat.testBit,simprocAttr,-Int.reduceNatCast',qam hw hn,hi,hlt,PBi,qu,qaX,Nd.dimE,Nd.cellsE,Nd.cutE,Nd.dims,Nd.len,Nd.stor,Nd.lower,Nd.drainE,Nd.cut6,Nd.drop7,qag,qU,qaB,qb,g4,qq hw g2,ql hw g2,s1,hbl1,x4,x3,g3,qdP,hd]
 ·simp only [qjh,sT.1,sC.1,qf,qe,Nat.testBit,simprocAttr,-Int.reduceNatCast',qam hw hn,hi,hlt,PBi,qu,qaX,Nd.dimE,Nd.cellsE,Nd.cutE,Nd.dims,Nd.len,Nd.stor,Nd.lower,Nd.drainE,Nd.cut6,Nd.drop7,qag,qU,qaB,qb,g4,qq hw g2,ql hw g2,s1,s2,hbl1,x4,x3,g3,qdP,hd]
 ·simp only [qjh,sT.1,sC.1,qf,qe,Nat.testBit,simprocAttr,-Int.reduceNatCast',qam hw hn,hi,hlt,PBi,qu,qaX,Nd.dimE,Nd.cellsE,Nd.cutE,Nd.dims,Nd.len,Nd.stor,Nd.lower,Nd.drainE,Nd.cut6,Nd.drop7,qag,qU,qaB,qb,g4,qq hw g2,ql hw g2,s1,s2,s3,hbl1,x4,x3,g3,qdP,hd]
theorem qu5 (hw:WF ws) (hn:n < ws.length) {e:Exp} {n1:Nat} (h1:qai 272 ws n (.ok e n1)) {k:Int} (hs:qek ws n1 = some k) {x:Exp} {n2:Nat} (h2:qai 272 ws (n1 + 1) (.ok x n2)) (hd:(Exp.mk k 0 [] [] [e,x]).depth ≤ 20):qai 261 ws n (.ok (.mk k 0 [] [] [e,x]) n2):=by
 obtain ⟨g1,g2,g3,g4⟩:=h1
 obtain ⟨x1,x2,x3,x4⟩:=h2
 refine ⟨by omega,x2,hd,fun h i hi=>?_⟩
 have hbl1:Nat.ble h.length (h.length + 1) = true:=qao (by omega)
 have hlt:=qd hi
 rw [PBi] at hi
 rw [qm rfl (show T.get 261 = some qjh by kernel_rfl)]
 rcases qc1 hs with ⟨s1,rfl⟩ | ⟨s1,s2,rfl⟩ | ⟨s1,s2,s3,rfl⟩
 ·simp only [qjh,sT.1,sC.1,qf,qe,Nat.testBit,simprocAttr,-Int.reduceNatCast',qam hw hn,hi,hlt,PBi,qu,qaX,Nd.dimE,Nd.cellsE,Nd.cutE,Nd.dims,Nd.len,Nd.stor,Nd.lower,Nd.drainE,Nd.cut6,Nd.drop7,qag,qU,qaB,qb,g4,qq hw g2,ql hw g2,s1,hbl1,x4,x3,g3,qdP,hd]
 ·simp only [qjh,sT.1,sC.1,qf,qe,Nat.testBit,simprocAttr,-Int.reduceNatCast',qam hw hn,hi,hlt,PBi,qu,qaX,Nd.dimE,Nd.cellsE,Nd.cutE,Nd.dims,Nd.len,Nd.stor,Nd.lower,Nd.drainE,Nd.cut6,Nd.drop7,qag,qU,qaB,qb,g4,qq hw g2,ql hw g2,s1,s2,hbl1,x4,x3,g3,qdP,hd]
 ·simp only [qjh,sT.1,sC.1,qf,qe,Nat.testBit,simprocAttr,-Int.reduceNatCast',qam hw hn,hi,hlt,PBi,qu,qaX,Nd.dimE,Nd.cellsE,Nd.cutE,Nd.dims,Nd.len,Nd.stor,Nd.lower,Nd.drainE,Nd.cut6,Nd.drop7,qag,qU,qaB,qb,g4,qq hw g2,ql hw g2,s1,s2,s3,hbl1,x4,x3,g3,qdP,hd]
end
section
variable {ws:List Tok} {n:Nat}
theorem qBx (hw:WF ws) (hn:n < ws.length) (h1:qab ws n = true) (h2:isW ws (n + 1) [46] = true) (h3:qab ws (n + 1 + 1) = true):qai 294 ws n (.ok (.mk 5 0 (word ws n).s (word ws (n + 1 + 1)).s []) (n + 1 + 1 + 1)):=
 ⟨by omega,qM hw (qh hw (qM hw hn h1) h2) h3,by simp [Exp.depth,qaz],fun h i hi=>qkU hw hn hi h1 h2 h3⟩
theorem qg9 (hw:WF ws) (hn:n < ws.length) (h1:qab ws n = true) (h2:isW ws (n + 1) [46] = true→qab ws (n + 1 + 1) = false):qai 294 ws n (.ok (.mk 4 0 (word ws n).s [] []) (n + 1)):=
 ⟨by omega,qM hw hn h1,by simp [Exp.depth,qaz],fun h i hi=>qhY hw hn hi h1 h2⟩
theorem qy5 (hw:WF ws) (hn:n < ws.length) (hk:(word ws n).kind = 1):qai 293 ws n (.ok (.mk 0 (word ws n).n [] [] []) (n + 1)):=by
 refine ⟨by omega,hw.next hn (by omega),by simp [Exp.depth,qaz],fun h i hi=>?_⟩
 have w:=qap (n:=n) (by have:=hw.len;omega)
 have k1:((word ws n).kind == 1) = true:=by simpa using hk
 have hlt:=qd hi
 rw [PBi] at hi
 rw [qm rfl (show T.get 293 = some qji by kernel_rfl)]
 simp only [qji,sT.1,sC.1,qf,qe,Nat.testBit,simprocAttr,-Int.reduceNatCast',qam hw hn,hi,hlt,PBi,qu,qaX,Nd.dimE,Nd.cellsE,Nd.cutE,Nd.dims,Nd.len,Nd.stor,Nd.lower,Nd.drainE,Nd.cut6,Nd.drop7,qag,qU,qaB,qb,qae hw hn,Tok.enc,k1,w]
theorem qyy (hw:WF ws) (hn:n < ws.length) (hk:(word ws n).kind = 2):qai 293 ws n (.ok (.mk 3 0 (word ws n).s [] []) (n + 1)):=by
 refine ⟨by omega,hw.next hn (by omega),by simp [Exp.depth,qaz],fun h i hi=>?_⟩
 have w:=qap (n:=n) (by have:=hw.len;omega)
 have k1:((word ws n).kind == 1) = false:=by rw [hk];rfl
 have k2:((word ws n).kind == 2) = true:=by simpa using hk
 have hlt:=qd hi
 rw [PBi] at hi
 rw [qm rfl (show T.get 293 = some qji by kernel_rfl)]
 simp only [qji,sT.1,sC.1,qf,qe,Nat.testBit,simprocAttr,-Int.reduceNatCast',qam hw hn,hi,hlt,PBi,qu,qaX,Nd.dimE,Nd.cellsE,Nd.cutE,Nd.dims,Nd.len,Nd.stor,Nd.lower,Nd.drainE,Nd.cut6,Nd.drop7,qag,qU,qaB,qb,qae hw hn,Tok.enc,k1,k2,w]
theorem qiK (hw:WF ws) (hn:n < ws.length) (hs:qab ws n = true) {o:Out} (h1:qai 294 ws n o):qai 293 ws n o:=by
 have k0:(word ws n).kind = 0:=by simp [qab] at hs;exact hs.1
 have k1:((word ws n).kind == 1) = false:=by rw [k0];rfl
 have k2:((word ws n).kind == 2) = false:=by rw [k0];rfl
 cases o with
 | ok e n1=>
  obtain ⟨g1,g2,g3,g4⟩:=h1
  refine ⟨g1,g2,g3,fun h i hi=>?_⟩
  have hlt:=qd hi
  rw [PBi] at hi
  rw [qm rfl (show T.get 293 = some qji by kernel_rfl)]
  simp only [qji,sT.1,sC.1,qf,qe,Nat.testBit,simprocAttr,-Int.reduceNatCast',qam hw hn,hi,hlt,PBi,qu,qaX,Nd.dimE,Nd.cellsE,Nd.cutE,Nd.dims,Nd.len,Nd.stor,Nd.lower,Nd.drainE,Nd.cut6,Nd.drop7,qag,qU,qaB,qb,qae hw hn,Tok.enc,k1,k2,q9 hw hn,hs,g4]
 | no p err m=>
  obtain ⟨g1,g2⟩:=h1
  refine ⟨g1,fun h i hi=>?_⟩
  have hlt:=qd hi
  rw [PBi] at hi
  rw [qm rfl (show T.get 293 = some qji by kernel_rfl)]
  simp only [qji,sT.1,sC.1,qf,qe,Nat.testBit,simprocAttr,-Int.reduceNatCast',qam hw hn,hi,hlt,PBi,qu,qaX,Nd.dimE,Nd.cellsE,Nd.cutE,Nd.dims,Nd.len,Nd.stor,Nd.lower,Nd.drainE,Nd.cut6,Nd.drop7,qag,qU,qaB,qb,qae hw hn,Tok.enc,k1,k2,q9 hw hn,hs,g2]
theorem qkC (hw:WF ws) (hn:n < ws.length) (k1:(word ws n).kind ≠ 1) (k2:(word ws n).kind ≠ 2) (hs:qab ws n = false) (hb:isW ws n [40] = true) {o:Out} (h1:qai 295 ws n o):qai 293 ws n o:=by
 have k1':((word ws n).kind == 1) = false:=by simpa using k1
 have k2':((word ws n).kind == 2) = false:=by simpa using k2
 cases o with
 | ok e n1=>
  obtain ⟨g1,g2,g3,g4⟩:=h1
  refine ⟨g1,g2,g3,fun h i hi=>?_⟩
  have hlt:=qd hi
  rw [PBi] at hi
  rw [qm rfl (show T.get 293 = some qji by kernel_rfl)]
  simp only [qji,sT.1,sC.1,qf,qe,Nat.testBit,simprocAttr,-Int.reduceNatCast',qam hw hn,hi,hlt,PBi,qu,qaX,Nd.dimE,Nd.cellsE,Nd.cutE,Nd.dims,Nd.len,Nd.stor,Nd.lower,Nd.drainE,Nd.cut6,Nd.drop7,qag,qU,qaB,qb,qae hw hn,Tok.enc,k1',k2',q9 hw hn,hs,qbi hw hn,hb,g4]
 | no p err m=>
  obtain ⟨g1,g2⟩:=h1
  refine ⟨g1,fun h i hi=>?_⟩
  have hlt:=qd hi
  rw [PBi] at hi
  rw [qm rfl (show T.get 293 = some qji by kernel_rfl)]
  simp only [qji,sT.1,sC.1,qf,qe,Nat.testBit,simprocAttr,-Int.reduceNatCast',qam hw hn,hi,hlt,PBi,qu,qaX,Nd.dimE,Nd.cellsE,Nd.cutE,Nd.dims,Nd.len,Nd.stor,Nd.lower,Nd.drainE,Nd.cut6,Nd.drop7,qag,qU,qaB,qb,qae hw hn,Tok.enc,k1',k2',q9 hw hn,hs,qbi hw hn,hb,g2]
theorem qan (hw:WF ws) (hn:n < ws.length) (k1:(word ws n).kind ≠ 1) (k2:(word ws n).kind ≠ 2) (hs:qab ws n = false) (hb:isW ws n [40] = false) {o:Out} (h1:qai 296 ws n o):qai 293 ws n o:=by
 have k1':((word ws n).kind == 1) = false:=by simpa using k1
 have k2':((word ws n).kind == 2) = false:=by simpa using k2
 cases o with
 | ok e n1=>
  obtain ⟨g1,g2,g3,g4⟩:=h1
  refine ⟨g1,g2,g3,fun h i hi=>?_⟩
  have hlt:=qd hi
  rw [PBi] at hi
  rw [qm rfl (show T.get 293 = some qji by kernel_rfl)]
  simp only [qji,sT.1,sC.1,qf,qe,Nat.testBit,simprocAttr,-Int.reduceNatCast',qam hw hn,hi,hlt,PBi,qu,qaX,Nd.dimE,Nd.cellsE,Nd.cutE,Nd.dims,Nd.len,Nd.stor,Nd.lower,Nd.drainE,Nd.cut6,Nd.drop7,qag,qU,qaB,qb,qae hw hn,Tok.enc,k1',k2',q9 hw hn,hs,qbi hw hn,hb,g4]
 | no p err m=>
  obtain ⟨g1,g2⟩:=h1
  refine ⟨g1,fun h i hi=>?_⟩
  have hlt:=qd hi
  rw [PBi] at hi
  rw [qm rfl (show T.get 293 = some qji by kernel_rfl)]
  simp only [qji,sT.1,sC.1,qf,qe,Nat.testBit,simprocAttr,-Int.reduceNatCast',qam hw hn,hi,hlt,PBi,qu,qaX,Nd.dimE,Nd.cellsE,Nd.cutE,Nd.dims,Nd.len,Nd.stor,Nd.lower,Nd.drainE,Nd.cut6,Nd.drop7,qag,qU,qaB,qb,qae hw hn,Tok.enc,k1',k2',q9 hw hn,hs,qbi hw hn,hb,g2]
theorem qjB (hw:WF ws) (hn:n < ws.length) (hs:isW ws n [105,102] = false) {o:Out} (h1:qai 126 ws n o):qai 66 ws n o:=by
 cases o with
 | ok e n1=>
  obtain ⟨g1,g2,g3,g4⟩:=h1
  refine ⟨g1,g2,g3,fun h i hi=>?_⟩
  have hlt:=qd hi
  rw [PBi] at hi
  rw [qm rfl (show T.get 66 = some c66 by kernel_rfl)]
  simp only [c66,sT.1,sC.1,qf,qe,Nat.testBit,simprocAttr,-Int.reduceNatCast',qam hw hn,hi,hlt,PBi,qu,qaX,Nd.dimE,Nd.cellsE,Nd.cutE,Nd.dims,Nd.len,Nd.stor,Nd.lower,Nd.drainE,Nd.cut6,Nd.drop7,qag,qU,qaB,qb,qq hw hn,hs,g4]
 | no p err m=>
  obtain ⟨g1,g2⟩:=h1
  refine ⟨g1,fun h i hi=>?_⟩
  have hlt:=qd hi
  rw [PBi] at hi
  rw [qm rfl (show T.get 66 = some c66 by kernel_rfl)]
  simp only [c66,sT.1,sC.1,qf,qe,Nat.testBit,simprocAttr,-Int.reduceNatCast',qam hw hn,hi,hlt,PBi,qu,qaX,Nd.dimE,Nd.cellsE,Nd.cutE,Nd.dims,Nd.len,Nd.stor,Nd.lower,Nd.drainE,Nd.cut6,Nd.drop7,qag,qU,qaB,qb,qq hw hn,hs,g2]
theorem qBr (hw:WF ws) (hn:n < ws.length) (hs:isW ws n [108,101,97,115,116] = true) (h1:isW ws (n + 1) [40] = false):qai 296 ws n (.no (word ws (n + 1)).pos 6 (n + 1)):=by
 have n1:=qh hw hn hs
 have q0:isW ws n [116,114,117,101] = false:=qp hs (by decide)
 have q1:isW ws n [102,97,108,115,101] = false:=qp hs (by decide)
 have q2:isW ws n [101,108,97,112,115,101,100] = false:=qp hs (by decide)
 have q3:isW ws n [99,111,117,110,116] = false:=qp hs (by decide)
 have q4:isW ws n [104,97,115] = false:=qp hs (by decide)
 have q5:isW ws n [115,117,109] = false:=qp hs (by decide)
 refine ⟨n1,fun h i hi=>?_⟩
 have hlt:=qd hi
 rw [PBi] at hi
 rw [qm rfl (show T.get 296 = some qcX by kernel_rfl)]
 simp only [qcX,sT.1,sC.1,qf,qe,Nat.testBit,simprocAttr,-Int.reduceNatCast',qam hw hn,hi,hlt,PBi,qu,qaX,Nd.dimE,Nd.cellsE,Nd.cutE,Nd.dims,Nd.len,Nd.stor,Nd.lower,Nd.drainE,Nd.cut6,Nd.drop7,qag,qU,qaB,qb,ql hw hn,qq hw hn,hs,q0,q1,q2,q3,q4,q5,qah hw n1,h1]
theorem qAt (hw:WF ws) (hn:n < ws.length) (hs:isW ws n [108,101,97,115,116] = true) (h1:isW ws (n + 1) [40] = true) (h2:qab ws (n + 1 + 1) = false):qai 296 ws n (.no (word ws (n + 1 + 1)).pos 6 (n + 1 + 1)):=by
 have n1:=qh hw hn hs
 have n2:=qh hw n1 h1
 have q0:isW ws n [116,114,117,101] = false:=qp hs (by decide)
 have q1:isW ws n [102,97,108,115,101] = false:=qp hs (by decide)
 have q2:isW ws n [101,108,97,112,115,101,100] = false:=qp hs (by decide)
 have q3:isW ws n [99,111,117,110,116] = false:=qp hs (by decide)
 have q4:isW ws n [104,97,115] = false:=qp hs (by decide)
 have q5:isW ws n [115,117,109] = false:=qp hs (by decide)
 refine ⟨n2,fun h i hi=>?_⟩
 have hlt:=qd hi
 rw [PBi] at hi
 rw [qm rfl (show T.get 296 = some qcX by kernel_rfl)]
 simp only [qcX,sT.1,sC.1,qf,qe,Nat.testBit,simprocAttr,-Int.reduceNatCast',qam hw hn,hi,hlt,PBi,qu,qaX,Nd.dimE,Nd.cellsE,Nd.cutE,Nd.dims,Nd.len,Nd.stor,Nd.lower,Nd.drainE,Nd.cut6,Nd.drop7,qag,qU,qaB,qb,ql hw hn,qq hw hn,hs,q0,q1,q2,q3,q4,q5,qi hw n1,h1,qcy hw n2,h2]
theorem qBN (hw:WF ws) (hn:n < ws.length) (hs:isW ws n [108,101,97,115,116] = true) (h1:isW ws (n + 1) [40] = true) (h2:qab ws (n + 1 + 1) = true) (h3:isW ws (n + 1 + 1 + 1) [44] = false):qai 296 ws n (.no (word ws (n + 1 + 1 + 1)).pos 6 (n + 1 + 1 + 1)):=by
 have n1:=qh hw hn hs
 have n2:=qh hw n1 h1
 have n3:=qM hw n2 h2
 have q0:isW ws n [116,114,117,101] = false:=qp hs (by decide)
 have q1:isW ws n [102,97,108,115,101] = false:=qp hs (by decide)
 have q2:isW ws n [101,108,97,112,115,101,100] = false:=qp hs (by decide)
 have q3:isW ws n [99,111,117,110,116] = false:=qp hs (by decide)
 have q4:isW ws n [104,97,115] = false:=qp hs (by decide)
 have q5:isW ws n [115,117,109] = false:=qp hs (by decide)
 refine ⟨n3,fun h i hi=>?_⟩
 have hlt:=qd hi
 rw [PBi] at hi
 rw [qm rfl (show T.get 296 = some qcX by kernel_rfl)]
 simp only [qcX,sT.1,sC.1,qf,qe,Nat.testBit,simprocAttr,-Int.reduceNatCast',qam hw hn,hi,hlt,PBi,qu,qaX,Nd.dimE,Nd.cellsE,Nd.cutE,Nd.dims,Nd.len,Nd.stor,Nd.lower,Nd.drainE,Nd.cut6,Nd.drop7,qag,qU,qaB,qb,ql hw hn,qq hw hn,hs,q0,q1,q2,q3,q4,q5,qi hw n1,h1,qP hw n2,h2,qah hw n3,h3]
theorem qzM (hw:WF ws) (hn:n < ws.length) (hs:isW ws n [108,101,97,115,116] = true) (h1:isW ws (n + 1) [40] = true) (h2:qab ws (n + 1 + 1) = true) (h3:isW ws (n + 1 + 1 + 1) [44] = true) {p err:Int} {m:Nat} (h4:qai 66 ws (n + 1 + 1 + 1 + 1) (.no p err m)):qai 296 ws n (.no p err m):=by
 have n1:=qh hw hn hs
 have n2:=qh hw n1 h1
 have n3:=qM hw n2 h2
 have n4:=qh hw n3 h3
 have q0:isW ws n [116,114,117,101] = false:=qp hs (by decide)
 have q1:isW ws n [102,97,108,115,101] = false:=qp hs (by decide)
 have q2:isW ws n [101,108,97,112,115,101,100] = false:=qp hs (by decide)
 have q3:isW ws n [99,111,117,110,116] = false:=qp hs (by decide)
 have q4:isW ws n [104,97,115] = false:=qp hs (by decide)
 have q5:isW ws n [115,117,109] = false:=qp hs (by decide)
 obtain ⟨x1,x2⟩:=h4
 refine ⟨x1,fun h i hi=>?_⟩
 have hlt:=qd hi
 rw [PBi] at hi
 rw [qm rfl (show T.get 296 = some qcX by kernel_rfl)]
 simp only [qcX,sT.1,sC.1,qf,qe,Nat.testBit,simprocAttr,-Int.reduceNatCast',qam hw hn,hi,hlt,PBi,qu,qaX,Nd.dimE,Nd.cellsE,Nd.cutE,Nd.dims,Nd.len,Nd.stor,Nd.lower,Nd.drainE,Nd.cut6,Nd.drop7,qag,qU,qaB,qb,ql hw hn,qq hw hn,hs,q0,q1,q2,q3,q4,q5,qi hw n1,h1,qP hw n2,h2,qi hw n3,h3,x2]
theorem qA8 (hw:WF ws) (hn:n < ws.length) (hs:isW ws n [108,101,97,115,116] = true) (h1:isW ws (n + 1) [40] = true) (h2:qab ws (n + 1 + 1) = true) (h3:isW ws (n + 1 + 1 + 1) [44] = true) {x:Exp} {m:Nat} (h4:qai 66 ws (n + 1 + 1 + 1 + 1) (.ok x m)) (h5:isW ws m [41] = false):qai 296 ws n (.no (word ws m).pos 6 m):=by
 have n1:=qh hw hn hs
 have n2:=qh hw n1 h1
 have n3:=qM hw n2 h2
 have n4:=qh hw n3 h3
 have q0:isW ws n [116,114,117,101] = false:=qp hs (by decide)
 have q1:isW ws n [102,97,108,115,101] = false:=qp hs (by decide)
 have q2:isW ws n [101,108,97,112,115,101,100] = false:=qp hs (by decide)
 have q3:isW ws n [99,111,117,110,116] = false:=qp hs (by decide)
 have q4:isW ws n [104,97,115] = false:=qp hs (by decide)
 have q5:isW ws n [115,117,109] = false:=qp hs (by decide)
 obtain ⟨x1,x2,x3,x4⟩:=h4
 refine ⟨x2,fun h i hi=>?_⟩
 have hb1:=qr h 1
 have hlt:=qd hi
 rw [PBi] at hi
 rw [qm rfl (show T.get 296 = some qcX by kernel_rfl)]
 simp only [qcX,sT.1,sC.1,qf,qe,Nat.testBit,simprocAttr,-Int.reduceNatCast',qam hw hn,hi,hlt,PBi,qu,qaX,Nd.dimE,Nd.cellsE,Nd.cutE,Nd.dims,Nd.len,Nd.stor,Nd.lower,Nd.drainE,Nd.cut6,Nd.drop7,qag,qU,qaB,qb,ql hw hn,qq hw hn,hs,q0,q1,q2,q3,q4,q5,qi hw n1,h1,qP hw n2,h2,qi hw n3,h3,x4,qah hw x2,h5,hb1]
theorem qBF (hw:WF ws) (hn:n < ws.length) (hs:isW ws n [108,101,97,115,116] = true) (h1:isW ws (n + 1) [40] = true) (h2:qab ws (n + 1 + 1) = true) (h3:isW ws (n + 1 + 1 + 1) [44] = true) {x:Exp} {m:Nat} (h4:qai 66 ws (n + 1 + 1 + 1 + 1) (.ok x m)) (h5:isW ws m [41] = true) (hd:¬ (Exp.mk 10 0 (word ws (n + 1 + 1)).s [] [x]).depth ≤ 20):qai 296 ws n (.no (word ws n).pos 7 (m + 1)):=by
 have n1:=qh hw hn hs
 have n2:=qh hw n1 h1
 have n3:=qM hw n2 h2
 have n4:=qh hw n3 h3
 have q0:isW ws n [116,114,117,101] = false:=qp hs (by decide)
 have q1:isW ws n [102,97,108,115,101] = false:=qp hs (by decide)
 have q2:isW ws n [101,108,97,112,115,101,100] = false:=qp hs (by decide)
 have q3:isW ws n [99,111,117,110,116] = false:=qp hs (by decide)
 have q4:isW ws n [104,97,115] = false:=qp hs (by decide)
 have q5:isW ws n [115,117,109] = false:=qp hs (by decide)
 obtain ⟨x1,x2,x3,x4⟩:=h4
 refine ⟨qh hw x2 h5,fun h i hi=>?_⟩
 have hb1:=qr h 1
 have hlt:=qd hi
 rw [PBi] at hi
 rw [qm rfl (show T.get 296 = some qcX by kernel_rfl)]
 simp only [qcX,sT.1,sC.1,qf,qe,Nat.testBit,simprocAttr,-Int.reduceNatCast',qam hw hn,hi,hlt,PBi,qu,qaX,Nd.dimE,Nd.cellsE,Nd.cutE,Nd.dims,Nd.len,Nd.stor,Nd.lower,Nd.drainE,Nd.cut6,Nd.drop7,qag,qU,qaB,qb,ql hw hn,qq hw hn,hs,q0,q1,q2,q3,q4,q5,qi hw n1,h1,qP hw n2,h2,qi hw n3,h3,x4,x3,qi hw x2,h5,qhX,hd,hb1]
theorem qAE (hw:WF ws) (hn:n < ws.length) (hs:isW ws n [108,101,97,115,116] = true) (h1:isW ws (n + 1) [40] = true) (h2:qab ws (n + 1 + 1) = true) (h3:isW ws (n + 1 + 1 + 1) [44] = true) {x:Exp} {m:Nat} (h4:qai 66 ws (n + 1 + 1 + 1 + 1) (.ok x m)) (h5:isW ws m [41] = true) (hd:(Exp.mk 10 0 (word ws (n + 1 + 1)).s [] [x]).depth ≤ 20):qai 296 ws n (.ok (.mk 10 0 (word ws (n + 1 + 1)).s [] [x]) (m + 1)):=by
 have n1:=qh hw hn hs
 have n2:=qh hw n1 h1
 have n3:=qM hw n2 h2
 have n4:=qh hw n3 h3
 have q0:isW ws n [116,114,117,101] = false:=qp hs (by decide)
 have q1:isW ws n [102,97,108,115,101] = false:=qp hs (by decide)
 have q2:isW ws n [101,108,97,112,115,101,100] = false:=qp hs (by decide)
 have q3:isW ws n [99,111,117,110,116] = false:=qp hs (by decide)
 have q4:isW ws n [104,97,115] = false:=qp hs (by decide)
 have q5:isW ws n [115,117,109] = false:=qp hs (by decide)
 obtain ⟨x1,x2,x3,x4⟩:=h4
 refine ⟨by omega,qh hw x2 h5,hd,fun h i hi=>?_⟩
 have hb1:=qr h 1
 have hlt:=qd hi
 rw [PBi] at hi
 rw [qm rfl (show T.get 296 = some qcX by kernel_rfl)]
 simp only [qcX,sT.1,sC.1,qf,qe,Nat.testBit,simprocAttr,-Int.reduceNatCast',qam hw hn,hi,hlt,PBi,qu,qaX,Nd.dimE,Nd.cellsE,Nd.cutE,Nd.dims,Nd.len,Nd.stor,Nd.lower,Nd.drainE,Nd.cut6,Nd.drop7,qag,qU,qaB,qb,ql hw hn,qq hw hn,hs,q0,q1,q2,q3,q4,q5,qi hw n1,h1,qP hw n2,h2,qi hw n3,h3,x4,x3,qi hw x2,h5,qhX,hd,hb1]
theorem if1 (hw:WF ws) (hn:n < ws.length) (hs:isW ws n [105,102] = true) {p err:Int} {m:Nat} (hx:qai 66 ws (n + 1) (.no p err m)):qai 66 ws n (.no p err m):=by
 obtain ⟨x1,x2⟩:=hx
 refine ⟨x1,fun h i hi=>?_⟩
 have hb1:=qr h 1
 have hb2:=qr h 2
 have hb3:=qr h 3
 have hlt:=qd hi
 rw [PBi] at hi
 rw [qm rfl (show T.get 66 = some c66 by kernel_rfl)]
 simp only [c66,sT.1,sC.1,qf,qe,Nat.testBit,simprocAttr,-Int.reduceNatCast',qam hw hn,hi,hlt,PBi,qu,qaX,Nd.dimE,Nd.cellsE,Nd.cutE,Nd.dims,Nd.len,Nd.stor,Nd.lower,Nd.drainE,Nd.cut6,Nd.drop7,qag,qU,qaB,qb,ql hw hn,hs,hb1,hb2,hb3,x2]
theorem if2 (hw:WF ws) (hn:n < ws.length) (hs:isW ws n [105,102] = true) {a:Exp} {n1:Nat} (ha:qai 66 ws (n + 1) (.ok a n1)) (ht:isW ws n1 [116,104,101,110] = false):qai 66 ws n (.no (word ws n1).pos 6 n1):=by
 obtain ⟨a1,a2,a3,a4⟩:=ha
 refine ⟨a2,fun h i hi=>?_⟩
 have hb1:=qr h 1
 have hb2:=qr h 2
 have hb3:=qr h 3
 have hlt:=qd hi
 rw [PBi] at hi
 rw [qm rfl (show T.get 66 = some c66 by kernel_rfl)]
 simp only [c66,sT.1,sC.1,qf,qe,Nat.testBit,simprocAttr,-Int.reduceNatCast',qam hw hn,hi,hlt,PBi,qu,qaX,Nd.dimE,Nd.cellsE,Nd.cutE,Nd.dims,Nd.len,Nd.stor,Nd.lower,Nd.drainE,Nd.cut6,Nd.drop7,qag,qU,qaB,qb,ql hw hn,hs,hb1,hb2,hb3,a4,qah hw a2,ht]
theorem if3 (hw:WF ws) (hn:n < ws.length) (hs:isW ws n [105,102] = true) {a:Exp} {n1:Nat} (ha:qai 66 ws (n + 1) (.ok a n1)) (ht:isW ws n1 [116,104,101,110] = true) {p err:Int} {m:Nat} (hx:qai 66 ws (n1 + 1) (.no p err m)):qai 66 ws n (.no p err m):=by
 obtain ⟨a1,a2,a3,a4⟩:=ha
 obtain ⟨x1,x2⟩:=hx
 refine ⟨x1,fun h i hi=>?_⟩
 have hb1:=qr h 1
 have hb2:=qr h 2
 have hb3:=qr h 3
 have hlt:=qd hi
 rw [PBi] at hi
 rw [qm rfl (show T.get 66 = some c66 by kernel_rfl)]
 simp only [c66,sT.1,sC.1,qf,qe,Nat.testBit,simprocAttr,-Int.reduceNatCast',qam hw hn,hi,hlt,PBi,qu,qaX,Nd.dimE,Nd.cellsE,Nd.cutE,Nd.dims,Nd.len,Nd.stor,Nd.lower,Nd.drainE,Nd.cut6,Nd.drop7,qag,qU,qaB,qb,ql hw hn,hs,hb1,hb2,hb3,a4,qi hw a2,ht,x2]
theorem if4 (hw:WF ws) (hn:n < ws.length) (hs:isW ws n [105,102] = true) {a:Exp} {n1:Nat} (ha:qai 66 ws (n + 1) (.ok a n1)) (ht:isW ws n1 [116,104,101,110] = true) {b:Exp} {n2:Nat} (hb:qai 66 ws (n1 + 1) (.ok b n2)) (hl:isW ws n2 [101,108,115,101] = false):qai 66 ws n (.no (word ws n2).pos 6 n2):=by
 obtain ⟨a1,a2,a3,a4⟩:=ha
 obtain ⟨b1,b2,b3,b4⟩:=hb
 refine ⟨b2,fun h i hi=>?_⟩
 have hb1:=qr h 1
 have hb2:=qr h 2
 have hb3:=qr h 3
 have hlt:=qd hi
 rw [PBi] at hi
 rw [qm rfl (show T.get 66 = some c66 by kernel_rfl)]
 simp only [c66,sT.1,sC.1,qf,qe,Nat.testBit,simprocAttr,-Int.reduceNatCast',qam hw hn,hi,hlt,PBi,qu,qaX,Nd.dimE,Nd.cellsE,Nd.cutE,Nd.dims,Nd.len,Nd.stor,Nd.lower,Nd.drainE,Nd.cut6,Nd.drop7,qag,qU,qaB,qb,ql hw hn,hs,hb1,hb2,hb3,a4,qi hw a2,ht,b4,qah hw b2,hl]
theorem if5 (hw:WF ws) (hn:n < ws.length) (hs:isW ws n [105,102] = true) {a:Exp} {n1:Nat} (ha:qai 66 ws (n + 1) (.ok a n1)) (ht:isW ws n1 [116,104,101,110] = true) {b:Exp} {n2:Nat} (hb:qai 66 ws (n1 + 1) (.ok b n2)) (hl:isW ws n2 [101,108,115,101] = true) {p err:Int} {m:Nat} (hx:qai 66 ws (n2 + 1) (.no p err m)):qai 66 ws n (.no p err m):=by
 obtain ⟨a1,a2,a3,a4⟩:=ha
 obtain ⟨b1,b2,b3,b4⟩:=hb
 obtain ⟨x1,x2⟩:=hx
 refine ⟨x1,fun h i hi=>?_⟩
 have hb1:=qr h 1
 have hb2:=qr h 2
 have hb3:=qr h 3
 have hlt:=qd hi
 rw [PBi] at hi
 rw [qm rfl (show T.get 66 = some c66 by kernel_rfl)]
 simp only [c66,sT.1,sC.1,qf,qe,Nat.testBit,simprocAttr,-Int.reduceNatCast',qam hw hn,hi,hlt,PBi,qu,qaX,Nd.dimE,Nd.cellsE,Nd.cutE,Nd.dims,Nd.len,Nd.stor,Nd.lower,Nd.drainE,Nd.cut6,Nd.drop7,qag,qU,qaB,qb,ql hw hn,hs,hb1,hb2,hb3,a4,qi hw a2,ht,b4,qi hw b2,hl,x2]
theorem if6 (hw:WF ws) (hn:n < ws.length) (hs:isW ws n [105,102] = true) {a:Exp} {n1:Nat} (ha:qai 66 ws (n + 1) (.ok a n1)) (ht:isW ws n1 [116,104,101,110] = true) {b:Exp} {n2:Nat} (hb:qai 66 ws (n1 + 1) (.ok b n2)) (hl:isW ws n2 [101,108,115,101] = true) {c:Exp} {n3:Nat} (hc:qai 66 ws (n2 + 1) (.ok c n3)) (hd:¬ (Exp.mk 25 0 [] [] [a,b,c]).depth ≤ 20):qai 66 ws n (.no (word ws n).pos 7 n3):=by
 obtain ⟨a1,a2,a3,a4⟩:=ha
 obtain ⟨b1,b2,b3,b4⟩:=hb
 obtain ⟨c1,c2,c3,c4⟩:=hc
 refine ⟨c2,fun h i hi=>?_⟩
 have hb1:=qr h 1
 have hb2:=qr h 2
 have hb3:=qr h 3
 have hlt:=qd hi
 rw [PBi] at hi
 rw [qm rfl (show T.get 66 = some c66 by kernel_rfl)]
 simp only [c66,sT.1,sC.1,qf,qe,Nat.testBit,simprocAttr,-Int.reduceNatCast',qam hw hn,hi,hlt,PBi,qu,qaX,Nd.dimE,Nd.cellsE,Nd.cutE,Nd.dims,Nd.len,Nd.stor,Nd.lower,Nd.drainE,Nd.cut6,Nd.drop7,qag,qU,qaB,qb,ql hw hn,hs,hb1,hb2,hb3,a4,qi hw a2,ht,b4,qi hw b2,hl,c4,a3,b3,c3,qAb,hd]
theorem if7 (hw:WF ws) (hn:n < ws.length) (hs:isW ws n [105,102] = true) {a:Exp} {n1:Nat} (ha:qai 66 ws (n + 1) (.ok a n1)) (ht:isW ws n1 [116,104,101,110] = true) {b:Exp} {n2:Nat} (hb:qai 66 ws (n1 + 1) (.ok b n2)) (hl:isW ws n2 [101,108,115,101] = true) {c:Exp} {n3:Nat} (hc:qai 66 ws (n2 + 1) (.ok c n3)) (hd:(Exp.mk 25 0 [] [] [a,b,c]).depth ≤ 20):qai 66 ws n (.ok (.mk 25 0 [] [] [a,b,c]) n3):=by
 obtain ⟨a1,a2,a3,a4⟩:=ha
 obtain ⟨b1,b2,b3,b4⟩:=hb
 obtain ⟨c1,c2,c3,c4⟩:=hc
 refine ⟨by omega,c2,hd,fun h i hi=>?_⟩
 have hb1:=qr h 1
 have hb2:=qr h 2
 have hb3:=qr h 3
 have hlt:=qd hi
 rw [PBi] at hi
 rw [qm rfl (show T.get 66 = some c66 by kernel_rfl)]
 simp only [c66,sT.1,sC.1,qf,qe,Nat.testBit,simprocAttr,-Int.reduceNatCast',qam hw hn,hi,hlt,PBi,qu,qaX,Nd.dimE,Nd.cellsE,Nd.cutE,Nd.dims,Nd.len,Nd.stor,Nd.lower,Nd.drainE,Nd.cut6,Nd.drop7,qag,qU,qaB,qb,ql hw hn,hs,hb1,hb2,hb3,a4,qi hw a2,ht,b4,qi hw b2,hl,c4,a3,b3,c3,qAb,hd]
end
end Go.Proofs.YtlognicjhmcgjaaGreatDoor.AE
set_option maxHeartbeats 800000
namespace Go.Proofs.YtlognicjhmcgjaaGreatDoor.AE
open Go.AE
section
variable {ws:List Tok} {n:Nat} {h:List qx} {i:Nat}
def qau (s:Str):Bool:=s == [105,102] || s == [110,111,116] || s == [116,114,117,101] || s == [102,97,108,115,101] || s == [101,108,97,112,115,101,100] || s == [99,111,117,110,116] || s == [104,97,115] || s == [115,117,109] || s == [108,101,97,115,116]
def qbd (ws:List Tok) (n:Nat):Bool:=(word ws n).kind == 1 || ((word ws n).kind == 2 || (qab ws n || (((word ws n).kind == 3 && ((word ws n).s == [40] || (word ws n).s == [45])) || ((word ws n).kind == 0 && qau (word ws n).s))))
theorem qjX (hw:WF ws) (hn:n < ws.length) (hi:h[i]? = some (PB ws n)):Wd (.fn 297 [] []) [.ptr i 0] h = some (.pan (qbo (word ws n).pos (bif qbd ws n then 8 else 6)),h,false):=by
 have hlt:=qd hi
 rw [PBi] at hi
 rw [qm rfl (show T.get 297 = some qfn by kernel_rfl)]
 have hbad:∀l:List qx,Wd (.fn 76 [] []) [.ptr i 0] (h ++ l) = some (.pan (qbo (word ws n).pos 6),h ++ l,false):=fun l=>qaK hw hn (by rw [qcv hlt,hi,PBi])
 cases k1:((word ws n).kind == 1) with
 | true=>
  simp only [qfn,sT.1,sC.1,qf,qe,Nat.testBit,reduceCtorEq,Nat.reduceAdd,Nat.reduceSub,Nat.reduceLT,Nat.reduceEqDiff,Nat.reduceLeDiff,Nat.reduceMul,Int.reduceToNat,Nat.reduceShiftRight,Nat.reduceAnd,Nat.reduceBneDiff,Nat.reduceBEq,qae hw hn,Tok.enc,hi,hlt,PBi,qaC,q9 hw hn,qaK hw hn,qb,qbd,qau,hi,k1]
 | false=>
  cases k2:((word ws n).kind == 2) with
  | true=>
   simp only [qfn,sT.1,sC.1,qf,qe,Nat.testBit,reduceCtorEq,Nat.reduceAdd,Nat.reduceSub,Nat.reduceLT,Nat.reduceEqDiff,Nat.reduceLeDiff,Nat.reduceMul,Int.reduceToNat,Nat.reduceShiftRight,Nat.reduceAnd,Nat.reduceBneDiff,Nat.reduceBEq,qae hw hn,Tok.enc,hi,hlt,PBi,qaC,q9 hw hn,qaK hw hn,qb,qbd,qau,hi,k1,k2]
  | false=>
   cases nm:qab ws n with
   | true=>
    simp only [qfn,sT.1,sC.1,qf,qe,Nat.testBit,reduceCtorEq,Nat.reduceAdd,Nat.reduceSub,Nat.reduceLT,Nat.reduceEqDiff,Nat.reduceLeDiff,Nat.reduceMul,Int.reduceToNat,Nat.reduceShiftRight,Nat.reduceAnd,Nat.reduceBneDiff,Nat.reduceBEq,qae hw hn,Tok.enc,hi,hlt,PBi,qaC,q9 hw hn,qaK hw hn,qb,qbd,qau,hi,k1,k2,nm]
   | false=>
    cases k3:((word ws n).kind == 3) with
    | true=>
     cases p:((word ws n).s == [40]) with
     | true=>
      simp only [qfn,sT.1,sC.1,qf,qe,Nat.testBit,reduceCtorEq,Nat.reduceAdd,Nat.reduceSub,Nat.reduceLT,Nat.reduceEqDiff,Nat.reduceLeDiff,Nat.reduceMul,Int.reduceToNat,Nat.reduceShiftRight,Nat.reduceAnd,Nat.reduceBneDiff,Nat.reduceBEq,qae hw hn,Tok.enc,hi,hlt,PBi,qaC,q9 hw hn,qaK hw hn,qb,qbd,qau,hi,k1,k2,nm,k3,p]
     | false=>
      cases d:((word ws n).s == [45]) with
      | true=>
       simp only [qfn,sT.1,sC.1,qf,qe,Nat.testBit,reduceCtorEq,Nat.reduceAdd,Nat.reduceSub,Nat.reduceLT,Nat.reduceEqDiff,Nat.reduceLeDiff,Nat.reduceMul,Int.reduceToNat,Nat.reduceShiftRight,Nat.reduceAnd,Nat.reduceBneDiff,Nat.reduceBEq,qae hw hn,Tok.enc,hi,hlt,PBi,qaC,q9 hw hn,qaK hw hn,qb,qbd,qau,hi,k1,k2,nm,k3,p,d]
      | false=>
       cases k0:((word ws n).kind == 0) with
       | true=>
        cases b0:((word ws n).s == [105,102]) with
        | true=>
         simp only [qfn,sT.1,sC.1,qf,qe,Nat.testBit,reduceCtorEq,Nat.reduceAdd,Nat.reduceSub,Nat.reduceLT,Nat.reduceEqDiff,Nat.reduceLeDiff,Nat.reduceMul,Int.reduceToNat,Nat.reduceShiftRight,Nat.reduceAnd,Nat.reduceBneDiff,Nat.reduceBEq,qae hw hn,Tok.enc,hi,hlt,PBi,qaC,q9 hw hn,qaK hw hn,qb,qbd,qau,hi,k1,k2,nm,k3,p,d,k0,b0]
        | false=>
         cases b1:((word ws n).s == [110,111,116]) with
         | true=>
          simp only [qfn,sT.1,sC.1,qf,qe,Nat.testBit,reduceCtorEq,Nat.reduceAdd,Nat.reduceSub,Nat.reduceLT,Nat.reduceEqDiff,Nat.reduceLeDiff,Nat.reduceMul,Int.reduceToNat,Nat.reduceShiftRight,Nat.reduceAnd,Nat.reduceBneDiff,Nat.reduceBEq,qae hw hn,Tok.enc,hi,hlt,PBi,qaC,q9 hw hn,qaK hw hn,qb,qbd,qau,hi,k1,k2,nm,k3,p,d,k0,b0,b1]
         | false=>
          cases b2:((word ws n).s == [116,114,117,101]) with
          | true=>
           simp only [qfn,sT.1,sC.1,qf,qe,Nat.testBit,reduceCtorEq,Nat.reduceAdd,Nat.reduceSub,Nat.reduceLT,Nat.reduceEqDiff,Nat.reduceLeDiff,Nat.reduceMul,Int.reduceToNat,Nat.reduceShiftRight,Nat.reduceAnd,Nat.reduceBneDiff,Nat.reduceBEq,qae hw hn,Tok.enc,hi,hlt,PBi,qaC,q9 hw hn,qaK hw hn,qb,qbd,qau,hi,k1,k2,nm,k3,p,d,k0,b0,b1,b2]
          | false=>
           cases b3:((word ws n).s == [102,97,108,115,101]) with
           | true=>
            simp only [qfn,sT.1,sC.1,qf,qe,Nat.testBit,reduceCtorEq,Nat.reduceAdd,Nat.reduceSub,Nat.reduceLT,Nat.reduceEqDiff,Nat.reduceLeDiff,Nat.reduceMul,Int.reduceToNat,Nat.reduceShiftRight,Nat.reduceAnd,Nat.reduceBneDiff,Nat.reduceBEq,qae hw hn,Tok.enc,hi,hlt,PBi,qaC,q9 hw hn,qaK hw hn,qb,qbd,qau,hi,k1,k2,nm,k3,p,d,k0,b0,b1,b2,b3]
           | false=>
            cases b4:((word ws n).s == [101,108,97,112,115,101,100]) with
            | true=>
             simp only [qfn,sT.1,sC.1,qf,qe,Nat.testBit,reduceCtorEq,Nat.reduceAdd,Nat.reduceSub,Nat.reduceLT,Nat.reduceEqDiff,Nat.reduceLeDiff,Nat.reduceMul,Int.reduceToNat,Nat.reduceShiftRight,Nat.reduceAnd,Nat.reduceBneDiff,Nat.reduceBEq,qae hw hn,Tok.enc,hi,hlt,PBi,qaC,q9 hw hn,qaK hw hn,qb,qbd,qau,hi,k1,k2,nm,k3,p,d,k0,b0,b1,b2,b3,b4]
            | false=>
             cases b5:((word ws n).s == [99,111,117,110,116]) with
             | true=>
              simp only [qfn,sT.1,sC.1,qf,qe,Nat.testBit,reduceCtorEq,Nat.reduceAdd,Nat.reduceSub,Nat.reduceLT,Nat.reduceEqDiff,Nat.reduceLeDiff,Nat.reduceMul,Int.reduceToNat,Nat.reduceShiftRight,Nat.reduceAnd,Nat.reduceBneDiff,Nat.reduceBEq,qae hw hn,Tok.enc,hi,hlt,PBi,qaC,q9 hw hn,qaK hw hn,qb,qbd,qau,hi,k1,k2,nm,k3,p,d,k0,b0,b1,b2,b3,b4,b5]
             | false=>
              cases b6:((word ws n).s == [104,97,115]) with
              | true=>
               simp only [qfn,sT.1,sC.1,qf,qe,Nat.testBit,reduceCtorEq,Nat.reduceAdd,Nat.reduceSub,Nat.reduceLT,Nat.reduceEqDiff,Nat.reduceLeDiff,Nat.reduceMul,Int.reduceToNat,Nat.reduceShiftRight,Nat.reduceAnd,Nat.reduceBneDiff,Nat.reduceBEq,qae hw hn,Tok.enc,hi,hlt,PBi,qaC,q9 hw hn,qaK hw hn,qb,qbd,qau,hi,k1,k2,nm,k3,p,d,k0,b0,b1,b2,b3,b4,b5,b6]
              | false=>
               cases b7:((word ws n).s == [115,117,109]) with
               | true=>
                simp only [qfn,sT.1,sC.1,qf,qe,Nat.testBit,reduceCtorEq,Nat.reduceAdd,Nat.reduceSub,Nat.reduceLT,Nat.reduceEqDiff,Nat.reduceLeDiff,Nat.reduceMul,Int.reduceToNat,Nat.reduceShiftRight,Nat.reduceAnd,Nat.reduceBneDiff,Nat.reduceBEq,qae hw hn,Tok.enc,hi,hlt,PBi,qaC,q9 hw hn,qaK hw hn,qb,qbd,qau,hi,k1,k2,nm,k3,p,d,k0,b0,b1,b2,b3,b4,b5,b6,b7]
               | false=>
                cases b8:((word ws n).s == [108,101,97,115,116]) with
                | true=>
                 simp only [qfn,sT.1,sC.1,qf,qe,Nat.testBit,reduceCtorEq,Nat.reduceAdd,Nat.reduceSub,Nat.reduceLT,Nat.reduceEqDiff,Nat.reduceLeDiff,Nat.reduceMul,Int.reduceToNat,Nat.reduceShiftRight,Nat.reduceAnd,Nat.reduceBneDiff,Nat.reduceBEq,qae hw hn,Tok.enc,hi,hlt,PBi,qaC,q9 hw hn,qaK hw hn,qb,qbd,qau,hi,k1,k2,nm,k3,p,d,k0,b0,b1,b2,b3,b4,b5,b6,b7,b8]
                | false=>
                 simp only [qfn,sT.1,sC.1,qf,qe,Nat.testBit,reduceCtorEq,Nat.reduceAdd,Nat.reduceSub,Nat.reduceLT,Nat.reduceEqDiff,Nat.reduceLeDiff,Nat.reduceMul,Int.reduceToNat,Nat.reduceShiftRight,Nat.reduceAnd,Nat.reduceBneDiff,Nat.reduceBEq,qae hw hn,Tok.enc,hi,hlt,PBi,qaC,q9 hw hn,qaK hw hn,qb,qbd,qau,hi,k1,k2,nm,k3,p,d,k0,b0,b1,b2,b3,b4,b5,b6,b7,b8]
       | false=>
        simp only [qfn,sT.1,sC.1,qf,qe,Nat.testBit,reduceCtorEq,Nat.reduceAdd,Nat.reduceSub,Nat.reduceLT,Nat.reduceEqDiff,Nat.reduceLeDiff,Nat.reduceMul,Int.reduceToNat,Nat.reduceShiftRight,Nat.reduceAnd,Nat.reduceBneDiff,Nat.reduceBEq,qae hw hn,Tok.enc,hi,hlt,PBi,qaC,q9 hw hn,qaK hw hn,qb,qbd,qau,hi,k1,k2,nm,k3,p,d,k0]
    | false=>
     cases k0:((word ws n).kind == 0) with
     | true=>
      cases b0:((word ws n).s == [105,102]) with
      | true=>
       simp only [qfn,sT.1,sC.1,qf,qe,Nat.testBit,reduceCtorEq,Nat.reduceAdd,Nat.reduceSub,Nat.reduceLT,Nat.reduceEqDiff,Nat.reduceLeDiff,Nat.reduceMul,Int.reduceToNat,Nat.reduceShiftRight,Nat.reduceAnd,Nat.reduceBneDiff,Nat.reduceBEq,qae hw hn,Tok.enc,hi,hlt,PBi,qaC,q9 hw hn,qaK hw hn,qb,qbd,qau,hi,k1,k2,nm,k3,k0,b0]
      | false=>
       cases b1:((word ws n).s == [110,111,116]) with
       | true=>
        simp only [qfn,sT.1,sC.1,qf,qe,Nat.testBit,reduceCtorEq,Nat.reduceAdd,Nat.reduceSub,Nat.reduceLT,Nat.reduceEqDiff,Nat.reduceLeDiff,Nat.reduceMul,Int.reduceToNat,Nat.reduceShiftRight,Nat.reduceAnd,Nat.reduceBneDiff,Nat.reduceBEq,qae hw hn,Tok.enc,hi,hlt,PBi,qaC,q9 hw hn,qaK hw hn,qb,qbd,qau,hi,k1,k2,nm,k3,k0,b0,b1]
       | false=>
        cases b2:((word ws n).s == [116,114,117,101]) with
        | true=>
         simp only [qfn,sT.1,sC.1,qf,qe,Nat.testBit,reduceCtorEq,Nat.reduceAdd,Nat.reduceSub,Nat.reduceLT,Nat.reduceEqDiff,Nat.reduceLeDiff,Nat.reduceMul,Int.reduceToNat,Nat.reduceShiftRight,Nat.reduceAnd,Nat.reduceBneDiff,Nat.reduceBEq,qae hw hn,Tok.enc,hi,hlt,PBi,qaC,q9 hw hn,qaK hw hn,qb,qbd,qau,hi,k1,k2,nm,k3,k0,b0,b1,b2]
        | false=>
         cases b3:((word ws n).s == [102,97,108,115,101]) with
         | true=>
          simp only [qfn,sT.1,sC.1,qf,qe,Nat.testBit,reduceCtorEq,Nat.reduceAdd,Nat.reduceSub,Nat.reduceLT,Nat.reduceEqDiff,Nat.reduceLeDiff,Nat.reduceMul,Int.reduceToNat,Nat.reduceShiftRight,Nat.reduceAnd,Nat.reduceBneDiff,Nat.reduceBEq,qae hw hn,Tok.enc,hi,hlt,PBi,qaC,q9 hw hn,qaK hw hn,qb,qbd,qau,hi,k1,k2,nm,k3,k0,b0,b1,b2,b3]
         | false=>
          cases b4:((word ws n).s == [101,108,97,112,115,101,100]) with
          | true=>
           simp only [qfn,sT.1,sC.1,qf,qe,Nat.testBit,reduceCtorEq,Nat.reduceAdd,Nat.reduceSub,Nat.reduceLT,Nat.reduceEqDiff,Nat.reduceLeDiff,Nat.reduceMul,Int.reduceToNat,Nat.reduceShiftRight,Nat.reduceAnd,Nat.reduceBneDiff,Nat.reduceBEq,qae hw hn,Tok.enc,hi,hlt,PBi,qaC,q9 hw hn,qaK hw hn,qb,qbd,qau,hi,k1,k2,nm,k3,k0,b0,b1,b2,b3,b4]
          | false=>
           cases b5:((word ws n).s == [99,111,117,110,116]) with
           | true=>
            simp only [qfn,sT.1,sC.1,qf,qe,Nat.testBit,reduceCtorEq,Nat.reduceAdd,Nat.reduceSub,Nat.reduceLT,Nat.reduceEqDiff,Nat.reduceLeDiff,Nat.reduceMul,Int.reduceToNat,Nat.reduceShiftRight,Nat.reduceAnd,Nat.reduceBneDiff,Nat.reduceBEq,qae hw hn,Tok.enc,hi,hlt,PBi,qaC,q9 hw hn,qaK hw hn,qb,qbd,qau,hi,k1,k2,nm,k3,k0,b0,b1,b2,b3,b4,b5]
           | false=>
            cases b6:((word ws n).s == [104,97,115]) with
            | true=>
             simp only [qfn,sT.1,sC.1,qf,qe,Nat.testBit,reduceCtorEq,Nat.reduceAdd,Nat.reduceSub,Nat.reduceLT,Nat.reduceEqDiff,Nat.reduceLeDiff,Nat.reduceMul,Int.reduceToNat,Nat.reduceShiftRight,Nat.reduceAnd,Nat.reduceBneDiff,Nat.reduceBEq,qae hw hn,Tok.enc,hi,hlt,PBi,qaC,q9 hw hn,qaK hw hn,qb,qbd,qau,hi,k1,k2,nm,k3,k0,b0,b1,b2,b3,b4,b5,b6]
            | false=>
             cases b7:((word ws n).s == [115,117,109]) with
             | true=>
              simp only [qfn,sT.1,sC.1,qf,qe,Nat.testBit,reduceCtorEq,Nat.reduceAdd,Nat.reduceSub,Nat.reduceLT,Nat.reduceEqDiff,Nat.reduceLeDiff,Nat.reduceMul,Int.reduceToNat,Nat.reduceShiftRight,Nat.reduceAnd,Nat.reduceBneDiff,Nat.reduceBEq,qae hw hn,Tok.enc,hi,hlt,PBi,qaC,q9 hw hn,qaK hw hn,qb,qbd,qau,hi,k1,k2,nm,k3,k0,b0,b1,b2,b3,b4,b5,b6,b7]
             | false=>
              cases b8:((word ws n).s == [108,101,97,115,116]) with
              | true=>
               simp only [qfn,sT.1,sC.1,qf,qe,Nat.testBit,reduceCtorEq,Nat.reduceAdd,Nat.reduceSub,Nat.reduceLT,Nat.reduceEqDiff,Nat.reduceLeDiff,Nat.reduceMul,Int.reduceToNat,Nat.reduceShiftRight,Nat.reduceAnd,Nat.reduceBneDiff,Nat.reduceBEq,qae hw hn,Tok.enc,hi,hlt,PBi,qaC,q9 hw hn,qaK hw hn,qb,qbd,qau,hi,k1,k2,nm,k3,k0,b0,b1,b2,b3,b4,b5,b6,b7,b8]
              | false=>
               simp only [qfn,sT.1,sC.1,qf,qe,Nat.testBit,reduceCtorEq,Nat.reduceAdd,Nat.reduceSub,Nat.reduceLT,Nat.reduceEqDiff,Nat.reduceLeDiff,Nat.reduceMul,Int.reduceToNat,Nat.reduceShiftRight,Nat.reduceAnd,Nat.reduceBneDiff,Nat.reduceBEq,qae hw hn,Tok.enc,hi,hlt,PBi,qaC,q9 hw hn,qaK hw hn,qb,qbd,qau,hi,k1,k2,nm,k3,k0,b0,b1,b2,b3,b4,b5,b6,b7,b8]
     | false=>
      simp only [qfn,sT.1,sC.1,qf,qe,Nat.testBit,reduceCtorEq,Nat.reduceAdd,Nat.reduceSub,Nat.reduceLT,Nat.reduceEqDiff,Nat.reduceLeDiff,Nat.reduceMul,Int.reduceToNat,Nat.reduceShiftRight,Nat.reduceAnd,Nat.reduceBneDiff,Nat.reduceBEq,qae hw hn,Tok.enc,hi,hlt,PBi,qaC,q9 hw hn,qaK hw hn,qb,qbd,qau,hi,k1,k2,nm,k3,k0]
theorem qpj (hw:WF ws) (hn:n < ws.length) (hi:h[i]? = some (PB ws n)) (hk:(word ws n).kind = 4):Wd (.fn 67 [] []) [.ptr i 0] h = some (.ret (.tup []),h,false):=by
 have k4:((word ws n).kind == 4) = true:=by simpa using hk
 rw [qm rfl (show T.get 67 = some c67 by kernel_rfl)]
 simp only [c67,sT.1,sC.1,qf,qe,Nat.testBit,reduceCtorEq,Nat.reduceAdd,Nat.reduceSub,Nat.reduceLT,Nat.reduceEqDiff,Nat.reduceLeDiff,Nat.reduceMul,Int.reduceToNat,Nat.reduceShiftRight,Nat.reduceAnd,Nat.reduceBneDiff,Nat.reduceBEq,qae hw hn hi,Tok.enc,k4]
theorem qwJ (hw:WF ws) (hn:n < ws.length) (hi:h[i]? = some (PB ws n)) (hk:(word ws n).kind ≠ 4):Wd (.fn 67 [] []) [.ptr i 0] h = some (.pan (qbo (word ws n).pos 6),h,false):=by
 have k4:((word ws n).kind == 4) = false:=by simpa using hk
 rw [qm rfl (show T.get 67 = some c67 by kernel_rfl)]
 simp only [c67,sT.1,sC.1,qf,qe,Nat.testBit,reduceCtorEq,Nat.reduceAdd,Nat.reduceSub,Nat.reduceLT,Nat.reduceEqDiff,Nat.reduceLeDiff,Nat.reduceMul,Int.reduceToNat,Nat.reduceShiftRight,Nat.reduceAnd,Nat.reduceBneDiff,Nat.reduceBEq,qae hw hn hi,Tok.enc,k4,qaK hw hn hi,qb]
end
end Go.Proofs.YtlognicjhmcgjaaGreatDoor.AE
