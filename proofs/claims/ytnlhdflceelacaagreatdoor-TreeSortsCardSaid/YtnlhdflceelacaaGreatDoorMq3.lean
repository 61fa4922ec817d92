/- A part of the proof: the abstract executor and what goes through it (part 3). No condition. -/
import Derived.Test.YtnlhdflceelacaaGreatDoorMq2
import Derived.Laws.Externs
import Derived.WideKeyArgs
set_option maxRecDepth 100000
namespace Go.AE
def lkp (t:List qa) (i:Nat):qa:=t.getD i .undef
section
variable {base:Nat} {call:Call} {p:qby} {s:St} {t:List qa} {h:List qg}
theorem qFY (t:List qa) (i:Nat):ev t (.t i) = (lkp t i).dim:=rfl
theorem qFX (t:List qa) (v:qa):ev t (.c v) = v.dim:=rfl
theorem qCA (t:List qa) (i:Nat):raw t (.t i) = lkp t i:=rfl
theorem qCz (t:List qa) (v:qa):raw t (.c v) = v:=rfl
def up (t:List qa) (i:Nat) (v:qa):List qa:=t.set i v
theorem qi (t:List qa) (i:Nat) (v:qa):(up t i v).length = t.length:=by simp [up]
theorem qtV {i:Nat} {v:qa} (h:i < t.length):lkp (up t i v) i = v:=by simp [lkp,up,List.getD,h]
theorem qtW {i j:Nat} {v:qa} (h:i ≠ j):lkp (up t i v) j = lkp t j:=by simp [lkp,up,List.getD,List.getElem?_set_ne h]
theorem qnX (a:qa) (t:List qa):lkp (a :: t) 0 = a:=rfl
theorem qnW (a:qa) (t:List qa) (i:Nat):lkp (a :: t) (i + 1) = lkp t i:=rfl
theorem qrq (d:Nat) (v:qa) (t:List qa):put (some d) v t = up t d v:=rfl
theorem qrp (v:qa) (t:List qa):put none v t = t:=rfl
theorem ql7:qa.undef.dim = .undef:=rfl
theorem qpP (b:Bool):(qa.bool b).dim = .bool b:=rfl
theorem qs2 (k:IntKind) (n:Int):(qa.int k n).dim = .int k n:=rfl
theorem qs5 (s:List UInt8):(qa.str s).dim = .str s:=rfl
theorem qjL:qa.nilptr.dim = .nilptr:=rfl
theorem qs4 (i o:Nat):(qa.ptr i o).dim = .ptr i o:=rfl
theorem qpR (cs:List qa) (o:Nat):(qa.iptr cs o).dim = .iptr cs o:=rfl
theorem qvh (xs:List qa):(qa.lst xs .no).dim = .lst xs .no:=rfl
theorem qpQ (xs:List qa):(qa.lst xs .full).dim = .lst xs .full:=rfl
theorem qs3 (xs:List qa) (k:Nat):(qa.lst xs (.own k)).dim = .lst xs .no:=rfl
theorem qh4:qa.nilfunc.dim = .nilfunc:=rfl
theorem qvf (f:FuncId) (a b:List qa):(qa.fn f a b).dim = .fn f a b:=rfl
theorem qs7 (i:Nat):(qa.yld i).dim = .yld i:=rfl
theorem qg1:qa.niliface.dim = .niliface:=rfl
theorem ql6 (t:TypeId) (v:qa):(qa.iface t v).dim = .iface t v:=rfl
theorem qs1 (cs:List qa):(qa.agg cs).dim = .agg cs:=rfl
theorem qs6 (cs:List qa):(qa.tup cs).dim = .tup cs:=rfl
def qfl (dst:Option Nat) (s:St):Option qa→Option (Ex×St)
 | some v=>some (.nor,{ s with t:=put dst v s.t})
 | none=>none
theorem qoJ (dst:Option Nat) (t:List qa) (h:List qg) (e:Bool) (v:qa):qfl dst ⟨t,h,e⟩ (some v) = some (.nor,⟨put dst v t,h,e⟩):=rfl
theorem qfj (f:St→Option (Ex×St)) (s:St):qbz f (some (.nor,s)) = f s:=rfl
theorem qph (f:St→Option (Ex×St)) (s:St):qbz f (some (.ret,s)) = some (.ret,s):=rfl
theorem qlc (f:St→Option (Ex×St)) (id:Nat) (s:St):qbz f (some (.exit id,s)) = some (.exit id,s):=rfl
theorem qpg (f:St→Option (Ex×St)) (v:qa) (s:St):qbz f (some (.pan v,s)) = some (.pan v,s):=rfl
theorem qjD (id:Nat) (s:St):qeA id (some (.nor,s)) = some (.nor,s):=rfl
theorem qjF (id:Nat) (s:St):qeA id (some (.ret,s)) = some (.ret,s):=rfl
theorem qjE (id:Nat) (v:qa) (s:St):qeA id (some (.pan v,s)) = some (.pan v,s):=rfl
theorem qhU (id j:Nat) (s:St):qeA id (some (.exit j,s)) = if j = id then some (.nor,s) else some (.exit j,s):=rfl
def qsS (v:qa) (a b:Option (Ex×St)):Option (Ex×St):=
 match v with
 | .bool true=>a
 | .bool false=>b
 | _=>none
theorem qqm (q:ql) (a b:qj) (s:St):qy base call (.cond q a b) s = qsS (ev s.t q) (qy base call a s) (qy base call b s):=qjU q a b s
def qjb (v:qa) (b:Bool) (yes no:Option (Ex×St)):Option (Ex×St):=
 match v with
 | .bool c=>if c == b then yes else no
 | .tup []=>no
 | _=>none
theorem qt6:q9 base call p [] s = some (.nor,s):=rfl
theorem qjl (d:Option Nat) (o:AOp) (os:List qU):q9 base call p (⟨d,o,none⟩ :: os) s = qbz (q9 base call (qZ p ⟨d,o,none⟩) os) (qq base call p d o s):=by
 simp only [q9,wanted]
 unfold qbz
 split <;> split <;> simp_all
theorem qhy (d:Option Nat) (o:AOp) (j:Nat) (b:Bool) (os:List qU) :
  q9 base call p (⟨d,o,some (j,b)⟩ :: os) s = qjb (lkp s.t j) b (qbz (q9 base call (qZ p ⟨d,o,some (j,b)⟩) os) (qq base call p d o s))
   (q9 base call (qZ p { dst:=d,op:=.pick (.c .undef) (.c .undef) (.c .undef),guard:=some (j,b)}) os { s with t:=put d (.tup []) s.t}):=by
 simp only [q9,wanted,lkp]
 generalize s.t.getD j .undef = v
 cases v with
 | bool c=>
  simp only [qjb]
  cases hc:c == b with
  | false=>simp
  | true=>
   simp only [if_true]
   unfold qbz
   split <;> split <;> simp_all
 | tup vs=>cases vs <;> rfl
 | _=>rfl
theorem qxp (d:Option Nat) (x:ql):qq base call p d (.mov x) s = some (.nor,{ s with t:=put d (ev s.t x) s.t}):=rfl
theorem qxj (d:Option Nat) (x:ql):qq base call p d (.asg x) s = some (.nor,{ s with t:=put d (raw s.t x) (qI s.t x)}):=rfl
def qbl (v a b:qa):Option qa:=
 match v with
 | .bool true=>some a
 | .bool false=>some b
 | _=>none
theorem qkQ (a b:qa):qbl (.bool true) a b = some a:=rfl
theorem qiF (a b:qa):qbl (.bool false) a b = some b:=rfl
theorem qoe (d:Option Nat) (c a b:ql):qq base call p d (.pick c a b) s = qfl d s (qbl (ev s.t c) (ev s.t a) (ev s.t b)):=by
 simp only [qq,pureV]
 generalize ev s.t c = v
 cases v with
 | bool b=>cases b <;> rfl
 | _=>rfl
theorem qao (d:Option Nat) (o:AOp) (ho:o.effs = false) (h1:∀cs,o ≠ .new cs) (h2:∀k x,o ≠ .box k x) (h3:∀k x,o ≠ .ld k x) (h4:∀sh z ok m key,o ≠ .lk sh z ok m key:=by simp):qq base call p d o s = qfl d s (pureV s.t o):=by
 cases o <;> first | exact absurd rfl (h4 _ _ _ _ _) | (simp [AOp.effs] at ho h1 h2 h3 <;> (simp only [qq];cases pureV s.t _ <;> rfl))
def faV (off:Nat):qa→Option qa
 | .ptr i o=>some (.ptr i (o + off))
 | .iptr cs o=>some (.iptr cs (o + off))
 | _=>none
theorem qtk (off i o:Nat):faV off (.ptr i o) = some (.ptr i (o + off)):=rfl
theorem qqq (off o:Nat) (cs:List qa):faV off (.iptr cs o) = some (.iptr cs (o + off)):=rfl
theorem qxl (d:Option Nat) (off:Nat) (a:ql):qq base call p d (.fa off a) s = qfl d s (faV off (ev s.t a)):=by
 rw [qao _ _ rfl (by simp) (by simp) (by simp)]
 simp only [pureV]
 cases ev s.t a <;> rfl
theorem qr3 (d:Option Nat) (op:BinOp) (x y:ql):qq base call p d (.bin op x y) s = qfl d s (qbg op (ev s.t x) (ev s.t y)):=qao _ _ rfl (by simp) (by simp) (by simp)
theorem qxs (d:Option Nat) (op:UnOp) (x:ql):qq base call p d (.un op x) s = qfl d s (unV op (ev s.t x)):=qao _ _ rfl (by simp) (by simp) (by simp)
def qfw:qa→Option qa
 | .ptr i o=>some (.ptr i o)
 | .iptr cs o=>some (.iptr cs o)
 | .fn f a b=>some (.fn f a b)
 | .yld l=>some (.yld l)
 | .iface u v=>some (.iface u v)
 | _=>none
theorem qod (d:Option Nat) (x:ql):qq base call p d (.nilc x) s = qfl d s (qfw (ev s.t x)):=by
 rw [qao _ _ rfl (by simp) (by simp) (by simp)]
 simp only [pureV]
 cases ev s.t x <;> rfl
theorem qn9 (i o:Nat):qfw (.ptr i o) = some (.ptr i o):=rfl
theorem qkK (cs:List qa) (o:Nat):qfw (.iptr cs o) = some (.iptr cs o):=rfl
def qis (b:Bool) (v:qa):Option qa:=
 match b,v with
 | true,.str s=>some (.int .i64 s.length)
 | false,.lst xs _=>some (.int .i64 xs.length)
 | false,.sl _ _ len _ _=>some (.int .i64 len)
 | false,.nils=>some (.int .i64 0)
 | false,.empt=>some (.int .i64 0)
 | _,_=>none
theorem qsb (d:Option Nat) (b:Bool) (x:ql):qq base call p d (.len b x) s = qfl d s (qis b (ev s.t x)):=by
 rw [qao _ _ rfl (by simp) (by simp) (by simp)]
 cases b <;> simp only [pureV] <;> cases ev s.t x <;> rfl
theorem qq0 (s:List UInt8):qis true (.str s) = some (.int .i64 s.length):=rfl
theorem qqZ (xs:List qa) (f:qf4):qis false (.lst xs f) = some (.int .i64 xs.length):=rfl
def qbr (k:Nat) (s i:qa):Option qa:=
 match s,i with
 | .lst xs _,.int _ n=>
  if 0 ≤ n∧n < xs.length then
   match xs[n.toNat]? with
   | some x=>if x.cells.length = k then some (.iptr x.cells 0) else none
   | none=>none
  else none
 | .sl id o len _ _,.int _ n=>if 0 ≤ n∧n < len then some (.ptr id (o + n.toNat * k)) else none
 | _,_=>none
theorem qoc (d:Option Nat) (k:Nat) (x i:ql):qq base call p d (.ixaL k x i) s = qfl d s (qbr k (ev s.t x) (ev s.t i)):=by
 rw [qao _ _ rfl (by simp) (by simp) (by simp)]
 simp only [pureV]
 cases ev s.t x <;> cases ev s.t i <;> rfl
theorem qbi {k:Nat} {xs:List qa} {f:qf4} {j:IntKind} {n:Nat} {x:qa} (hx:xs[n]? = some x) (hk:x.cells.length = k):qbr k (.lst xs f) (.int j n) = some (.iptr x.cells 0):=by
 have hn:n < xs.length:=(List.getElem?_eq_some_iff.1 hx).1
 simp only [qbr,Int.toNat_natCast,hx]
 rw [if_pos ⟨by omega,by omega⟩,if_pos hk]
def qqs (off:Nat) (k:Option Nat):qa→Option qa
 | .agg cs=>cut cs off k
 | _=>none
theorem qqt (off:Nat) (k:Option Nat) (cs:List qa):qqs off k (.agg cs) = cut cs off k:=rfl
theorem qr8 (d:Option Nat) (off:Nat) (k:Option Nat) (x:ql):qq base call p d (.fld off k x) s = qfl d s (qqs off k (ev s.t x)):=by
 rw [qao _ _ rfl (by simp) (by simp) (by simp)]
 simp only [pureV]
 cases ev s.t x <;> rfl
theorem qrd (d:Option Nat) (z:List qa) (ps:List (Nat×Nat×ql)):qq base call p d (.build z ps) s = qfl d s ((qaY z (ps.map fun (o,n,x)=>(o,n,ev s.t x))).map .agg):=qao _ _ rfl (by simp) (by simp) (by simp)
theorem qxq (d:Option Nat) (cs:List qa):qq base call p d (.new cs) s = some (.nor,{ s with t:=put d (.ptr s.h.length 0) s.t,h:=s.h ++ [.cells (cs.map qa.dim)]}):=rfl
theorem qxm (d:Option Nat) (k:Option Nat) (a:ql):qq base call p d (.ld k a) s = qfl d s (qb8 s.h (ev s.t a) k):=by
 simp only [qq]
 cases qb8 s.h (ev s.t a) k <;> rfl
theorem qnv (cs:List qa) (o:Nat) (k:Option Nat):qb8 h (.iptr cs o) k = cut cs o k:=rfl
theorem qpJ (cs:List qa) (o:Nat):cut cs o none = (cs[o]?).map qa.dim:=rfl
theorem qgd {cs:List qa} {o k:Nat} (h:o + k ≤ cs.length):cut cs o (some k) = some (.agg (((cs.drop o).take k).map qa.dim)):=if_pos h
def stV (base:Nat) (k:Option Nat) (a v:qa) (h:List qg):Option (List qg×Bool):=
 match a with
 | .ptr id o=>
  match h[id]? with
  | some (.cells cs)=>
   let vs:=match k with | none=>[v] | some _=>v.dim.cells.map qa.dim
   if vs.length = k.getD 1∧o + vs.length ≤ cs.length∧vs.all qa.storable then
    some (h.set id (.cells (splice cs o vs)),!(Nat.ble base id || qz (id + 1) vs))
   else none
  | _=>none
 | _=>none
def stW (d:Option Nat) (t:List qa) (e:Bool):Option (List qg×Bool)→Option (Ex×St)
 | some (h,e')=>some (.nor,{ t:=put d .undef t,h,e:=e || e'})
 | none=>none
theorem qrA (d:Option Nat) (t:List qa) (e e':Bool) (h:List qg):stW d t e (some (h,e')) = some (.nor,⟨put d .undef t,h,e || e'⟩):=rfl
theorem qCw (d:Option Nat) (k:Option Nat) (a x:ql):qq base call p d (.st k a x) s = stW d (qI s.t x) s.e (stV base k (ev s.t a) (raw s.t x) s.h):=by
 simp only [qq,stV]
 cases ev s.t a with
 | ptr id o=>
  simp only
  cases s.h[id]? with
  | none=>rfl
  | some b=>
   cases b with
   | cells cs=>cases k <;> (simp only;split <;> rfl)
   | _=>rfl
 | _=>rfl
end
section
variable {base:Nat} {call:Call} {p:qby} {s:St} {t:List qa} {h:List qg}
def qsO (d:Option Nat) (s:St):Option (qaL×List qg×Bool)→Option (Ex×St)
 | some (.ret v,h,e)=>some (.nor,{ t:=put d v.dim s.t,h,e:=s.e || e})
 | some (.pan v,h,e)=>some (.pan v,{ s with h,e:=s.e || e})
 | none=>none
theorem qt4 (d:Option Nat) (f:ql) (args:List ql):qq base call p d (.call f args) s = qsO d s (call (ev s.t f) (args.map (ev s.t)) s.h):=by
 simp only [qq]
 cases call (ev s.t f) (args.map (ev s.t)) s.h with
 | none=>rfl
 | some r=>obtain ⟨r,h,e⟩:=r;cases r <;> rfl
theorem qlC (d:Option Nat) (t:List qa) (h h':List qg) (e e':Bool) (v:qa):qsO d ⟨t,h,e⟩ (some (.ret v,h',e')) = some (.nor,⟨put d v.dim t,h',e || e'⟩):=rfl
theorem qlB (d:Option Nat) (t:List qa) (h h':List qg) (e e':Bool) (v:qa):qsO d ⟨t,h,e⟩ (some (.pan v,h',e')) = some (.pan v,⟨t,h',e || e'⟩):=rfl
theorem qhd (h l:List qg):(h ++ l)[h.length]? = l[0]?:=by rw [List.getElem?_append_right (Nat.le_refl _),Nat.sub_self]
theorem qbh (h l:List qg) (k:Nat):(h ++ l)[h.length + k]? = l[k]?:=by rw [List.getElem?_append_right (by omega),Nat.add_sub_cancel_left]
theorem qsf (h l:List qg) (b:qg):(h ++ l).set h.length b = h ++ l.set 0 b:=by rw [List.set_append_right _ _ (Nat.le_refl _),Nat.sub_self]
theorem qjt (h l:List qg) (k:Nat) (b:qg):(h ++ l).set (h.length + k) b = h ++ l.set k b:=by rw [List.set_append_right _ _ (by omega),Nat.add_sub_cancel_left]
theorem qtu {h l:List qg} {i:Nat} (hi:i < h.length):(h ++ l)[i]? = h[i]?:=List.getElem?_append_left hi
theorem qun {h l:List qg} {i:Nat} {b:qg} (hi:i < h.length):(h ++ l).set i b = h.set i b ++ l:=List.set_append_left _ _ hi
theorem qnC {n:Nat} {h l:List qg} {v:qa} (hl:h.length = n) (hv:v.lower n = true):q6 n (.ret v) (h ++ l) false = (.ret v,h,false):=by subst hl;simp [q6,hv]
theorem qkx {n:Nat} {h:List qg} {v:qa} (hl:h.length = n) (hv:v.lower n = true):q6 n (.ret v) h false = (.ret v,h,false):=by subst hl;simp [q6,hv]
theorem qnB {n:Nat} {h l:List qg} {v:qa} (hl:h.length = n) (hv:v.lower n = true):q6 n (.pan v) (h ++ l) false = (.pan v,h,false):=by subst hl;simp [q6,hv]
theorem qkw {n:Nat} {h:List qg} {v:qa} (hl:h.length = n) (hv:v.lower n = true):q6 n (.pan v) h false = (.pan v,h,false):=by subst hl;simp [q6,hv]
theorem qcA {n:Nat} {H h:List qg} {v:qa} (hc:H.take n = h) (hv:v.lower n = true):q6 n (.ret v) H false = (.ret v,h,false):=by simp [q6,hv,hc]
theorem qaj (h:List qg) (i:Nat) (a b:qg):(h.set i a).set i b = h.set i b:=List.set_set ..
theorem qtt {h l:List qg} {n:Nat} (hl:h.length = n):(h ++ l)[n]? = l[0]?:=by subst hl;exact qhd h l
theorem qum {h l:List qg} {n:Nat} {b:qg} (hl:h.length = n):(h ++ l).set n b = h ++ l.set 0 b:=by subst hl;exact qsf h l b
theorem qmE {h l:List qg} {n k:Nat} (hl:h.length = n):(h ++ l)[n + k]? = l[k]?:=by subst hl;exact qbh h l k
theorem qoX {h l:List qg} {n k:Nat} {b:qg} (hl:h.length = n):(h ++ l).set (n + k) b = h ++ l.set k b:=by subst hl;exact qjt h l k b
theorem qj3 {h:List qg} {i j:Nat} {b:qg} (hij:i ≠ j):(h.set i b)[j]? = h[j]?:=List.getElem?_set_ne hij
theorem qtv {h:List qg} {i:Nat} {b:qg} (hi:i < h.length):(h.set i b)[i]? = some b:=List.getElem?_set_self hi
end
section
variable {base:Nat} {call:Call} {p:qby} {s:St}
def qCP (d:Option Nat) (s:St) (k:Nat) (vs:List qa):Option (Ex×St):=
 if vs.length = k∧vs.all qa.storable then some (.nor,{ s with t:=put d (.ptr s.h.length 0) s.t,h:=s.h ++ [.cells vs]}) else none
theorem qxk (d:Option Nat) (k:Nat) (x:ql):qq base call p d (.box k x) s = qCP d s k ((ev s.t x).cells.map qa.dim):=rfl
theorem qsN (d:Option Nat) (t:List qa) (h:List qg) (e:Bool) (k:Nat) (vs:List qa):qCP d ⟨t,h,e⟩ k vs = if vs.length = k∧vs.all qa.storable then some (.nor,⟨put d (.ptr h.length 0) t,h ++ [.cells vs],e⟩) else none:=rfl
def qpn (ty:TypeId) (v:qa):Option qa:=
 match v with
 | .undef=>none
 | v=>some (.iface ty v)
theorem qsc (d:Option Nat) (ty:TypeId) (x:ql):qq base call p d (.mkI ty x) s = qfl d s (qpn ty (ev s.t x)):=by
 rw [qao _ _ rfl (by simp) (by simp) (by simp)]
 simp only [pureV]
 cases ev s.t x <;> rfl
theorem qq9 (ty:TypeId) (cs:List qa):qpn ty (.agg cs) = some (.iface ty (.agg cs)):=rfl
theorem qra (ty:TypeId) (k:IntKind) (n:Int):qpn ty (.int k n) = some (.iface ty (.int k n)):=rfl
theorem qxn (d:Option Nat) (f:FuncId) (a b:List ql):qq base call p d (.mkF f a b) s = some (.nor,{ s with t:=put d (.fn f (a.map (ev s.t)) (b.map (ev s.t))) s.t}):=rfl
def qgJ (s i:qa):Option qa:=
 match s,i with
 | .str l,.int _ n=>if 0 ≤ n then (l[n.toNat]?).map fun b=>.int .u8 b.toNat else none
 | _,_=>none
theorem qsa (d:Option Nat) (x i:ql):qq base call p d (.ixS x i) s = qfl d s (qgJ (ev s.t x) (ev s.t i)):=by
 rw [qao _ _ rfl (by simp) (by simp) (by simp)]
 simp only [pureV]
 cases ev s.t x <;> cases ev s.t i <;> rfl
theorem qjd {l:List UInt8} {k:IntKind} {n:Nat} {b:UInt8} (h:l[n]? = some b):qgJ (.str l) (.int k n) = some (.int .u8 b.toNat):=by
 simp only [qgJ,Int.toNat_natCast,h,Option.map_some]
 rw [if_pos (Int.natCast_nonneg n)]
def qqo (i:Nat) (v:qa):Option qa:=
 match v with
 | .tup vs=>(vs[i]?).map qa.dim
 | _=>none
theorem qr7 (d:Option Nat) (x:ql) (i:Nat):qq base call p d (.ext x i) s = qfl d s (qqo i (ev s.t x)):=by
 rw [qao _ _ rfl (by simp) (by simp) (by simp)]
 simp only [pureV]
 cases ev s.t x <;> rfl
theorem qqp (i:Nat) (vs:List qa):qqo i (.tup vs) = (vs[i]?).map qa.dim:=rfl
def qia (neg:Bool) (x y:qa):Option qa:=
 match x,y with
 | .bool a,.bool b=>some (.bool ((a == b) != neg))
 | _,_=>none
theorem qr5 (d:Option Nat) (neg:Bool) (x y:ql):qq base call p d (.eqb neg x y) s = qfl d s (qia neg (ev s.t x) (ev s.t y)):=by
 rw [qao _ _ rfl (by simp) (by simp) (by simp)]
 simp only [pureV]
 cases ev s.t x <;> cases ev s.t y <;> rfl
theorem qms (neg a b:Bool):qia neg (.bool a) (.bool b) = some (.bool ((a == b) != neg)):=rfl
def qi7 (k:Nat) (neg:Bool) (x y:qa):Option qa:=(quT k x y).map fun b=>.bool (b != neg)
theorem qr6 (d:Option Nat) (k:Nat) (neg:Bool) (x y:ql):qq base call p d (.eqi k neg x y) s = qfl d s (qi7 k neg (ev s.t x) (ev s.t y)):=qao _ _ rfl (by simp) (by simp) (by simp)
def qpK (k:IntKind) (v:qa):Option qa:=
 match v with
 | .int _ n=>some (.int k (k.wrap n))
 | _=>none
theorem qr4 (d:Option Nat) (k:IntKind) (x:ql):qq base call p d (.cvi k x) s = qfl d s (qpK k (ev s.t x)):=by
 rw [qao _ _ rfl (by simp) (by simp) (by simp)]
 simp only [pureV]
 cases ev s.t x <;> rfl
theorem qpL (k j:IntKind) (n:Int):qpK k (.int j n) = some (.int k (k.wrap n)):=rfl
def mmV (isMax:Bool) (x y:qa):Option qa:=
 match x,y with
 | .int k a,.int _ b=>some (.int k (if isMax then (if b > a then b else a) else (if b < a then b else a)))
 | _,_=>none
theorem qxo (d:Option Nat) (m:Bool) (x y:ql):qq base call p d (.mm m x y) s = qfl d s (mmV m (ev s.t x) (ev s.t y)):=by
 rw [qao _ _ rfl (by simp) (by simp) (by simp)]
 simp only [pureV]
 cases ev s.t x <;> cases ev s.t y <;> rfl
theorem qxf (k j:IntKind) (a b:Nat):mmV true (.int k (a:Int)) (.int j (b:Int)) = some (.int k ((max a b:Nat):Int)):=by
 simp only [mmV,if_true]
 congr 2
 split <;> omega
theorem qtZ (k j:IntKind) (a b:Int):mmV false (.int k a) (.int j b) = some (.int k (if b < a then b else a)):=rfl
def qFQ (s:St) (v:qa):Option (Ex×St):=
 match v with
 | .iface u v=>some (.pan (.iface u v),s)
 | _=>none
theorem qxr (d:Option Nat) (x:ql):qq base call p d (.pan x) s = qFQ s (ev s.t x):=by
 simp only [qq]
 cases ev s.t x <;> rfl
theorem qkP (s:St) (u:TypeId) (v:qa):qFQ s (.iface u v) = some (.pan (.iface u v),s):=rfl
end
section
variable {base:Nat} {call:Call} {p:qby} {s:St}
def qjc (len:Nat) (k:Option Nat) (a i:qa):Option qa:=
 match a,i with
 | .agg cs,.int _ n=>if 0 ≤ n∧n < (len:Int) then cut cs (n.toNat * k.getD 1) k else none
 | _,_=>none
theorem qr9 (d:Option Nat) (len:Nat) (k:Option Nat) (a i:ql):qq base call p d (.ixA len k a i) s = qfl d s (qjc len k (ev s.t a) (ev s.t i)):=by
 rw [qao _ _ rfl (by simp) (by simp) (by simp)]
 simp only [pureV]
 cases ev s.t a <;> cases ev s.t i <;> rfl
end
section
variable {base:Nat} {call:Call} {p q:qby} {s:St} {t:List qa} {h:List qg}
def AOp.isApp:AOp→Bool
 | .app ..=>true
 | _=>false
def qd:List qU→Bool
 | []=>true
 | o :: os=>!o.op.isApp && qd os
def qc (s:St):AOp→Option qa
 | .mov x=>some (ev s.t x)
 | .pick c a b=>qbl (ev s.t c) (ev s.t a) (ev s.t b)
 | .ld k a=>qb8 s.h (ev s.t a) k
 | .bin op x y=>qbg op (ev s.t x) (ev s.t y)
 | .un op x=>unV op (ev s.t x)
 | .fa off a=>faV off (ev s.t a)
 | .nilc x=>qfw (ev s.t x)
 | .len b x=>qis b (ev s.t x)
 | .ixaL k x i=>qbr k (ev s.t x) (ev s.t i)
 | .fld off k x=>qqs off k (ev s.t x)
 | .ixS x i=>qgJ (ev s.t x) (ev s.t i)
 | .ixA l k a i=>qjc l k (ev s.t a) (ev s.t i)
 | .ext x i=>qqo i (ev s.t x)
 | .eqb n x y=>qia n (ev s.t x) (ev s.t y)
 | .eqi k n x y=>qi7 k n (ev s.t x) (ev s.t y)
 | .cvi k x=>qpK k (ev s.t x)
 | .mm m x y=>mmV m (ev s.t x) (ev s.t y)
 | .mkI t x=>qpn t (ev s.t x)
 | .lk sh z ok m key=>qhO s.h sh z ok (ev s.t m) (ev s.t key)
 | o=>pureV s.t o
def AOp.plain:AOp→Bool
 | .asg .. | .new .. | .box .. | .st .. | .call .. | .app .. | .pan .. | .hx ..=>false
 | _=>true
theorem qfb {d:Option Nat} {o:AOp} (ho:o.plain = true):qq base call p d o s = qfl d s (qc s o):=by
 cases o <;> simp only [AOp.plain,Bool.false_eq_true] at ho
 case mov=>rfl
 case pick=>exact qoe _ _ _ _
 case ld=>exact qxm _ _ _
 case bin=>exact qr3 _ _ _ _
 case un=>exact qxs _ _ _
 case fa=>exact qxl _ _ _
 case nilc=>exact qod _ _
 case len=>exact qsb _ _ _
 case ixaL=>exact qoc _ _ _ _
 case fld=>exact qr8 _ _ _ _
 case ixS=>exact qsa _ _ _
 case ixA=>exact qr9 _ _ _ _ _
 case ext=>exact qr7 _ _ _
 case eqb=>exact qr5 _ _ _ _
 case eqi=>exact qr6 _ _ _ _ _
 case cvi=>exact qr4 _ _ _
 case mm=>exact qxo _ _ _ _
 case mkI=>exact qsc _ _ _
 case lk sh z ok m key=>simp only [qq,qc];generalize qhO s.h sh z ok (ev s.t m) (ev s.t key) = r;cases r <;> rfl
 all_goals (simp only [qq,qc];generalize pureV s.t _ = r;cases r <;> rfl)
theorem qfU {d:Option Nat} {o:AOp} (ho:o.isApp = false):qq base call p d o s = qq base call q d o s:=by
 cases o <;> first | rfl | (simp [AOp.isApp] at ho)
def gv (q:Bool) (v:qa):qa:=bif q then v else .tup []
def qm (q:Bool) (d:Option Nat) (s:St) (r:Option qa) (k:St→Option (Ex×St)):Option (Ex×St):=
 bif q then (match r with | some v=>k { s with t:=put d v s.t} | none=>none) else k { s with t:=put d (.tup []) s.t}
def qV (c:Bool) (r:Option qa):Option qa:=bif c then r else some (.tup [])
def qdI (g:qa) (b:Bool) (d:Option Nat) (s:St) (r:Option qa) (k:St→Option (Ex×St)):Option (Ex×St):=
 match g with
 | .bool c=>qm (c == b) d s r k
 | .tup []=>qm false d s r k
 | _=>none
def qdH (g:qa) (b:Bool) (d:Option Nat) (s:St) (r:Option (Ex×St)) (k:St→Option (Ex×St)):Option (Ex×St):=
 match g with
 | .bool c=>bif c == b then qbz k r else k { s with t:=put d (.tup []) s.t}
 | .tup []=>k { s with t:=put d (.tup []) s.t}
 | _=>none
def qfm (base:Nat) (call:Call):List qU→St→Option (Ex×St)
 | [],s=>some (.nor,s)
 | o :: os,s=>
  match o.guard with
  | none=>qbz (qfm base call os) (qq base call [] o.dst o.op s)
  | some (j,b)=>
   match o.op.plain with
   | true=>qdI (lkp s.t j) b o.dst s (qc s o.op) (qfm base call os)
   | false=>qdH (lkp s.t j) b o.dst s (qq base call [] o.dst o.op s) (qfm base call os)
theorem qjs:∀(os:List qU) (p:qby) (s:St),qd os = true→q9 base call p os s = qfm base call os s
 | [],p,s,_=>rfl
 | o :: os,p,s,hn=>by
  simp only [qd,Bool.and_eq_true,Bool.not_eq_true'] at hn
  obtain ⟨d,op,g⟩:=o
  have ih:=fun p s=>qjs os p s hn.2
  cases g with
  | none=>
   simp only [qjl,qfm]
   rw [qfU (q:=[]) hn.1]
   congr 1
   funext s
   exact ih _ s
  | some jb=>
   obtain ⟨j,b⟩:=jb
   simp only [qhy,qfm]
   have e1:(q9 base call (qZ p ⟨d,op,some (j,b)⟩) os) = qfm base call os:=funext fun s=>ih _ s
   rw [e1,ih,qfU (q:=[]) hn.1]
   cases hpl:op.plain with
   | true=>
    simp only
    rw [qfb hpl]
    generalize qc s op = r
    generalize lkp s.t j = g
    cases g with
    | bool c=>
     simp only [qjb,qdI,qm]
     cases c == b with
     | true=>cases r <;> rfl
     | false=>rfl
    | tup vs=>cases vs <;> rfl
    | _=>rfl
   | false=>
    simp only
    generalize lkp s.t j = g
    cases g with
    | bool c=>
     simp only [qjb,qdH]
     cases c == b <;> rfl
    | tup vs=>cases vs <;> rfl
    | _=>rfl
theorem qCF {ops:List qU} (hn:qd ops = true):qy base call (.reg ops) s = qfm base call ops s:=by
 rw [qg8,qjs ops [] s hn]
theorem qud {ops:List qU} (_hn:qd ops = false):qy base call (.reg ops) s = q9 base call [] ops s:=qg8 ops s
theorem qCy:qfm base call [] s = some (.nor,s):=rfl
theorem qxw (d:Option Nat) (o:AOp) (os:List qU):qfm base call (⟨d,o,none⟩ :: os) s = qbz (qfm base call os) (qq base call [] d o s):=rfl
theorem qub (d:Option Nat) (o:AOp) (j:Nat) (b:Bool) (os:List qU) (ho:o.plain = true):qfm base call (⟨d,o,some (j,b)⟩ :: os) s = qdI (lkp s.t j) b d s (qc s o) (qfm base call os):=by
 simp only [qfm,ho]
theorem qua (d:Option Nat) (o:AOp) (j:Nat) (b:Bool) (os:List qU) (ho:o.plain = false):qfm base call (⟨d,o,some (j,b)⟩ :: os) s = qdH (lkp s.t j) b d s (qq base call [] d o s) (qfm base call os):=by
 simp only [qfm,ho]
theorem qmR (q c b:Bool) (d:Option Nat) (s:St) (r:Option qa) (k:St→Option (Ex×St)):qdI (gv q (.bool c)) b d s r k = qm q d s (qV (c == b) r) k:=by
 cases q <;> cases c <;> cases b <;> rfl
theorem qkh (q x c b:Bool) (d:Option Nat) (s:St) (r:Option qa) (k:St→Option (Ex×St)):qdI (gv q (gv x (.bool c))) b d s r k = qm q d s (qV x (qV (c == b) r)) k:=by
 cases q <;> cases x <;> cases c <;> cases b <;> rfl
theorem qdj (d:Option Nat) (t:List qa) (h:List qg) (e:Bool) (v:qa) (k:St→Option (Ex×St)):qm true d ⟨t,h,e⟩ (some v) k = k ⟨put d v t,h,e⟩:=rfl
theorem qin (q:Bool) (d:Nat) (t:List qa) (h:List qg) (e:Bool) (v:qa) (k:St→Option (Ex×St)):qm q (some d) ⟨t,h,e⟩ (some v) k = k ⟨up t d (gv q v),h,e⟩:=by
 cases q <;> rfl
theorem qmC (c:Bool) (v:qa):qV c (some v) = some (gv c v):=by cases c <;> rfl
theorem qkf (b:Bool) (d:Option Nat) (s:St) (r:Option (Ex×St)) (k:St→Option (Ex×St)):qdH (.bool b) b d s r k = qbz k r:=by cases b <;> rfl
theorem qym (q:Bool) (v:qa):gv q (gv q v) = gv q v:=by cases q <;> rfl
theorem qvg (q:Bool) (v:qa):(gv q v).dim = gv q v.dim:=by cases q <;> rfl
theorem qrh (c x:Bool):qbl (.bool c) (gv c (.bool x)) (.bool false) = some (.bool (c && x)):=by cases c <;> rfl
theorem qt7 (c x:Bool):qbl (.bool c) (.bool true) (gv (!c) (.bool x)) = some (.bool (c || x)):=by cases c <;> rfl
theorem qtP (b:Bool):(b == true) = b:=by cases b <;> rfl
theorem qqT (b:Bool):(b == false) = !b:=by cases b <;> rfl
end
section
variable {s:St} {d:Option Nat} {k:St→Option (Ex×St)}
theorem qtJ (q:Bool) (v:qa) :qm q d s (some (gv q v)) k = qm q d s (some v) k:=by cases q <;> rfl
theorem qsz (c:Bool) (v:qa) :qV c (some (gv c v)) = qV c (some v):=by cases c <;> rfl
theorem qm3 (q c:Bool) (v:qa) :qm q d s (qV c (some (gv q v))) k = qm q d s (qV c (some v)) k:=by cases q <;> rfl
theorem qyy (q:Bool) (v:qa) (h':List qg) (kk:Option Nat):qm q d s (qb8 h' (gv q v) kk) k = qm q d s (qb8 h' v kk) k:=by cases q <;> rfl
theorem qya (c:Bool) (v:qa) (h':List qg) (kk:Option Nat):qV c (qb8 h' (gv c v) kk) = qV c (qb8 h' v kk):=by cases c <;> rfl
theorem qtL (q c:Bool) (v:qa) (h':List qg) (kk:Option Nat):qm q d s (qV c (qb8 h' (gv q v) kk)) k = qm q d s (qV c (qb8 h' v kk)) k:=by cases q <;> rfl
theorem qyx (q:Bool) (v:qa) (o:Nat):qm q d s (faV o (gv q v)) k = qm q d s (faV o v) k:=by cases q <;> rfl
theorem qx9 (c:Bool) (v:qa) (o:Nat):qV c (faV o (gv c v)) = qV c (faV o v):=by cases c <;> rfl
theorem qtK (q c:Bool) (v:qa) (o:Nat):qm q d s (qV c (faV o (gv q v))) k = qm q d s (qV c (faV o v)) k:=by cases q <;> rfl
theorem qvC (q:Bool) (v:qa) (b:Bool):qm q d s (qis b (gv q v)) k = qm q d s (qis b v) k:=by cases q <;> rfl
theorem qu7 (c:Bool) (v:qa) (b:Bool):qV c (qis b (gv c v)) = qV c (qis b v):=by cases c <;> rfl
theorem qqK (q c:Bool) (v:qa) (b:Bool):qm q d s (qV c (qis b (gv q v))) k = qm q d s (qV c (qis b v)) k:=by cases q <;> rfl
theorem qvy (q:Bool) (v:qa) (o:Nat) (kk:Option Nat):qm q d s (qqs o kk (gv q v)) k = qm q d s (qqs o kk v) k:=by cases q <;> rfl
theorem qu3 (c:Bool) (v:qa) (o:Nat) (kk:Option Nat):qV c (qqs o kk (gv c v)) = qV c (qqs o kk v):=by cases c <;> rfl
theorem qqG (q c:Bool) (v:qa) (o:Nat) (kk:Option Nat):qm q d s (qV c (qqs o kk (gv q v))) k = qm q d s (qV c (qqs o kk v)) k:=by cases q <;> rfl
theorem qyA (q:Bool) (v:qa) (op:UnOp):qm q d s (unV op (gv q v)) k = qm q d s (unV op v) k:=by cases q <;> rfl
theorem qyc (c:Bool) (v:qa) (op:UnOp):qV c (unV op (gv c v)) = qV c (unV op v):=by cases c <;> rfl
theorem qtN (q c:Bool) (v:qa) (op:UnOp):qm q d s (qV c (unV op (gv q v))) k = qm q d s (qV c (unV op v)) k:=by cases q <;> rfl
theorem qtH (q:Bool) (v:qa) :qm q d s (qfw (gv q v)) k = qm q d s (qfw v) k:=by cases q <;> rfl
theorem qsx (c:Bool) (v:qa) :qV c (qfw (gv c v)) = qV c (qfw v):=by cases c <;> rfl
theorem qm1 (q c:Bool) (v:qa) :qm q d s (qV c (qfw (gv q v))) k = qm q d s (qV c (qfw v)) k:=by cases q <;> rfl
theorem qvx (q:Bool) (v:qa) (o:Nat):qm q d s (qqo o (gv q v)) k = qm q d s (qqo o v) k:=by cases q <;> rfl
theorem qu2 (c:Bool) (v:qa) (o:Nat):qV c (qqo o (gv c v)) = qV c (qqo o v):=by cases c <;> rfl
theorem qqF (q c:Bool) (v:qa) (o:Nat):qm q d s (qV c (qqo o (gv q v))) k = qm q d s (qV c (qqo o v)) k:=by cases q <;> rfl
theorem qvu (q:Bool) (v:qa) (ik:IntKind):qm q d s (qpK ik (gv q v)) k = qm q d s (qpK ik v) k:=by cases q <;> rfl
theorem quZ (c:Bool) (v:qa) (ik:IntKind):qV c (qpK ik (gv c v)) = qV c (qpK ik v):=by cases c <;> rfl
theorem qqC (q c:Bool) (v:qa) (ik:IntKind):qm q d s (qV c (qpK ik (gv q v))) k = qm q d s (qV c (qpK ik v)) k:=by cases q <;> rfl
theorem qvD (q:Bool) (v:qa) (ty:TypeId):qm q d s (qpn ty (gv q v)) k = qm q d s (qpn ty v) k:=by cases q <;> rfl
theorem qu8 (c:Bool) (v:qa) (ty:TypeId):qV c (qpn ty (gv c v)) = qV c (qpn ty v):=by cases c <;> rfl
theorem qqL (q c:Bool) (v:qa) (ty:TypeId):qm q d s (qV c (qpn ty (gv q v))) k = qm q d s (qV c (qpn ty v)) k:=by cases q <;> rfl
theorem qvA (q:Bool) (v:qa) (w:qa):qm q d s (qgJ (gv q v) w) k = qm q d s (qgJ v w) k:=by cases q <;> rfl
theorem qu5 (c:Bool) (v:qa) (w:qa):qV c (qgJ (gv c v) w) = qV c (qgJ v w):=by cases c <;> rfl
theorem qqI (q c:Bool) (v:qa) (w:qa):qm q d s (qV c (qgJ (gv q v) w)) k = qm q d s (qV c (qgJ v w)) k:=by cases q <;> rfl
theorem qtF (q:Bool) (v:qa) (w:qa):qm q d s (qgJ w (gv q v)) k = qm q d s (qgJ w v) k:=by cases q <;> rfl
theorem qsv (c:Bool) (v:qa) (w:qa):qV c (qgJ w (gv c v)) = qV c (qgJ w v):=by cases c <;> rfl
theorem qmZ (q c:Bool) (v:qa) (w:qa):qm q d s (qV c (qgJ w (gv q v))) k = qm q d s (qV c (qgJ w v)) k:=by cases q <;> rfl
theorem qvB (q:Bool) (v:qa) (o:Nat) (w:qa):qm q d s (qbr o (gv q v) w) k = qm q d s (qbr o v w) k:=by cases q <;> rfl
theorem qu6 (c:Bool) (v:qa) (o:Nat) (w:qa):qV c (qbr o (gv c v) w) = qV c (qbr o v w):=by cases c <;> rfl
theorem qqJ (q c:Bool) (v:qa) (o:Nat) (w:qa):qm q d s (qV c (qbr o (gv q v) w)) k = qm q d s (qV c (qbr o v w)) k:=by cases q <;> rfl
theorem qtG (q:Bool) (v:qa) (o:Nat) (w:qa):qm q d s (qbr o w (gv q v)) k = qm q d s (qbr o w v) k:=by cases q <;> rfl
theorem qsw (c:Bool) (v:qa) (o:Nat) (w:qa):qV c (qbr o w (gv c v)) = qV c (qbr o w v):=by cases c <;> rfl
theorem qm0 (q c:Bool) (v:qa) (o:Nat) (w:qa):qm q d s (qV c (qbr o w (gv q v))) k = qm q d s (qV c (qbr o w v)) k:=by cases q <;> rfl
theorem qvz (q:Bool) (v:qa) (o:Nat) (kk:Option Nat) (w:qa):qm q d s (qjc o kk (gv q v) w) k = qm q d s (qjc o kk v w) k:=by cases q <;> rfl
theorem qu4 (c:Bool) (v:qa) (o:Nat) (kk:Option Nat) (w:qa):qV c (qjc o kk (gv c v) w) = qV c (qjc o kk v w):=by cases c <;> rfl
theorem qqH (q c:Bool) (v:qa) (o:Nat) (kk:Option Nat) (w:qa):qm q d s (qV c (qjc o kk (gv q v) w)) k = qm q d s (qV c (qjc o kk v w)) k:=by cases q <;> rfl
theorem qtE (q:Bool) (v:qa) (o:Nat) (kk:Option Nat) (w:qa):qm q d s (qjc o kk w (gv q v)) k = qm q d s (qjc o kk w v) k:=by cases q <;> rfl
theorem qsu (c:Bool) (v:qa) (o:Nat) (kk:Option Nat) (w:qa):qV c (qjc o kk w (gv c v)) = qV c (qjc o kk w v):=by cases c <;> rfl
theorem qmY (q c:Bool) (v:qa) (o:Nat) (kk:Option Nat) (w:qa):qm q d s (qV c (qjc o kk w (gv q v))) k = qm q d s (qV c (qjc o kk w v)) k:=by cases q <;> rfl
theorem qvt (q:Bool) (v:qa) (op:BinOp) (w:qa):qm q d s (qbg op (gv q v) w) k = qm q d s (qbg op v w) k:=by cases q <;> rfl
theorem quY (c:Bool) (v:qa) (op:BinOp) (w:qa):qV c (qbg op (gv c v) w) = qV c (qbg op v w):=by cases c <;> rfl
theorem qqB (q c:Bool) (v:qa) (op:BinOp) (w:qa):qm q d s (qV c (qbg op (gv q v) w)) k = qm q d s (qV c (qbg op v w)) k:=by cases q <;> rfl
theorem qtB (q:Bool) (v:qa) (op:BinOp) (w:qa):qm q d s (qbg op w (gv q v)) k = qm q d s (qbg op w v) k:=by cases q <;> rfl
theorem qsr (c:Bool) (v:qa) (op:BinOp) (w:qa):qV c (qbg op w (gv c v)) = qV c (qbg op w v):=by cases c <;> rfl
theorem qmV (q c:Bool) (v:qa) (op:BinOp) (w:qa):qm q d s (qV c (qbg op w (gv q v))) k = qm q d s (qV c (qbg op w v)) k:=by cases q <;> rfl
theorem qvv (q:Bool) (v:qa) (b:Bool) (w:qa):qm q d s (qia b (gv q v) w) k = qm q d s (qia b v w) k:=by cases q <;> rfl
theorem qu0 (c:Bool) (v:qa) (b:Bool) (w:qa):qV c (qia b (gv c v) w) = qV c (qia b v w):=by cases c <;> rfl
theorem qqD (q c:Bool) (v:qa) (b:Bool) (w:qa):qm q d s (qV c (qia b (gv q v) w)) k = qm q d s (qV c (qia b v w)) k:=by cases q <;> rfl
theorem qtC (q:Bool) (v:qa) (b:Bool) (w:qa):qm q d s (qia b w (gv q v)) k = qm q d s (qia b w v) k:=by cases q <;> rfl
theorem qss (c:Bool) (v:qa) (b:Bool) (w:qa):qV c (qia b w (gv c v)) = qV c (qia b w v):=by cases c <;> rfl
theorem qmW (q c:Bool) (v:qa) (b:Bool) (w:qa):qm q d s (qV c (qia b w (gv q v))) k = qm q d s (qV c (qia b w v)) k:=by cases q <;> rfl
theorem qvw (q:Bool) (v:qa) (o:Nat) (b:Bool) (w:qa):qm q d s (qi7 o b (gv q v) w) k = qm q d s (qi7 o b v w) k:=by cases q <;> rfl
theorem qu1 (c:Bool) (v:qa) (o:Nat) (b:Bool) (w:qa):qV c (qi7 o b (gv c v) w) = qV c (qi7 o b v w):=by cases c <;> rfl
theorem qqE (q c:Bool) (v:qa) (o:Nat) (b:Bool) (w:qa):qm q d s (qV c (qi7 o b (gv q v) w)) k = qm q d s (qV c (qi7 o b v w)) k:=by cases q <;> rfl
theorem qtD (q:Bool) (v:qa) (o:Nat) (b:Bool) (w:qa):qm q d s (qi7 o b w (gv q v)) k = qm q d s (qi7 o b w v) k:=by cases q <;> rfl
theorem qst (c:Bool) (v:qa) (o:Nat) (b:Bool) (w:qa):qV c (qi7 o b w (gv c v)) = qV c (qi7 o b w v):=by cases c <;> rfl
theorem qmX (q c:Bool) (v:qa) (o:Nat) (b:Bool) (w:qa):qm q d s (qV c (qi7 o b w (gv q v))) k = qm q d s (qV c (qi7 o b w v)) k:=by cases q <;> rfl
theorem qyz (q:Bool) (v:qa) (b:Bool) (w:qa):qm q d s (mmV b (gv q v) w) k = qm q d s (mmV b v w) k:=by cases q <;> rfl
theorem qyb (c:Bool) (v:qa) (b:Bool) (w:qa):qV c (mmV b (gv c v) w) = qV c (mmV b v w):=by cases c <;> rfl
theorem qtM (q c:Bool) (v:qa) (b:Bool) (w:qa):qm q d s (qV c (mmV b (gv q v) w)) k = qm q d s (qV c (mmV b v w)) k:=by cases q <;> rfl
theorem qvE (q:Bool) (v:qa) (b:Bool) (w:qa):qm q d s (mmV b w (gv q v)) k = qm q d s (mmV b w v) k:=by cases q <;> rfl
theorem qu9 (c:Bool) (v:qa) (b:Bool) (w:qa):qV c (mmV b w (gv c v)) = qV c (mmV b w v):=by cases c <;> rfl
theorem qqM (q c:Bool) (v:qa) (b:Bool) (w:qa):qm q d s (qV c (mmV b w (gv q v))) k = qm q d s (qV c (mmV b w v)) k:=by cases q <;> rfl
theorem qtI (q:Bool) (v:qa) (w z:qa):qm q d s (qbl (gv q v) w z) k = qm q d s (qbl v w z) k:=by cases q <;> rfl
theorem qsy (c:Bool) (v:qa) (w z:qa):qV c (qbl (gv c v) w z) = qV c (qbl v w z):=by cases c <;> rfl
theorem qm2 (q c:Bool) (v:qa) (w z:qa):qm q d s (qV c (qbl (gv q v) w z)) k = qm q d s (qV c (qbl v w z)) k:=by cases q <;> rfl
theorem qqz (q:Bool) (v:qa) (w z:qa):qm q d s (qbl w (gv q v) z) k = qm q d s (qbl w v z) k:=by cases q <;> rfl
theorem qpv (c:Bool) (v:qa) (w z:qa):qV c (qbl w (gv c v) z) = qV c (qbl w v z):=by cases c <;> rfl
theorem qki (q c:Bool) (v:qa) (w z:qa):qm q d s (qV c (qbl w (gv q v) z)) k = qm q d s (qV c (qbl w v z)) k:=by cases q <;> rfl
theorem qqA (q:Bool) (v:qa) (w z:qa):qm q d s (qbl w z (gv q v)) k = qm q d s (qbl w z v) k:=by cases q <;> rfl
theorem qpw (c:Bool) (v:qa) (w z:qa):qV c (qbl w z (gv c v)) = qV c (qbl w z v):=by cases c <;> rfl
theorem qkj (q c:Bool) (v:qa) (w z:qa):qm q d s (qV c (qbl w z (gv q v))) k = qm q d s (qV c (qbl w z v)) k:=by cases q <;> rfl
end
section
variable {base:Nat} {call:Call} {s:St}
def qeF:List Nat→List qw→Bool
 | _,[]=>true
 | seen,d :: ds=>(bif d.o.op.effs then ds.isEmpty && seen.all (fun i=>d.cl.testBit i) else true) && qeF (d.ix :: seen) ds
def qn4 (dsts:List Nat):Option (Ex×St)→Option (Ex×St)
 | some (.pan v,s)=>some (.pan v,{ s with t:=qbf dsts s.t})
 | r=>r
theorem qxh {base:Nat} {call:Call} {p:qby} {d:Option Nat} {o:AOp} {s s':St} {x:Ex} (ho:o.effs = false) (h:qq base call p d o s = some (x,s')):x = .nor:=by
 cases o <;> simp only [AOp.effs,Bool.true_eq_false] at ho
 case new=>simp only [qq,Option.some.injEq,Prod.mk.injEq] at h;exact h.1.symm
 case box=>
  simp only [qq] at h
  split at h
  ·cases h;rfl
  ·cases h
 case ld=>
  simp only [qq] at h
  cases hl:qb8 s.h (ev s.t _) _ with
  | none=>rw [hl] at h;cases h
  | some v=>rw [hl] at h;cases h;rfl
 case lk sh z ok m key=>
  simp only [qq] at h
  cases hl:qhO s.h sh z ok (ev s.t m) (ev s.t key) with
  | none=>rw [hl] at h;cases h
  | some v=>rw [hl] at h;cases h;rfl
 all_goals
  simp only [qq] at h
  revert h
  generalize pureV s.t _ = r
  intro h
  cases r <;> cases h
  rfl
theorem qn5 (dsts:List Nat) (s:St):qn4 dsts (some (.nor,s)) = some (.nor,s):=rfl
theorem qn6 (dsts:List Nat) (v:qa) (t:List qa) (h:List qg) (e:Bool):qn4 dsts (some (.pan v,⟨t,h,e⟩)) = some (.pan v,⟨qbf dsts t,h,e⟩):=rfl
theorem qs8 (dsts:List Nat):∀(ds:List qw) (seen:List Nat) (pend:List (Nat×Chk)) (s:St),qeF seen ds = true→(∀c ∈ pend,c.1 ∈ seen)→
  qp base call dsts ds pend s = qn4 dsts (qfm base call (ds.map (·.o)) s)
 | [],_,_,s,_,_=>rfl
 | d :: ds,seen,pend,s,hd,hp=>by
  simp only [qeF,Bool.and_eq_true] at hd
  obtain ⟨h1,h2⟩:=hd
  have ih:=fun pend s h=>qs8 dsts ds (d.ix :: seen) pend s h2 h
  have hp':∀c ∈ pend,c.1 ∈ d.ix :: seen:=fun c hc=>List.mem_cons_of_mem _ (hp c hc)
  have one:(match qq base call [] d.o.dst d.o.op s with
   | some (.nor,s')=>
    if d.o.op.effs then
     let pend':=pend.filter fun c=>!d.cl.testBit c.1
     if pend'.all (fun c=>c.2.ok s'.h) then qp base call dsts ds pend' s' else none
    else
     match qcp s d.o.op with
     | some c=>qp base call dsts ds ((d.ix,c) :: pend) s'
     | none=>qp base call dsts ds pend s'
   | some (.pan v,s')=>if d.o.op.effs then some (.pan v,{ s' with t:=qbf dsts s'.t}) else none
   | _=>none) = qn4 dsts (qbz (qfm base call (ds.map (·.o))) (qq base call [] d.o.dst d.o.op s)):=by
   cases hr:qq base call [] d.o.dst d.o.op s with
   | none=>rfl
   | some r=>
    obtain ⟨x,s'⟩:=r
    cases he:d.o.op.effs with
    | true=>
     rw [he] at h1
     simp only [cond_true,Bool.and_eq_true,List.isEmpty_iff] at h1
     obtain ⟨rfl,h1⟩:=h1
     cases x with
     | nor=>
      have hf:(pend.filter fun c=>!d.cl.testBit c.1) = []:=by
       rw [List.filter_eq_nil_iff]
       intro c hc
       have:=List.all_eq_true.1 h1 c.1 (hp c hc)
       simp [this]
      simp only [if_true,hf,List.all_nil]
      rfl
     | pan v=>rfl
     | exit i=>
      exfalso
      revert hr
      cases hop:d.o.op <;> rw [hop] at he <;> simp only [AOp.effs,Bool.false_eq_true] at he <;> simp only [qq] <;> intro hr <;> first | (rw [Option.map_eq_some_iff] at hr;obtain ⟨_,_,hr⟩:=hr;cases hr;done) | repeat' (first | cases hr | split at hr)
     | ret=>
      exfalso
      revert hr
      cases hop:d.o.op <;> rw [hop] at he <;> simp only [AOp.effs,Bool.false_eq_true] at he <;> simp only [qq] <;> intro hr <;> first | (rw [Option.map_eq_some_iff] at hr;obtain ⟨_,_,hr⟩:=hr;cases hr;done) | repeat' (first | cases hr | split at hr)
    | false=>
     have:=qxh he hr
     subst this
     simp only [Bool.false_eq_true,if_false,qbz]
     split
     ·exact ih _ s' fun c hc=>by
       rcases List.mem_cons.1 hc with rfl | hc
       ·exact List.mem_cons_self ..
       ·exact hp' c hc
     ·exact ih _ s' hp'
  simp only [qp,List.map_cons,qfm]
  obtain ⟨⟨dst,op,g⟩,ix,cl⟩:=d
  cases g with
  | none=>simp only [wanted];exact one
  | some jb=>
   obtain ⟨j,b⟩:=jb
   have miss:=ih pend { s with t:=put dst (.tup []) s.t} hp'
   simp only [wanted]
   have key:∀g:qa,(match (match g with
     | .bool c=>some (c == b)
     | .tup []=>some false
     | _=>none) with
    | some true=>match qq base call [] dst op s with
     | some (.nor,s')=>
      if op.effs then
       let pend':=pend.filter fun c=>!cl.testBit c.1
       if pend'.all (fun c=>c.2.ok s'.h) then qp base call dsts ds pend' s' else none
      else
       match qcp s op with
       | some c=>qp base call dsts ds ((ix,c) :: pend) s'
       | none=>qp base call dsts ds pend s'
     | some (.pan v,s')=>if op.effs then some (.pan v,{ s' with t:=qbf dsts s'.t}) else none
     | _=>none
    | some false=>qp base call dsts ds pend { s with t:=put dst (.tup []) s.t}
    | none=>none) = qn4 dsts (match op.plain with
     | true=>qdI g b dst s (qc s op) (qfm base call (ds.map (·.o)))
     | false=>qdH g b dst s (qq base call [] dst op s) (qfm base call (ds.map (·.o)))):=by
    intro g
    cases hpl:op.plain with
    | true=>
     simp only
     rw [qfb hpl] at one ⊢
     cases g with
     | bool c=>
      simp only [qdI,qm]
      cases hcb:c == b with
      | true=>
       simp only [hcb,cond_true]
       rw [one]
       cases qc s op <;> rfl
      | false=>simp only [hcb,cond_false];exact miss
     | tup vs=>
      cases vs with
      | nil=>exact miss
      | cons=>rfl
     | _=>rfl
    | false=>
     simp only
     cases g with
     | bool c=>
      simp only [qdH]
      cases hcb:c == b with
      | true=>simp only [hcb,cond_true];exact one
      | false=>simp only [hcb,cond_false];exact miss
     | tup vs=>
      cases vs with
      | nil=>exact miss
      | cons=>rfl
     | _=>rfl
   exact key (s.t.getD j .undef)
theorem qK {b:qj} (I:Nat→St→Prop) (Q:Ex→St→Prop)
  (step:∀k s,I k s→(∃s' k',qy base call b s = some (.nor,s')∧k' < k∧I k' s')∨∃x s',qy base call b s = some (x,s')∧x ≠ .nor∧Q x s') :
  ∀k s,I k s→∃x s',qy base call (.loop b) s = some (x,s')∧Q x s':=by
 intro k
 induction k using Nat.strongRecOn with
 | ind k ih=>
  intro s hs
  rw [qar]
  rcases step k s hs with ⟨s',k',h1,h2,h3⟩ | ⟨x,s',h1,h2,h3⟩
  ·rw [h1]
   exact ih k' h2 s' h3
  ·rw [h1]
   refine ⟨x,s',?_,h3⟩
   cases x with
   | nor=>exact absurd rfl h2
   | _=>rfl
end
section
variable {s:St} {t:List qa} {h:List qg}
def qau (v:qa) (i:Nat) (t:List qa):List qa:=
 match v with
 | .lst xs (.own _)=>t.set i (.lst xs .no)
 | _=>t
theorem qmg (t:List qa) (i:Nat):qI t (.t i) = qau (lkp t i) i t:=rfl
theorem qmf (t:List qa) (v:qa):qI t (.c v) = t:=rfl
theorem qjM (b:Bool) (i:Nat) (t:List qa):qau (.bool b) i t = t:=rfl
theorem qma (k:IntKind) (n:Int) (i:Nat) (t:List qa):qau (.int k n) i t = t:=rfl
theorem qmd (b:List UInt8) (i:Nat) (t:List qa):qau (.str b) i t = t:=rfl
theorem qg2 (i:Nat) (t:List qa):qau .nilptr i t = t:=rfl
theorem qmc (a o:Nat) (i:Nat) (t:List qa):qau (.ptr a o) i t = t:=rfl
theorem qjO (cs:List qa) (o:Nat) (i:Nat) (t:List qa):qau (.iptr cs o) i t = t:=rfl
theorem ql8 (cs:List qa) (i:Nat) (t:List qa):qau (.agg cs) i t = t:=rfl
theorem qme (cs:List qa) (i:Nat) (t:List qa):qau (.tup cs) i t = t:=rfl
theorem qpS (f:FuncId) (a b:List qa) (i:Nat) (t:List qa):qau (.fn f a b) i t = t:=rfl
theorem qpT (xs:List qa) (i:Nat) (t:List qa):qau (.lst xs .no) i t = t:=rfl
theorem qjN (xs:List qa) (i:Nat) (t:List qa):qau (.lst xs .full) i t = t:=rfl
theorem qmb (xs:List qa) (k i:Nat) (t:List qa):qau (.lst xs (.own k)) i t = up t i (.lst xs .no):=rfl
theorem qh5 (ty:TypeId) (v:qa) (i:Nat) (t:List qa):qau (.iface ty v) i t = t:=rfl
theorem ql9 (v:qa) (i:Nat) (t:List qa):qau v.dim i t = t:=by
 cases v with
 | lst xs f=>cases f <;> rfl
 | _=>rfl
def qsT (v:Option qa) (vs:Option (List qa)):Option (List qa):=
 match v,vs with
 | some v,some vs=>some (v :: vs)
 | _,_=>none
theorem que:qR s [] = some []:=rfl
theorem quf (i:Nat) (rs:List qiX):qR s (.tmp i :: rs) = qsT (some (lkp s.t i).dim) (qR s rs):=by
 simp only [qR,lkp]
 cases qR s rs <;> rfl
theorem qrr (a:Nat) (k:Option Nat) (rs:List qiX):qR s (.cell a k :: rs) = qsT (qb8 s.h (lkp s.t a) k) (qR s rs):=by
 simp only [qR,lkp]
 cases qb8 s.h (s.t.getD a .undef) k <;> cases qR s rs <;> rfl
theorem qjJ (v:qa) (vs:List qa):qsT (some v) (some vs) = some (v :: vs):=rfl
theorem qkM (v:qa):qaU [v] = v:=rfl
theorem qkL:qaU [] = .tup []:=rfl
theorem qkN (a b:qa) (vs:List qa):qaU (a :: b :: vs) = .tup (a :: b :: vs):=rfl
def quO (h:List qg) (s:St):Option (List qa)→Option (qaL×List qg×Bool)
 | some vs=>some (q6 h.length (.ret (qaU vs)) s.h s.e)
 | none=>none
theorem qmr (h:List qg) (s:St) (vs:List qa):quO h s (some vs) = some (q6 h.length (.ret (qaU vs)) s.h s.e):=rfl
theorem qti (fn:qf) (h:List qg) (s:St):qh8 fn h (some (.nor,s)) = quO h s (qR s fn.results):=by
 simp only [qh8];cases qR s fn.results <;> rfl
theorem qtj (fn:qf) (h:List qg) (s:St):qh8 fn h (some (.ret,s)) = quO h s (qR s fn.results):=by
 simp only [qh8];cases qR s fn.results <;> rfl
end
section
theorem qoz (x:ql):(AOp.mov x).plain = true:=Eq.trans rfl rfl
theorem qqg (x:ql):(AOp.mov x).effs = false:=Eq.trans rfl rfl
theorem qnl (x:ql):(AOp.mov x).isApp = false:=Eq.trans rfl rfl
theorem qkX (c a b:ql):(AOp.pick c a b).plain = true:=Eq.trans rfl rfl
theorem qmo (c a b:ql):(AOp.pick c a b).effs = false:=Eq.trans rfl rfl
theorem qkp (c a b:ql):(AOp.pick c a b).isApp = false:=Eq.trans rfl rfl
theorem qiG (z:List qa) (ps:List (Nat×Nat×ql)):(AOp.build z ps).plain = true:=Eq.trans rfl rfl
theorem qjR (z:List qa) (ps:List (Nat×Nat×ql)):(AOp.build z ps).effs = false:=Eq.trans rfl rfl
theorem qip (z:List qa) (ps:List (Nat×Nat×ql)):(AOp.build z ps).isApp = false:=Eq.trans rfl rfl
theorem qkV (k:Nat) (z:List qa) (l:Nat) (ps:List (Nat×ql)):(AOp.list k z l ps).plain = true:=Eq.trans rfl rfl
theorem qmm (k:Nat) (z:List qa) (l:Nat) (ps:List (Nat×ql)):(AOp.list k z l ps).effs = false:=Eq.trans rfl rfl
theorem qkn (k:Nat) (z:List qa) (l:Nat) (ps:List (Nat×ql)):(AOp.list k z l ps).isApp = false:=Eq.trans rfl rfl
theorem qrj (k:Option Nat) (a:ql):(AOp.ld k a).plain = true:=Eq.trans rfl rfl
theorem qtc (k:Option Nat) (a:ql):(AOp.ld k a).effs = false:=Eq.trans rfl rfl
theorem qqP (k:Option Nat) (a:ql):(AOp.ld k a).isApp = false:=Eq.trans rfl rfl
theorem qkW (x:ql):(AOp.nilc x).plain = true:=Eq.trans rfl rfl
theorem qmn (x:ql):(AOp.nilc x).effs = false:=Eq.trans rfl rfl
theorem qko (x:ql):(AOp.nilc x).isApp = false:=Eq.trans rfl rfl
theorem qok (op:BinOp) (x y:ql):(AOp.bin op x y).plain = true:=Eq.trans rfl rfl
theorem qp1 (op:BinOp) (x y:ql):(AOp.bin op x y).effs = false:=Eq.trans rfl rfl
theorem qm6 (op:BinOp) (x y:ql):(AOp.bin op x y).isApp = false:=Eq.trans rfl rfl
theorem qoq (n:Bool) (x y:ql):(AOp.eqb n x y).plain = true:=Eq.trans rfl rfl
theorem qp7 (n:Bool) (x y:ql):(AOp.eqb n x y).effs = false:=Eq.trans rfl rfl
theorem qnc (n:Bool) (x y:ql):(AOp.eqb n x y).isApp = false:=Eq.trans rfl rfl
theorem qor (k:Nat) (n:Bool) (x y:ql):(AOp.eqi k n x y).plain = true:=Eq.trans rfl rfl
theorem qp8 (k:Nat) (n:Bool) (x y:ql):(AOp.eqi k n x y).effs = false:=Eq.trans rfl rfl
theorem qnd (k:Nat) (n:Bool) (x y:ql):(AOp.eqi k n x y).isApp = false:=Eq.trans rfl rfl
theorem qop (n:Bool) (x y:ql):(AOp.eqa n x y).plain = true:=Eq.trans rfl rfl
theorem qp6 (n:Bool) (x y:ql):(AOp.eqa n x y).effs = false:=Eq.trans rfl rfl
theorem qnb (n:Bool) (x y:ql):(AOp.eqa n x y).isApp = false:=Eq.trans rfl rfl
theorem qrm (op:UnOp) (x:ql):(AOp.un op x).plain = true:=Eq.trans rfl rfl
theorem qtf (op:UnOp) (x:ql):(AOp.un op x).effs = false:=Eq.trans rfl rfl
theorem qqS (op:UnOp) (x:ql):(AOp.un op x).isApp = false:=Eq.trans rfl rfl
theorem qon (k:IntKind) (x:ql):(AOp.cvi k x).plain = true:=Eq.trans rfl rfl
theorem qp4 (k:IntKind) (x:ql):(AOp.cvi k x).effs = false:=Eq.trans rfl rfl
theorem qm9 (k:IntKind) (x:ql):(AOp.cvi k x).isApp = false:=Eq.trans rfl rfl
theorem qoo (x:ql):(AOp.cvs x).plain = true:=Eq.trans rfl rfl
theorem qp5 (x:ql):(AOp.cvs x).effs = false:=Eq.trans rfl rfl
theorem qna (x:ql):(AOp.cvs x).isApp = false:=Eq.trans rfl rfl
theorem qom (x:ql):(AOp.cvb x).plain = true:=Eq.trans rfl rfl
theorem qp3 (x:ql):(AOp.cvb x).effs = false:=Eq.trans rfl rfl
theorem qm8 (x:ql):(AOp.cvb x).isApp = false:=Eq.trans rfl rfl
theorem qoy (t:TypeId) (x:ql):(AOp.mkI t x).plain = true:=Eq.trans rfl rfl
theorem qqf (t:TypeId) (x:ql):(AOp.mkI t x).effs = false:=Eq.trans rfl rfl
theorem qnk (t:TypeId) (x:ql):(AOp.mkI t x).isApp = false:=Eq.trans rfl rfl
theorem qox (f:FuncId) (a b:List ql):(AOp.mkF f a b).plain = true:=Eq.trans rfl rfl
theorem qqe (f:FuncId) (a b:List ql):(AOp.mkF f a b).effs = false:=Eq.trans rfl rfl
theorem qnj (f:FuncId) (a b:List ql):(AOp.mkF f a b).isApp = false:=Eq.trans rfl rfl
theorem qkZ (x:ql) (l h:Option ql):(AOp.subS x l h).plain = true:=Eq.trans rfl rfl
theorem qmq (x:ql) (l h:Option ql):(AOp.subS x l h).effs = false:=Eq.trans rfl rfl
theorem qkr (x:ql) (l h:Option ql):(AOp.subS x l h).isApp = false:=Eq.trans rfl rfl
theorem qkY (k:Nat) (x:ql) (l h:Option ql):(AOp.subL k x l h).plain = true:=Eq.trans rfl rfl
theorem qmp (k:Nat) (x:ql) (l h:Option ql):(AOp.subL k x l h).effs = false:=Eq.trans rfl rfl
theorem qkq (k:Nat) (x:ql) (l h:Option ql):(AOp.subL k x l h).isApp = false:=Eq.trans rfl rfl
theorem qri (o:Nat) (a:ql):(AOp.fa o a).plain = true:=Eq.trans rfl rfl
theorem qtb (o:Nat) (a:ql):(AOp.fa o a).effs = false:=Eq.trans rfl rfl
theorem qqO (o:Nat) (a:ql):(AOp.fa o a).isApp = false:=Eq.trans rfl rfl
theorem qkU (k:Nat) (s i:ql):(AOp.ixaL k s i).plain = true:=Eq.trans rfl rfl
theorem qml (k:Nat) (s i:ql):(AOp.ixaL k s i).effs = false:=Eq.trans rfl rfl
theorem qkm (k:Nat) (s i:ql):(AOp.ixaL k s i).isApp = false:=Eq.trans rfl rfl
theorem qkT (n k:Nat) (a i:ql):(AOp.ixaA n k a i).plain = true:=Eq.trans rfl rfl
theorem qmk (n k:Nat) (a i:ql):(AOp.ixaA n k a i).effs = false:=Eq.trans rfl rfl
theorem qkl (n k:Nat) (a i:ql):(AOp.ixaA n k a i).isApp = false:=Eq.trans rfl rfl
theorem qov (s i:ql):(AOp.ixS s i).plain = true:=Eq.trans rfl rfl
theorem qqc (s i:ql):(AOp.ixS s i).effs = false:=Eq.trans rfl rfl
theorem qnh (s i:ql):(AOp.ixS s i).isApp = false:=Eq.trans rfl rfl
theorem qou (n:Nat) (k:Option Nat) (a i:ql):(AOp.ixA n k a i).plain = true:=Eq.trans rfl rfl
theorem qqb (n:Nat) (k:Option Nat) (a i:ql):(AOp.ixA n k a i).effs = false:=Eq.trans rfl rfl
theorem qng (n:Nat) (k:Option Nat) (a i:ql):(AOp.ixA n k a i).isApp = false:=Eq.trans rfl rfl
theorem qot (o:Nat) (k:Option Nat) (x:ql):(AOp.fld o k x).plain = true:=Eq.trans rfl rfl
theorem qqa (o:Nat) (k:Option Nat) (x:ql):(AOp.fld o k x).effs = false:=Eq.trans rfl rfl
theorem qnf (o:Nat) (k:Option Nat) (x:ql):(AOp.fld o k x).isApp = false:=Eq.trans rfl rfl
theorem qos (x:ql) (i:Nat):(AOp.ext x i).plain = true:=Eq.trans rfl rfl
theorem qp9 (x:ql) (i:Nat):(AOp.ext x i).effs = false:=Eq.trans rfl rfl
theorem qne (x:ql) (i:Nat):(AOp.ext x i).isApp = false:=Eq.trans rfl rfl
theorem qow (b:Bool) (x:ql):(AOp.len b x).plain = true:=Eq.trans rfl rfl
theorem qqd (b:Bool) (x:ql):(AOp.len b x).effs = false:=Eq.trans rfl rfl
theorem qni (b:Bool) (x:ql):(AOp.len b x).isApp = false:=Eq.trans rfl rfl
theorem qrk (b:Bool) (x y:ql):(AOp.mm b x y).plain = true:=Eq.trans rfl rfl
theorem qtd (b:Bool) (x y:ql):(AOp.mm b x y).effs = false:=Eq.trans rfl rfl
theorem qqQ (b:Bool) (x y:ql):(AOp.mm b x y).isApp = false:=Eq.trans rfl rfl
theorem qoD (t:TypeId) (z:qa) (x:ql):(AOp.tas t z x).plain = true:=Eq.trans rfl rfl
theorem qqj (t:TypeId) (z:qa) (x:ql):(AOp.tas t z x).effs = false:=Eq.trans rfl rfl
theorem qno (t:TypeId) (z:qa) (x:ql):(AOp.tas t z x).isApp = false:=Eq.trans rfl rfl
theorem qoj (x:ql):(AOp.asg x).plain = false:=Eq.trans rfl rfl
theorem qp0 (x:ql):(AOp.asg x).effs = true:=Eq.trans rfl rfl
theorem qm5 (x:ql):(AOp.asg x).isApp = false:=Eq.trans rfl rfl
theorem qoA (cs:List qa):(AOp.new cs).plain = false:=Eq.trans rfl rfl
theorem qqh (cs:List qa):(AOp.new cs).effs = false:=Eq.trans rfl rfl
theorem qnm (cs:List qa):(AOp.new cs).isApp = false:=Eq.trans rfl rfl
theorem qol (k:Nat) (x:ql):(AOp.box k x).plain = false:=Eq.trans rfl rfl
theorem qp2 (k:Nat) (x:ql):(AOp.box k x).effs = false:=Eq.trans rfl rfl
theorem qm7 (k:Nat) (x:ql):(AOp.box k x).isApp = false:=Eq.trans rfl rfl
theorem qrl (k:Option Nat) (a x:ql):(AOp.st k a x).plain = false:=Eq.trans rfl rfl
theorem qte (k:Option Nat) (a x:ql):(AOp.st k a x).effs = true:=Eq.trans rfl rfl
theorem qqR (k:Option Nat) (a x:ql):(AOp.st k a x).isApp = false:=Eq.trans rfl rfl
theorem qkS (f:ql) (aS:List ql):(AOp.call f aS).plain = false:=Eq.trans rfl rfl
theorem qmj (f:ql) (aS:List ql):(AOp.call f aS).effs = true:=Eq.trans rfl rfl
theorem qkk (f:ql) (aS:List ql):(AOp.call f aS).isApp = false:=Eq.trans rfl rfl
theorem qoi (k:Nat) (x y:ql):(AOp.app k x y).plain = false:=Eq.trans rfl rfl
theorem qpZ (k:Nat) (x y:ql):(AOp.app k x y).effs = true:=Eq.trans rfl rfl
theorem qm4 (k:Nat) (x y:ql):(AOp.app k x y).isApp = true:=Eq.trans rfl rfl
theorem qoC (x:ql):(AOp.pan x).plain = false:=Eq.trans rfl rfl
theorem qqi (x:ql):(AOp.pan x).effs = true:=Eq.trans rfl rfl
theorem qnn (x:ql):(AOp.pan x).isApp = false:=Eq.trans rfl rfl
theorem qiy (n:Nat):qa.undef.lower n = true:=Eq.trans rfl rfl
theorem qkG (n:Nat) (b:Bool):(qa.bool b).lower n = true:=Eq.trans rfl rfl
theorem qhp (n:Nat) (k:IntKind) (z:Int):(qa.int k z).lower n = true:=Eq.trans rfl rfl
theorem qhr (n:Nat) (s:List UInt8):(qa.str s).lower n = true:=Eq.trans rfl rfl
theorem qhq (n:Nat):qa.nilptr.lower n = true:=Eq.trans rfl rfl
theorem qnZ (n i o:Nat):(qa.ptr i o).lower n = Nat.blt i n:=Eq.trans rfl rfl
theorem qn1 (n i:Nat):(qa.yld i).lower n = Nat.blt i n:=Eq.trans rfl rfl
theorem qkH (n o:Nat) (cs:List qa):(qa.iptr cs o).lower n = qz n cs:=Eq.trans rfl rfl
theorem qnY (n:Nat) (xs:List qa) (f:qf4):(qa.lst xs f).lower n = qz n xs:=Eq.trans rfl rfl
theorem qgq (n:Nat):qa.nilfunc.lower n = true:=Eq.trans rfl rfl
theorem qfv (n:Nat):qa.niliface.lower n = true:=Eq.trans rfl rfl
theorem qix (n:Nat) (t:TypeId) (v:qa):(qa.iface t v).lower n = v.lower n:=Eq.trans rfl rfl
theorem qq6 (n:Nat) (f:FuncId) (a b:List qa):(qa.fn f a b).lower n = (qz n a && qz n b):=Eq.trans rfl rfl
theorem qho (n:Nat) (cs:List qa):(qa.agg cs).lower n = qz n cs:=Eq.trans rfl rfl
theorem qn0 (n:Nat) (cs:List qa):(qa.tup cs).lower n = qz n cs:=Eq.trans rfl rfl
theorem qfM (n:Nat):qz n [] = true:=Eq.trans rfl rfl
theorem qe2 (n:Nat) (v:qa) (vs:List qa):qz n (v :: vs) = (v.lower n && qz n vs):=Eq.trans rfl rfl
def qtg (rs:List qiX) (h:List qg):Option (Ex×St)→Option (qaL×List qg×Bool)
 | some (.nor,s) | some (.ret,s)=>quO h s (qR s rs)
 | some (.pan v,s)=>some (q6 h.length (.pan v) s.h s.e)
 | _=>none
theorem qth (fn:qf) (h:List qg) (r:Option (Ex×St)):qh8 fn h r = qtg fn.results h r:=by
 cases r with
 | none=>rfl
 | some r=>obtain ⟨x,s⟩:=r;cases x <;> first | rfl | exact qti _ _ _ | exact qtj _ _ _
theorem qi6 (rs:List qiX) (h:List qg) (s:St):qtg rs h (some (.nor,s)) = quO h s (qR s rs):=rfl
theorem qql (rs:List qiX) (h:List qg) (s:St):qtg rs h (some (.ret,s)) = quO h s (qR s rs):=rfl
theorem qqk (rs:List qiX) (h:List qg) (s:St) (v:qa):qtg rs h (some (.pan v,s)) = some (q6 h.length (.pan v) s.h s.e):=rfl
theorem qFV {F:FuncId→Option qf} {X:qcJ} (hX:qfq X) {f:FuncId} {first args cap:List qa} {h:List qg} {fn:qf} (h1:X f = none) (h2:F f = some fn) :
  W F X (.fn f first cap) args h = qtg fn.results h (qy h.length (W F X) fn.code ⟨(first ++ args ++ cap).map qa.dim ++ List.replicate (fn.ntmps - ((first ++ args ++ cap).map qa.dim).length) (.tup []),h,false⟩):=by
 rw [qFU hX h1 h2,qth]
end
section
variable {h:List qg}
theorem qlD (cs:List qa):(qa.agg cs).cells = cs:=rfl
theorem qlE (k:IntKind) (n:Int):(qa.int k n).cells = [.int k n]:=rfl
theorem qlH (s:List UInt8):(qa.str s).cells = [.str s]:=rfl
theorem qjH (b:Bool):(qa.bool b).cells = [.bool b]:=rfl
theorem qlF (xs:List qa) (f:qf4):(qa.lst xs f).cells = [.lst xs f]:=rfl
theorem qlG (i o:Nat):(qa.ptr i o).cells = [.ptr i o]:=rfl
theorem qgW:qa.nilptr.cells = [.nilptr]:=rfl
theorem qpD (f:FuncId) (a b:List qa):(qa.fn f a b).cells = [.fn f a b]:=rfl
theorem qfs:qa.niliface.cells = [.niliface]:=rfl
theorem qhX (t:TypeId) (v:qa):(qa.iface t v).cells = [.iface t v]:=rfl
theorem qlI (i:Nat):(qa.yld i).cells = [.yld i]:=rfl
theorem qgB (k:IntKind) (n:Int):(qa.int k n).storable = true:=Eq.trans rfl rfl
theorem qgD (s:List UInt8):(qa.str s).storable = true:=Eq.trans rfl rfl
theorem qo1 (b:Bool):(qa.bool b).storable = true:=Eq.trans rfl rfl
theorem qrB (xs:List qa) (f:qf4):(qa.lst xs f).storable = true:=Eq.trans rfl rfl
theorem qrC (i o:Nat):(qa.ptr i o).storable = true:=Eq.trans rfl rfl
theorem qo2 (cs:List qa) (o:Nat):(qa.iptr cs o).storable = true:=Eq.trans rfl rfl
theorem qiR:qa.nilptr.storable = true:=Eq.trans rfl rfl
theorem qhI:qa.nilfunc.storable = true:=Eq.trans rfl rfl
theorem quv (f:FuncId) (a b:List qa):(qa.fn f a b).storable = true:=Eq.trans rfl rfl
theorem qrD (i:Nat):(qa.yld i).storable = true:=Eq.trans rfl rfl
theorem qgC:qa.niliface.storable = true:=Eq.trans rfl rfl
theorem qk6 (t:TypeId) (v:qa):(qa.iface t v).storable = true:=Eq.trans rfl rfl
theorem qpI (c:qa) (cs:List qa) (o k:Nat):cut (c :: cs) o (some k) = if o + k ≤ (c :: cs).length then some (.agg ((((c :: cs).drop o).take k).map qa.dim)) else none:=rfl
def ldB (k:Option Nat) (o:Nat):Option qg→Option qa
 | some (.cells cs)=>cut cs o k
 | _=>none
theorem qqW (i o:Nat) (k:Option Nat):qb8 h (.ptr i o) k = ldB k o h[i]?:=by
 simp only [qb8,ldB]
 cases h[i]? with
 | none=>rfl
 | some b=>cases b <;> rfl
theorem qnw (k:Option Nat) (o:Nat) (cs:List qa):ldB k o (some (.cells cs)) = cut cs o k:=rfl
def qCx (k:Option Nat) (v:qa):List qa:=
 match k with
 | none=>[v]
 | some _=>v.dim.cells.map qa.dim
theorem qoH (v:qa):qCx none v = [v]:=rfl
theorem qoI (k:Nat) (v:qa):qCx (some k) v = v.dim.cells.map qa.dim:=rfl
def stB (base:Nat) (k:Option Nat) (id o:Nat) (vs:List qa) (h:List qg):Option qg→Option (List qg×Bool)
 | some (.cells cs)=>if vs.length = k.getD 1∧o + vs.length ≤ cs.length∧vs.all qa.storable then some (h.set id (.cells (splice cs o vs)),!(Nat.ble base id || qz (id + 1) vs)) else none
 | _=>none
theorem qut (base:Nat) (k:Option Nat) (id o:Nat) (v:qa):stV base k (.ptr id o) v h = stB base k id o (qCx k v) h h[id]?:=by
 simp only [stV,stB]
 cases h[id]? with
 | none=>rfl
 | some b=>cases b <;> cases k <;> rfl
theorem qoZ (base:Nat) (k:Option Nat) (id o:Nat) (vs cs:List qa):stB base k id o vs h (some (.cells cs)) = if vs.length = k.getD 1∧o + vs.length ≤ cs.length∧vs.all qa.storable then some (h.set id (.cells (splice cs o vs)),!(Nat.ble base id || qz (id + 1) vs)) else none:=rfl
theorem qHC (h:List qg) (k:Nat):Nat.ble h.length (h.length + k) = true:=Nat.ble_eq_true_of_le (Nat.le_add_right _ _)
theorem qcb {a b:Nat} (h:a ≤ b):Nat.ble a b = true:=Nat.ble_eq_true_of_le h
theorem qpA {a b:Nat} (h:a < b):Nat.blt a b = true:=Nat.ble_eq_true_of_le h
end
theorem qbU {e r:Option (Ex×St)} (hr:e = r) {Q:Ex→St→Prop} (h:∃x s',e = some (x,s')∧Q x s'):∃x s',r = some (x,s')∧Q x s':=hr▸h
mutual
theorem qf8:∀v:qa,v.beq v = true
 | .undef | .nilptr | .nilfunc | .niliface | .nilmap | .nils | .empt=>rfl
 | .sl ..=>by simp [qa.beq]
 | .mp i=>by simp [qa.beq]
 | .bool b=>by simp [qa.beq]
 | .int k n=>by simp [qa.beq]
 | .str s=>by simp [qa.beq]
 | .ptr i o=>by simp [qa.beq]
 | .iptr cs o=>by simp [qa.beq,qbb cs]
 | .lst xs f=>by simp [qa.beq,qbb xs]
 | .fn f a b=>by simp [qa.beq,qbb a,qbb b]
 | .yld i=>by simp [qa.beq]
 | .iface t v=>by simp [qa.beq,qf8 v]
 | .agg cs=>by simp [qa.beq,qbb cs]
 | .tup cs=>by simp [qa.beq,qbb cs]
theorem qbb:∀vs:List qa,qgQ vs vs = true
 | []=>rfl
 | v :: vs=>by simp [qgQ,qf8 v,qbb vs]
end
section
variable {base:Nat} {call:Call} {dsts:List Nat} {s:St} {pend:List (Nat×Chk)} {h:List qg}
def qdv (h:List qg):List (Nat×Chk)→Bool
 | []=>true
 | c :: cs=>c.2.ok h && qdv h cs
theorem qpG:qdv h [] = true:=Eq.trans rfl rfl
theorem qlL (i:Nat) (c:Chk) (cs:List (Nat×Chk)):qdv h ((i,c) :: cs) = (c.ok h && qdv h cs):=rfl
theorem qpF (l:List (Nat×Chk)):l.all (fun c=>c.2.ok h) = qdv h l:=by
 induction l with
 | nil=>rfl
 | cons c l ih=>simp only [List.all_cons,qdv,ih]
def qCO (v:qa):Option qa→Bool
 | some w=>v.beq w
 | none=>false
theorem qlx (v:qa):qCO v (some v) = true:=qf8 v
theorem qvb (a:qa) (k:Option Nat) (v:qa):Chk.ok h (.ld a k v) = qCO v (qb8 h a k):=by
 simp only [Chk.ok];cases qb8 h a k <;> rfl
def qCN (cs:List qa):Option qg→Bool
 | some (.cells ds)=>qgQ cs ds
 | _=>false
theorem qlu (cs:List qa):qCN cs (some (.cells cs)) = true:=qbb cs
theorem qsP (id:Nat) (cs:List qa):Chk.ok h (.box id cs) = qCN cs h[id]?:=by
 simp only [Chk.ok]
 cases h[id]? with
 | none=>rfl
 | some b=>cases b <;> rfl
def qda (cl:Nat):List (Nat×Chk)→List (Nat×Chk)
 | []=>[]
 | c :: cs=>bif cl.testBit c.1 then qda cl cs else c :: qda cl cs
theorem qjY (cl:Nat):qda cl [] = []:=rfl
theorem qig (cl i:Nat) (c:Chk) (cs:List (Nat×Chk)):qda cl ((i,c) :: cs) = bif cl.testBit i then qda cl cs else (i,c) :: qda cl cs:=rfl
theorem qmx (cl:Nat) (l:List (Nat×Chk)):l.filter (fun c=>!cl.testBit c.1) = qda cl l:=by
 induction l with
 | nil=>rfl
 | cons c l ih=>
  simp only [List.filter_cons,qda,ih]
  cases cl.testBit c.1 <;> rfl
def qpU (dsts:List Nat) (pend:List (Nat×Chk)) (k:List (Nat×Chk)→St→Option (Ex×St)):Option (Ex×St)→Option (Ex×St)
 | some (.nor,s)=>bif qdv s.h pend then k pend s else none
 | some (.pan v,s)=>some (.pan v,{ s with t:=qbf dsts s.t})
 | _=>none
theorem qmh (k:List (Nat×Chk)→St→Option (Ex×St)) (s:St):qpU dsts pend k (some (.nor,s)) = bif qdv s.h pend then k pend s else none:=rfl
theorem qmi (k:List (Nat×Chk)→St→Option (Ex×St)) (t:List qa) (e:Bool) (v:qa):qpU dsts pend k (some (.pan v,⟨t,h,e⟩)) = some (.pan v,⟨qbf dsts t,h,e⟩):=rfl
theorem qpX:qp base call dsts [] pend s = some (.nor,s):=rfl
theorem qpV {d:Option Nat} {o:AOp} {ix cl:Nat} {ds:List qw} (ho:o.effs = true):qp base call dsts (⟨⟨d,o,none⟩,ix,cl⟩ :: ds) pend s = qpU dsts (qda cl pend) (qp base call dsts ds) (qq base call [] d o s):=by
 simp only [qp,wanted,ho,if_true,qpF,qmx]
 cases hr:qq base call [] d o s with
 | none=>rfl
 | some r=>
  obtain ⟨x,s'⟩:=r
  cases x with
  | nor=>simp only [qpU];cases qdv s'.h (qda cl pend) <;> rfl
  | pan v=>rfl
  | exit i=>rfl
  | ret=>rfl
def AOp.light:AOp→Bool
 | .asg .. | .new .. | .box .. | .st .. | .call .. | .app .. | .pan .. | .ld .. | .hx .. | .lk ..=>false
 | _=>true
theorem qjP {d:Option Nat} {o:AOp} {ix cl:Nat} {ds:List qw} (ho:o.light = true):qp base call dsts (⟨⟨d,o,none⟩,ix,cl⟩ :: ds) pend s = qbz (qp base call dsts ds pend) (qq base call [] d o s):=by
 have he:o.effs = false:=by cases o <;> simp_all [AOp.light,AOp.effs]
 have hc:qcp s o = none:=by cases o <;> simp_all [AOp.light,qcp]
 simp only [qp,wanted,he,Bool.false_eq_true,if_false,hc]
 cases hr:qq base call [] d o s with
 | none=>rfl
 | some r=>
  obtain ⟨x,s'⟩:=r
  have:=qxh he hr
  subst this
  rfl
def ldD (d:Option Nat) (s:St) (a:qa) (k:Option Nat) (ix:Nat) (pend:List (Nat×Chk)) (f:List (Nat×Chk)→St→Option (Ex×St)):Option qa→Option (Ex×St)
 | some v=>f ((ix,.ld a k v) :: pend) { s with t:=put d v s.t}
 | none=>none
theorem qqX (d:Option Nat) (t:List qa) (e:Bool) (a:qa) (k:Option Nat) (ix:Nat) (f:List (Nat×Chk)→St→Option (Ex×St)) (v:qa):ldD d ⟨t,h,e⟩ a k ix pend f (some v) = f ((ix,.ld a k v) :: pend) ⟨put d v t,h,e⟩:=rfl
theorem qs9 {d:Option Nat} {k:Option Nat} {a:ql} {ix cl:Nat} {ds:List qw}:qp base call dsts (⟨⟨d,.ld k a,none⟩,ix,cl⟩ :: ds) pend s = ldD d s (ev s.t a) k ix pend (qp base call dsts ds) (qb8 s.h (ev s.t a) k):=by
 simp only [qp,wanted,AOp.effs,Bool.false_eq_true,if_false,qcp,qq]
 cases qb8 s.h (ev s.t a) k <;> rfl
theorem qpW {d:Option Nat} {cs:List qa} {ix cl:Nat} {ds:List qw}:qp base call dsts (⟨⟨d,.new cs,none⟩,ix,cl⟩ :: ds) pend s = qp base call dsts ds ((ix,.box s.h.length (cs.map qa.dim)) :: pend) { s with t:=put d (.ptr s.h.length 0) s.t,h:=s.h ++ [.cells (cs.map qa.dim)]}:=by
 simp only [qp,wanted,AOp.effs,Bool.false_eq_true,if_false,qcp,qq]
end
theorem qnS (x:ql):(AOp.mov x).light = true:=Eq.trans rfl rfl
theorem qkC (c a b:ql):(AOp.pick c a b).light = true:=Eq.trans rfl rfl
theorem qiu (z:List qa) (ps:List (Nat×Nat×ql)):(AOp.build z ps).light = true:=Eq.trans rfl rfl
theorem qkA (k:Nat) (z:List qa) (l:Nat) (ps:List (Nat×ql)):(AOp.list k z l ps).light = true:=Eq.trans rfl rfl
theorem qkB (x:ql):(AOp.nilc x).light = true:=Eq.trans rfl rfl
theorem qnE (op:BinOp) (x y:ql):(AOp.bin op x y).light = true:=Eq.trans rfl rfl
theorem qnJ (n:Bool) (x y:ql):(AOp.eqb n x y).light = true:=Eq.trans rfl rfl
theorem qnK (k:Nat) (n:Bool) (x y:ql):(AOp.eqi k n x y).light = true:=Eq.trans rfl rfl
theorem qnI (n:Bool) (x y:ql):(AOp.eqa n x y).light = true:=Eq.trans rfl rfl
theorem qq3 (op:UnOp) (x:ql):(AOp.un op x).light = true:=Eq.trans rfl rfl
theorem qnG (k:IntKind) (x:ql):(AOp.cvi k x).light = true:=Eq.trans rfl rfl
theorem qnH (x:ql):(AOp.cvs x).light = true:=Eq.trans rfl rfl
theorem qnF (x:ql):(AOp.cvb x).light = true:=Eq.trans rfl rfl
theorem qnR (t:TypeId) (x:ql):(AOp.mkI t x).light = true:=Eq.trans rfl rfl
theorem qnQ (f:FuncId) (a b:List ql):(AOp.mkF f a b).light = true:=Eq.trans rfl rfl
theorem qkE (x:ql) (l h:Option ql):(AOp.subS x l h).light = true:=Eq.trans rfl rfl
theorem qkD (k:Nat) (x:ql) (l h:Option ql):(AOp.subL k x l h).light = true:=Eq.trans rfl rfl
theorem qq1 (o:Nat) (a:ql):(AOp.fa o a).light = true:=Eq.trans rfl rfl
theorem qkz (k:Nat) (s i:ql):(AOp.ixaL k s i).light = true:=Eq.trans rfl rfl
theorem qky (n k:Nat) (a i:ql):(AOp.ixaA n k a i).light = true:=Eq.trans rfl rfl
theorem qnO (s i:ql):(AOp.ixS s i).light = true:=Eq.trans rfl rfl
theorem qnN (n:Nat) (k:Option Nat) (a i:ql):(AOp.ixA n k a i).light = true:=Eq.trans rfl rfl
theorem qnM (o:Nat) (k:Option Nat) (x:ql):(AOp.fld o k x).light = true:=Eq.trans rfl rfl
theorem qnL (x:ql) (i:Nat):(AOp.ext x i).light = true:=Eq.trans rfl rfl
theorem qnP (b:Bool) (x:ql):(AOp.len b x).light = true:=Eq.trans rfl rfl
theorem qq2 (b:Bool) (x y:ql):(AOp.mm b x y).light = true:=Eq.trans rfl rfl
theorem qnT (t:TypeId) (z:qa) (x:ql):(AOp.tas t z x).light = true:=Eq.trans rfl rfl
section
variable {base:Nat} {call:Call} {p:qby} {s:St} {t:List qa} {h:List qg}
def qhT (k:Nat) (xs ys:List qa):Bool:=decide (xs.length + ys.length ≤ qcB) && ys.all (fun y=>y.cells.length == k && y.cells.all qa.storable) && xs.head?.all (fun y=>y.cells.length == k)
def quW (d:Option Nat) (k:Nat) (ys:List qa):Option (List qa×St)→Option (Ex×St)
 | some (xs,s)=>if xs.head?.all (fun y=>y.cells.length == k) then some (.nor,{ s with t:=put d (.lst (xs ++ ys) (.own k)) s.t}) else none
 | none=>none
def qpt (d:Option Nat) (k:Nat) (s:St) (tk:Option (List qa×St)) (x:qa) (ys:Option (List qa)):Option (Ex×St):=
 match x,ys with
 | .lst xs f,some ys=>
  if ys.isEmpty then some (.nor,{ s with t:=put d (qa.lst xs f).dim s.t})
  else if qhT k xs ys = true then
   match f with
   | .full=>some (.nor,{ s with t:=put d (.lst (xs ++ ys) (.own k)) s.t})
   | _=>quW d k ys tk
  else none
 | _,_=>none
theorem qxi (d:Option Nat) (k:Nat) (x y:ql):qq base call p d (.app k x y) s = qpt d k s (qcH k p x s) (raw s.t x) (tail (ev s.t y)):=by
 simp only [qq,qpt,qhT,Bool.and_eq_true,decide_eq_true_eq,and_assoc]
 generalize raw s.t x = v
 generalize tail (ev s.t y) = w
 generalize qcH k p x s = z
 cases v <;> rfl
theorem qrH (ys:List qa) (f:qf4):tail (.lst ys f) = some ys:=rfl
theorem qrI (b:List UInt8):tail (.str b) = some (qgl b):=rfl
theorem qso (d:Option Nat) (k:Nat) (t:List qa) (e:Bool) (tk:Option (List qa×St)) (xs:List qa) (f:qf4):qpt d k ⟨t,h,e⟩ tk (.lst xs f) (some []) = some (.nor,⟨put d (qa.lst xs f).dim t,h,e⟩):=rfl
theorem qpu {d:Option Nat} {k:Nat} {t:List qa} {e:Bool} {tk:Option (List qa×St)} {xs ys:List qa} (hy:ys.isEmpty = false) (hc:qhT k xs ys = true):qpt d k ⟨t,h,e⟩ tk (.lst xs .full) (some ys) = some (.nor,⟨put d (.lst (xs ++ ys) (.own k)) t,h,e⟩):=by
 simp only [qpt,hy,hc,Bool.false_eq_true,if_false,if_true]
theorem qsp {d:Option Nat} {k j:Nat} {s:St} {tk:Option (List qa×St)} {xs ys:List qa} (hy:ys.isEmpty = false) (hc:qhT k xs ys = true):qpt d k s tk (.lst xs (.own j)) (some ys) = quW d k ys tk:=by
 simp only [qpt,hy,hc,Bool.false_eq_true,if_false,if_true]
theorem quX {d:Option Nat} {k:Nat} {s:St} {tk:Option (List qa×St)} {xs ys:List qa} (hy:ys.isEmpty = false) (hc:qhT k xs ys = true):qpt d k s tk (.lst xs .no) (some ys) = quW d k ys tk:=by
 simp only [qpt,hy,hc,Bool.false_eq_true,if_false,if_true]
theorem qlr {d:Option Nat} {k:Nat} {t:List qa} {e:Bool} {xs ys:List qa} (hc:qhT k xs ys = true):quW d k ys (some (xs,⟨t,h,e⟩)) = some (.nor,⟨put d (.lst (xs ++ ys) (.own k)) t,h,e⟩):=by
 simp only [qhT,Bool.and_eq_true] at hc
 simp only [quW,hc.2,if_true]
def qaW (p:qby) (i:Nat):Option Src:=(p.find? (·.1 == i)).map (·.2)
def qrK (k b:Nat) (s:St) (v:qa):Option (List qa×St):=
 match v with
 | .lst xs (.own j)=>if j = k then some (xs,{ s with t:=s.t.set b (.lst xs .no)}) else none
 | _=>none
def quD (k:Nat) (s:St) (id o:Nat) (c:Option qg):Option (List qa×St):=
 match c with
 | some (.cells cs)=>
  match cs[o]? with
  | some (.lst xs (.own j))=>if j = k then some (xs,{ s with h:=s.h.set id (.cells (cs.set o (.lst xs .no)))}) else none
  | _=>none
 | _=>none
def qrJ (k:Nat) (s:St) (a:qa):Option (List qa×St):=
 match a with
 | .ptr id o=>quD k s id o s.h[id]?
 | _=>none
def qk8 (k:Nat) (s:St):Option Src→Option (List qa×St)
 | some (.tmp b)=>qrK k b s (lkp s.t b)
 | some (.cell a)=>qrJ k s (ev s.t a)
 | none=>none
def qpc (k i:Nat) (s:St) (v:qa) (src:Option Src):Option (List qa×St):=
 match v with
 | .lst xs (.own j)=>if j = k then some (xs,{ s with t:=s.t.set i (.lst xs .no)}) else none
 | _=>qk8 k s src
theorem quF (k:Nat) (i:Nat):qcH k p (.t i) s = qpc k i s (lkp s.t i) (qaW p i):=by
 simp only [qcH,qpc,lkp,qaW]
 generalize hv:s.t.getD i .undef = v
 have key:(match p.find? (·.1 == i) with
   | some (_,.tmp b)=>
    match s.t.getD b .undef with
    | .lst xs (.own j)=>if j = k then some (xs,{ s with t:=s.t.set b (.lst xs .no)}) else none
    | _=>none
   | some (_,.cell a)=>
    match ev s.t a with
    | .ptr id o=>
     match s.h[id]? with
     | some (.cells cs)=>
      match cs[o]? with
      | some (.lst xs (.own j))=>if j = k then some (xs,{ s with h:=s.h.set id (.cells (cs.set o (.lst xs .no)))}) else none
      | _=>none
     | _=>none
    | _=>none
   | none=>none) = qk8 k s ((p.find? (·.1 == i)).map (·.2)):=by
  cases p.find? (·.1 == i) with
  | none=>rfl
  | some q=>
   obtain ⟨_,src⟩:=q
   cases src with
   | tmp b=>rfl
   | cell a=>
    simp only [Option.map_some,qk8,qrJ]
    cases ev s.t a <;> rfl
 cases v with
 | lst xs f=>cases f <;> first | rfl | exact key
 | _=>exact key
theorem qpd (k i:Nat) (t:List qa) (e:Bool) (xs:List qa) (src:Option Src):qpc k i ⟨t,h,e⟩ (.lst xs (.own k)) src = some (xs,⟨up t i (.lst xs .no),h,e⟩):=by simp [qpc,up]
theorem qrL (k i:Nat) (xs:List qa) (src:Option Src):qpc k i s (.lst xs .no) src = qk8 k s src:=rfl
theorem qpa (k b:Nat):qk8 k s (some (.tmp b)) = qrK k b s (lkp s.t b):=rfl
theorem qk9 (k:Nat) (a:ql):qk8 k s (some (.cell a)) = qrJ k s (ev s.t a):=rfl
theorem qpb (k b:Nat) (t:List qa) (e:Bool) (xs:List qa):qrK k b ⟨t,h,e⟩ (.lst xs (.own k)) = some (xs,⟨up t b (.lst xs .no),h,e⟩):=by simp [qrK,up]
theorem qo9 (k id o:Nat):qrJ k s (.ptr id o) = quD k s id o s.h[id]?:=rfl
def quE (k:Nat) (s:St) (id o:Nat) (cs:List qa) (v:Option qa):Option (List qa×St):=
 match v with
 | some (.lst xs (.own j))=>if j = k then some (xs,{ s with h:=s.h.set id (.cells (cs.set o (.lst xs .no)))}) else none
 | _=>none
theorem qiT (k id o:Nat) (cs:List qa):quD k s id o (some (.cells cs)) = quE k s id o cs cs[o]?:=rfl
theorem qo8 (k id o:Nat) (t:List qa) (e:Bool) (cs xs:List qa):quE k ⟨t,h,e⟩ id o cs (some (.lst xs (.own k))) = some (xs,⟨t,h.set id (.cells (cs.set o (.lst xs .no))),e⟩):=by simp [quE]
theorem qus (i:Nat):qaW [] i = none:=rfl
def qaZ (p:qby) (d:Option Nat) (o:AOp):qby:=
 match d with
 | none=>p
 | some d=>
  let q:=p.filter fun x=>x.1 != d && !x.2.hangs d
  match qad o with
  | some s=>if s.hangs d then q else (d,s) :: q
  | none=>q
def qa0 (p:qby) (d:Option Nat):qby:=
 match d with
 | none=>p.filter fun x=>x.2.isTmp
 | some d=>p.filter fun x=>x.2.isTmp && (x.1 != d && !x.2.hangs d)
theorem qrn {d:Option Nat} {o:AOp} {g:Option (Nat×Bool)} (ho:o.effs = true):qZ p ⟨d,o,g⟩ = qa0 p d:=by simp only [qZ,ho,if_true,qa0];cases d <;> rfl
theorem qt9 {d:Option Nat} {o:AOp} {g:Option (Nat×Bool)} (ho:o.effs = false):qZ p ⟨d,o,g⟩ = qaZ p d o:=by simp only [qZ,ho,Bool.false_eq_true,if_false,qaZ];cases d <;> rfl
end
theorem qsB (k:IntKind) (a b:Int):qbg .add (.int k a) (.int k b) = some (.int k (k.wrap (a + b))):=by simp [qbg,qbw]
theorem qsL (k:IntKind) (a b:Int):qbg .sub (.int k a) (.int k b) = some (.int k (k.wrap (a - b))):=by simp [qbg,qbw]
theorem qsH (k:IntKind) (a b:Int):qbg .mul (.int k a) (.int k b) = some (.int k (k.wrap (a * b))):=by simp [qbg,qbw]
theorem qsJ (k:IntKind) (a b:Int):qbg .quo (.int k a) (.int k b) = if b = 0 then none else some (.int k (k.wrap (a.tdiv b))):=by simp [qbg,qbw]
theorem qsK (k:IntKind) (a b:Int):qbg .rem (.int k a) (.int k b) = if b = 0 then none else some (.int k (a.tmod b)):=by simp [qbg,qbw]
theorem qsC (k:IntKind) (a b:Int):qbg .eql (.int k a) (.int k b) = some (.bool (a == b)):=by simp [qbg,qbw]
theorem qsI (k:IntKind) (a b:Int):qbg .neq (.int k a) (.int k b) = some (.bool (!(a == b))):=by simp [qbg,qbw,bne]
theorem qsG (k:IntKind) (a b:Int):qbg .lss (.int k a) (.int k b) = some (.bool (ilt a b)):=by simp [qbg,qbw]
theorem qsF (k:IntKind) (a b:Int):qbg .leq (.int k a) (.int k b) = some (.bool (ile a b)):=by simp [qbg,qbw]
theorem qsE (k:IntKind) (a b:Int):qbg .gtr (.int k a) (.int k b) = some (.bool (ilt b a)):=by simp [qbg,qbw]
theorem qsD (k:IntKind) (a b:Int):qbg .geq (.int k a) (.int k b) = some (.bool (ile b a)):=by simp [qbg,qbw]
theorem qux (a b:List UInt8):qbg .add (.str a) (.str b) = if a.length + b.length ≤ qcB then some (.str (a ++ b)) else none:=rfl
theorem quy (a b:List UInt8):qbg .eql (.str a) (.str b) = some (.bool (a == b)):=rfl
theorem quB (a b:List UInt8):qbg .neq (.str a) (.str b) = some (.bool (!(a == b))):=rfl
theorem quA (a b:List UInt8):qbg .lss (.str a) (.str b) = some (.bool (Op.bytesLess a b)):=rfl
theorem quz (a b:List UInt8):qbg .gtr (.str a) (.str b) = some (.bool (!(Op.bytesLess a b || a == b))):=rfl
theorem qxB (k:IntKind) (n:Int):unV .neg (.int k n) = some (.int k (k.wrap (0 - n))):=rfl
theorem qxC (b:Bool):unV .not (.bool b) = some (.bool (!b)):=rfl
section
variable {base:Nat} {call:Call} {p:qby} {s:St}
def qhm (k:Nat) (zero:List qa) (len:Nat) (parts:List (Nat×qa)):Option qa:=
 if zero.length = k∧len * k ≤ 2 ^ 24 then
  match qaY ((List.replicate len zero).flatten) (parts.map fun (i,x)=>(i * k,k,x)) with
  | some cs=>if cs.all qa.storable then some (.lst ((List.range len).map fun i=>if k = 1 then (cs.getD i .undef) else .agg ((cs.drop (i * k)).take k)) .full) else none
  | none=>none
 else none
theorem qt5 (d:Option Nat) (k:Nat) (z:List qa) (len:Nat) (ps:List (Nat×ql)):qq base call p d (.list k z len ps) s = qfl d s (qhm k z len (ps.map fun (i,x)=>(i,ev s.t x))):=by
 rw [qao _ _ rfl (by simp) (by simp) (by simp)]
 simp only [pureV,qhm,List.map_map]
 rfl
theorem qha {k:Nat} {z:List qa} (hz:z.length = k):∀(vs:List qa) (D:List qa) (j:Nat),D.length = j * k→(∀v ∈ vs,v.cells.length = k∧v.cells.all qa.storable = true)→
  qaY (D ++ (List.replicate vs.length z).flatten) ((vs.zipIdx j).map fun x=>(x.2 * k,k,x.1)) = some (D ++ (vs.map qa.cells).flatten)
 | [],D,j,_,_=>by simp [qaY]
 | v :: vs,D,j,hD,hv=>by
  obtain ⟨h1,h2⟩:=hv v (List.mem_cons_self ..)
  have ih:=qha hz vs (D ++ v.cells) (j + 1) (by rw [List.length_append,hD,h1,Nat.add_mul,Nat.one_mul]) fun w hw=>hv w (List.mem_cons_of_mem _ hw)
  simp only [List.zipIdx_cons,List.map_cons,qaY,List.length_cons,List.replicate_succ,List.flatten_cons,h2]
  rw [if_pos ⟨h1,by simp [hD,hz],trivial⟩]
  have e:splice (D ++ (z ++ (List.replicate vs.length z).flatten)) (j * k) v.cells = (D ++ v.cells) ++ (List.replicate vs.length z).flatten:=by
   unfold splice
   rw [←hD,List.take_left,h1,←List.drop_drop,List.drop_left,←hz,List.drop_left]
  rw [e,ih,List.append_assoc]
theorem qeM {k:Nat}:∀(vs:List (List qa)) (i:Nat),(∀v ∈ vs,v.length = k)→i < vs.length→(vs.flatten.drop (i * k)).take k = vs.getD i []
 | [],i,_,h=>by simp at h
 | v :: vs,0,hv,_=>by
  have:=hv v (List.mem_cons_self ..)
  simp [←this]
 | v :: vs,i + 1,hv,h=>by
  have h1:=hv v (List.mem_cons_self ..)
  rw [List.flatten_cons,Nat.add_mul,Nat.one_mul,Nat.add_comm,←List.drop_drop,←h1,List.drop_left,h1,qeM vs i (fun w hw=>hv w (List.mem_cons_of_mem _ hw)) (by simpa using h)]
  rfl
theorem qnV {k:Nat} {z:List qa} (hz:z.length = k) (h1:k ≠ 1) (vs:List (List qa)) (hl:vs.length * k ≤ 2 ^ 24) (hv:∀v ∈ vs,v.length = k∧v.all qa.storable = true) :
  qhm k z vs.length ((vs.map qa.agg).zipIdx.map fun x=>(x.2,x.1)) = some (.lst (vs.map qa.agg) .full):=by
 have hf:=qha hz (vs.map qa.agg) [] 0 (by simp) (by simpa [qa.cells] using hv)
 simp only [List.nil_append,List.length_map,List.map_map] at hf
 have hc:(vs.map (qa.cells ∘ qa.agg)).flatten = vs.flatten:=by
  congr 1
  exact (List.map_congr_left fun v _=>rfl).trans (List.map_id vs)
 simp only [qhm,List.map_map]
 rw [if_pos ⟨hz,hl⟩]
 rw [show ((fun x:Nat×qa=>(x.1 * k,k,x.2)) ∘ fun x:qa×Nat=>(x.2,x.1)) = fun x:qa×Nat=>(x.2 * k,k,x.1) from rfl,hf,hc]
 have hst:vs.flatten.all qa.storable = true:=by
  simp only [List.all_flatten,List.all_eq_true]
  exact fun v hvm=>List.all_eq_true.1 (hv v hvm).2
 simp only [hst,if_true,if_neg h1]
 congr 2
 apply List.ext_getElem?
 intro i
 rw [List.getElem?_map,List.getElem?_map]
 by_cases hi:i < vs.length
 ·rw [List.getElem?_range hi,List.getElem?_eq_getElem hi]
  simp only [Option.map_some]
  rw [qeM vs i (fun v hvm=>(hv v hvm).1) hi]
  simp [List.getD,List.getElem?_eq_getElem hi]
 ·rw [List.getElem?_eq_none (by simpa using hi),List.getElem?_eq_none (by simpa using hi)]
  rfl
theorem qnU {k:Nat} {z a:List qa} (hz:z.length = k) (h1:k ≠ 1) (ha:a.length = k) (sa:a.all qa.storable = true) (hl:k ≤ 1000):qhm k z 1 [(0,.agg a)] = some (.lst [.agg a] .full):=
 qnV hz h1 [a] (by simp;omega) (by simpa using ⟨ha,by simpa using sa⟩)
end
theorem qhg (c b:Bool) (d:Option Nat) (s:St) (r:Option qa) (k:St→Option (Ex×St)):qdI (.bool c) b d s r k = qm (c == b) d s r k:=Eq.trans rfl rfl
theorem qim (b:Bool) (d:Option Nat) (s:St) (r:Option qa) (k:St→Option (Ex×St)):qdI (.tup []) b d s r k = qm false d s r k:=Eq.trans rfl rfl
theorem qhh (d:Option Nat) (t:List qa) (h:List qg) (e:Bool) (v:qa) (k:St→Option (Ex×St)):qm true d ⟨t,h,e⟩ (some v) k = k ⟨put d v t,h,e⟩:=Eq.trans rfl rfl
theorem qgk (d:Option Nat) (t:List qa) (h:List qg) (e:Bool) (r:Option qa) (k:St→Option (Ex×St)):qm false d ⟨t,h,e⟩ r k = k ⟨put d (.tup []) t,h,e⟩:=Eq.trans rfl rfl
theorem qkg (d:Option Nat) (t:List qa) (h:List qg) (e:Bool) (r:Option (Ex×St)) (k:St→Option (Ex×St)):qdH (.bool true) false d ⟨t,h,e⟩ r k = k ⟨put d (.tup []) t,h,e⟩:=Eq.trans rfl rfl
theorem qke (d:Option Nat) (t:List qa) (h:List qg) (e:Bool) (r:Option (Ex×St)) (k:St→Option (Ex×St)):qdH (.bool false) true d ⟨t,h,e⟩ r k = k ⟨put d (.tup []) t,h,e⟩:=Eq.trans rfl rfl
theorem qil (b:Bool) (d:Option Nat) (t:List qa) (h:List qg) (e:Bool) (r:Option (Ex×St)) (k:St→Option (Ex×St)):qdH (.tup []) b d ⟨t,h,e⟩ r k = k ⟨put d (.tup []) t,h,e⟩:=Eq.trans rfl rfl
theorem qj0 (r:Option qa):qV true r = r:=Eq.trans rfl rfl
theorem qih (r:Option qa):qV false r = some (.tup []):=Eq.trans rfl rfl
theorem qqy (v:qa):gv true v = v:=Eq.trans rfl rfl
theorem qmS (v:qa):gv false v = .tup []:=Eq.trans rfl rfl
section
variable {base:Nat} {call:Call} {p:qby} {s:St}
theorem qld (f:St→Option (Ex×St)) (s:St):qbz f (some (.nor,s)) = f s:=Eq.trans rfl rfl
end
theorem qh1 (a b:Option (Ex×St)):qsS (.bool true) a b = a:=Eq.trans rfl rfl
theorem qgZ (a b:Option (Ex×St)):qsS (.bool false) a b = b:=Eq.trans rfl rfl
theorem qx4 (d:Nat) (o:AOp):ao d o = ⟨some d,o,none⟩:=Eq.trans rfl rfl
theorem qx2 (d:Nat) (o:AOp) (j:Nat) (b:Bool):ag d o j b = ⟨some d,o,some (j,b)⟩:=Eq.trans rfl rfl
theorem qx3 (o:AOp):an o = ⟨none,o,none⟩:=Eq.trans rfl rfl
theorem qoY (cs:List qa) (o:Nat) (vs:List qa):splice cs o vs = cs.take o ++ vs ++ cs.drop (o + vs.length):=Eq.trans rfl rfl
theorem qHu (d i:Nat):mv d i=⟨some d,.mov (.t i),none⟩:=Eq.trans rfl rfl
theorem qHy (d i:Nat):sg d i=⟨some d,.asg (.t i),none⟩:=Eq.trans rfl rfl
theorem qFZ (d k i:Nat):fA d k i=⟨some d,.fa k (.t i),none⟩:=Eq.trans rfl rfl
theorem qCr (d i:Nat):ldn d i=⟨some d,.ld none (.t i),none⟩:=Eq.trans rfl rfl
theorem qCs (d k i:Nat):lds d k i=⟨some d,.ld (some k) (.t i),none⟩:=Eq.trans rfl rfl
theorem qCJ (k i j:Nat):sts k i j=⟨none,.st (some k) (.t i) (.t j),none⟩:=Eq.trans rfl rfl
theorem qCI (i j:Nat):stn i j=⟨none,.st none (.t i) (.t j),none⟩:=Eq.trans rfl rfl
theorem qCL (d i k:Nat):xtt d i k=⟨some d,.ext (.t i) k,none⟩:=Eq.trans rfl rfl
theorem qCv (d i:Nat):nlc d i=⟨some d,.nilc (.t i),none⟩:=Eq.trans rfl rfl
theorem qCK (d k i j:Nat):xlL d k i j=⟨some d,.ixaL k (.t i) (.t j),none⟩:=Eq.trans rfl rfl
theorem qCt (d i:Nat):lnn d i=⟨some d,.len false (.t i),none⟩:=Eq.trans rfl rfl
theorem qF1 (n:Int):kI n=.c (.int .i64 n):=Eq.trans rfl rfl
theorem qF0 (n:Nat):kF n=.c (.fn n [] []):=Eq.trans rfl rfl
theorem qF2:kO=.c (.bool false):=Eq.trans rfl rfl
theorem qF3:kU=.c (.bool true):=Eq.trans rfl rfl
theorem qHv:nL=.lst [] .full:=Eq.trans rfl rfl
theorem qHB:zZ=.int .i64 0:=Eq.trans rfl rfl
theorem qHA:zS=.str []:=Eq.trans rfl rfl
def sT:=PLift.up (And.intro (And.intro (And.intro (And.intro (And.intro (And.intro (And.intro (And.intro @qdB (And.intro @qjX @qqm)) (And.intro (And.intro @qjW @qmu) (And.intro @qib @qCF))) (And.intro (And.intro @qjV (And.intro @qpX @qpV)) (And.intro (And.intro @qjP @qs9) (And.intro @qpW @qqX)))) (And.intro (And.intro (And.intro @qmh (And.intro @qmi @qjY)) (And.intro (And.intro @qig @qpG) (And.intro @qlL @qvb))) (And.intro (And.intro @qsP (And.intro @qlx @qlu)) (And.intro (And.intro @qnS @qkC) (And.intro @qiu @qkA))))) (And.intro (And.intro (And.intro (And.intro @qkB (And.intro @qnE @qnJ)) (And.intro (And.intro @qnK @qnI) (And.intro @qq3 @qnG))) (And.intro (And.intro @qnH (And.intro @qnF @qnR)) (And.intro (And.intro @qnQ @qkE) (And.intro @qkD @qq1)))) (And.intro (And.intro (And.intro @qkz (And.intro @qky @qnO)) (And.intro (And.intro @qnN @qnM) (And.intro @qnL @qnP))) (And.intro (And.intro (And.intro @qq2 @qnT) (And.intro @qoz @qqg)) (And.intro (And.intro @qnl @qkX) (And.intro @qmo @qkp)))))) (And.intro (And.intro (And.intro (And.intro (And.intro @qiG (And.intro @qjR @qip)) (And.intro (And.intro @qkV @qmm) (And.intro @qkn @qrj))) (And.intro (And.intro @qtc (And.intro @qqP @qkW)) (And.intro (And.intro @qmn @qko) (And.intro @qok @qp1)))) (And.intro (And.intro (And.intro @qm6 (And.intro @qoq @qp7)) (And.intro (And.intro @qnc @qor) (And.intro @qp8 @qnd))) (And.intro (And.intro (And.intro @qop @qp6) (And.intro @qnb @qrm)) (And.intro (And.intro @qtf @qqS) (And.intro @qon @qp4))))) (And.intro (And.intro (And.intro (And.intro @qm9 (And.intro @qoo @qp5)) (And.intro (And.intro @qna @qom) (And.intro @qp3 @qm8))) (And.intro (And.intro @qoy (And.intro @qqf @qnk)) (And.intro (And.intro @qox @qqe) (And.intro @qnj @qkZ)))) (And.intro (And.intro (And.intro @qmq (And.intro @qkr @qkY)) (And.intro (And.intro @qmp @qkq) (And.intro @qri @qtb))) (And.intro (And.intro (And.intro @qqO @qkU) (And.intro @qml @qkm)) (And.intro (And.intro @qkT @qmk) (And.intro @qkl @qov))))))) (And.intro (And.intro (And.intro (And.intro (And.intro (And.intro @qqc (And.intro @qnh @qou)) (And.intro (And.intro @qqb @qng) (And.intro @qot @qqa))) (And.intro (And.intro @qnf (And.intro @qos @qp9)) (And.intro (And.intro @qne @qow) (And.intro @qqd @qni)))) (And.intro (And.intro (And.intro @qrk (And.intro @qtd @qqQ)) (And.intro (And.intro @qoD @qqj) (And.intro @qno @qoj))) (And.intro (And.intro (And.intro @qp0 @qm5) (And.intro @qoA @qqh)) (And.intro (And.intro @qnm @qol) (And.intro @qp2 @qm7))))) (And.intro (And.intro (And.intro (And.intro @qrl (And.intro @qte @qqR)) (And.intro (And.intro @qkS @qmj) (And.intro @qkk @qoi))) (And.intro (And.intro @qpZ (And.intro @qm4 @qoC)) (And.intro (And.intro @qqi @qnn) (And.intro @qCy @qxw)))) (And.intro (And.intro (And.intro @qub (And.intro @qua @qxp)) (And.intro (And.intro @qxj @qoe) (And.intro @qxl @qr3))) (And.intro (And.intro (And.intro @qxs @qod) (And.intro @qsb @qoc)) (And.intro (And.intro @qxq @qxm) (And.intro @qCw @qr8)))))) (And.intro (And.intro (And.intro (And.intro (And.intro @qt4 (And.intro @qrd @qt5)) (And.intro (And.intro @qxk @qsN) (And.intro @qsc @qq9))) (And.intro (And.intro @qra (And.intro @qxn @qsa)) (And.intro (And.intro @qr9 @qr7) (And.intro @qqp @qr5)))) (And.intro (And.intro (And.intro @qms (And.intro @qr6 @qr4)) (And.intro (And.intro @qpL @qxo) (And.intro @qxf @qtZ))) (And.intro (And.intro (And.intro @qxr @qkP) (And.intro @qlC @qlB)) (And.intro (And.intro @qrq @qrp) (And.intro @qld @qph))))) (And.intro (And.intro (And.intro (And.intro @qlc (And.intro @qpg @qjD)) (And.intro (And.intro @qjF @qjE) (And.intro @qhU @qh1))) (And.intro (And.intro @qgZ (And.intro @qn5 @qn6)) (And.intro (And.intro @qFY @qFX) (And.intro @qCA @qCz)))) (And.intro (And.intro (And.intro @qi (And.intro @qtV @qtW)) (And.intro (And.intro @qnX @qnW) (And.intro @qmg @qmf))) (And.intro (And.intro (And.intro @qjM @qma) (And.intro @qmd @qg2)) (And.intro (And.intro @qmc @qjO) (And.intro @ql8 @qme)))))))) (And.intro (And.intro (And.intro (And.intro (And.intro (And.intro (And.intro @qpS (And.intro @qpT @qjN)) (And.intro (And.intro @qmb @qh5) (And.intro @ql9 @qpP))) (And.intro (And.intro @qs2 (And.intro @qs5 @qs4)) (And.intro (And.intro @qpR @qs1) (And.intro @qs6 @qvf)))) (And.intro (And.intro (And.intro @ql7 (And.intro @qjL @qh4)) (And.intro (And.intro @qg1 @ql6) (And.intro @qs7 @qvh))) (And.intro (And.intro (And.intro @qpQ @qs3) (And.intro @qvg @qhd)) (And.intro (And.intro @qbh @qtu) (And.intro @qun @qaj))))) (And.intro (And.intro (And.intro (And.intro @qtv (And.intro @qtt @qum)) (And.intro (And.intro @qmE @qoX) (And.intro @qj3 @qsf))) (And.intro (And.intro @qjt (And.intro @qlD @qlE)) (And.intro (And.intro @qlH @qjH) (And.intro @qlF @qlG)))) (And.intro (And.intro (And.intro @qgW (And.intro @qpD @qfs)) (And.intro (And.intro @qhX @qlI) (And.intro @qpI @qnv))) (And.intro (And.intro (And.intro @qqW @qnw) (And.intro @qoH @qoI)) (And.intro (And.intro @qut @qoZ) (And.intro @qgB @qgD)))))) (And.intro (And.intro (And.intro (And.intro (And.intro @qo1 (And.intro @qrB @qrC)) (And.intro (And.intro @qo2 @qiR) (And.intro @qhI @quv))) (And.intro (And.intro @qrD (And.intro @qgC @qk6)) (And.intro (And.intro @qiy @qkG) (And.intro @qhp @qhr)))) (And.intro (And.intro (And.intro @qhq (And.intro @qnZ @qn1)) (And.intro (And.intro @qkH @qnY) (And.intro @qgq @qfv))) (And.intro (And.intro (And.intro @qix @qq6) (And.intro @qho @qn0)) (And.intro (And.intro @qfM @qe2) (And.intro @qrA @qtk))))) (And.intro (And.intro (And.intro (And.intro @qqq (And.intro @qn9 @qkK)) (And.intro (And.intro @qq0 @qqZ) (And.intro @qqt @qoJ))) (And.intro (And.intro @qpJ (And.intro @qsB @qsL)) (And.intro (And.intro @qsH @qsJ) (And.intro @qsK @qsC)))) (And.intro (And.intro (And.intro @qsI (And.intro @qsG @qsF)) (And.intro (And.intro @qsE @qsD) (And.intro @qux @quy))) (And.intro (And.intro (And.intro @quB @quA) (And.intro @quz @qxB)) (And.intro (And.intro @qxC @qkQ) (And.intro @qiF @qrh))))))) (And.intro (And.intro (And.intro (And.intro (And.intro (And.intro @qt7 (And.intro @qhg @qim)) (And.intro (And.intro @qmR @qkh) (And.intro @qhh @qgk))) (And.intro (And.intro @qin (And.intro @qtJ @qsz)) (And.intro (And.intro @qm3 @qyy) (And.intro @qya @qtL)))) (And.intro (And.intro (And.intro @qyx (And.intro @qx9 @qtK)) (And.intro (And.intro @qvC @qu7) (And.intro @qqK @qvy))) (And.intro (And.intro (And.intro @qu3 @qqG) (And.intro @qyA @qyc)) (And.intro (And.intro @qtN @qtH) (And.intro @qsx @qm1))))) (And.intro (And.intro (And.intro (And.intro @qvx (And.intro @qu2 @qqF)) (And.intro (And.intro @qvu @quZ) (And.intro @qqC @qvD))) (And.intro (And.intro @qu8 (And.intro @qqL @qvA)) (And.intro (And.intro @qu5 @qqI) (And.intro @qtF @qsv)))) (And.intro (And.intro (And.intro @qmZ (And.intro @qvB @qu6)) (And.intro (And.intro @qqJ @qtG) (And.intro @qsw @qm0))) (And.intro (And.intro (And.intro @qvz @qu4) (And.intro @qqH @qtE)) (And.intro (And.intro @qsu @qmY) (And.intro @qvt @quY)))))) (And.intro (And.intro (And.intro (And.intro (And.intro @qqB (And.intro @qtB @qsr)) (And.intro (And.intro @qmV @qvv) (And.intro @qu0 @qqD))) (And.intro (And.intro @qtC (And.intro @qss @qmW)) (And.intro (And.intro @qvw @qu1) (And.intro @qqE @qtD)))) (And.intro (And.intro (And.intro @qst (And.intro @qmX @qyz)) (And.intro (And.intro @qyb @qtM) (And.intro @qvE @qu9))) (And.intro (And.intro (And.intro @qqM @qtI) (And.intro @qsy @qm2)) (And.intro (And.intro @qqz @qpv) (And.intro @qki @qqA))))) (And.intro (And.intro (And.intro (And.intro @qpw (And.intro @qkj @qmC)) (And.intro (And.intro @qj0 @qih) (And.intro @qym @qqy))) (And.intro (And.intro @qmS (And.intro @qkf @qkg)) (And.intro (And.intro @qke @qil) (And.intro @qtP @qqT)))) (And.intro (And.intro (And.intro @qi6 (And.intro @qql @qqk)) (And.intro (And.intro @qmr @que) (And.intro @quf @qrr))) (And.intro (And.intro (And.intro @qjJ @qkM) (And.intro @qkL @qkN)) (And.intro (And.intro @qnC @qkx) (And.intro @qnB @qkw)))))))))
def sC:=PLift.up (And.intro (And.intro (And.intro (And.intro (And.intro @List.nil_append.{0} (And.intro @List.append_nil.{0} @List.map_cons.{0,0})) (And.intro (And.intro @List.map_nil.{0,0} @List.length_cons.{0}) (And.intro @List.length_nil.{0} @List.cons_append.{0}))) (And.intro (And.intro (And.intro (And.intro (And.intro (And.intro (And.intro (And.intro (And.intro (And.intro (And.intro (And.intro (And.intro (And.intro (And.intro (And.intro (And.intro (And.intro (And.intro (And.intro (And.intro @qx4 @qHu) @qHy) @qFZ) @qCr) @qCs) @qCJ) @qCI) @qCL) @qCv) @qCK) @qCt) @qF1) @qF0) @qF2) @qF3) @qHv) @qHB) @qHA) @qx2) (And.intro @qx3 @Option.map_some.{0,0})) (And.intro (And.intro @ne_eq.{1} @not_false_eq_true) (And.intro @List.length_set.{0} @List.length_replicate.{0})))) (And.intro (And.intro (And.intro @Bool.or_false (And.intro @Bool.or_true @Bool.false_or)) (And.intro (And.intro @Bool.true_or @Bool.and_true) (And.intro @Bool.and_false @Bool.true_and))) (And.intro (And.intro (And.intro @Bool.false_and @Bool.not_true) (And.intro @Bool.not_false @eq_self.{1})) (And.intro (And.intro @List.getElem?_cons_zero.{0} @List.getElem?_cons_succ.{0}) (And.intro @List.set_cons_zero.{0} @List.set_cons_succ.{0}))))) (And.intro (And.intro (And.intro (And.intro @List.append_assoc.{0} (And.intro @List.length_append.{0} @qoY)) (And.intro (And.intro @List.take_zero.{0} @List.drop_zero.{0}) (And.intro @List.take_succ_cons.{0} @List.drop_succ_cons.{0}))) (And.intro (And.intro (And.intro @List.drop_nil.{0} @List.take_nil.{0}) (And.intro @List.all_cons.{0} @List.all_nil.{0})) (And.intro (And.intro @Option.getD_some.{0} @Option.getD_none.{0}) (And.intro @and_self @and_true)))) (And.intro (And.intro (And.intro (And.intro @true_and @if_true.{1}) (And.intro @if_false.{1} @Nat.le_refl)) (And.intro (And.intro @Nat.ble_self_eq_true @Nat.zero_add) (And.intro @Nat.add_zero @beq_self_eq_true.{0}))) (And.intro (And.intro (And.intro @Bool.false_eq_true @bne_self_eq_false.{0}) (And.intro @List.isEmpty_nil.{0} @List.isEmpty_cons.{0})) (And.intro (And.intro @cond_true.{1} @cond_false.{1}) (And.intro @List.filterMap_cons.{0,0} @List.filterMap_nil.{0,0}))))))
def sTA:=PLift.up (And.intro (And.intro (And.intro (And.intro @qud (And.intro @qt6 @qjl)) (And.intro @qhy (And.intro @qxi @qrH))) (And.intro (And.intro @qrI (And.intro @qso @qpu)) (And.intro @qsp (And.intro @quX @qlr)))) (And.intro (And.intro (And.intro @quF (And.intro @qpd @qrL)) (And.intro @qpa (And.intro @qk9 @qpb))) (And.intro (And.intro @qo9 (And.intro @qiT @qo8)) (And.intro @qus (And.intro @qrn @qt9)))))
def sCA:=PLift.up (And.intro (And.intro @List.filter_cons.{0} @List.filter_nil.{0}) (And.intro @List.find?_cons.{0} @List.find?_nil.{0}))
section
variable {base:Nat} {call:Call} {p:qby} {s:St} {t:List qa} {h:List qg}
def hxW (d:Option Nat) (s:St):Option (qa×List qg×Bool)→Option (Ex×St)
 | some (v,h,e)=>some (.nor,{ t:=put d v.dim s.t,h,e:=s.e || e})
 | none=>none
theorem qaP (d:Option Nat) (t:List qa) (h h':List qg) (e e':Bool) (v:qa):hxW d ⟨t,h,e⟩ (some (v,h',e')) = some (.nor,⟨put d v.dim t,h',e || e'⟩):=rfl
theorem qe4 (d:Option Nat) (o:HOp) (aS:List ql):qq base call p d (.hx o aS) s = hxW d s (hop base o (aS.map (ev s.t)) s.h):=by
 simp only [qq]
 cases hop base o (aS.map (ev s.t)) s.h with
 | none=>rfl
 | some r=>rfl
theorem qaV (o:HOp) (aS:List ql):(AOp.hx o aS).plain = false:=Eq.trans rfl rfl
theorem qbu (o:HOp) (aS:List ql):(AOp.hx o aS).effs = true:=Eq.trans rfl rfl
theorem qaQ (o:HOp) (aS:List ql):(AOp.hx o aS).isApp = false:=Eq.trans rfl rfl
theorem qit (id o len cap more:Nat):qis false (.sl id o len cap more) = some (.int .i64 len):=rfl
theorem qA (id o len cap more:Nat):(qa.sl id o len cap more).dim = .sl id o len cap more:=rfl
theorem qo (id o len cap more i:Nat) (t:List qa):qau (.sl id o len cap more) i t = t:=rfl
theorem qo3 (id o len cap more:Nat):(qa.sl id o len cap more).storable = true:=Eq.trans rfl rfl
theorem qpE (id o len cap more:Nat):(qa.sl id o len cap more).cells = [.sl id o len cap more]:=rfl
theorem qcV (n id o len cap more:Nat):(qa.sl id o len cap more).lower n = Nat.blt id n:=Eq.trans rfl rfl
theorem qtT (n:Nat) (v:qa) (H:List qg):q6 n (.ret v) H false = bif v.lower n then (.ret v,H.take n,false) else (.ret v,H,false):=by
 unfold q6
 cases h:v.lower n <;> simp [h]
def qHD (k:Nat) (x y:qa):Option qa:=pureV [x,y] (.subL k (.t 0) none (some (.t 1)))
theorem qtQ (k id o len cap more:Nat) (j:IntKind) (n:Int):qbr k (.sl id o len cap more) (.int j n) = if 0 ≤ n∧n < len then some (.ptr id (o + n.toNat * k)) else none:=rfl
end
section
variable {P:Program} {gl:Nat→Option (List qa)}
theorem qhS:∀call xs h r h' e,qgO call xs h = some (r,h',e)→h' = h:=by
 intro call xs h r hh e hr
 unfold qgO at hr
 split at hr
 ·rename_i x y c
  cases hb:ile 0 x && (ile 0 y && (ile 0 c && ile c 1)) <;> rw [hb] at hr <;> cases hr
  rfl
 ·cases hr
theorem qiS:∀call xs h r h' e,qhJ call xs h = some (r,h',e)→h' = h:=by
 intro call xs h r hh e hr
 unfold qhJ at hr
 split at hr
 ·rename_i x y c
  cases hb:ile 0 x && (ile 0 y && (ile 0 c && (ile c 1 && ile y 18446744073709551615))) <;> rw [hb] at hr <;> cases hr
  rfl
 ·cases hr
theorem qfZ {x y c:Int} {G:qe} {vs:Array Value} (h:G.VL [.int .u64 x,.int .u64 y,.int .u64 c] vs.toList):vs = #[.int .u64 x,.int .u64 y,.int .u64 c]:=by
 simp only [qe.VL,qh,qn] at h
 obtain ⟨v,r,e,rfl,v2,r2,rfl,rfl,v3,r3,rfl,rfl,rfl⟩:=h
 rw [←Array.toArray_toList (xs:=vs),e]
theorem qps {f : FuncId} {pf : Func} (hf : P.funcs[f]? = some pf) (hname : (pf.name == "runtime.NumGoroutine") = false) (hb : pf.body.isNone = true) (hn : Extern.findNext pf = none) (he : Extern.find pf = some add64Entry) : qgL P gl f qgO := by
 intro call hcall hk xs h r h' e' hrun G w vs hr hnt hall
 unfold qgO at hrun
 split at hrun
 ·rename_i x y c
  cases hc:ile 0 x && (ile 0 y && (ile 0 c && ile c 1)) <;> rw [hc] at hrun <;> cases hrun
  simp only [Bool.and_eq_true,qbH,decide_eq_true_eq] at hc
  obtain ⟨c1,c2,c3,c4⟩:=hc
  have hvs:=qfZ hall
  subst hvs
  refine .inr ⟨fun i hi=>by simp at hi,.tuple #[.int .u64 ((x + y + c) % 18446744073709551616),.int .u64 ((x + y + c) / 18446744073709551616)],w,?_,_,G,rfl,Ext.refl _ G _,hr,hnt,?_⟩
  ·rw [run_callFunc_extern hf hname hb hn he,run_add64 x y c c1 c2 c3 c4]
   rfl
  ·simp only [qe.V,qn,qh]
   exact ⟨_,rfl,_,_,rfl,rfl,_,_,rfl,rfl,rfl⟩
 ·cases hrun
def qd7:Array Value→Sem Value:=fun args=>do
 let (x, y, b) ← Extern.MathBitsCarry.three "Sub64" args
 pure (Extern.MathBitsCarry.pair ((x + Extern.MathBitsCarry.m64 - y - b) % Extern.MathBitsCarry.m64) (if x < y + b then 1 else 0))
theorem qoV {P:Program} (x y c:Int) (hx:0 ≤ x) (hy:0 ≤ y) (hc0:0 ≤ c) (hc:c ≤ 1) (hy2:y ≤ 18446744073709551615) (w:World) :
  (qd7 #[.int .u64 x,.int .u64 y,.int .u64 c]).run P w =
   .ok (.tuple #[.int .u64 ((x + 18446744073709551616 - y - c) % 18446744073709551616),.int .u64 (bif ilt x (y + c) then 1 else 0)]) w:=by
 have key:∀k:Nat,k ≤ 1→(qd7 #[.int .u64 x,.int .u64 y,.int .u64 (k:Int)]).run P w =
   .ok (Extern.MathBitsCarry.pair ((x.toNat + Extern.MathBitsCarry.m64 - y.toNat - k) % Extern.MathBitsCarry.m64) (if x.toNat < y.toNat + k then 1 else 0)) w:=by
  intro k hk
  have:k = 0∨k = 1:=by omega
  rcases this with rfl | rfl <;> rfl
 obtain ⟨k,rfl⟩:=Int.eq_ofNat_of_zero_le hc0
 rw [key k (by omega)]
 obtain ⟨X,rfl⟩:=Int.eq_ofNat_of_zero_le hx
 obtain ⟨Y,rfl⟩:=Int.eq_ofNat_of_zero_le hy
 have e1:Int.ofNat ((X + 2 ^ 64 - Y - k) % 2 ^ 64) = ((X:Int) + 18446744073709551616 - (Y:Int) - (k:Int)) % 18446744073709551616:=by
  simp only [Int.ofNat_eq_natCast]
  omega
 have e2:Int.ofNat (if X < Y + k then 1 else 0) = (bif ilt (X:Int) ((Y:Int) + (k:Int)) then 1 else 0):=by
  rw [qr]
  by_cases hlt:X < Y + k
  ·rw [if_pos hlt,decide_eq_true (by omega)];rfl
  ·rw [if_neg hlt,decide_eq_false (by omega)];rfl
 simp only [Extern.MathBitsCarry.pair,Extern.MathBitsCarry.m64,Int.toNat_natCast]
 rw [e1,e2]
theorem qrE {f : FuncId} {pf : Func} (hf : P.funcs[f]? = some pf) (hname : (pf.name == "runtime.NumGoroutine") = false) (hb : pf.body.isNone = true) (hn : Extern.findNext pf = none) (he : Extern.find pf = some qd7) : qgL P gl f qhJ := by
 intro call hcall hk xs h r h' e' hrun G w vs hr hnt hall
 unfold qhJ at hrun
 split at hrun
 ·rename_i x y c
  cases hc:ile 0 x && (ile 0 y && (ile 0 c && (ile c 1 && ile y 18446744073709551615))) <;> rw [hc] at hrun <;> cases hrun
  simp only [Bool.and_eq_true,qbH,decide_eq_true_eq] at hc
  obtain ⟨c1,c2,c3,c4,c5⟩:=hc
  have hvs:=qfZ hall
  subst hvs
  refine .inr ⟨fun i hi=>by simp at hi,.tuple #[.int .u64 ((x + 18446744073709551616 - y - c) % 18446744073709551616),.int .u64 (bif ilt x (y + c) then 1 else 0)],w,?_,_,G,rfl,Ext.refl _ G _,hr,hnt,?_⟩
  ·rw [run_callFunc_extern hf hname hb hn he,qoV x y c c1 c2 c3 c4 c5]
   rfl
  ·simp only [qe.V,qn,qh]
   exact ⟨_,rfl,_,_,rfl,rfl,_,_,rfl,rfl,rfl⟩
 ·cases hrun
theorem qdf {g:AE.Call→List qa→List qg→Option (qaL×List qg×Bool)} (hg:∀call xs h r h' e,g call xs h = some (r,h',e)→h' = h) (call:AE.Call):qF fun _ xs h=>g call xs h:=by
 intro fv xs h r h' e' hr
 obtain rfl:=hg _ _ _ _ _ _ hr
 exact ⟨Nat.le_refl _,fun _=>qH.refl _ _⟩
end
section
variable {P:Program} {gl:Nat→Option (List qa)}
theorem qlS:∀call xs h r h' e,quN call xs h = some (r,h',e)→h' = h:=by
 intro call xs h r hh e hr
 unfold quN at hr
 split at hr
 ·cases hr
  rfl
 ·cases hr
theorem qvc {f : FuncId} {pf : Func} (hf : P.funcs[f]? = some pf) (hname : (pf.name == "runtime.NumGoroutine") = false) (hb : pf.body.isNone = true) (hn : Extern.findNext pf = none) (he : Extern.find pf = some Extern.BytealgCompare.compare) : qgL P gl f quN := by
 intro call hcall hk xs h r h' e' hrun G w vs hr hnt hall
 unfold quN at hrun
 split at hrun
 ·rename_i a b
  cases hrun
  simp only [qe.VL,qh,qn] at hall
  obtain ⟨v,r,e,⟨s,rfl,rfl⟩,v2,r2,rfl,⟨s2,rfl,rfl⟩,rfl⟩:=hall
  have hvs:vs = #[.string s,.string s2]:=by rw [←Array.toArray_toList (xs:=vs),e]
  subst hvs
  refine .inr ⟨fun i hi=>by simp at hi,.int .i64 (Lib.compareBytes s.data.toList s2.data.toList),w,?_,_,G,rfl,Ext.refl _ G _,hr,hnt,?_⟩
  ·rw [run_callFunc_extern hf hname hb hn he,Lib.run_compareString]
   rfl
  ·simp only [qe.V,qn]
 ·cases hrun
end
section
variable {P:Program} {gl:Nat→Option (List qa)}
noncomputable def cellsOf (W:World):Nat→Nat→Option Value:=fun b o=>qhY (W.cell? ⟨b,o,none⟩)
def qsU (P:Program) (S:List TypeId):Bool:=S.all fun t=>decide (t < P.types.size) && P.readableRec t && match P.underlying t with
 | some .bool | some (.int _) | some .string=>true
 | some (.slice e)=>S.contains e && decide (0 < P.cellsOf e)
 | some (.struct fs)=>fs.toList.all fun f=>S.contains f.type
 | _=>false
def qa9 (P:Program) (t:TypeId):Bool:=
 match P.underlying t with
 | some (.struct _)=>true
 | _=>false
def el (P:Program) (t:TypeId) (cs:List qa):qa:=bif qa9 P t then .agg cs else cs.headD .undef
def qf3 (R:TypeId→List qa→Prop):List TypeId→List (List qa)→Prop
 | [],[]=>True
 | t :: ts,a :: aS=>R t a∧qf3 R ts aS
 | _,_=>False
def qc6 (P:Program):Nat→TypeId→List qa→Prop
 | 0,_,_=>False
 | n + 1,t,aS=>
  match P.underlying t with
  | some .bool=>∃b,aS = [.bool b]
  | some (.int k)=>∃z,aS = [.int k z]∧(Lit.int k z).wf = true
  | some .string=>∃s:List UInt8,aS = [.str s]∧s.length ≤ maxLen
  | some (.slice e)=>∃xs:List (List qa),aS = [.lst (xs.map (el P e)) .no]∧xs.length ≤ maxLen∧∀x ∈ xs,qc6 P n e x
  | some (.struct fs)=>∃ass:List (List qa),aS = ass.flatten∧qf3 (qc6 P n) (fs.toList.map (·.type)) ass
  | _=>False
theorem qgN {γ:Nat→Option Nat} {imm:Nat→Nat→Option Value} {k:Nat} {b:Nat}:∀(xs:List qa) (p:Nat),(∀(i:Nat) (x:qa),xs[i]? = some x→x.cells.length = k∧qJ γ imm x.cells b (p + i * k))→qC γ imm xs b p
 | [],_,_=>trivial
 | x :: xs,p,h=>by
  obtain ⟨h1,h2⟩:=h 0 x rfl
  have ih:=qgN xs (p + k) fun i y hy=>by
   obtain ⟨k1,k2⟩:=h (i + 1) y (by simpa using hy)
   refine ⟨k1,?_⟩
   rw [Nat.add_mul,Nat.one_mul] at k2
   rw [Nat.add_assoc,Nat.add_comm k]
   exact k2
  simp only [Nat.zero_mul,Nat.add_zero] at h2
  cases x with
  | agg cs=>simp only [qa.cells] at h1 h2;simp only [qC,h1];exact ⟨h2,ih⟩
  | _=>
   simp only [qa.cells,List.length_cons,List.length_nil,Nat.zero_add] at h1
   subst h1
   simp only [qa.cells,qJ] at h2
   exact ⟨h2.1,ih⟩
theorem qgM {γ:Nat→Option Nat} {W:World} {b:Nat}:∀(aS:List qa) (vs:List Value) (p:Nat),qh γ (cellsOf W) aS vs→(∀i,i < vs.length→W.cell? ⟨b,p + i,none⟩ = vs[i]?)→qJ γ (cellsOf W) aS b p
 | [],_,_,_,_=>trivial
 | a :: aS,vs,p,h,hc=>by
  simp only [qh] at h
  obtain ⟨v,rest,rfl,h1,h2⟩:=h
  refine ⟨⟨v,qaa.2 ⟨by simpa using hc 0 (by simp),qbI h1⟩,h1⟩,qgM aS rest (p + 1) h2 fun i hi=>?_⟩
  have:=hc (i + 1) (by simpa using hi)
  rw [Nat.add_assoc,Nat.add_comm 1]
  simpa using this
theorem qfi {γ:Nat→Option Nat} {imm:Nat→Nat→Option Value} {R:TypeId→List qa→Prop} {size:TypeId→Nat}:∀(fs:List Field) (o:Nat) (cs:List Value),cs.length = o + (fs.map fun f=>size f.type).sum→
  (∀(j:Nat) f,fs[j]? = some f→f.offset = o + ((fs.take j).map fun f=>size f.type).sum)→(∀f ∈ fs,∃aS,qh γ imm aS ((cs.drop f.offset).take (size f.type))∧R f.type aS)→
  ∃ass:List (List qa),qh γ imm ass.flatten (cs.drop o)∧qf3 R (fs.map (·.type)) ass
 | [],o,cs,hl,_,_=>⟨[],by simp only [List.map_nil,List.sum_nil,Nat.add_zero] at hl;simp [qh,←hl],trivial⟩
 | f :: fs,o,cs,hl,ho,hr=>by
  have h0:f.offset = o:=by simpa using ho 0 f rfl
  obtain ⟨aS,h1,h2⟩:=hr f (List.mem_cons_self ..)
  rw [h0] at h1
  simp only [List.map_cons,List.sum_cons] at hl
  obtain ⟨ass,h3,h4⟩:=qfi fs (o + size f.type) cs (by omega) (fun j g hg=>by
   have:=ho (j + 1) g (by simpa using hg)
   simp only [List.take_succ_cons,List.map_cons,List.sum_cons] at this
   omega) (fun g hg=>hr g (List.mem_cons_of_mem _ hg))
  refine ⟨aS :: ass,?_,h2,h4⟩
  have e:cs.drop o = (cs.drop o).take (size f.type) ++ cs.drop (o + size f.type):=by
   rw [←List.drop_drop,List.take_append_drop]
  rw [e,List.flatten_cons]
  exact qh.append h1 h3
theorem qc6.cells_el {n:Nat} {t:TypeId} {x:List qa} (h:qc6 P n t x):(el P t x).cells = x:=by
 cases n with
 | zero=>exact h.elim
 | succ n=>
  simp only [qc6] at h
  simp only [el,qa9]
  split at h
  ·rename_i hu;obtain ⟨b,rfl⟩:=h;rw [hu];rfl
  ·rename_i hu;obtain ⟨b,rfl,_⟩:=h;rw [hu];rfl
  ·rename_i hu;obtain ⟨b,rfl,_⟩:=h;rw [hu];rfl
  ·rename_i hu;obtain ⟨b,rfl,_⟩:=h;rw [hu];rfl
  ·rename_i hu;rw [hu];rfl
  ·exact h.elim
theorem qlT {α:Type} {Q:Nat→α→Prop}:∀len:Nat,(∀i,i < len→∃a,Q i a)→∃xs:List α,xs.length = len∧∀i x,xs[i]? = some x→Q i x
 | 0,_=>⟨[],rfl,fun i x h=>by simp at h⟩
 | len + 1,h=>by
  obtain ⟨xs,h1,h2⟩:=qlT len fun i hi=>h i (by omega)
  obtain ⟨y,h3⟩:=h len (by omega)
  refine ⟨xs ++ [y],by simp [h1],fun i x hi=>?_⟩
  rcases Nat.lt_or_ge i xs.length with hlt | hge
  ·rw [List.getElem?_append_left hlt] at hi;exact h2 i x hi
  ·rw [List.getElem?_append_right hge] at hi
   have:i - xs.length = 0:=by
    rcases Nat.eq_zero_or_pos (i - xs.length) with h | h
    ·exact h
    ·rw [List.getElem?_eq_none (by simp only [List.length_cons,List.length_nil];omega)] at hi;cases hi
   rw [this] at hi
   simp only [List.getElem?_cons_zero,Option.some.injEq] at hi
   subst hi
   have:i = len:=by omega
   subst this
   exact h3
theorem qrS {a:Addr} (h:a.spot = none) (n:Nat):a.add n = ⟨a.block,a.off + n,none⟩:=by
 unfold Addr.add
 split
 ·rename_i h0
  subst h0
  cases a
  simp_all
 ·rfl
theorem qhx {H:Type} {enc:TypeId×Value→H} {W:World} {base:Nat} {sp:Nat→Bool} {held:Bool} {S:List TypeId} (hl:laidOutB P = true) (hS:qsU P S = true):∀(n:Nat) (t:TypeId) (cs:List Value) (x:DataW H×List MemPlace),t ∈ S→
  DataW.trod enc P W base sp held n t cs = some x→∃aS,qh (fun _=>none) (cellsOf W) aS cs∧qc6 P n t aS
 | 0,t,cs,x,_,h=>by simp [DataW.trod] at h
 | n + 1,t,cs,x,ht,h=>by
  have hd:=List.all_eq_true.1 hS t ht
  simp only [Bool.and_eq_true,decide_eq_true_eq] at hd
  obtain ⟨⟨hrow,_⟩,hd⟩:=hd
  have ih:=qhx (base:=base) (sp:=sp) (held:=held) (enc:=enc) (W:=W) hl hS n
  split at hd
  ·rename_i hu
   obtain ⟨b,rfl,_⟩:=DataW.trod_bool hu h
   exact ⟨[.bool b],by simp [qh,qn],by simp only [qc6,hu];exact ⟨b,rfl⟩⟩
  ·rename_i k hu
   obtain ⟨z,rfl,_,hw⟩:=DataW.trod_int hu h
   exact ⟨[.int k z],by simp [qh,qn],by simp only [qc6,hu];exact ⟨z,rfl,hw⟩⟩
  ·rename_i hu
   obtain ⟨s,rfl,_,hw⟩:=DataW.trod_string hu h
   exact ⟨[.str s.data.toList],by simp only [qh,qn];exact ⟨_,_,rfl,⟨s,rfl,rfl⟩,rfl⟩,by simp only [qc6,hu];exact ⟨_,rfl,by simpa using hw⟩⟩
  ·rename_i e hu
   simp only [Bool.and_eq_true,decide_eq_true_eq,List.contains_iff_mem] at hd
   obtain ⟨he,hpos⟩:=hd
   rcases DataW.trod_slice hu h with ⟨rfl,_⟩ | ⟨a,len,cap,elems,rest,m,hm,rfl,_,hb,hlc,hcm,hel,hget,_⟩
   ·refine ⟨[.lst [] .no],?_,by simp only [qc6,hu];exact ⟨[],rfl,Nat.zero_le _,fun _ h=>by cases h⟩⟩
    simp only [qh,qn]
    exact ⟨_,_,rfl,⟨none,0,0,rfl,rfl,Nat.le_refl _,by simp,by simp,⟨0,fun _ h=>by cases h⟩,.inl trivial⟩,rfl⟩
   ·cases hm
    have one:∀i,i < len→∃aS:List qa,(∃cs',W.cells? base (a.add (i * P.cellsOf e)) (P.cellsOf e) = some cs'∧qh (fun _=>none) (cellsOf W) aS cs')∧qc6 P n e aS:=by
     intro i hi
     have hg:=hget i hi
     rw [List.getElem?_eq_getElem (by omega)] at hg
     simp only [Option.bind_eq_some_iff] at hg
     obtain ⟨cs',h1,h2⟩:=hg
     obtain ⟨aS,h3,h4⟩:=ih e cs' _ he h2
     exact ⟨aS,⟨cs',h1,h3⟩,h4⟩
    obtain ⟨xs,hxl,hx⟩:=qlT len one
    refine ⟨[.lst (xs.map (el P e)) .no],?_,by simp only [qc6,hu];exact ⟨xs,rfl,by omega,fun x hxm=>by obtain ⟨i,hi⟩:=List.getElem?_of_mem hxm;exact (hx i x hi).2⟩⟩
    simp only [qh,qn]
    refine ⟨_,_,rfl,⟨some a,len,cap,rfl,by simp [hxl],hlc,by simp,by simp,⟨P.cellsOf e,fun y hy=>?_⟩,?_⟩,rfl⟩
    ·obtain ⟨x,hxm,rfl⟩:=List.mem_map.1 hy
     obtain ⟨i,hi⟩:=List.getElem?_of_mem hxm
     obtain ⟨⟨cs',h1,h2⟩,h3⟩:=hx i x hi
     rw [h3.cells_el,h2.length,(World.cells?_some h1).2.1]
    ·rcases Nat.eq_zero_or_pos len with h0 | h0
     ·left
      have:xs = []:=List.eq_nil_of_length_eq_zero (by omega)
      simp [this]
     ·right
      have hspot:a.spot = none:=by
       obtain ⟨⟨cs',h1,h2⟩,_⟩:=hx 0 xs[0] (List.getElem?_eq_getElem (by omega))
       obtain ⟨_,h3,h4⟩:=World.cells?_some h1
       have h5:=h4 0 hpos
       rw [List.getElem?_eq_getElem (by omega)] at h5
       simp only [Nat.zero_mul,Addr.add,if_pos] at h5
       cases hsp:a.spot with
       | none=>rfl
       | some s=>
        simp only [World.cell?] at h5
        split at h5
        ·simp [hsp] at h5
        ·cases h5
      refine ⟨a.block,a.off,by rw [←hspot],qgN (k:=P.cellsOf e) _ _ fun i y hy=>?_⟩
      rw [List.getElem?_map,Option.map_eq_some_iff] at hy
      obtain ⟨x,hi,rfl⟩:=hy
      obtain ⟨⟨cs',h1,h2⟩,h3⟩:=hx i x hi
      obtain ⟨_,h4,h5⟩:=World.cells?_some h1
      rw [h3.cells_el]
      refine ⟨by rw [h2.length,h4],qgM x cs' _ h2 fun j hj=>?_⟩
      have h6:=h5 j (by omega)
      rw [←h6]
      rw [qrS hspot,qrS rfl,Nat.add_assoc]
  ·rename_i fs hu
   simp only [List.all_eq_true,List.contains_iff_mem] at hd
   obtain ⟨xs,m,hm,_,hlen,_,hget⟩:=DataW.trod_struct hu h
   cases hm
   obtain ⟨_,h2,h3⟩:=kid_struct hl hrow hu
   obtain ⟨ass,h4,h5⟩:=qfi (γ:=fun _=>none) (imm:=cellsOf W) (R:=qc6 P n) (size:=P.cellsOf) fs.toList 0 cs (by rw [hlen,h2];simp) (fun j f hj=>by rw [h3 j f hj];simp) (fun f hf=>by
    obtain ⟨i,hi⟩:=List.getElem?_of_mem hf
    have hi':fs[i]? = some f:=by simpa using hi
    have hg:=hget i f hi'
    have hil:i < xs.length:=by
     have:=(Array.getElem?_eq_some_iff.1 hi').1
     omega
    rw [List.getElem?_eq_getElem hil] at hg
    exact ih f.type _ _ (hd f hf) hg)
   exact ⟨ass.flatten,by simpa using h4,by simp only [qc6,hu];exact ⟨ass,rfl,h5⟩⟩
  ·cases hd
theorem qrf {H:Type} {enc:TypeId×Value→H} {W W0:World} {base b0:Nat} {r:Reach} {sp:Nat→Bool} {held:Bool} {S:List TypeId} (hl:laidOutB P = true) (hS:qsU P S = true) {t:TypeId} (ht:t ∈ S) {v:Value} {d:DataW H} {ps:List MemPlace}
  (hok:Value.okWide P W0 r b0 t v) (h:DataW.Trod enc P W base sp held t v d ps):∃n aS,qc6 P n t aS∧qn (fun _=>none) (cellsOf W) (el P t aS) v:=by
 obtain ⟨n,hn⟩:=h
 obtain ⟨aS,h1,h2⟩:=qhx hl hS n t _ _ ht hn
 refine ⟨n,aS,h2,?_⟩
 have hd:=List.all_eq_true.1 hS t ht
 simp only [Bool.and_eq_true,decide_eq_true_eq] at hd
 obtain ⟨_,hd⟩:=hd
 have scalar:qa9 P t = false→v.cells = #[v]→qn (fun _=>none) (cellsOf W) (el P t aS) v:=by
  intro hs hv
  rw [hv] at h1
  simp only [el,hs,cond_false]
  cases aS with
  | nil=>simp [qh] at h1
  | cons a aS=>
   simp only [qh] at h1
   obtain ⟨u,rest,he,h3,h4⟩:=h1
   cases he
   exact h3
 split at hd
 ·rename_i hu
  simp only [Value.okWide,hu,Cell.okWide,Cell.ok] at hok
  refine scalar (by simp [qa9,hu]) ?_
  cases v <;> first | rfl | (exact hok.elim)
 ·rename_i k hu
  simp only [Value.okWide,hu,Cell.okWide,Cell.ok] at hok
  refine scalar (by simp [qa9,hu]) ?_
  cases v <;> first | rfl | (exact hok.elim)
 ·rename_i hu
  simp only [Value.okWide,hu,Cell.okWide,Cell.ok] at hok
  refine scalar (by simp [qa9,hu]) ?_
  cases v <;> first | rfl | (exact hok.elim)
 ·rename_i e hu
  simp only [Value.okWide,hu,Cell.okWide,Cell.ok] at hok
  refine scalar (by simp [qa9,hu]) ?_
  cases v <;> first | rfl | (exact hok.elim)
 ·rename_i fs hu
  simp only [Value.okWide,hu] at hok
  obtain ⟨cs,rfl,_⟩:=hok
  simp only [el,qa9,hu,cond_true,qn]
  exact ⟨cs,rfl,h1⟩
 ·cases hd
noncomputable def qe.whole (W:World):qe:={ γ:=fun _=>none,imm:=cellsOf W,ow:=fun _=>none}
theorem qpk {W:World} (h:qx0 gl W):Rel P gl (qe.whole W) [] W∧qds (qe.whole W):=by
 refine ⟨⟨(fun _ _ h=>by cases h),(fun _ _ _ h=>by cases h),(fun _ _ _ h=>by cases h),fun b o v hv _=>?_,(fun _ _ _ _ _ _ h=>by cases h),(fun b o hv=>absurd rfl (qaa.1 hv).2),(fun _ _ h=>by cases h),fun g cs hg=>?_⟩,(fun _ _ h=>by cases h)⟩
 ·have hv:=(qaa.1 hv).1
  refine ⟨hv,?_⟩
  rcases Nat.lt_or_ge b W.heap.size with hb | hb
  ·exact hb
  ·simp [World.cell?,Array.getElem?_eq_none hb] at hv
 ·obtain ⟨h1,vs,h2,h3⟩:=h g cs hg
  refine ⟨qJ.of_get fun i c hc=>?_,h1⟩
  obtain ⟨v,hv,hr⟩:=h2.get hc
  refine ⟨v,?_,?_⟩
  ·simp only [qe.whole,cellsOf,Nat.zero_add]
   exact qaa.2 ⟨h3 i v hv,qbI hr⟩
  ·exact qn.mono (fun _ _ _ h=>by cases h) 0 (fun i _ hi=>absurd hi (Nat.not_lt_zero _)) c v (qcT h1 hc) hr
theorem qlf {n:Nat} {W W':World} {G':qe} (he:Ext n (qe.whole W) W G' W'):W.keptBut W' (fun _=>False):=by
 refine ⟨he.os,he.output,fun i hi=>?_⟩
 rw [he.heap i hi ⟨fun _ h=>by simp [qe.whole] at h,rfl⟩]
 split
 ·rename_i h1 h2
  rw [h1] at h2
  cases h2
  exact ⟨rfl,rfl,rfl,fun _ _=>rfl⟩
 ·rename_i h1 h2
  rw [h1] at h2
  cases h2
  exact .inr ⟨rfl,rfl⟩
 ·rfl
theorem qnr {W W':World} (h:W.keptBut W' (fun _=>False)) {p:MemPlace} (hp:p.block < W.heap.size):W.sameAt W' p:=by
 have h1:=h.2.2 p.block hp
 cases p with
 | cell b off=>
  simp only [MemPlace.block] at h1 hp
  simp only [World.sameAt,World.cell?]
  split at h1
  ·rename_i e1 e2
   rw [e1,e2]
   simp only [Option.isSome_none,Bool.false_eq_true,if_false]
   exact h1.2.2.2 off (fun h=>h)
  ·rename_i e1 e2
   rw [e1,e2]
  ·rw [h1]
 | map b=>
  simp only [MemPlace.block] at h1 hp
  simp only [World.sameAt]
  split at h1
  ·rename_i c t fr c' t' fr' e1 e2
   obtain ⟨rfl,rfl,h3,h4⟩:=h1
   rw [e1,e2]
   have:c' = c:=by
    apply Array.ext_getElem?
    intro j
    exact h4 j (fun h=>h)
   rw [this]
  ·rename_i e1 e2
   rcases h1 with h1 | ⟨rfl,rfl⟩
   ·exact h1.elim
   ·rw [e1,e2]
  ·exact h1
theorem qjG {call : AE.Call} (hcall : qbd P gl call) {f : FuncId} {pf : Func} {c : Code} (h1 : P.funcs[f]? = some pf) (h2 : (pf.name == "runtime.NumGoroutine") = false) (h3 : pf.body = some c) {args : List qa} {rv : qa} {h' : List qg} {e' : Bool}
  (hrun:call (.fn f [] []) args [] = some (.ret rv,h',e')) {W:World} (ht:qx0 gl W) {vs:Array Value} (hargs:qh (fun _=>none) (cellsOf W) args vs.toList) :
  Calls P f vs W fun e W'=>∃v G',e = .returned v∧qe.V G' rv v∧W.keptBut W' (fun _=>False):=by
 obtain ⟨hr,hn⟩:=qpk (P:=P) ht
 have hfv:(qe.whole W).V (.fn f [] []) (.func (.func f) #[] #[]):=by simp [qe.V,qn,qh]
 have hS:(qdZ (.func (.func f) #[] #[]) vs).run P W = .ok (.enter f vs) W:=by
  rw [qf9,qaw h1 h2 h3]
  simp
 rcases hcall _ _ _ _ _ _ hrun _ W _ vs hr hn hfv hargs with ⟨f',aS,k1,k2⟩ | ⟨_,_,_,_,_,_,hy,_⟩ | ⟨v,w',_,k1,_⟩
 ·rw [hS] at k1
  cases k1
  refine (callsIn_wide (n:=0)).1 (CallsIn.mono (k2 none 0) fun e W' hb=>?_)
  cases e with
  | returned v=>
   obtain ⟨rv',G',g1,g2,g3,g4,g5⟩:=hb
   cases g1
   exact ⟨v,G',rfl,g5,qlf g2⟩
  | panicked ch=>obtain ⟨_,_,_,g1,_⟩:=hb;cases g1
  | outgrown=>exact hb.elim
 ·cases hy
 ·rw [hS] at k1
  cases k1
end
end Go.AE
