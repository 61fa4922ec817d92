/- The abstract executor: what its code does. No condition. -/
import Derived.Test.YtlognicjhmcgjaaGreatDoorAeVal
import GoSem.Core.View
import GoSem.Op.String
namespace Go.AE

inductive LSt where
  | ready | busy | done | exhausted
  deriving DecidableEq, Repr, Inhabited

inductive Jump where
  | ret
  | exit (id : Nat)
  deriving DecidableEq, Repr, Inhabited

inductive ABox where
  | cells (cs : List AVal)
  | loop (t : List AVal) (ps : List Nat) (asg body : ACode) (st : LSt) (pend : Option Jump)
  deriving Inhabited, Repr

/-- The slots, the boxes; has a younger box been put into an older one? -/
structure St where
  t : List AVal
  h : List ABox
  e : Bool
  deriving Inhabited

inductive Ex where
  | nor
  | exit (id : Nat)
  | ret
  | pan (v : AVal)
  deriving Inhabited, Repr

inductive CRes where
  | ret (v : AVal)
  | pan (v : AVal)
  deriving Inhabited, Repr

abbrev Call := AVal → List AVal → List ABox → Option (CRes × List ABox × Bool)

def raw (t : List AVal) : AOpd → AVal
  | .t i => t.getD i .undef
  | .c v => v

def ev (t : List AVal) (x : AOpd) : AVal := (raw t x).dim

def put (dst : Option Nat) (v : AVal) (t : List AVal) : List AVal :=
  match dst with
  | some d => t.set d v
  | none => t

/-- What an operand holds is taken out of it. -/
def drained (t : List AVal) (x : AOpd) : List AVal :=
  match x with
  | .t i => match t.getD i .undef with
    | .lst xs (.own _) => t.set i (.lst xs .no)
    | _ => t
  | .c _ => t

def limit : Nat := 2 ^ 30

/-- cs with vs from place o on -/
def splice (cs : List AVal) (o : Nat) (vs : List AVal) : List AVal := cs.take o ++ vs ++ cs.drop (o + vs.length)

/-- k cells from place o on -/
def cut (cs : List AVal) (o : Nat) (k : Option Nat) : Option AVal :=
  match k with
  | none => (cs[o]?).map AVal.dim
  | some k => if o + k ≤ cs.length then some (.agg (((cs.drop o).take k).map AVal.dim)) else none

def ldAt (h : List ABox) (a : AVal) (k : Option Nat) : Option AVal :=
  match a with
  | .ptr i o => match h[i]? with
    | some (.cells cs) => cut cs o k
    | _ => none
  | .iptr cs o => cut cs o k
  | _ => none

def fillS (cells : List AVal) : List (Nat × Nat × AVal) → Option (List AVal)
  | [] => some cells
  | (off, size, v) :: rest =>
    let vs := v.cells
    if vs.length = size ∧ off + size ≤ cells.length ∧ vs.all AVal.storable then fillS (splice cells off vs) rest else none

/-- a ≤ b, for the kernel's own reckoning -/
def ile : Int → Int → Bool
  | .ofNat a, .ofNat b => Nat.ble a b
  | .negSucc _, .ofNat _ => true
  | .ofNat _, .negSucc _ => false
  | .negSucc a, .negSucc b => Nat.ble b a

theorem ile_eq (a b : Int) : ile a b = decide (a ≤ b) := by
  cases a <;> cases b <;> simp only [ile] <;> rw [Bool.eq_iff_iff] <;> simp <;> omega

def ilt (a b : Int) : Bool := !ile b a

theorem ilt_eq (a b : Int) : ilt a b = decide (a < b) := by
  rw [ilt, ile_eq, Bool.eq_iff_iff]; simp

/-- slices, signs and numbers -/
def intBin (op : BinOp) (k : IntKind) (a b : Int) : Option AVal :=
  match op with
  | .add => some (.int k (k.wrap (a + b)))
  | .sub => some (.int k (k.wrap (a - b)))
  | .mul => some (.int k (k.wrap (a * b)))
  | .quo => if b = 0 then none else some (.int k (k.wrap (a.tdiv b)))
  | .rem => if b = 0 then none else some (.int k (a.tmod b))
  | .and => some (.int k (k.wrap (BitVec.ofInt k.bits a &&& BitVec.ofInt k.bits b).toNat))
  | .or => some (.int k (k.wrap (BitVec.ofInt k.bits a ||| BitVec.ofInt k.bits b).toNat))
  | .xor => some (.int k (k.wrap (BitVec.ofInt k.bits a ^^^ BitVec.ofInt k.bits b).toNat))
  | .andNot => some (.int k (k.wrap (BitVec.ofInt k.bits a &&& ~~~ (BitVec.ofInt k.bits b)).toNat))
  | .eql => some (.bool (a == b))
  | .neq => some (.bool (a != b))
  | .lss => some (.bool (ilt a b))
  | .leq => some (.bool (ile a b))
  | .gtr => some (.bool (ilt b a))
  | .geq => some (.bool (ile b a))
  | .shl => if b < 0 then none else some (.int k (k.wrap (a * 2 ^ (min b.toNat k.bits))))
  | .shr => if b < 0 then none else some (.int k (a.fdiv (2 ^ (min b.toNat k.bits))))

def strBin (op : BinOp) (a b : List UInt8) : Option AVal :=
  match op with
  | .add => if a.length + b.length ≤ limit then some (.str (a ++ b)) else none
  | .eql => some (.bool (a == b))
  | .neq => some (.bool (!(a == b)))
  | .lss => some (.bool (Op.bytesLess a b))
  | .leq => some (.bool (Op.bytesLess a b || a == b))
  | .gtr => some (.bool (!(Op.bytesLess a b || a == b)))
  | .geq => some (.bool (!(Op.bytesLess a b)))
  | _ => none

def binV (op : BinOp) (x y : AVal) : Option AVal :=
  match x, y with
  | .int k a, .int j b =>
    match op with
    | .shl | .shr => intBin op k a b
    | _ => if k = j then intBin op k a b else none
  | .str a, .str b => strBin op a b
  | _, _ => none

/-- is it nil? of pointers (0), interface values (1), functions (2) -/
def nilV (k : Nat) (x y : AVal) : Option Bool :=
  match k with
  | 0 => match x, y with
    | .nilptr, .nilptr => some true
    | .nilptr, .ptr _ _ => some false
    | .ptr _ _, .nilptr => some false
    | .nilptr, .iptr _ _ => some false
    | .iptr _ _, .nilptr => some false
    | .ptr i o, .ptr j p => if i = j then some (o == p) else none
    | _, _ => none
  | 1 => match x, y with
    | .niliface, .niliface => some true
    | .niliface, .iface _ _ => some false
    | .iface _ _, .niliface => some false
    | _, _ => none
  | 2 => match x, y with
    | .nilfunc, .nilfunc => some true
    | .nilfunc, .fn _ _ _ => some false
    | .fn _ _ _, .nilfunc => some false
    | _, _ => none
  | _ => none

/-- two plain cells -/
def cellEq (x y : AVal) : Option Bool :=
  match x, y with
  | .int k a, .int j b => if k = j then some (a == b) else none
  | .str a, .str b => some (a == b)
  | .bool a, .bool b => some (a == b)
  | _, _ => none

def cellsEq : List AVal → List AVal → Option Bool
  | [], [] => some true
  | a :: as, b :: bs =>
    match cellEq a b with
    | some true => cellsEq as bs
    | some false => some false
    | none => none
  | _, _ => none

def unV (op : UnOp) (x : AVal) : Option AVal :=
  match op, x with
  | .neg, .int k n => some (.int k (k.wrap (0 - n)))
  | .not, .bool b => some (.bool (!b))
  | _, _ => none

def bound (t : List AVal) (x : Option AOpd) (d : Nat) : Option Nat :=
  match x with
  | none => some d
  | some x => match ev t x with
    | .int _ n => if 0 ≤ n then some n.toNat else none
    | _ => none

def ints (s : List UInt8) : List AVal := s.map fun b => .int .u8 b.toNat

/-- The operations that look at no box and make none. -/
def pureV (t : List AVal) (o : AOp) : Option AVal :=
  match o with
  | .mov x => some (ev t x)
  | .pick c a b => match ev t c with
    | .bool true => some (ev t a)
    | .bool false => some (ev t b)
    | _ => none
  | .build zero parts => (fillS zero (parts.map fun (o, s, x) => (o, s, ev t x))).map .agg
  | .list k zero len parts =>
    if zero.length = k ∧ len * k ≤ 2 ^ 24 then
      match fillS ((List.replicate len zero).flatten) (parts.map fun (i, x) => (i * k, k, ev t x)) with
      | some cs => if cs.all AVal.storable then some (.lst ((List.range len).map fun i => if k = 1 then (cs.getD i .undef) else .agg ((cs.drop (i * k)).take k)) .full) else none
      | none => none
    else none
  | .nilc x => match ev t x with
    | .ptr i o => some (.ptr i o)
    | .iptr cs o => some (.iptr cs o)
    | .fn f a b => some (.fn f a b)
    | .yld l => some (.yld l)
    | .iface u v => some (.iface u v)
    | _ => none
  | .bin op x y => binV op (ev t x) (ev t y)
  | .eqb neg x y => match ev t x, ev t y with
    | .bool a, .bool b => some (.bool ((a == b) != neg))
    | _, _ => none
  | .eqi k neg x y => (nilV k (ev t x) (ev t y)).map fun b => .bool (b != neg)
  | .eqa neg x y => match ev t x, ev t y with
    | .agg a, .agg b => (cellsEq a b).map fun r => .bool (r != neg)
    | _, _ => none
  | .un op x => unV op (ev t x)
  | .cvi k x => match ev t x with
    | .int _ n => some (.int k (k.wrap n))
    | _ => none
  | .cvs x => match ev t x with
    | .str s => some (.str s)
    | _ => none
  | .cvb x => match ev t x with
    | .str s => some (.lst (ints s) .no)
    | _ => none
  | .mkI ty x => match ev t x with
    | .undef => none
    | v => some (.iface ty v)
  | .mkF f a b => some (.fn f (a.map (ev t)) (b.map (ev t)))
  | .subS x lo hi => match ev t x with
    | .str s => match bound t hi s.length with
      | some h => match bound t lo 0 with
        | some l => if l ≤ h ∧ h ≤ s.length then some (.str ((s.drop l).take (h - l))) else none
        | none => none
      | none => none
    | _ => none
  | .subL k x lo hi => match ev t x with
    | .lst xs f => match bound t hi xs.length with
      | some h => match bound t lo 0 with
        | some l =>
          if l ≤ h ∧ h ≤ xs.length then
            if xs.head?.all (fun y => y.cells.length == k) then some (.lst ((xs.drop l).take (h - l)) (if h = xs.length then f else .no)) else none
          else none
        | none => none
      | none => none
    | _ => none
  | .fa off a => match ev t a with
    | .ptr i o => some (.ptr i (o + off))
    | .iptr cs o => some (.iptr cs (o + off))
    | _ => none
  | .ixaL k s i => match ev t s, ev t i with
    | .lst xs _, .int _ n =>
      if 0 ≤ n ∧ n < xs.length then
        match xs[n.toNat]? with
        | some x => if x.cells.length = k then some (.iptr x.cells 0) else none
        | none => none
      else none
    | _, _ => none
  | .ixaA len k a i => match ev t a, ev t i with
    | .ptr b o, .int _ n => if 0 ≤ n ∧ n < (len : Int) then some (.ptr b (o + n.toNat * k)) else none
    | .iptr cs o, .int _ n => if 0 ≤ n ∧ n < (len : Int) then some (.iptr cs (o + n.toNat * k)) else none
    | _, _ => none
  | .ixS s i => match ev t s, ev t i with
    | .str l, .int _ n => if 0 ≤ n then (l[n.toNat]?).map fun b => .int .u8 b.toNat else none
    | _, _ => none
  | .ixA len k a i => match ev t a, ev t i with
    | .agg cs, .int _ n => if 0 ≤ n ∧ n < (len : Int) then cut cs (n.toNat * k.getD 1) k else none
    | _, _ => none
  | .fld off k x => match ev t x with
    | .agg cs => cut cs off k
    | _ => none
  | .ext x i => match ev t x with
    | .tup vs => (vs[i]?).map AVal.dim
    | _ => none
  | .len true x => match ev t x with
    | .str s => some (.int .i64 s.length)
    | _ => none
  | .len false x => match ev t x with
    | .lst xs _ => some (.int .i64 xs.length)
    | _ => none
  | .mm isMax x y => match ev t x, ev t y with
    | .int k a, .int _ b => some (.int k (if isMax then (if b > a then b else a) else (if b < a then b else a)))
    | _, _ => none
  | .tas ty zero x => match ev t x with
    | .niliface => some (.tup [zero, .bool false])
    | .iface u v => if u = ty then some (.tup [v, .bool true]) else some (.tup [zero, .bool false])
    | _ => none
  | _ => none

inductive Src where
  | tmp (i : Nat)
  | cell (a : AOpd)
  deriving Inhabited, Repr

/-- Where the values of slots come from, as long as nothing has been written there. -/
abbrev Prov := List (Nat × Src)

def AOpd.isT (x : AOpd) (d : Nat) : Bool :=
  match x with
  | .t i => i == d
  | .c _ => false

def Src.hangs (d : Nat) : Src → Bool
  | .tmp i => i == d
  | .cell a => a.isT d

def provOf : AOp → Option Src
  | .mov (.t i) => some (.tmp i)
  | .ld none a => some (.cell a)
  | _ => none

def provNext (p : Prov) (o : AOper) : Prov :=
  if o.op.effs then []
  else
    match o.dst with
    | none => p
    | some d =>
      let q := p.filter fun x => x.1 != d && !x.2.hangs d
      match provOf o.op with
      | some s => if s.hangs d then q else (d, s) :: q
      | none => q

/-- what is appended -/
def tail (y : AVal) : Option (List AVal) :=
  match y with
  | .lst ys _ => some ys
  | .str s => some (ints s)
  | _ => none

/-- the list at the place that an operand came from, if that place owns its spare cells; and the state without that -/
def taken (k : Nat) (p : Prov) (x : AOpd) (s : St) : Option (List AVal × St) :=
  match x with
  | .c _ => none
  | .t i =>
    match s.t.getD i .undef with
    | .lst xs (.own j) => if j = k then some (xs, { s with t := s.t.set i (.lst xs .no) }) else none
    | _ =>
      match p.find? (·.1 == i) with
      | some (_, .tmp b) =>
        match s.t.getD b .undef with
        | .lst xs (.own j) => if j = k then some (xs, { s with t := s.t.set b (.lst xs .no) }) else none
        | _ => none
      | some (_, .cell a) =>
        match ev s.t a with
        | .ptr id o =>
          match s.h[id]? with
          | some (.cells cs) =>
            match cs[o]? with
            | some (.lst xs (.own j)) => if j = k then some (xs, { s with h := s.h.set id (.cells (cs.set o (.lst xs .no))) }) else none
            | _ => none
          | _ => none
        | _ => none
      | none => none

/-- One operation. 'base': the boxes from there on are the call's own. -/
def runOp (base : Nat) (call : Call) (p : Prov) (dst : Option Nat) (o : AOp) (s : St) : Option (Ex × St) :=
  match o with
  | .asg x => some (.nor, { s with t := put dst (raw s.t x) (drained s.t x) })
  | .new cs => some (.nor, { s with t := put dst (.ptr s.h.length 0) s.t, h := s.h ++ [.cells (cs.map AVal.dim)] })
  | .box k x =>
    let vs := (ev s.t x).cells.map AVal.dim
    if vs.length = k ∧ vs.all AVal.storable then some (.nor, { s with t := put dst (.ptr s.h.length 0) s.t, h := s.h ++ [.cells vs] }) else none
  | .ld k a => (ldAt s.h (ev s.t a) k).map fun v => (.nor, { s with t := put dst v s.t })
  | .st k a x =>
    match ev s.t a with
    | .ptr id o =>
      match s.h[id]? with
      | some (.cells cs) =>
        let v := raw s.t x
        let vs := match k with | none => [v] | some _ => v.dim.cells.map AVal.dim
        if vs.length = k.getD 1 ∧ o + vs.length ≤ cs.length ∧ vs.all AVal.storable then
          some (.nor, { t := put dst .undef (drained s.t x), h := s.h.set id (.cells (splice cs o vs)), e := s.e || !(Nat.ble base id || lowerL (id + 1) vs) })
        else none
      | _ => none
    | _ => none
  | .call f args =>
    match call (ev s.t f) (args.map (ev s.t)) s.h with
    | some (.ret v, h, e) => some (.nor, { t := put dst v.dim s.t, h, e := s.e || e })
    | some (.pan v, h, e) => some (.pan v, { s with h, e := s.e || e })
    | none => none
  | .app k x y =>
    match raw s.t x, tail (ev s.t y) with
    | .lst xs f, some ys =>
      if ys.isEmpty then some (.nor, { s with t := put dst (AVal.lst xs f).dim s.t })
      else if xs.length + ys.length ≤ limit ∧ ys.all (fun y => y.cells.length == k && y.cells.all AVal.storable) ∧ xs.head?.all (fun y => y.cells.length == k) then
        match f with
        | .full => some (.nor, { s with t := put dst (.lst (xs ++ ys) (.own k)) s.t })
        | _ =>
          match taken k p x s with
          | some (xs, s) => if xs.head?.all (fun y => y.cells.length == k) then some (.nor, { s with t := put dst (.lst (xs ++ ys) (.own k)) s.t }) else none
          | none => none
      else none
    | _, _ => none
  | .pan x => match ev s.t x with
    | .iface u v => some (.pan (.iface u v), s)
    | _ => none
  | o => (pureV s.t o).map fun v => (.nor, { s with t := put dst v s.t })

def wanted (t : List AVal) (g : Option (Nat × Bool)) : Option Bool :=
  match g with
  | none => some true
  | some (j, b) => match t.getD j .undef with
    | .bool c => some (c == b)
    | .tup [] => some false
    | _ => none

def runOps (base : Nat) (call : Call) : Prov → List AOper → St → Option (Ex × St)
  | _, [], s => some (.nor, s)
  | p, o :: os, s =>
    match wanted s.t o.guard with
    | some true =>
      match runOp base call p o.dst o.op s with
      | some (.nor, s) => runOps base call (provNext p o) os s
      | r => r
    | some false => runOps base call (provNext p { o with op := .pick (.c .undef) (.c .undef) (.c .undef) }) os { s with t := put o.dst (.tup []) s.t }
    | none => none

/-- What must be so of the boxes while an operation of a region that draws floats. -/
inductive Chk where
  | ld (a : AVal) (k : Option Nat) (v : AVal)
  | box (id : Nat) (cs : List AVal)
  deriving Inhabited

def Chk.ok (h : List ABox) : Chk → Bool
  | .ld a k v => match ldAt h a k with
    | some w => v.beq w
    | none => false
  | .box id cs => match h[id]? with
    | some (.cells ds) => beqL cs ds
    | _ => false

def chkOf (s : St) (o : AOp) : Option Chk :=
  match o with
  | .ld k a => (ldAt s.h (ev s.t a) k).map (.ld (ev s.t a) k)
  | .new cs => some (.box s.h.length (cs.map AVal.dim))
  | .box _ x => some (.box s.h.length ((ev s.t x).cells.map AVal.dim))
  | _ => none

/-- Slots that are hidden. -/
def mask (ms : List Nat) (t : List AVal) : List AVal := t.mapIdx fun i x => if ms.contains i then .undef else x

/-- 'pend': what floats; 'dsts': the region's slots. -/
def runDraw (base : Nat) (call : Call) (dsts : List Nat) : List DOper → List (Nat × Chk) → St → Option (Ex × St)
  | [], _, s => some (.nor, s)
  | d :: ds, pend, s =>
    match wanted s.t d.o.guard with
    | some true =>
      match runOp base call [] d.o.dst d.o.op s with
      | some (.nor, s') =>
        if d.o.op.effs then
          let pend' := pend.filter fun c => !d.cl.testBit c.1
          if pend'.all (fun c => c.2.ok s'.h) then runDraw base call dsts ds pend' s' else none
        else
          match chkOf s d.o.op with
          | some c => runDraw base call dsts ds ((d.ix, c) :: pend) s'
          | none => runDraw base call dsts ds pend s'
      | some (.pan v, s') => if d.o.op.effs then some (.pan v, { s' with t := mask dsts s'.t }) else none
      | _ => none
    | some false => runDraw base call dsts ds pend { s with t := put d.o.dst (.tup []) s.t }
    | none => none

def iter (f : St → Option (Ex × St)) : Nat → St → Option (Ex × St)
  | 0, _ => none
  | n + 1, s => match f s with
    | some (.nor, s) => iter f n s
    | r => r

def exec (n base : Nat) (call : Call) : ACode → St → Option (Ex × St)
  | .skip, s => some (.nor, s)
  | .reg ops, s => runOps base call [] ops s
  | .draw ops, s => runDraw base call (ops.filterMap (·.o.dst)) ops [] s
  | .seq a b, s => match exec n base call a s with
    | some (.nor, s) => exec n base call b s
    | r => r
  | .cond c a b, s => match ev s.t c with
    | .bool true => exec n base call a s
    | .bool false => exec n base call b s
    | _ => none
  | .block id b, s => match exec n base call b s with
    | some (.exit j, s) => if j = id then some (.nor, s) else some (.exit j, s)
    | r => r
  | .loop b, s => iter (exec n base call b) n s
  | .exit id, s => some (.exit id, s)
  | .ret, s => some (.ret, s)
  | .rfun f ps asg body, s =>
    match ev s.t f with
    | .fn g first cap =>
      match call (.fn g first cap) [.yld s.h.length] (s.h ++ [.loop (s.t.map AVal.dim) ps asg body .ready none]) with
      | some (.ret _, h, e) =>
        match h[s.h.length]? with
        | some (.loop t ps' asg' body' st pend) =>
          if st = .busy then none else
          let s' : St := { s with h := h.set s.h.length (.loop t ps' asg' body' .exhausted pend), e := s.e || e }
          match pend with
          | none => some (.nor, s')
          | some .ret => some (.ret, s')
          | some (.exit id) => some (.exit id, s')
        | _ => none
      | some (.pan v, h, e) => some (.pan v, { s with h, e := s.e || e })
      | none => none
    | _ => none

def readRes (s : St) : List ARes → Option (List AVal)
  | [] => some []
  | .tmp i :: rs => match readRes s rs with
    | some vs => some ((s.t.getD i .undef).dim :: vs)
    | none => none
  | .cell a k :: rs =>
    match ldAt s.h (s.t.getD a .undef) k, readRes s rs with
    | some v, some vs => some (v :: vs)
    | _, _ => none

def oneRes : List AVal → AVal
  | [v] => v
  | vs => .tup vs

/-- The boxes of the call's own go, if nothing that stays leads to one. -/
def leave (base : Nat) (r : CRes) (h : List ABox) (e : Bool) : CRes × List ABox × Bool :=
  if !e && (match r with | .ret v => v.lower base | .pan v => v.lower base) then (r, h.take base, false) else (r, h, e)

abbrev Exts := FuncId → Option (Call → List AVal → List ABox → Option (CRes × List ABox × Bool))

def zips (t : List AVal) : List Nat → List AVal → List AVal
  | p :: ps, a :: as => zips (t.set p a) ps as
  | _, _ => t

def round (n : Nat) (call : Call) (l : Nat) (args : List AVal) (h : List ABox) : Option (CRes × List ABox × Bool) :=
  match h[l]? with
  | some (.loop t ps asg body _ _) =>
    if args.length ≠ ps.length then none else
    let base := h.length
    match exec n base call asg ⟨zips t ps (args.map AVal.dim), h, false⟩ with
    | some (.nor, s) =>
      match s.h[l]? with
      | some (.loop t1 ps1 asg1 body1 .ready pend) =>
        match exec n base call body { s with h := s.h.set l (.loop t1 ps1 asg1 body1 .busy pend) } with
        | some (x, s) =>
          match s.h[l]? with
          | some (.loop t2 ps2 asg2 body2 _ _) =>
            match x with
            | .nor => some (leave base (.ret (.bool true)) (s.h.set l (.loop t2 ps2 asg2 body2 .ready none)) s.e)
            | .ret => some (leave base (.ret (.bool false)) (s.h.set l (.loop t2 ps2 asg2 body2 .done (some .ret))) s.e)
            | .exit id => some (leave base (.ret (.bool false)) (s.h.set l (.loop t2 ps2 asg2 body2 .done (some (.exit id)))) s.e)
            | .pan _ => none
          | _ => none
        | none => none
      | _ => none
    | _ => none
  | _ => none

def run (F : FuncId → Option AFunc) (X : Exts) : Nat → Call
  | 0 => fun _ _ _ => none
  | n + 1 => fun fv args h =>
    match fv with
    | .fn f first cap =>
      match X f with
      | some g => g (run F X n) (first ++ args ++ cap) h
      | none =>
        match F f with
        | none => none
        | some fn =>
          let as := (first ++ args ++ cap).map AVal.dim
          match exec n h.length (run F X n) fn.code ⟨as ++ List.replicate (fn.ntmps - as.length) (.tup []), h, false⟩ with
          | some (.nor, s) | some (.ret, s) =>
            match readRes s fn.results with
            | some vs => some (leave h.length (.ret (oneRes vs)) s.h s.e)
            | none => none
          | some (.pan v, s) => some (leave h.length (.pan v) s.h s.e)
          | _ => none
    | .yld l => round n (run F X n) l args h
    | _ => none
end Go.AE
