/- The abstract executor: its values, its operations, its code. No condition. -/
import GoSem.Core.Code
namespace Go.AE

/-- What may be appended to a list of cells in place: nothing is known; no spare cell is there; the place that holds it owns the spare cells (elements of k cells). -/
inductive Flag where
  | no
  | full
  | own (k : Nat)
  deriving DecidableEq, Repr, Inhabited

inductive AVal where
  | undef
  | bool (b : Bool)
  | int (k : IntKind) (n : Int)
  | str (s : List UInt8)
  | nilptr
  | ptr (id off : Nat)
  | iptr (cells : List AVal) (off : Nat)
  | lst (xs : List AVal) (f : Flag)
  | nilfunc
  | fn (f : FuncId) (first captured : List AVal)
  | yld (id : Nat)
  | niliface
  | iface (t : TypeId) (v : AVal)
  | agg (cells : List AVal)
  | tup (vs : List AVal)
  deriving Inhabited, Repr

/-- A value as it is read: what is read owns nothing. -/
def AVal.dim : AVal → AVal
  | .lst xs (.own _) => .lst xs .no
  | v => v

def AVal.cells : AVal → List AVal
  | .agg cs => cs
  | v => [v]

/-- May it lie in one cell? -/
def AVal.storable : AVal → Bool
  | .undef | .agg _ | .tup _ => false
  | _ => true

mutual
/-- All boxes that a value leads to are older than n. -/
def AVal.lower (n : Nat) : AVal → Bool
  | .ptr i _ => Nat.blt i n
  | .yld i => Nat.blt i n
  | .iptr cs _ => lowerL n cs
  | .lst xs _ => lowerL n xs
  | .fn _ a b => lowerL n a && lowerL n b
  | .iface _ v => v.lower n
  | .agg cs => lowerL n cs
  | .tup vs => lowerL n vs
  | _ => true
def lowerL (n : Nat) : List AVal → Bool
  | [] => true
  | v :: vs => v.lower n && lowerL n vs
end

mutual
def AVal.beq : AVal → AVal → Bool
  | .undef, .undef => true
  | .bool a, .bool b => a == b
  | .int k a, .int j b => k == j && a == b
  | .str a, .str b => a == b
  | .nilptr, .nilptr => true
  | .ptr i o, .ptr j p => i == j && o == p
  | .iptr a o, .iptr b p => o == p && beqL a b
  | .lst a f, .lst b g => f == g && beqL a b
  | .nilfunc, .nilfunc => true
  | .fn f a b, .fn g c d => f == g && beqL a c && beqL b d
  | .yld i, .yld j => i == j
  | .niliface, .niliface => true
  | .iface t a, .iface u b => t == u && AVal.beq a b
  | .agg a, .agg b => beqL a b
  | .tup a, .tup b => beqL a b
  | _, _ => false
def beqL : List AVal → List AVal → Bool
  | [], [] => true
  | a :: as, b :: bs => AVal.beq a b && beqL as bs
  | _, _ => false
end

inductive AOpd where
  | t (i : Nat)
  | c (v : AVal)
  deriving Inhabited, Repr

inductive AOp where
  | mov (x : AOpd)
  | asg (x : AOpd)
  | pick (c a b : AOpd)
  | new (cs : List AVal)
  | box (k : Nat) (x : AOpd)
  | build (zero : List AVal) (parts : List (Nat × Nat × AOpd))
  | list (k : Nat) (zero : List AVal) (len : Nat) (parts : List (Nat × AOpd))
  | ld (k : Option Nat) (a : AOpd)
  | st (k : Option Nat) (a x : AOpd)
  | nilc (x : AOpd)
  | bin (op : BinOp) (x y : AOpd)
  | eqb (neg : Bool) (x y : AOpd)
  | eqi (kind : Nat) (neg : Bool) (x y : AOpd)
  | eqa (neg : Bool) (x y : AOpd)
  | un (op : UnOp) (x : AOpd)
  | cvi (k : IntKind) (x : AOpd)
  | cvs (x : AOpd)
  | cvb (x : AOpd)
  | mkI (t : TypeId) (x : AOpd)
  | mkF (f : FuncId) (first captured : List AOpd)
  | subS (x : AOpd) (lo hi : Option AOpd)
  | subL (k : Nat) (x : AOpd) (lo hi : Option AOpd)
  | fa (off : Nat) (a : AOpd)
  | ixaL (k : Nat) (s i : AOpd)
  | ixaA (len k : Nat) (a i : AOpd)
  | ixS (s i : AOpd)
  | ixA (len : Nat) (k : Option Nat) (a i : AOpd)
  | fld (off : Nat) (k : Option Nat) (x : AOpd)
  | ext (x : AOpd) (i : Nat)
  | call (f : AOpd) (args : List AOpd)
  | len (isStr : Bool) (x : AOpd)
  | app (k : Nat) (x y : AOpd)
  | mm (isMax : Bool) (x y : AOpd)
  | tas (t : TypeId) (zero : AVal) (x : AOpd)
  | pan (x : AOpd)
  deriving Inhabited, Repr

structure AOper where
  dst : Option Nat
  op : AOp
  /-- the slot of the operation that it hangs on, and what that must be -/
  guard : Option (Nat × Bool)
  deriving Inhabited, Repr

def AOpd.slot : AOpd → List Nat
  | .t i => [i]
  | .c _ => []

def slotO : Option AOpd → List Nat
  | some x => x.slot
  | none => []

def slotL : List AOpd → List Nat
  | [] => []
  | x :: xs => x.slot ++ slotL xs

/-- The slots that an operation looks at. -/
def AOp.looks : AOp → List Nat
  | .mov x | .asg x | .box _ x | .ld _ x | .nilc x | .un _ x | .cvi _ x | .cvs x | .cvb x | .mkI _ x | .fa _ x | .fld _ _ x | .ext x _ | .len _ x | .tas _ _ x | .pan x => x.slot
  | .pick c a b => c.slot ++ a.slot ++ b.slot
  | .new _ => []
  | .build _ ps => slotL (ps.map (·.2.2))
  | .list _ _ _ ps => slotL (ps.map (·.2))
  | .st _ a x | .bin _ a x | .eqb _ a x | .eqi _ _ a x | .eqa _ a x | .ixaL _ a x | .ixaA _ _ a x | .ixS a x | .ixA _ _ a x | .app _ a x | .mm _ a x => a.slot ++ x.slot
  | .mkF _ a b => slotL a ++ slotL b
  | .subS x l h | .subL _ x l h => x.slot ++ slotO l ++ slotO h
  | .call f as => f.slot ++ slotL as

def AOp.calls : AOp → Bool
  | .call .. | .pan .. => true
  | _ => false

/-- Does an operation act on boxes that are there? -/
def AOp.acts : AOp → Bool
  | .st .. | .call .. | .app .. | .pan .. => true
  | _ => false

/-- ..or draw spare cells out of a slot? -/
def AOp.effs : AOp → Bool
  | .st .. | .call .. | .app .. | .pan .. | .asg .. => true
  | _ => false

def AOper.looks (o : AOper) : List Nat :=
  match o.guard with
  | some (j, _) => j :: o.op.looks
  | none => o.op.looks

/-- An operation of a region that draws its order: its place in the text; the places that must lie before it. -/
structure DOper where
  o : AOper
  ix : Nat
  cl : Nat
  deriving Inhabited, Repr

inductive ACode where
  | skip
  | reg (ops : List AOper)
  | draw (ops : List DOper)
  | seq (a b : ACode)
  | cond (c : AOpd) (a b : ACode)
  | block (id : Nat) (b : ACode)
  | loop (b : ACode)
  | rfun (f : AOpd) (ps : List Nat) (asg body : ACode)
  | exit (id : Nat)
  | ret
  deriving Inhabited, Repr

/-- no range over a function in it -/
def ACode.noRf : ACode → Bool
  | .seq a b | .cond _ a b => a.noRf && b.noRf
  | .block _ b | .loop b => b.noRf
  | .rfun .. => false
  | _ => true

inductive ARes where
  | tmp (i : Nat)
  | cell (a : Nat) (k : Option Nat)
  deriving Inhabited, Repr

structure AFunc where
  ntmps : Nat
  results : List ARes
  code : ACode
  deriving Inhabited, Repr
end Go.AE
