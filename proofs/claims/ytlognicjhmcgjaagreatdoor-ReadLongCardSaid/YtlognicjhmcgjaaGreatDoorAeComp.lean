/- The abstract executor: its code out of the program's. No condition. -/
import Derived.Test.YtlognicjhmcgjaaGreatDoorAeExec
import GoSem.Core.View
import GoSem.Core.Region
namespace Go.AE

def scalarV : Value → Option AVal
  | .bool b => some (.bool b)
  | .int k n => some (.int k n)
  | .string s => some (.str s.data.toList)
  | .pointer none => some .nilptr
  | .slice none l c => if l = 0 ∧ c = 0 then some (.lst [] .full) else none
  | .nilFunc => some .nilfunc
  | .nilIface => some .niliface
  | .func (.func f) a b => if a.isEmpty && b.isEmpty then some (.fn f [] []) else none
  | _ => none

def constV : Value → Option AVal
  | .agg cs => (cs.toList.mapM scalarV).map .agg
  | .tuple vs => if vs.isEmpty then some (.tup []) else none
  | v => scalarV v

def isNeq : BinOp → Bool
  | .neq => true
  | _ => false

def isEq : BinOp → Bool
  | .eql | .neq => true
  | _ => false

def isSrc : TypeDesc → Bool
  | .slice _ | .string => true
  | _ => false

def isU8 : Option TypeDesc → Bool
  | some (.int .u8) => true
  | _ => false

def isC : Operand → Bool
  | .const _ => true
  | _ => false

section
variable (P : Program) (gl : Nat → Option (List AVal))

def opd : Operand → Option AOpd
  | .tmp t => some (.t t)
  | .const v => (constV v).map .c
  | .global g => (gl g).map fun cs => .c (.iptr cs 0)
  | .func f => some (.c (.fn f [] []))

def opds (xs : Array Operand) : Option (List AOpd) := xs.toList.mapM (opd gl)

/-- how many cells a type takes, if it is a struct or an array -/
def tyk (t : TypeId) : Option (Option Nat) :=
  match P.underlying t with
  | some (.struct _) | some (.array ..) => (P.info? t).map fun i => some i.size
  | some (.tuple _) | some .invalid | none => none
  | some _ => some none

def zeroOf (t : TypeId) : Option AVal :=
  match P.info? t with
  | some i => i.zero.bind constV
  | none => none

def szOf (t : TypeId) : Option Nat := (P.info? t).map (·.size)

def partsS (fs : Array Field) : List (Nat × Operand) → Option (List (Nat × Nat × AOpd))
  | [] => some []
  | (i, x) :: rest =>
    match fs[i]?, opd gl x, partsS fs rest with
    | some f, some x, some r => match szOf P f.type with
      | some s => some ((f.offset, s, x) :: r)
      | none => none
    | _, _, _ => none

def partsA (k : Nat) : List (Nat × Operand) → Option (List (Nat × Nat × AOpd))
  | [] => some []
  | (i, x) :: rest =>
    match opd gl x, partsA k rest with
    | some x, some r => some ((i * k, k, x) :: r)
    | _, _ => none

def partsL : List (Nat × Operand) → Option (List (Nat × AOpd))
  | [] => some []
  | (i, x) :: rest =>
    match opd gl x, partsL rest with
    | some x, some r => some ((i, x) :: r)
    | _, _ => none

/-- of plain cells alone: numbers, strings, bools -/
def plainTy : Nat → TypeId → Bool
  | 0, _ => false
  | d + 1, t =>
    match P.underlying t with
    | some .bool | some (.int _) | some .string => true
    | some (.struct fs) => fs.all fun f => f.name != "_" && plainTy d f.type
    | _ => false

def optOpd : Option Operand → Option (Option AOpd)
  | none => some none
  | some x => (opd gl x).map some

def compOp (o : Oper) : Option AOp :=
  match o.op with
  | .move x => (opd gl x).map .mov
  | .assign x => (opd gl x).map .asg
  | .pick c a b => do pure (.pick (← opd gl c) (← opd gl a) (← opd gl b))
  | .alloc e => do pure (.new (← zeroOf P e).cells)
  | .box e x => do pure (.box (← szOf P e) (← opd gl x))
  | .build t ps => do
    let z ← zeroOf P t
    match P.underlying t with
    | some (.struct fs) => if fs.all fun f => (szOf P f.type).isSome then pure (.build z.cells (← partsS P gl fs ps.toList)) else none
    | some (.array _ e) => pure (.build z.cells (← partsA gl (← szOf P e) ps.toList))
    | _ => none
  | .buildSlice t n ps => do
    match P.underlying t with
    | some (.slice e) => do
      let k ← szOf P e
      let z ← zeroOf P e
      if k = 0 then none else pure (.list k z.cells n (← partsL gl ps.toList))
    | _ => none
  | .load t a => do pure (.ld (← tyk P t) (← opd gl a))
  | .store t a x => do
    let k ← tyk P t
    if szOf P t = some (k.getD 1) then pure (.st k (← opd gl a) (← opd gl x)) else none
  | .nilCheck x => (opd gl x).map .nilc
  | .binOp op t x y _ =>
    match opd gl x, opd gl y with
    | some ax, some ay =>
      if isEq op then
        match P.underlying t with
        | some .bool => some (.eqb (isNeq op) ax ay)
        | some (.int _) | some .string => some (.bin op ax ay)
        | some (.pointer e) => if (szOf P e).getD 0 = 0 then none else some (.eqi 0 (isNeq op) ax ay)
        | some (.interface _) => if isC x || isC y then some (.eqi 1 (isNeq op) ax ay) else none
        | some (.func ..) => some (.eqi 2 (isNeq op) ax ay)
        | _ => none
      else some (.bin op ax ay)
    | _, _ => none
  | .unOp op _ x => (opd gl x).map (.un op)
  | .convert s d x => do
    let x ← opd gl x
    match P.underlying s, P.underlying d with
    | some (.int _), some (.int k) => pure (.cvi k x)
    | some .string, some .string => pure (.cvs x)
    | some .string, some (.slice e) => if isU8 (P.underlying e) then pure (.cvb x) else none
    | _, _ => none
  | .makeInterface t x =>
    match P.underlying t with
    | some (.interface _) | none => none
    | _ => (opd gl x).map (.mkI t)
  | .makeFunc (.func f) a b => do pure (.mkF f (← opds gl a) (← opds gl b))
  | .slice t x lo hi none => do
    match P.underlying t with
    | some .string => pure (.subS (← opd gl x) (← optOpd gl lo) (← optOpd gl hi))
    | some (.slice e) => pure (.subL (← szOf P e) (← opd gl x) (← optOpd gl lo) (← optOpd gl hi))
    | _ => none
  | .fieldAddr s x i =>
    match P.underlying s with
    | some (.struct fs) => match fs[i]? with
      | some f => if (szOf P f.type).getD 0 = 0 then none else (opd gl x).map (.fa f.offset)
      | none => none
    | _ => none
  | .field s x i => do
    match P.underlying s with
    | some (.struct fs) => match fs[i]? with
      | some f => pure (.fld f.offset (← tyk P f.type) (← opd gl x))
      | none => none
    | _ => none
  | .indexAddr t x i => do
    match P.underlying t with
    | some (.slice e) => pure (.ixaL (← szOf P e) (← opd gl x) (← opd gl i))
    | some (.array n e) => pure (.ixaA n (← szOf P e) (← opd gl x) (← opd gl i))
    | _ => none
  | .index t x i => do
    match P.underlying t with
    | some .string => pure (.ixS (← opd gl x) (← opd gl i))
    | some (.array n e) => do
      let k ← tyk P e
      if szOf P e = some (k.getD 1) then pure (.ixA n k (← opd gl x) (← opd gl i)) else none
    | _ => none
  | .typeAssert x _ t true => do
    match P.underlying t with
    | some (.interface _) | none => none
    | _ => pure (.tas t (← zeroOf P t) (← opd gl x))
  | .extract x i => do pure (.ext (← opd gl x) i)
  | .call c =>
    match c.callee with
    | .value f => do pure (.call (← opd gl f) (← opds gl c.args))
    | .invoke _ _ => none
    | .builtin b =>
      match b, c.args.toList, c.argTypes.toList with
      | .len, [x], [t] => match P.underlying t with
        | some .string => (opd gl x).map (.len true)
        | some (.slice _) => (opd gl x).map (.len false)
        | some (.array n _) => some (.mov (.c (.int .i64 n)))
        | _ => none
      | .append, [x, y], [t, u] => match P.underlying t, P.underlying u with
        | some (.slice e), some u => if isSrc u = false then none else do
          let i ← P.info? e
          let z ← zeroOf P e
          if i.size = 0 ∨ i.bytes > 65536 ∨ z.cells.length ≠ i.size then none else pure (.app i.size (← opd gl x) (← opd gl y))
        | _, _ => none
      | .max, [x, y], _ => do pure (.mm true (← opd gl x) (← opd gl y))
      | .min, [x, y], _ => do pure (.mm false (← opd gl x) (← opd gl y))
      | _, _, _ => none
  | .panic x => (opd gl x).map .pan
  | _ => none

def compOper (ops : Array Oper) (o : Oper) : Option AOper := do
  let op ← compOp P gl o
  match o.guard with
  | none => pure ⟨o.dst, op, none⟩
  | some (j, b) => do
    let d ← (ops[j]?).bind (·.dst)
    pure ⟨o.dst, op, some (d, b)⟩

/-- the operations that an operation's own edges lay before it -/
def edges (o : Oper) : List Nat := (o.after.toList.filter (Region.binds .any)).map (·.on)

def joinE (cl : List Nat) (es : List Nat) : Nat := es.foldl (fun m e => m ||| 1 <<< e ||| cl.getD e 0) 0

/-- which operations must lie before each: their own edges that bind, and theirs -/
def closure (ess : List (List Nat)) : List Nat := ess.foldl (fun acc es => acc ++ [joinE acc es]) []

def nextA (quiet : Bool) (done : Nat) : Nat → List Nat → List Bool → Option Nat
  | i, c :: cs, e :: es => if !done.testBit i && (c ||| done) == done && (!quiet || !e) then some i else nextA quiet done (i + 1) cs es
  | _, _, _ => none

/-- an order: those that do not act as soon as they can -/
def asap (cl : List Nat) (effs : List Bool) : Nat → Nat → List Nat
  | 0, _ => []
  | f + 1, done =>
    match (nextA true done 0 cl effs).orElse fun _ => nextA false done 0 cl effs with
    | some i => i :: asap cl effs f (done ||| 1 <<< i)
    | none => []

/-- May a stand ahead of b in the order, whatever order is drawn? -/
def pairOK (a b : DOper) : Bool :=
  a.ix != b.ix &&
  (b.cl.testBit a.ix ||
    (!a.o.op.effs && (match a.o.dst with | some d => !b.o.looks.contains d | none => true))) &&
  (match b.o.dst with
   | some d => (b.o.op.effs && b.cl.testBit a.ix) || (!a.o.looks.contains d && a.o.dst != some d)
   | none => true)

def selfOK (a : DOper) : Bool :=
  a.o.op.effs || (match a.o.dst with | some d => !a.o.looks.contains d | none => true)

def ordOK (ess : List (List Nat)) : List DOper → List DOper → Bool
  | _, [] => true
  | pre, d :: ds => (ess.getD d.ix []).all (fun e => pre.any (·.ix == e)) && pre.all (pairOK · d) && selfOK d && ordOK ess (d :: pre) ds

def orderD (as : List AOper) (cl : List Nat) (ord : List Nat) : List DOper :=
  ord.filterMap fun i => (as[i]?).map fun a => ⟨a, i, cl.getD i 0⟩

def compDraw (ops : Array Oper) : Option (List DOper) := do
  let as ← ops.toList.mapM (compOper P gl ops)
  let ess := ops.toList.map edges
  let cl := closure ess
  let ds := orderD as cl (asap cl (as.map (·.op.effs)) as.length 0)
  if (List.range ops.size).all (fun i => ds.any (·.ix == i)) && ds.all (fun d => d.cl == joinE cl (ess.getD d.ix [])) && ordOK ess [] ds then pure ds else none

def comp : Code → Option ACode
  | .skip => some .skip
  | .region _ ops false => (ops.toList.mapM (compOper P gl ops)).map .reg
  | .region _ ops true => (compDraw P gl ops).map .draw
  | .seq a b => match comp a, comp b with
    | some x, some y => some (.seq x y)
    | _, _ => none
  | .cond c a b => match opd gl c, comp a, comp b with
    | some z, some x, some y => some (.cond z x y)
    | _, _, _ => none
  | .block id b => (comp b).map (.block id)
  | .loop b => (comp b).map .loop
  | .rangeFunc f ps a b => match opd gl f, comp a, comp b with
    | some z, some x, some y => some (.rfun z ps.toList x y)
    | _, _, _ => none
  | .exit id => some (.exit id)
  | .ret => some .ret
  | _ => none

def compRes : ResultVar → Option ARes
  | .tmp t => some (.tmp t)
  | .cell a t => (tyk P t).map (.cell a)

def compFunc (f : Func) : Option AFunc :=
  match f.body with
  | none => none
  | some c => match comp P gl c, f.results.toList.mapM (compRes P) with
    | some code, some rs => some ⟨f.ntmps, rs, code⟩
    | _, _ => none
end
end Go.AE
