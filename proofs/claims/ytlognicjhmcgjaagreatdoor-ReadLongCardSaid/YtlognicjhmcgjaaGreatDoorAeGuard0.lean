/- The abstract executor: functions with one deferred call, which may recover. No condition. -/
import Derived.Test.YtlognicjhmcgjaaGreatDoorAeComp
namespace Go.AE

inductive GBody where
  | pre (a : ACode) (r : GBody)
  | dfr (f : FuncId) (caps : List AOpd) (slot : Nat) (rest : ACode)
  deriving Inhabited

/-- the deferred call: its slot for what recover answers; the rest of its first region; its text -/
structure DFunc where
  ntmps : Nat
  k : Nat
  ops : List AOper
  code : ACode
  deriving Inhabited

structure GFunc where
  ntmps : Nat
  results : List ARes
  body : GBody
  d : DFunc
  deriving Inhabited

def GBody.fid : GBody → FuncId
  | .pre _ r => r.fid
  | .dfr f _ _ _ => f

def dexec (n : Nat) (call : Call) (d : DFunc) (v : AVal) (cv : List AVal) (s : St) : Option (Ex × St) :=
  match runOps s.h.length call [] d.ops ⟨put (some d.k) v.dim (cv.map AVal.dim ++ List.replicate (d.ntmps - cv.length) (.tup [])), s.h, false⟩ with
  | some (.nor, s1) =>
    match exec n s.h.length call d.code s1 with
    | some (.nor, s2) | some (.ret, s2) => some (.ret, { s with h := s2.h, e := s.e || s2.e })
    | _ => none
  | _ => none

def gexec (n base : Nat) (call : Call) (d : DFunc) : GBody → St → Option (Ex × St)
  | .pre a r, s => match exec n base call a s with
    | some (.nor, s) => gexec n base call d r s
    | some (.exit _, _) => none
    | r => r
  | .dfr f caps slot rest, s =>
    match ev (put (some slot) (.fn f [] (caps.map (ev s.t))) s.t) (.t slot) with
    | .fn g [] cv =>
      if g = f then
        match exec n base call rest { s with t := put (some slot) (.fn f [] (caps.map (ev s.t))) s.t } with
        | some (.nor, s1) | some (.ret, s1) => dexec n call d .niliface cv s1
        | some (.pan v, s1) => dexec n call d v cv s1
        | _ => none
      else none
    | _ => none

def gcall (n : Nat) (g : GFunc) (call : Call) (as : List AVal) (h : List ABox) : Option (CRes × List ABox × Bool) :=
  match gexec n h.length call g.d g.body ⟨as.map AVal.dim ++ List.replicate (g.ntmps - as.length) (.tup []), h, false⟩ with
  | some (.nor, s) | some (.ret, s) =>
    match readRes s g.results with
    | some vs => some (leave h.length (.ret (oneRes vs)) s.h s.e)
    | none => none
  | some (.pan v, s) => some (leave h.length (.pan v) s.h s.e)
  | _ => none

section
variable (P : Program) (gl : Nat → Option (List AVal))

def dfrPair (o0 o1 : Oper) : Option (FuncId × List AOpd × Nat) :=
  match o0.op with
  | .makeFunc (.func f) a caps =>
    match o1.op with
    | .defer c =>
      match c.callee with
      | .value (.tmp t) => if o0.dst = some t ∧ o0.guard = none ∧ o1.dst = none ∧ o1.guard = none ∧ a = #[] ∧ c.args = #[] then (opds gl caps).map fun cs => (f, cs, t) else none
      | _ => none
    | _ => none
  | _ => none

def dfrCode : Code → Option (FuncId × List AOpd × Nat)
  | .region _ ops false =>
    match ops.toList with
    | [o0, o1] => dfrPair gl o0 o1
    | _ => none
  | _ => none

def compG : Code → Option GBody
  | .seq a b =>
    match dfrCode gl a with
    | some (f, caps, t) => (comp P gl b).map (.dfr f caps t)
    | none =>
      match comp P gl a, compG b with
      | some x, some r => if x.noRf then some (.pre x r) else none
      | _, _ => none
  | _ => none

def recOf (o : Oper) : Option Nat :=
  match o.op with
  | .call c =>
    match c.callee with
    | .builtin .recover => if o.guard = none ∧ c.args = #[] then o.dst else none
    | _ => none
  | _ => none

def compD (f : Func) : Option DFunc :=
  match f.body with
  | some (.seq (.region _ ops false) c) =>
    match ops.toList with
    | o0 :: os =>
      match recOf o0, os.mapM (compOper P gl ops), comp P gl c with
      | some k, some aos, some ac => if aos.all (fun o => !o.op.calls) && ac.noRf && f.results.isEmpty then some ⟨f.ntmps, k, aos, ac⟩ else none
      | _, _, _ => none
    | _ => none
  | _ => none

def compGuard (f d : Func) : Option GFunc :=
  match f.body with
  | some c =>
    match compG P gl c, f.results.toList.mapM (compRes P), compD P gl d with
    | some b, some rs, some d => some ⟨f.ntmps, rs, b, d⟩
    | _, _, _ => none
  | none => none
end
end Go.AE

namespace Go.AE
/-- a table of compiled functions -/
inductive FTree where
  | nil
  | node (k : Nat) (v : AFunc) (l r : FTree)
  deriving Inhabited

def FTree.get : FTree → Nat → Option AFunc
  | .nil, _ => none
  | .node k v l r, i => bif Nat.beq i k then some v else bif Nat.blt i k then l.get i else r.get i

def FTree.All (p : Nat → AFunc → Prop) : FTree → Prop
  | .nil => True
  | .node k v l r => p k v ∧ l.All p ∧ r.All p

theorem FTree.get_all {p : Nat → AFunc → Prop} : ∀ {t : FTree} {i : Nat} {v : AFunc}, t.All p → t.get i = some v → p i v
  | .nil, _, _, _, h => by cases h
  | .node k w l r, i, v, ha, h => by
    simp only [FTree.get] at h
    cases hb : Nat.beq i k with
    | true =>
      rw [hb] at h
      have hik : i = k := Nat.eq_of_beq_eq_true hb
      subst hik
      cases h
      exact ha.1
    | false =>
      rw [hb] at h
      cases hc : Nat.blt i k with
      | true => rw [hc] at h; exact FTree.get_all ha.2.1 h
      | false => rw [hc] at h; exact FTree.get_all ha.2.2 h
end Go.AE

namespace Go.AE
/-- how a compiled function's call ends -/
def endOf (fn : AFunc) (h : List ABox) : Option (Ex × St) → Option (CRes × List ABox × Bool)
  | some (.nor, s) | some (.ret, s) =>
    match readRes s fn.results with
    | some vs => some (leave h.length (.ret (oneRes vs)) s.h s.e)
    | none => none
  | some (.pan v, s) => some (leave h.length (.pan v) s.h s.e)
  | _ => none

theorem run_fn {F : FuncId → Option AFunc} {X : Exts} {n : Nat} {f : FuncId} {first args cap : List AVal} {h : List ABox} {fn : AFunc} (hX : X f = none) (hF : F f = some fn) :
    run F X (n + 1) (.fn f first cap) args h = endOf fn h (exec n h.length (run F X n) fn.code ⟨(first ++ args ++ cap).map AVal.dim ++ List.replicate (fn.ntmps - ((first ++ args ++ cap).map AVal.dim).length) (.tup []), h, false⟩) := by
  simp only [run, hX, hF]
  rfl

theorem run_ext {F : FuncId → Option AFunc} {X : Exts} {n : Nat} {f : FuncId} {first args cap : List AVal} {h : List ABox} {g : Call → List AVal → List ABox → Option (CRes × List ABox × Bool)} (hX : X f = some g) :
    run F X (n + 1) (.fn f first cap) args h = g (run F X n) (first ++ args ++ cap) h := by
  simp only [run, hX]
end Go.AE
