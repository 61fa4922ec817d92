/- The abstract executor: each operation that looks at no box does what the machine's does. No condition. -/
import Derived.Test.YtlognicjhmcgjaaGreatDoorAeOp1
namespace Go.AE
section
variable {P : Program} {gl : Nat → Option (List AVal)} {G : Ghost} {w : World} {h : List ABox} {t : List AVal} {a : Act}

theorem bindO {α β : Type} {x : Option α} {f : α → Option β} {b : β} (h : (x >>= f) = some b) : ∃ y, x = some y ∧ f y = some b := by
  cases x with
  | none => cases h
  | some y => exact ⟨y, rfl, h⟩

theorem mapO {α β : Type} {x : Option α} {f : α → β} {b : β} (h : x.map f = some b) : ∃ y, x = some y ∧ f y = b := by
  cases x with
  | none => cases h
  | some y => exact ⟨y, rfl, by simpa using h⟩

theorem bound_run (hr : Rel P gl G h w) (ht : TRel G w t a.tmps) {x : Operand} {ax : AOpd} (hx : opd gl x = some ax) {d m n : Nat} (hb : bound t (some ax) d = some n) (hm : n ≤ m) (c : BoundsCode) :
    (Instr.sliceBound (a.eval x) m c).run P w = .ok n w := by
  have hv := ev_rel hr ht hx
  simp only [bound] at hb
  split at hb
  · rename_i k i he
    rw [he] at hv
    simp only [Ghost.V, VRel] at hv
    split at hb
    · rename_i h0
      cases hb
      have : 0 ≤ i ∧ i ≤ (m : Int) := ⟨h0, by omega⟩
      simp [Instr.sliceBound, hv, asIntOf, this]
    · cases hb
  · cases hb

/-- the two bounds of a slice expression -/
theorem bounds_run (hr : Rel P gl G h w) (ht : TRel G w t a.tmps) {lo hi : Option Operand} {alo ahi : Option AOpd} (hlo : optOpd gl lo = some alo) (hhi : optOpd gl hi = some ahi)
    {len cap l m : Nat} (hl : bound t alo 0 = some l) (hm : bound t ahi len = some m) (h1 : l ≤ m) (h2 : m ≤ len) (h3 : len ≤ cap) (sl : Bool) :
    (Instr.sliceBounds sl len cap (lo.map a.eval) (hi.map a.eval) none).run P w = .ok (l, m, cap) w := by
  have hm' : ∀ c : BoundsCode, (match hi.map a.eval, (none : Option Value) with
      | some v, some _ => Instr.sliceBound v cap .slice3B
      | some v, none => Instr.sliceBound v cap c
      | none, none => pure len
      | none, some _ => stuck "Slice: max without high" : Sem Nat).run P w = .ok m w := by
    intro c
    cases hi with
    | none =>
      simp only [optOpd, Option.some.injEq] at hhi
      subst hhi
      simp only [bound, Option.some.injEq] at hm
      subst hm
      rfl
    | some x =>
      simp only [optOpd] at hhi
      obtain ⟨ax, hx, rfl⟩ := mapO hhi
      exact bound_run hr ht hx hm (by omega) c
  have hl' : (match lo.map a.eval with
      | some v => Instr.sliceBound v m .sliceB
      | none => pure 0 : Sem Nat).run P w = .ok l w := by
    cases lo with
    | none =>
      simp only [optOpd, Option.some.injEq] at hlo
      subst hlo
      simp only [bound, Option.some.injEq] at hl
      subst hl
      rfl
    | some x =>
      simp only [optOpd] at hlo
      obtain ⟨ax, hx, rfl⟩ := mapO hlo
      exact bound_run hr ht hx hl h1 .sliceB
  simp only [Instr.sliceBounds, Sem.run_bind, Sem.run_pure, Result.andThen_ok]
  have hm'' := hm' (if sl then .sliceAcap else .sliceAlen)
  cases hh : hi.map a.eval with
  | none =>
    rw [hh] at hm''
    simp only [Sem.run_pure, Result.ok.injEq] at hm''
    obtain ⟨rfl, _⟩ := hm''
    simp only [Sem.run_pure, Result.andThen_ok]
    cases hq : lo.map a.eval with
    | none =>
      rw [hq] at hl'
      simp only [Sem.run_pure, Result.ok.injEq] at hl'
      obtain ⟨rfl, _⟩ := hl'
      rfl
    | some v =>
      rw [hq] at hl'
      simp only at hl'
      simp [hl']
  | some u =>
    rw [hh] at hm''
    simp only at hm''
    simp only [Sem.run_bind, hm'', Result.andThen_ok]
    cases hq : lo.map a.eval with
    | none =>
      rw [hq] at hl'
      simp only [Sem.run_pure, Result.ok.injEq] at hl'
      obtain ⟨rfl, _⟩ := hl'
      rfl
    | some v =>
      rw [hq] at hl'
      simp only at hl'
      simp [hl']
end
end Go.AE
