/- The abstract executor: its plain operations are the machine's. No condition. -/
import Derived.Test.YtlognicjhmcgjaaGreatDoorAeInv
namespace Go.AE
section
variable {P : Program} {gl : Nat → Option (List AVal)} {G : Ghost} {w : World} {h : List ABox} {t : List AVal} {a : Act}

theorem scalar_rel {γ : Nat → Option Nat} {imm : Nat → Nat → Option Value} {v : Value} {x : AVal} (h : scalarV v = some x) : VRel γ imm x v := by
  unfold scalarV at h
  split at h <;> try (simp only [Option.some.injEq] at h; subst h)
  all_goals try (simp [VRel]; done)
  · split at h
    · rename_i hh; obtain ⟨rfl, rfl⟩ := hh; cases h
      simp only [VRel]; exact ⟨none, 0, 0, rfl, rfl, Nat.le_refl _, fun _ => rfl, fun _ => rfl, ⟨0, by simp⟩, .inl trivial⟩
    · cases h
  · split at h
    · rename_i hh
      simp only [Bool.and_eq_true, Array.isEmpty_iff] at hh
      obtain ⟨rfl, rfl⟩ := hh; cases h
      simp only [VRel]; exact ⟨#[], #[], rfl, by simp [VRelL], by simp [VRelL]⟩
    · cases h
  · cases h

theorem scalar_lower {v : Value} {x : AVal} (h : scalarV v = some x) : x.lower 0 = true := by
  unfold scalarV at h
  split at h <;> first | (simp only [Option.some.injEq] at h; subst h; rfl) | (split at h <;> cases h; rfl) | cases h

theorem mapM_rel {γ : Nat → Option Nat} {imm : Nat → Nat → Option Value} : ∀ {vs : List Value} {xs : List AVal}, vs.mapM scalarV = some xs → VRelL γ imm xs vs ∧ lowerL 0 xs = true
  | [], xs, h => by simp at h; subst h; simp [VRelL, lowerL]
  | v :: vs, xs, h => by
    simp only [List.mapM_cons, Option.pure_def, Option.bind_eq_bind, Option.bind_eq_some_iff] at h
    obtain ⟨x, hx, ys, hys, h⟩ := h
    cases h
    obtain ⟨h1, h2⟩ := mapM_rel (γ := γ) (imm := imm) hys
    exact ⟨by simp only [VRelL]; exact ⟨v, vs, rfl, scalar_rel hx, h1⟩, by simp [lowerL, scalar_lower hx, h2]⟩

theorem const_rel {γ : Nat → Option Nat} {imm : Nat → Nat → Option Value} {v : Value} {x : AVal} (h : constV v = some x) : VRel γ imm x v ∧ x.lower 0 = true := by
  unfold constV at h
  split at h
  · rename_i cs
    simp only [Option.map_eq_some_iff] at h
    obtain ⟨xs, hx, rfl⟩ := h
    obtain ⟨h1, h2⟩ := mapM_rel (γ := γ) (imm := imm) hx
    exact ⟨by simp only [VRel]; exact ⟨cs, rfl, h1⟩, by simpa [AVal.lower] using h2⟩
  · split at h
    · rename_i hh
      simp only [Array.isEmpty_iff] at hh
      subst hh; cases h; exact ⟨by simp only [VRel]; exact ⟨#[], rfl, by simp [VRelL]⟩, rfl⟩
    · cases h
  · exact ⟨scalar_rel h, scalar_lower h⟩

theorem raw_rel (hr : Rel P gl G h w) (ht : TRel G w t a.tmps) {x : Operand} {ax : AOpd} (hx : opd gl x = some ax) : G.V (raw t ax) (a.eval x) := by
  cases x with
  | tmp i => simp only [opd, Option.some.injEq] at hx; subst hx; exact ht.get i
  | const v =>
    simp only [opd, Option.map_eq_some_iff] at hx
    obtain ⟨c, hc, rfl⟩ := hx
    exact (const_rel hc).1
  | global g =>
    simp only [opd, Option.map_eq_some_iff] at hx
    obtain ⟨c, hc, rfl⟩ := hx
    simp only [raw, Ghost.V, VRel]
    exact ⟨g, 0, rfl, (hr.glob g c hc).1⟩
  | func f =>
    simp only [opd, Option.some.injEq] at hx
    subst hx
    simp only [raw, Ghost.V, VRel]
    exact ⟨#[], #[], rfl, by simp [VRelL], by simp [VRelL]⟩

theorem ev_rel (hr : Rel P gl G h w) (ht : TRel G w t a.tmps) {x : Operand} {ax : AOpd} (hx : opd gl x = some ax) : G.V (ev t ax) (a.eval x) := dim_rel (raw_rel hr ht hx)

theorem dim_dim (v : AVal) : v.dim.dim = v.dim := by
  cases v <;> try rfl
  rename_i xs f; cases f <;> rfl

theorem ev_dim (t : List AVal) (x : AOpd) : (ev t x).dim = ev t x := dim_dim _

theorem evs_rel (hr : Rel P gl G h w) (ht : TRel G w t a.tmps) : ∀ {xs : List Operand} {axs : List AOpd}, xs.mapM (opd gl) = some axs → G.VL (axs.map (ev t)) (xs.map a.eval)
  | [], axs, h => by simp at h; subst h; simp [Ghost.VL, VRelL]
  | x :: xs, axs, h => by
    simp only [List.mapM_cons, Option.pure_def, Option.bind_eq_bind, Option.bind_eq_some_iff] at h
    obtain ⟨y, hy, ys, hys, h⟩ := h
    cases h
    simp only [List.map_cons, Ghost.VL, VRelL]
    exact ⟨_, _, rfl, ev_rel hr ht hy, evs_rel hr ht hys⟩

theorem opds_rel (hr : Rel P gl G h w) (ht : TRel G w t a.tmps) {xs : Array Operand} {axs : List AOpd} (hx : opds gl xs = some axs) : G.VL (axs.map (ev t)) (xs.map a.eval).toList := by
  rw [Array.toList_map]; exact evs_rel hr ht hx

theorem cells_rel {γ : Nat → Option Nat} {imm : Nat → Nat → Option Value} {x : AVal} {v : Value} (h : VRel γ imm x v) (hs : x.cells.all AVal.storable = true) : VRelL γ imm x.cells v.cells.toList ∧ ∀ u ∈ v.cells.toList, u.oneCell' = true := by
  have one : ∀ {x : AVal} {v : Value}, VRel γ imm x v → x.storable = true → v.oneCell' = true := by
    intro x v h hs
    cases x <;> simp only [AVal.storable, Bool.false_eq_true] at hs <;> simp only [VRel] at h <;> first
      | (subst h; rfl)
      | (obtain ⟨_, rfl, _⟩ := h; rfl)
      | (obtain ⟨_, _, rfl⟩ := h; rfl)
      | (obtain ⟨_, _, rfl, _⟩ := h; rfl)
      | (obtain ⟨_, _, _, rfl, _⟩ := h; rfl)
  have all : ∀ {xs : List AVal} {vs : List Value}, VRelL γ imm xs vs → xs.all AVal.storable = true → ∀ u ∈ vs, u.oneCell' = true := by
    intro xs
    induction xs with
    | nil => intro vs h _ u hu; simp only [VRelL] at h; subst h; cases hu
    | cons x xs ih =>
      intro vs h hs u hu
      simp only [VRelL] at h
      obtain ⟨v, rest, rfl, h1, h2⟩ := h
      simp only [List.all_cons, Bool.and_eq_true] at hs
      cases hu with
      | head => exact one h1 hs.1
      | tail _ hu => exact ih h2 hs.2 u hu
  have key : VRelL γ imm x.cells v.cells.toList := by
    cases x with
    | agg cs =>
      simp only [VRel] at h
      obtain ⟨c, rfl, h1⟩ := h
      simpa [AVal.cells, Value.cells] using h1
    | _ =>
      have hs' := hs
      simp only [AVal.cells, List.all_cons, List.all_nil, Bool.and_true] at hs'
      have ho := one h hs'
      have hc : v.cells = #[v] := by cases v <;> first | rfl | (simp [Value.oneCell'] at ho)
      rw [hc]
      simp only [AVal.cells, VRelL]
      exact ⟨v, [], rfl, h, rfl⟩
  exact ⟨key, all key hs⟩

theorem cut_rel {γ : Nat → Option Nat} {imm : Nat → Nat → Option Value} {cs : List AVal} {vs : List Value} {o : Nat} {k : Option Nat} {x : AVal} (h : VRelL γ imm cs vs) (hc : cut cs o k = some x) :
    VRel γ imm x (match k with | none => vs.getD o undef | some k => .agg ((vs.drop o).take k).toArray) ∧ x.dim = x ∧ (match k with | none => o < vs.length | some k => o + k ≤ vs.length) := by
  cases k with
  | none =>
    simp only [cut, Option.map_eq_some_iff] at hc
    obtain ⟨c, h0, rfl⟩ := hc
    obtain ⟨v, hv, hr⟩ := h.get h0
    refine ⟨?_, dim_dim _, ?_⟩
    · simp only [List.getD, hv, Option.getD_some]; exact dim_rel hr
    · simp only; exact (List.getElem?_eq_some_iff.1 hv).1
  | some k =>
    simp only [cut] at hc
    split at hc
    · cases hc
      refine ⟨?_, rfl, by simp only; rw [← h.length]; assumption⟩
      simp only [VRel]
      exact ⟨_, rfl, by simpa using VRelL.dims (VRelL.take k (VRelL.drop o h))⟩
    · cases hc
end
end Go.AE
