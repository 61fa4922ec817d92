/- The abstract executor: append. No condition. -/
import Derived.Test.YtlognicjhmcgjaaGreatDoorAeStep3
namespace Go.AE

/-- the cells of elements, one behind the other -/
def flat (xs : List AVal) : List AVal := xs.flatMap AVal.cells

theorem flat_length {xs : List AVal} {k : Nat} (h : ∀ x ∈ xs, x.cells.length = k) : (flat xs).length = xs.length * k := by
  induction xs with
  | nil => simp [flat]
  | cons x xs ih =>
    have h1 := h x (by simp)
    have h2 := ih fun y hy => h y (by simp [hy])
    simp only [flat, List.flatMap_cons, List.length_append, List.length_cons] at h2 ⊢
    rw [h1, h2, Nat.add_mul, Nat.one_mul, Nat.add_comm]

section
variable {γ : Nat → Option Nat} {imm : Nat → Nat → Option Value}

theorem IElems.list : ∀ {xs : List AVal} {b p : Nat}, IElems γ imm xs b p → ∃ vs, VRelL γ imm (flat xs) vs ∧ ∀ (j : Nat) (v : Value), vs[j]? = some v → imm b (p + j) = some v
  | [], b, p, _ => ⟨[], by simp [flat, VRelL], fun j v h => by simp at h⟩
  | x :: xs, b, p, hx => by
    obtain ⟨h1, h2⟩ := hx.uncons
    obtain ⟨vs, h3, h4⟩ := h1.list
    obtain ⟨us, h5, h6⟩ := IElems.list h2
    refine ⟨vs ++ us, by simpa [flat] using h3.append h5, fun j v hj => ?_⟩
    by_cases e : j < vs.length
    · rw [List.getElem?_append_left e] at hj; exact h4 j v hj
    · rw [List.getElem?_append_right (by omega)] at hj
      have := h6 _ v hj
      rw [h3.length] at this
      rwa [show p + vs.length + (j - vs.length) = p + j by omega] at this

theorem IElems.of_flat : ∀ {xs : List AVal} {vs : List Value} {b p : Nat}, VRelL γ imm (flat xs) vs → (∀ (j : Nat) (v : Value), vs[j]? = some v → imm b (p + j) = some v) → IElems γ imm xs b p
  | [], _, _, _, _, _ => by simp [IElems]
  | x :: xs, vs, b, p, hv, hi => by
    simp only [flat, List.flatMap_cons] at hv
    have hl := hv.length
    refine IElems.cons (ICells.of_get fun i c hc => ?_) (IElems.of_flat (vs := vs.drop x.cells.length) ?_ fun j v hj => ?_)
    · obtain ⟨v, h1, h2⟩ := hv.get (i := i) (a := c) (by rw [List.getElem?_append_left (List.getElem?_eq_some_iff.1 hc).1]; exact hc)
      exact ⟨v, hi i v h1, h2⟩
    · have := hv.drop x.cells.length
      simpa [flat] using this
    · rw [List.getElem?_drop] at hj
      rw [Nat.add_assoc]
      exact hi _ v hj

theorem IElems.cells_one {xs : List AVal} {vs : List Value} (h : VRelL γ imm (flat xs) vs) (hs : (flat xs).all AVal.storable = true) : ∀ v ∈ vs, v.oneCell' = true := by
  intro v hv
  obtain ⟨i, hi⟩ := List.getElem?_of_mem hv
  obtain ⟨a, ha, hr⟩ := h.get' hi
  have hst : a.storable = true := by rw [List.all_eq_true] at hs; exact hs a (List.mem_of_getElem? ha)
  have := (cells_rel hr (by rw [storable_cells hst]; simp [hst])).2 v (by
    cases v <;> first | (simp [Value.cells]; done) | skip
    all_goals
      exfalso
      cases a <;> first | (simp [AVal.storable] at hst; done) | (simp only [VRel] at hr; first | (cases hr; done) | (obtain ⟨_, hr, _⟩ := hr; cases hr; done) | (obtain ⟨_, _, hr, _⟩ := hr; cases hr; done) | (obtain ⟨_, _, hr⟩ := hr; cases hr; done) | (obtain ⟨_, _, _, hr, _⟩ := hr; cases hr; done)))
  exact this
end

section
variable {P : Program} {gl : Nat → Option (List AVal)} {G G' : Ghost} {w w' : World} {h : List ABox} {t : List AVal} {a : Act} {n : Nat}

/-- the cells of a slice that stands for a list -/
theorem first_run (hr : Rel P gl G h w) {xs : List AVal} {f : Flag} {v : Value} (hv : G.V (.lst xs f) v) {k : Nat} (hk : ∀ x ∈ xs, x.cells.length = k) :
    ∃ vs : List Value, G.VL (flat xs) vs ∧ (∀ w1 : World, (∀ x, w1.cell? x = w.cell? x) → (Builtin.firstCells k xs.length v).run P w1 = .ok vs.toArray w1) ∧ (Builtin.lenOf v).run P w = .ok xs.length w := by
  simp only [Ghost.V, VRel] at hv
  obtain ⟨base, len, cap, rfl, h1, h2, h3, h4, _, h5⟩ := hv
  subst h1
  rcases h5 with rfl | ⟨b, p, rfl, hE⟩
  · refine ⟨[], by simp [flat, Ghost.VL, VRelL], fun w1 _ => ?_, by simp [Builtin.lenOf]⟩
    cases base with
    | none => simp [Builtin.firstCells]
    | some a0 => simp [Builtin.firstCells, loadCells, loadCellsFrom]
  · obtain ⟨vs, h6, h7⟩ := hE.list
    refine ⟨vs, h6, fun w1 hw1 => ?_, by simp [Builtin.lenOf]⟩
    have hl : vs.length = xs.length * k := by rw [← h6.length, flat_length hk]
    have := run_loadCells_list (P := P) w1 ⟨b, p, none⟩ vs (fun j v hj => by
      rw [addr_add, hw1]
      exact (hr.imm b _ v (h7 j v hj)).1)
    rw [hl] at this
    simp [Builtin.firstCells, this]

theorem firstS_run {s : List UInt8} {v : Value} (hv : G.V (.str s) v) : ∃ vs : List Value, G.VL (flat (ints s)) vs ∧ (∀ (k : Nat) (w1 : World), (Builtin.firstCells k s.length v).run P w1 = .ok vs.toArray w1) ∧ (Builtin.lenOf v).run P w = .ok s.length w := by
  simp only [Ghost.V, VRel] at hv
  obtain ⟨b, rfl, hb⟩ := hv
  have hsz : b.size = s.length := by rw [← hb]; rfl
  refine ⟨s.map fun c => .int .u8 c.toNat, ?_, fun k w1 => ?_, by simp [Builtin.lenOf, hsz]⟩
  · clear hb hsz
    induction s with
    | nil => simp [flat, ints, Ghost.VL, VRelL]
    | cons c s ih =>
      simp only [flat, ints, List.map_cons, List.flatMap_cons, AVal.cells, List.singleton_append, Ghost.VL, VRelL] at ih ⊢
      exact ⟨_, _, rfl, by simp [VRel], ih⟩
  · have he : (b.extract 0 s.length).data = b.data := by
      apply Array.ext'
      rw [extract_str]
      rw [← hb]
      simp only [List.drop_zero, Nat.sub_zero]
      exact List.take_of_length_le (Nat.le_refl _)
    simp only [Builtin.firstCells, Sem.run_pure]
    congr 1
    rw [he]
    apply Array.ext'
    simp [hb]

theorem nextcap_le (need cap : Nat) (h : need ≤ 2 ^ 30) (hc : cap < need) : Builtin.nextslicecap need cap ≤ 2 ^ 32 := by
  unfold Builtin.nextslicecap
  split
  · omega
  · split
    · omega
    · have g0 : ∀ c, Builtin.growBy need 0 c = c := fun c => rfl
      have gs : ∀ n c, Builtin.growBy need (n + 1) c = if c ≥ need then c else Builtin.growBy need n (c + (c + 768) / 4) := fun n c => rfl
      rw [gs]
      split
      · omega
      · rw [gs]
        split
        · omega
        · rw [gs]
          split
          · omega
          · rw [gs]
            split
            · omega
            · rw [g0]
              omega
end
end Go.AE
