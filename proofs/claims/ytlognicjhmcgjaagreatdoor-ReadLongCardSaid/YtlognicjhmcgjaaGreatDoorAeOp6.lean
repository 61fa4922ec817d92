/- The abstract executor: a slice out of its parts. No condition. -/
import Derived.Test.YtlognicjhmcgjaaGreatDoorAeOp5
namespace Go.AE
section
variable {γ : Nat → Option Nat} {imm : Nat → Nat → Option Value}

theorem IElems.of_get {xs : List AVal} {b p k : Nat} (h : ∀ (i : Nat) (x : AVal), xs[i]? = some x → x.cells.length = k ∧ ICells γ imm x.cells b (p + i * k)) : IElems γ imm xs b p := by
  induction xs generalizing p with
  | nil => simp [IElems]
  | cons x xs ih =>
    obtain ⟨h1, h2⟩ := h 0 x rfl
    refine IElems.cons (by simpa using h2) ?_
    rw [h1]
    refine ih fun i y hy => ?_
    obtain ⟨h3, h4⟩ := h (i + 1) y (by simpa using hy)
    refine ⟨h3, ?_⟩
    rwa [Nat.add_mul, Nat.one_mul, Nat.add_comm (i * k), ← Nat.add_assoc] at h4

theorem storable_cells {x : AVal} (h : x.storable = true) : x.cells = [x] := by
  cases x <;> first | rfl | (simp [AVal.storable] at h)

/-- the elements of a row of cells -/
def elems (k len : Nat) (cs : List AVal) : List AVal := (List.range len).map fun i => if k = 1 then (cs.getD i .undef) else .agg ((cs.drop (i * k)).take k)

theorem elems_spec {k len b p : Nat} {cs : List AVal} {c : List Value} (h : VRelL γ imm cs c) (hl : len * k ≤ cs.length) (hs : cs.all AVal.storable = true) (hi : ∀ (o : Nat) (v : Value), c[o]? = some v → imm b (p + o) = some v) :
    (∀ x ∈ elems k len cs, x.cells.length = k) ∧ IElems γ imm (elems k len cs) b p ∧ (elems k len cs).length = len := by
  have key : ∀ (i : Nat) (x : AVal), (elems k len cs)[i]? = some x → x.cells.length = k ∧ ICells γ imm x.cells b (p + i * k) := by
    intro i x hx
    simp only [elems, List.getElem?_map, Option.map_eq_some_iff] at hx
    obtain ⟨j, hj, rfl⟩ := hx
    obtain ⟨hj1, rfl⟩ := List.getElem?_eq_some_iff.1 hj
    simp only [List.length_range] at hj1
    simp only [List.getElem_range]
    by_cases hk : k = 1
    · subst hk
      simp only [if_true, Nat.mul_one] at hl ⊢
      have hic : i < cs.length := by omega
      have hst : (cs[i]).storable = true := by rw [List.all_eq_true] at hs; exact hs _ (List.getElem_mem hic)
      have hg : cs.getD i .undef = cs[i] := by simp [List.getD, List.getElem?_eq_getElem hic]
      rw [hg, storable_cells hst]
      obtain ⟨v, hv, hr⟩ := h.get (List.getElem?_eq_getElem hic)
      simp only [List.length_cons, List.length_nil, ICells]
      exact ⟨trivial, ⟨v, hi i v hv, hr⟩, trivial⟩
    · simp only [if_neg hk, AVal.cells]
      have hle : i * k + k ≤ cs.length := by
        have : (i + 1) * k ≤ len * k := Nat.mul_le_mul_right k hj1
        rw [Nat.add_mul, Nat.one_mul] at this
        omega
      refine ⟨by simp; omega, ICells.of_get fun o y hy => ?_⟩
      have hok : o < k := by have := (List.getElem?_eq_some_iff.1 hy).1; simp at this; omega
      rw [List.getElem?_take_of_lt hok, List.getElem?_drop] at hy
      obtain ⟨v, hv, hr⟩ := h.get hy
      exact ⟨v, by rw [Nat.add_assoc]; exact hi _ v hv, hr⟩
  refine ⟨fun x hx => ?_, IElems.of_get (k := k) key, by simp [elems]⟩
  obtain ⟨i, hi⟩ := List.getElem?_of_mem hx
  exact (key i x hi).1
end

section
variable {P : Program} {gl : Nat → Option (List AVal)} {G : Ghost} {w : World} {h : List ABox} {t : List AVal} {a : Act}

theorem flatten_get {α : Type} (zs : List α) (hk : zs.length ≠ 0) : ∀ (n i : Nat) (x : α), ((List.replicate n zs).flatten)[i]? = some x → zs[i % zs.length]? = some x
  | 0, i, x, h => by simp at h
  | n + 1, i, x, h => by
    simp only [List.replicate_succ, List.flatten_cons] at h
    by_cases hi : i < zs.length
    · rw [List.getElem?_append_left hi] at h
      rwa [Nat.mod_eq_of_lt hi]
    · rw [List.getElem?_append_right (by omega)] at h
      have := flatten_get zs hk n _ x h
      rwa [← Nat.mod_eq_sub_mod (by omega)] at this

theorem rep_cells {γ : Nat → Option Nat} {imm : Nat → Nat → Option Value} {zs : List AVal} {u : Array Value} (hz : VRelL γ imm zs u.toList) (k len : Nat) (hk : zs.length = k) (hk0 : k ≠ 0) :
    VRelL γ imm ((List.replicate len zs).flatten) (((Array.range (len * k)).map (u[· % u.size]!)).toList) := by
  have hu : u.size = k := by have := hz.length; simp at this; omega
  refine VRelL.of_get ?_ fun i x v hx hv => ?_
  · simp [hk]
  · simp only [Array.toList_map, Array.toList_range, List.getElem?_map, Option.map_eq_some_iff] at hv
    obtain ⟨j, hj, rfl⟩ := hv
    obtain ⟨hj1, rfl⟩ := List.getElem?_eq_some_iff.1 hj
    simp only [List.length_range] at hj1
    simp only [List.getElem_range]
    have hmod : i % k < k := Nat.mod_lt _ (by omega)
    have hx' : zs[i % k]? = some x := by
      have := flatten_get zs (by omega) len i x hx
      rwa [hk] at this
    obtain ⟨v, hv, hr⟩ := hz.get hx'
    rw [hu]
    simp only [Array.getElem?_toList] at hv
    rw [getElem!_pos u (i % k) (by omega)]
    rw [Array.getElem?_eq_getElem (by omega)] at hv
    cases hv
    exact hr

theorem list_run (hr : Rel P gl G h w) (ht : TRel G w t a.tmps) {o : Oper} {ty e : TypeId} {ps : Array (Nat × Operand)} {aps : List (Nat × AOpd)} {v z : AVal} {len k : Nat} (ho : o.op = .buildSlice ty len ps)
    (hu : P.underlying ty = some (.slice e)) (hk : szOf P e = some k) (hk0 : k ≠ 0) (hz : zeroOf P e = some z) (hps : partsL gl ps.toList = some aps)
    (hp : pureV t (.list k z.cells len aps) = some v) :
    ∃ (c : Array Value) (u : Value), (execOp a.eval o).run P w = .ok (.value u) (w.alloc (.cells c e)) ∧ (G.withRow w.heap.size c c.size none).V v u ∧ v.dim = v := by
  simp only [pureV] at hp
  split at hp
  · rename_i hzl
    split at hp
    · rename_i cs hcs
      split at hp
      · rename_i hst
        cases hp
        obtain ⟨u0, hzu, hzr⟩ := zeroOf_run hz w
        obtain ⟨h1, h2⟩ := partsL_spec hr ht k hps
        have hu0 : u0.cells.size = k := by have := (hzr G.γ G.imm).length; simp at this; omega
        obtain ⟨c', e1, e2⟩ := fill_run (γ := G.γ) (imm := G.imm) (fun i => some (i * k, k)) (ps.toList.map fun (i, x) => (i, a.eval x)) (aps.map fun (i, x) => (i * k, k, ev t x)) _ _ cs (rep_cells (hzr _ _) k len hzl.1 hk0) (by simpa using h1)
          (fun n i v off size x hn hn' => by
            simp only [List.getElem?_map, Option.map_eq_some_iff] at hn hn'
            obtain ⟨⟨i', x'⟩, hn1, hn2⟩ := hn
            obtain ⟨⟨off', ax'⟩, hn3, hn4⟩ := hn'
            simp only [Prod.mk.injEq] at hn2 hn4
            obtain ⟨rfl, rfl⟩ := hn2
            obtain ⟨rfl, rfl, rfl⟩ := hn4
            obtain ⟨rfl, q2⟩ := h2 n _ _ _ _ hn1 hn3
            exact ⟨rfl, q2⟩) hcs
        have hlen : ∀ (parts : List (Nat × Nat × AVal)) (xs ys : List AVal), fillS xs parts = some ys → ys.length = xs.length := by
          intro parts
          induction parts with
          | nil => intro xs ys hf; simp only [fillS, Option.some.injEq] at hf; rw [hf]
          | cons p ps ih =>
            intro xs ys hf
            obtain ⟨off, size, x⟩ := p
            simp only [fillS] at hf
            split at hf
            · rename_i hh
              rw [ih _ _ hf]
              simp only [splice, List.length_append, List.length_take, List.length_drop]
              omega
            · cases hf
        have hcl : cs.length = len * k := by rw [hlen _ _ _ hcs]; simp [hzl.1]
        have hext := Ext.newRow 0 c' e c'.size none hr
        obtain ⟨n, hn⟩ := lowerL_ex cs
        have e3 : VRelL (G.withRow w.heap.size c' c'.size none).γ (G.withRow w.heap.size c' c'.size none).imm cs c'.toList := VRelL.mono hext.ik n (fun i b _ => hext.gk i b) cs _ hn e2
        obtain ⟨s1, s2, s3⟩ := elems_spec (b := w.heap.size) (p := 0) (k := k) (len := len) e3 (by omega) hst (fun o v hv => by
          simp only [Ghost.withRow, Nat.zero_add, if_true]
          simp only [Array.getElem?_toList] at hv
          rw [if_pos (Array.getElem?_eq_some_iff.1 hv).1, hv])
        refine ⟨c', .slice (some ⟨w.heap.size, 0, none⟩) len len, ?_, ?_, rfl⟩
        · simp only [execOp, ho]
          refine run_v ?_
          have hlim : ¬ (len * k > 2 ^ 24) := by omega
          have e4 : (ps.map fun (i, x) => (i, a.eval x)).toList = ps.toList.map fun (i, x) => (i, a.eval x) := by simp
          by_cases hz0 : len * k = 0
          · have hl0 : len = 0 := by rcases Nat.mul_eq_zero.1 hz0 with h | h; exact h; exact absurd h hk0
            subst hl0
            simp only [Nat.zero_mul] at e1
            have e1' : Instr.fill (fun i => some (i * k, k)) ((Array.range 0).map ((#[] : Array Value)[· % (#[] : Array Value).size]!)) (ps.toList.map fun (i, x) => (i, a.eval x)) = some c' := by
              have e0 : ∀ f : Nat → Value, (Array.range 0).map f = #[] := fun f => by apply Array.ext'; simp
              rw [e0] at e1 ⊢
              exact e1
            simp only [Instr.buildSlice, Sem.run_bind, run_underlying hu, Result.andThen_ok, szOf_run hk, Nat.zero_mul, gt_iff_lt, Nat.not_lt_zero, if_false, Sem.run_pure, if_true, e4, e1']
            simp [newRow]
          · simp only [Instr.buildSlice, Sem.run_bind, run_underlying hu, Result.andThen_ok, szOf_run hk, if_neg hlim, if_neg hz0, Sem.run_pure, hzu, e4, e1]
            simp [newRow]
        · simp only [Ghost.V, VRel]
          exact ⟨_, _, _, rfl, s3.symm, Nat.le_refl _, fun _ => rfl, by simp, ⟨k, s1⟩, .inr ⟨_, _, rfl, s2⟩⟩
      · cases hp
    · cases hp
  · cases hp
end
end Go.AE
