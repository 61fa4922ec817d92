/- The abstract executor: a struct or an array out of its parts; a slice of those. No condition. -/
import Derived.Test.YtlognicjhmcgjaaGreatDoorAeOp4
namespace Go.AE

theorem place_list (off : Nat) : ∀ (vs : List Value) (i : Nat) (cells : Array Value), off + i + vs.length ≤ cells.size →
    ((vs.zipIdx i).foldl (fun cs (c, j) => cs.setIfInBounds (off + j) c) cells).toList = cells.toList.take (off + i) ++ vs ++ cells.toList.drop (off + i + vs.length)
  | [], i, cells, _ => by simp
  | v :: vs, i, cells, hl => by
    have hi : off + i < cells.size := by simp at hl; omega
    simp only [List.zipIdx_cons, List.foldl_cons]
    rw [place_list off vs (i + 1) _ (by simp at hl ⊢; omega)]
    simp only [Array.toList_setIfInBounds, List.length_cons]
    have e1 : (cells.toList.set (off + i) v).take (off + (i + 1)) = cells.toList.take (off + i) ++ [v] := by
      rw [← Nat.add_assoc, List.take_add_one]
      rw [List.take_set, List.set_eq_of_length_le (by simp; omega)]
      rw [List.getElem?_set_self (by simpa using hi)]
      rfl
    have e2 : (cells.toList.set (off + i) v).drop (off + (i + 1) + vs.length) = cells.toList.drop (off + i + (vs.length + 1)) := by
      rw [List.drop_set_of_lt (by omega)]
      congr 1
      omega
    rw [e1, e2]
    simp

theorem fill_step (off : Nat) (v : Value) (cells : Array Value) (h : off + v.cells.size ≤ cells.size) :
    (v.cells.zipIdx.foldl (fun cs (c, j) => cs.setIfInBounds (off + j) c) cells).toList = cells.toList.take off ++ v.cells.toList ++ cells.toList.drop (off + v.cells.size) := by
  have := place_list off v.cells.toList 0 cells (by simpa using h)
  rw [← Array.foldl_toList, Array.toList_zipIdx]
  simpa using this

section
variable {γ : Nat → Option Nat} {imm : Nat → Nat → Option Value}

theorem VRelL.splice {cs : List AVal} {c : List Value} {o : Nat} {xs : List AVal} {vs : List Value} (h : VRelL γ imm cs c) (hx : VRelL γ imm xs vs) : VRelL γ imm (splice cs o xs) (c.take o ++ vs ++ c.drop (o + vs.length)) := by
  unfold AE.splice
  rw [hx.length]
  exact ((h.take o).append hx).append (h.drop _)

theorem fill_run (place : Nat → Option (Nat × Nat)) : ∀ (parts : List (Nat × Value)) (aparts : List (Nat × Nat × AVal)) (cs : List AVal) (c : Array Value) (cs' : List AVal),
    VRelL γ imm cs c.toList → (parts.length = aparts.length) →
    (∀ (n : Nat) (i : Nat) (v : Value) (off size : Nat) (x : AVal), parts[n]? = some (i, v) → aparts[n]? = some (off, size, x) → place i = some (off, size) ∧ VRel γ imm x v) →
    fillS cs aparts = some cs' → ∃ c' : Array Value, Instr.fill place c parts = some c' ∧ VRelL γ imm cs' c'.toList
  | [], [], cs, c, cs', h, _, _, hf => by simp only [fillS, Option.some.injEq] at hf; subst hf; exact ⟨c, rfl, h⟩
  | [], _ :: _, _, _, _, _, hl, _, _ => by simp at hl
  | _ :: _, [], _, _, _, _, hl, _, _ => by simp at hl
  | (i, v) :: parts, (off, size, x) :: aparts, cs, c, cs', h, hl, hp, hf => by
    obtain ⟨hpl, hr⟩ := hp 0 i v off size x rfl rfl
    simp only [fillS] at hf
    split at hf
    · rename_i hh
      obtain ⟨h1, h2, h3⟩ := hh
      obtain ⟨k1, _⟩ := cells_rel hr h3
      have hs : v.cells.size = size := by have := k1.length; simp at this; omega
      have hcl : cs.length = c.size := by simpa using h.length
      have hstep := fill_step off v c (by rw [hs]; omega)
      have hsp : VRelL γ imm (splice cs off x.cells) (v.cells.zipIdx.foldl (fun cs (c, j) => cs.setIfInBounds (off + j) c) c).toList := by
        rw [hstep]
        have := VRelL.splice (o := off) h k1
        simpa using this
      obtain ⟨c', e1, e2⟩ := fill_run place parts aparts _ _ cs' hsp (by simpa using hl) (fun n i v off size x a b => hp (n + 1) i v off size x (by simpa using a) (by simpa using b)) hf
      refine ⟨c', ?_, e2⟩
      simp only [Instr.fill, hpl]
      rw [if_neg (by rw [hs, ← hcl]; simp; omega)]
      exact e1
    · cases hf
end

section
variable {P : Program} {gl : Nat → Option (List AVal)} {G : Ghost} {w : World} {h : List ABox} {t : List AVal} {a : Act}

theorem mapM_run {α β : Type} (f : α → Sem β) (g : α → β) : ∀ (xs : List α), (∀ x ∈ xs, (f x).run P w = .ok (g x) w) → (xs.mapM f).run P w = .ok (xs.map g) w
  | [], _ => by simp
  | x :: xs, hh => by
    simp only [List.mapM_cons, Sem.run_bind, hh x (by simp), Result.andThen_ok, mapM_run f g xs (fun y hy => hh y (by simp [hy])), Sem.run_pure, List.map_cons]

theorem places_run {fs : Array Field} (hall : (fs.all fun f => (szOf P f.type).isSome) = true) :
    (fs.mapM (fun f => do pure (f.offset, ← sizeOf f.type) : Field → Sem (Nat × Nat))).run P w = .ok (fs.map fun f => (f.offset, (szOf P f.type).getD 0)) w := by
  rw [Array.mapM_eq_mapM_toList]
  simp only [Sem.run_map]
  rw [mapM_run (P := P) (w := w) _ (fun f => (f.offset, (szOf P f.type).getD 0)) fs.toList (fun f hf => by
    have : (szOf P f.type).isSome = true := by
      rw [Array.all_eq_true'] at hall
      exact hall f (by simpa using hf)
    obtain ⟨n, hn⟩ := Option.isSome_iff_exists.1 this
    simp [szOf_run hn, hn])]
  simp only [Result.andThen_ok]
  congr 1
  exact Array.ext' (by simp)

theorem partsS_spec (hr : Rel P gl G h w) (ht : TRel G w t a.tmps) {fs : Array Field} : ∀ {ps : List (Nat × Operand)} {aps : List (Nat × Nat × AOpd)}, partsS P gl fs ps = some aps → ps.length = aps.length ∧
    ∀ (n i : Nat) (x : Operand) (off size : Nat) (ax : AOpd), ps[n]? = some (i, x) → aps[n]? = some (off, size, ax) → (fs.map fun f => (f.offset, (szOf P f.type).getD 0))[i]? = some (off, size) ∧ G.V (ev t ax) (a.eval x)
  | [], aps, hp => by simp only [partsS, Option.some.injEq] at hp; subst hp; simp
  | (i, x) :: ps, aps, hp => by
    simp only [partsS] at hp
    split at hp
    · rename_i f ax r hf hx hrr
      split at hp
      · rename_i s hs
        cases hp
        obtain ⟨h1, h2⟩ := partsS_spec hr ht hrr
        refine ⟨by simp [h1], fun n j y off size ay hn hn' => ?_⟩
        cases n with
        | zero =>
          simp only [List.getElem?_cons_zero, Option.some.injEq, Prod.mk.injEq] at hn hn'
          obtain ⟨rfl, rfl⟩ := hn
          obtain ⟨rfl, rfl, rfl⟩ := hn'
          exact ⟨by simp [hf, hs], ev_rel hr ht hx⟩
        | succ n => exact h2 n j y off size ay (by simpa using hn) (by simpa using hn')
      · cases hp
    · cases hp

theorem partsA_spec (hr : Rel P gl G h w) (ht : TRel G w t a.tmps) {k : Nat} : ∀ {ps : List (Nat × Operand)} {aps : List (Nat × Nat × AOpd)}, partsA gl k ps = some aps → ps.length = aps.length ∧
    ∀ (n i : Nat) (x : Operand) (off size : Nat) (ax : AOpd), ps[n]? = some (i, x) → aps[n]? = some (off, size, ax) → (off, size) = (i * k, k) ∧ G.V (ev t ax) (a.eval x)
  | [], aps, hp => by simp only [partsA, Option.some.injEq] at hp; subst hp; simp
  | (i, x) :: ps, aps, hp => by
    simp only [partsA] at hp
    split at hp
    · rename_i ax r hx hrr
      cases hp
      obtain ⟨h1, h2⟩ := partsA_spec hr ht hrr
      refine ⟨by simp [h1], fun n j y off size ay hn hn' => ?_⟩
      cases n with
      | zero =>
        simp only [List.getElem?_cons_zero, Option.some.injEq, Prod.mk.injEq] at hn hn'
        obtain ⟨rfl, rfl⟩ := hn
        obtain ⟨rfl, rfl, rfl⟩ := hn'
        exact ⟨rfl, ev_rel hr ht hx⟩
      | succ n => exact h2 n j y off size ay (by simpa using hn) (by simpa using hn')
    · cases hp

theorem partsL_spec (hr : Rel P gl G h w) (ht : TRel G w t a.tmps) (k : Nat) : ∀ {ps : List (Nat × Operand)} {aps : List (Nat × AOpd)}, partsL gl ps = some aps → ps.length = aps.length ∧
    ∀ (n i : Nat) (x : Operand) (j : Nat) (ax : AOpd), ps[n]? = some (i, x) → aps[n]? = some (j, ax) → i = j ∧ G.V (ev t ax) (a.eval x)
  | [], aps, hp => by simp only [partsL, Option.some.injEq] at hp; subst hp; simp
  | (i, x) :: ps, aps, hp => by
    simp only [partsL] at hp
    split at hp
    · rename_i ax r hx hrr
      cases hp
      obtain ⟨h1, h2⟩ := partsL_spec hr ht k hrr
      refine ⟨by simp [h1], fun n i' y j ay hn hn' => ?_⟩
      cases n with
      | zero =>
        simp only [List.getElem?_cons_zero, Option.some.injEq, Prod.mk.injEq] at hn hn'
        obtain ⟨rfl, rfl⟩ := hn
        obtain ⟨rfl, rfl⟩ := hn'
        exact ⟨rfl, ev_rel hr ht hx⟩
      | succ n => exact h2 n i' y j ay (by simpa using hn) (by simpa using hn')
    · cases hp

/-- the cells of a zero value -/
theorem zcells_rel {γ : Nat → Option Nat} {imm : Nat → Nat → Option Value} {v : Value} {z : AVal} (hz : constV v = some z) : VRelL γ imm z.cells v.cells.toList := by
  unfold constV at hz
  split at hz
  · obtain ⟨xs, hx, rfl⟩ := mapO hz
    exact (mapM_rel hx).1
  · split at hz
    · rename_i hh; simp only [Array.isEmpty_iff] at hh; subst hh; cases hz
      simp only [AVal.cells, Value.cells, VRelL]
      exact ⟨_, [], rfl, by simp only [VRel]; exact ⟨#[], rfl, by simp [VRelL]⟩, rfl⟩
    · cases hz
  · have h1 := scalar_rel (γ := γ) (imm := imm) hz
    have e1 : z.cells = [z] := by
      unfold scalarV at hz
      split at hz <;> first | (cases hz; rfl) | (split at hz <;> cases hz; rfl) | cases hz
    have e2 : v.cells = #[v] := by
      unfold scalarV at hz
      split at hz <;> first | rfl | (cases hz)
    rw [e1, e2]
    simp only [VRelL]
    exact ⟨v, [], rfl, h1, rfl⟩

theorem zeroOf_run {ty : TypeId} {z : AVal} (hz : zeroOf P ty = some z) (w : World) : ∃ u, (zeroValue ty).run P w = .ok u w ∧ (∀ γ imm, VRelL γ imm z.cells u.cells.toList) := by
  unfold zeroOf at hz
  split at hz
  · rename_i i hi
    obtain ⟨u, hu, hc⟩ := bindO (by simpa [Option.bind_eq_bind] using hz)
    exact ⟨u, by simp [zeroValue, typeInfo, hi, hu], fun γ imm => zcells_rel hc⟩
  · cases hz

theorem gives_buildS (hr : Rel P gl G h w) (ht : TRel G w t a.tmps) {o : Oper} {ty : TypeId} {ps : Array (Nat × Operand)} {aps : List (Nat × Nat × AOpd)} {v z : AVal} {fs : Array Field} (ho : o.op = .build ty ps)
    (hu : P.underlying ty = some (.struct fs)) (hall : (fs.all fun f => (szOf P f.type).isSome) = true) (hz : zeroOf P ty = some z) (hps : partsS P gl fs ps.toList = some aps)
    (hp : pureV t (.build z.cells aps) = some v) : Gives P G w a o v := by
  obtain ⟨u, hzu, hzr⟩ := zeroOf_run hz w
  simp only [pureV] at hp
  obtain ⟨cs, hcs, rfl⟩ := mapO hp
  obtain ⟨h1, h2⟩ := partsS_spec hr ht hps
  obtain ⟨c', e1, e2⟩ := fill_run (γ := G.γ) (imm := G.imm) (fun i => (fs.map fun f => (f.offset, (szOf P f.type).getD 0))[i]?) (ps.toList.map fun (i, x) => (i, a.eval x)) (aps.map fun (o, s, x) => (o, s, ev t x)) z.cells u.cells cs (hzr _ _) (by simpa using h1)
    (fun n i v off size x hn hn' => by
      simp only [List.getElem?_map, Option.map_eq_some_iff] at hn hn'
      obtain ⟨⟨i', x'⟩, hn1, hn2⟩ := hn
      obtain ⟨⟨off', size', ax'⟩, hn3, hn4⟩ := hn'
      simp only [Prod.mk.injEq] at hn2 hn4
      obtain ⟨rfl, rfl⟩ := hn2
      obtain ⟨rfl, rfl, rfl⟩ := hn4
      exact h2 n _ _ _ _ _ hn1 hn3) hcs
  refine ⟨.agg c', ?_, by simp only [Ghost.V, VRel]; exact ⟨c', rfl, e2⟩, rfl⟩
  simp only [execOp, ho]
  refine run_v ?_
  simp only [Instr.build, Sem.run_bind, hzu, Result.andThen_ok, run_underlying hu, places_run hall]
  have : (ps.map fun (i, x) => (i, a.eval x)).toList = ps.toList.map fun (i, x) => (i, a.eval x) := by simp
  rw [this, e1]
  rfl

theorem gives_buildA (hr : Rel P gl G h w) (ht : TRel G w t a.tmps) {o : Oper} {ty e : TypeId} {ps : Array (Nat × Operand)} {aps : List (Nat × Nat × AOpd)} {v z : AVal} {n k : Nat} (ho : o.op = .build ty ps)
    (hu : P.underlying ty = some (.array n e)) (hk : szOf P e = some k) (hz : zeroOf P ty = some z) (hps : partsA gl k ps.toList = some aps)
    (hp : pureV t (.build z.cells aps) = some v) : Gives P G w a o v := by
  obtain ⟨u, hzu, hzr⟩ := zeroOf_run hz w
  simp only [pureV] at hp
  obtain ⟨cs, hcs, rfl⟩ := mapO hp
  obtain ⟨h1, h2⟩ := partsA_spec hr ht hps
  obtain ⟨c', e1, e2⟩ := fill_run (γ := G.γ) (imm := G.imm) (fun i => some (i * k, k)) (ps.toList.map fun (i, x) => (i, a.eval x)) (aps.map fun (o, s, x) => (o, s, ev t x)) z.cells u.cells cs (hzr _ _) (by simpa using h1)
    (fun n i v off size x hn hn' => by
      simp only [List.getElem?_map, Option.map_eq_some_iff] at hn hn'
      obtain ⟨⟨i', x'⟩, hn1, hn2⟩ := hn
      obtain ⟨⟨off', size', ax'⟩, hn3, hn4⟩ := hn'
      simp only [Prod.mk.injEq] at hn2 hn4
      obtain ⟨rfl, rfl⟩ := hn2
      obtain ⟨rfl, rfl, rfl⟩ := hn4
      obtain ⟨q1, q2⟩ := h2 n _ _ _ _ _ hn1 hn3
      exact ⟨by rw [q1], q2⟩) hcs
  refine ⟨.agg c', ?_, by simp only [Ghost.V, VRel]; exact ⟨c', rfl, e2⟩, rfl⟩
  simp only [execOp, ho]
  refine run_v ?_
  simp only [Instr.build, Sem.run_bind, hzu, Result.andThen_ok, run_underlying hu, szOf_run hk]
  have : (ps.map fun (i, x) => (i, a.eval x)).toList = ps.toList.map fun (i, x) => (i, a.eval x) := by simp
  rw [this, e1]
  rfl
end
end Go.AE
