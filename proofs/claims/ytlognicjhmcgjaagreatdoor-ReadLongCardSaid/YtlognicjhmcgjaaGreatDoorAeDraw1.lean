/- The abstract executor: what regions that draw their order need: values alike; slots that are not looked at. No condition. -/
import Derived.Test.YtlognicjhmcgjaaGreatDoorAeReg
namespace Go.AE

mutual
theorem beq_eq : ∀ (a b : AVal), AVal.beq a b = true → a = b
  | .undef, b, h => by cases b <;> simp_all [AVal.beq]
  | .bool _, b, h => by cases b <;> simp_all [AVal.beq]
  | .int _ _, b, h => by cases b <;> simp_all [AVal.beq]
  | .str _, b, h => by cases b <;> simp_all [AVal.beq]
  | .nilptr, b, h => by cases b <;> simp_all [AVal.beq]
  | .ptr _ _, b, h => by cases b <;> simp_all [AVal.beq]
  | .iptr x o, b, h => by
    cases b <;> simp only [AVal.beq, Bool.and_eq_true, beq_iff_eq, Bool.false_eq_true] at h
    obtain ⟨h1, h2⟩ := h
    rw [h1, beqL_eq _ _ h2]
  | .lst x f, b, h => by
    cases b <;> simp only [AVal.beq, Bool.and_eq_true, beq_iff_eq, Bool.false_eq_true] at h
    obtain ⟨h1, h2⟩ := h
    rw [h1, beqL_eq _ _ h2]
  | .nilfunc, b, h => by cases b <;> simp_all [AVal.beq]
  | .fn f x y, b, h => by
    cases b <;> simp only [AVal.beq, Bool.and_eq_true, beq_iff_eq, Bool.false_eq_true] at h
    obtain ⟨⟨h1, h2⟩, h3⟩ := h
    rw [h1, beqL_eq _ _ h2, beqL_eq _ _ h3]
  | .yld _, b, h => by cases b <;> simp_all [AVal.beq]
  | .niliface, b, h => by cases b <;> simp_all [AVal.beq]
  | .iface t x, b, h => by
    cases b <;> simp only [AVal.beq, Bool.and_eq_true, beq_iff_eq, Bool.false_eq_true] at h
    obtain ⟨h1, h2⟩ := h
    rw [h1, beq_eq _ _ h2]
  | .agg x, b, h => by
    cases b <;> simp only [AVal.beq, Bool.false_eq_true] at h
    rw [beqL_eq _ _ h]
  | .tup x, b, h => by
    cases b <;> simp only [AVal.beq, Bool.false_eq_true] at h
    rw [beqL_eq _ _ h]
theorem beqL_eq : ∀ (as bs : List AVal), beqL as bs = true → as = bs
  | [], bs, h => by cases bs <;> simp_all [beqL]
  | a :: as, bs, h => by
    cases bs with
    | nil => simp [beqL] at h
    | cons b bs =>
      simp only [beqL, Bool.and_eq_true] at h
      rw [beq_eq _ _ h.1, beqL_eq _ _ h.2]
end

/-- What a check says. -/
def Chk.Holds (h : List ABox) : Chk → Prop
  | .ld a k v => ldAt h a k = some v
  | .box id cs => h[id]? = some (.cells cs)

theorem Chk.holds_of_ok {h : List ABox} {c : Chk} (hc : c.ok h = true) : c.Holds h := by
  cases c with
  | ld a k v =>
    simp only [Chk.ok] at hc
    split at hc
    · rename_i w hw
      simp only [Chk.Holds, hw, beq_eq _ _ hc]
    · cases hc
  | box id cs =>
    simp only [Chk.ok] at hc
    split at hc
    · rename_i ds hd
      simp only [Chk.Holds, hd, beqL_eq _ _ hc]
    · cases hc

theorem ldAt_append {h g : List ABox} {a : AVal} {k : Option Nat} {v : AVal} (hl : ldAt h a k = some v) : ldAt (h ++ g) a k = some v := by
  unfold ldAt at hl ⊢
  split at hl
  · rename_i i o
    split at hl
    · rename_i cs hcs
      rw [List.getElem?_append_left (List.getElem?_eq_some_iff.1 hcs).1, hcs]
      exact hl
    · cases hl
  · exact hl
  · cases hl

theorem Chk.Holds.append {h g : List ABox} {c : Chk} (hc : c.Holds h) : c.Holds (h ++ g) := by
  cases c with
  | ld a k v => exact ldAt_append hc
  | box id cs =>
    simp only [Chk.Holds] at hc ⊢
    rw [List.getElem?_append_left (List.getElem?_eq_some_iff.1 hc).1, hc]

/-! ### What is not looked at -/
section
variable {t t' : List AVal}

/-- as far as one looks at it, the same -/
def Same (t t' : List AVal) (l : List Nat) : Prop := ∀ i ∈ l, (t.getD i .undef).dim = (t'.getD i .undef).dim

theorem Same.left {l m : List Nat} (h : Same t t' (l ++ m)) : Same t t' l := fun i hi => h i (List.mem_append_left _ hi)
theorem Same.right {l m : List Nat} (h : Same t t' (l ++ m)) : Same t t' m := fun i hi => h i (List.mem_append_right _ hi)

theorem Same.ev {x : AOpd} (h : Same t t' x.slot) : ev t x = ev t' x := by
  cases x with
  | c _ => rfl
  | t i => exact h i (by simp [AOpd.slot])

theorem Same.evs : ∀ {xs : List AOpd}, Same t t' (slotL xs) → xs.map (AE.ev t) = xs.map (AE.ev t')
  | [], _ => rfl
  | x :: xs, h => by
    simp only [slotL] at h
    rw [List.map_cons, List.map_cons, h.left.ev, Same.evs h.right]

theorem Same.bound {x : Option AOpd} {d : Nat} (h : Same t t' (slotO x)) : bound t x d = bound t' x d := by
  cases x with
  | none => rfl
  | some x => simp only [AE.bound, Same.ev (x := x) h]

theorem Same.parts3 {ps : List (Nat × Nat × AOpd)} (h : Same t t' (slotL (ps.map (·.2.2)))) : (ps.map fun (o, s, x) => (o, s, AE.ev t x)) = ps.map fun (o, s, x) => (o, s, AE.ev t' x) := by
  induction ps with
  | nil => rfl
  | cons p ps ih =>
    simp only [List.map_cons, slotL] at h
    simp only [List.map_cons]
    rw [ih h.right, Same.ev h.left]

theorem Same.parts2 {k : Nat} {ps : List (Nat × AOpd)} (h : Same t t' (slotL (ps.map (·.2)))) : (ps.map fun (i, x) => (i * k, k, AE.ev t x)) = ps.map fun (i, x) => (i * k, k, AE.ev t' x) := by
  induction ps with
  | nil => rfl
  | cons p ps ih =>
    simp only [List.map_cons, slotL] at h
    simp only [List.map_cons]
    rw [ih h.right, Same.ev h.left]

theorem Same.pureV {o : AOp} (h : Same t t' o.looks) : pureV t o = pureV t' o := by
  cases o <;> simp only [AOp.looks] at h <;> simp only [AE.pureV]
  case pick => rw [h.left.left.ev, h.left.right.ev, h.right.ev]
  case build => rw [h.parts3]
  case list => rw [h.parts2]
  case mkF => rw [h.left.evs, h.right.evs]
  case subS => rw [h.left.left.ev, h.left.right.bound]; simp only [h.right.bound]
  case subL => rw [h.left.left.ev, h.left.right.bound]; simp only [h.right.bound]
  case len b x => cases b <;> simp only [h.ev]
  all_goals first
    | rfl
    | rw [h.ev]
    | rw [h.left.ev, h.right.ev]

theorem Same.wanted {j : Nat} {b : Bool} (h : Same t t' [j]) : wanted t (some (j, b)) = wanted t' (some (j, b)) := by
  have h := h j (by simp)
  have key : ∀ v : AVal, (match v with | .bool c => some (c == b) | .tup [] => some false | _ => none) = (match v.dim with | .bool c => some (c == b) | .tup [] => some false | _ => none) := by
    intro v
    cases v <;> try rfl
    rename_i xs f
    cases f <;> rfl
  simp only [AE.wanted]
  exact (key (t.getD j .undef)).trans (by rw [h]; exact (key _).symm)

theorem AOper.want_looks {o : AOper} (h : Same t t' o.looks) : AE.wanted t o.guard = AE.wanted t' o.guard ∧ Same t t' o.op.looks := by
  unfold AOper.looks at h
  split at h
  · rename_i j b hg
    rw [hg]
    exact ⟨Same.wanted (fun i hi => h i (by simp at hi; simp [hi])), fun i hi => h i (List.mem_cons_of_mem _ hi)⟩
  · rename_i hg
    rw [hg]
    exact ⟨rfl, h⟩
end

/-! ### Slots that are hidden -/
section
variable {ms : List Nat} {t : List AVal}

theorem mask_get (i : Nat) : (mask ms t)[i]? = (t[i]?).map fun x => if ms.contains i then AVal.undef else x := by simp [mask]

theorem mask_length : (mask ms t).length = t.length := by simp [mask]

theorem mask_nil : mask [] t = t := by
  apply List.ext_getElem?
  intro i
  rw [mask_get]
  simp

theorem mask_getD {i : Nat} (hi : i ∉ ms) : (mask ms t).getD i .undef = t.getD i .undef := by
  rw [List.getD_eq_getElem?_getD, List.getD_eq_getElem?_getD, mask_get]
  simp [hi]

theorem mask_set {i : Nat} {v : AVal} (hi : i ∉ ms) : (mask ms t).set i v = mask ms (t.set i v) := by
  have hc : ms.contains i = false := by simpa using hi
  apply List.ext_getElem?
  intro j
  rw [mask_get, List.getElem?_set, List.getElem?_set, mask_get, mask_length]
  by_cases e : i = j
  · subst e
    by_cases hl : i < t.length <;> simp [hl, hi]
  · simp [e]

theorem raw_mask {x : AOpd} (h : ∀ i ∈ x.slot, i ∉ ms) : raw (mask ms t) x = raw t x := by
  cases x with
  | c _ => rfl
  | t i => exact mask_getD (h i (by simp [AOpd.slot]))

theorem ev_mask {x : AOpd} (h : ∀ i ∈ x.slot, i ∉ ms) : ev (mask ms t) x = ev t x := by simp only [ev, raw_mask h]

theorem put_mask {dst : Option Nat} {v : AVal} (h : ∀ d, dst = some d → d ∉ ms) : AE.put dst v (mask ms t) = mask ms (AE.put dst v t) := by
  cases dst with
  | none => rfl
  | some d => exact mask_set (h d rfl)

theorem drained_mask {x : AOpd} (h : ∀ i ∈ x.slot, i ∉ ms) : drained (mask ms t) x = mask ms (drained t x) := by
  cases x with
  | c _ => rfl
  | t i =>
    have hi := h i (by simp [AOpd.slot])
    simp only [drained, mask_getD hi]
    split
    · exact mask_set hi
    · rfl

theorem same_mask {l : List Nat} (h : ∀ i ∈ l, i ∉ ms) : Same (mask ms t) t l := fun i hi => by rw [mask_getD (h i hi)]

theorem taken_mask {k : Nat} {x : AOpd} {h : List ABox} {e : Bool} (hx : ∀ i ∈ x.slot, i ∉ ms) : taken k [] x ⟨mask ms t, h, e⟩ = (taken k [] x ⟨t, h, e⟩).map fun r => (r.1, { r.2 with t := mask ms r.2.t }) := by
  cases x with
  | c _ => rfl
  | t i =>
    have hi := hx i (by simp [AOpd.slot])
    simp only [taken, mask_getD hi]
    split
    · split
      · simp only [Option.map_some, mask_set hi]
      · rfl
    · rfl

theorem runOp_mask {base : Nat} {call : AE.Call} {dst : Option Nat} {o : AOp} {h : List ABox} {e : Bool} (hac : o.effs = true) (hl : ∀ i ∈ o.looks, i ∉ ms) (hd : ∀ d, dst = some d → d ∉ ms) :
    runOp base call [] dst o ⟨mask ms t, h, e⟩ = (runOp base call [] dst o ⟨t, h, e⟩).map fun r => (r.1, { r.2 with t := mask ms r.2.t }) := by
  cases o <;> simp only [AOp.effs, Bool.false_eq_true] at hac <;> simp only [AOp.looks] at hl <;> simp only [runOp]
  case asg x =>
    simp only [Option.map_some, raw_mask hl, drained_mask hl, put_mask hd]
  case st k a x =>
    have h1 : ∀ i ∈ a.slot, i ∉ ms := fun i hi => hl i (List.mem_append_left _ hi)
    have h2 : ∀ i ∈ x.slot, i ∉ ms := fun i hi => hl i (List.mem_append_right _ hi)
    rw [ev_mask h1, raw_mask h2, drained_mask h2, put_mask hd]
    split
    · split
      · cases k <;> simp only <;> split <;> rfl
      · rfl
    · rfl
  case call f as =>
    have h1 : ∀ i ∈ f.slot, i ∉ ms := fun i hi => hl i (List.mem_append_left _ hi)
    have h2 : ∀ i ∈ slotL as, i ∉ ms := fun i hi => hl i (List.mem_append_right _ hi)
    rw [ev_mask h1, (same_mask h2).evs]
    split <;> simp only [Option.map_some, put_mask hd, Option.map_none]
  case app k x y =>
    have h1 : ∀ i ∈ x.slot, i ∉ ms := fun i hi => hl i (List.mem_append_left _ hi)
    have h2 : ∀ i ∈ y.slot, i ∉ ms := fun i hi => hl i (List.mem_append_right _ hi)
    rw [ev_mask h2, raw_mask h1]
    split
    · split
      · simp only [Option.map_some, put_mask hd]
      · split
        · split
          · simp only [Option.map_some, put_mask hd]
          · rw [taken_mask h1]
            cases ht : taken k [] x ⟨t, h, e⟩ with
            | none => rfl
            | some r =>
              obtain ⟨xs, s⟩ := r
              simp only [Option.map_some]
              split
              · simp only [Option.map_some, put_mask hd]
              · rfl
        · rfl
    · rfl
  case pan x =>
    rw [ev_mask hl]
    split <;> rfl

theorem set_no_getD {i k : Nat} {xs : List AVal} {j : Nat} (h : t.getD i .undef = .lst xs (.own j)) : ((t.set i (.lst xs .no)).getD k .undef).dim = (t.getD k .undef).dim := by
  by_cases e : i = k
  · subst e
    have hi : i < t.length := by
      rcases Nat.lt_or_ge i t.length with h' | h'
      · exact h'
      · rw [List.getD_eq_getElem?_getD, List.getElem?_eq_none h'] at h; cases h
    rw [h, List.getD_eq_getElem?_getD, List.getElem?_set_self hi]
    rfl
  · rw [List.getD_eq_getElem?_getD, List.getElem?_set_ne e, ← List.getD_eq_getElem?_getD]

/-- What an operation turns of the slots: its own; the spare cells of those that it looks at. -/
theorem drained_getD {x : AOpd} {k : Nat} : ((drained t x).getD k .undef).dim = (t.getD k .undef).dim := by
  cases x with
  | c _ => rfl
  | t i =>
    simp only [drained]
    split
    · rename_i xs j hx
      exact set_no_getD hx
    · rfl

theorem drained_get_ne {x : AOpd} {k : Nat} (hk : k ∉ x.slot) : (drained t x)[k]? = t[k]? := by
  cases x with
  | c _ => rfl
  | t i =>
    have : i ≠ k := fun e => hk (by simp [AOpd.slot, e])
    simp only [drained]
    split
    · rw [List.getElem?_set_ne this]
    · rfl

theorem drained_length {x : AOpd} : (drained t x).length = t.length := by
  cases x with
  | c _ => rfl
  | t i => simp only [drained]; split <;> simp

theorem put_get_ne {dst : Option Nat} {v : AVal} {k : Nat} (h : dst ≠ some k) : (AE.put dst v t)[k]? = t[k]? := by
  cases dst with
  | none => rfl
  | some d =>
    have : d ≠ k := fun e => h (by rw [e])
    simp [AE.put, List.getElem?_set_ne this]

theorem put_length {dst : Option Nat} {v : AVal} : (AE.put dst v t).length = t.length := by cases dst <;> simp [AE.put]

theorem taken_slots {k : Nat} {x : AOpd} {s s' : St} {xs : List AVal} (h : taken k [] x s = some (xs, s')) : (∃ i, x = .t i ∧ ∃ j, s.t.getD i .undef = .lst xs (.own j) ∧ s'.t = s.t.set i (.lst xs .no)) ∧ s'.h = s.h ∧ s'.e = s.e := by
  cases x with
  | c _ => cases h
  | t i =>
    simp only [taken] at h
    split at h
    · rename_i ys j hy
      split at h
      · cases h; exact ⟨⟨i, rfl, j, hy, rfl⟩, rfl, rfl⟩
      · cases h
    · cases h

theorem getD_of_get {t t' : List AVal} {k : Nat} (h : t'[k]? = t[k]?) : t'.getD k .undef = t.getD k .undef := by
  rw [List.getD_eq_getElem?_getD, List.getD_eq_getElem?_getD, h]

theorem runOp_slots {base : Nat} {call : AE.Call} {dst : Option Nat} {o : AOp} {s s' : St} (h : runOp base call [] dst o s = some (.nor, s')) :
    s'.t.length = s.t.length ∧ ∀ k, dst ≠ some k → (s'.t.getD k .undef).dim = (s.t.getD k .undef).dim ∧ (k ∉ o.looks → s'.t[k]? = s.t[k]?) := by
  cases hac : o.effs with
  | false =>
    obtain ⟨_, v, hv, _⟩ := runOp_quiet hac h
    rw [hv]
    exact ⟨put_length, fun k hk => ⟨by rw [getD_of_get (put_get_ne hk)], fun _ => put_get_ne hk⟩⟩
  | true =>
    cases o <;> simp only [AOp.effs, Bool.false_eq_true] at hac <;> simp only [runOp] at h
    case asg x =>
      cases h
      refine ⟨by rw [put_length, drained_length], fun k hk => ⟨by rw [getD_of_get (put_get_ne hk), drained_getD], fun hl => ?_⟩⟩
      rw [put_get_ne hk, drained_get_ne hl]
    case st k0 a x =>
      split at h
      · split at h
        · have key : s'.t = AE.put dst .undef (drained s.t x) := by
            cases k0 <;> simp only at h <;> split at h <;> first | (cases h; done) | (cases h; rfl)
          rw [key]
          refine ⟨by rw [put_length, drained_length], fun k hk => ⟨by rw [getD_of_get (put_get_ne hk), drained_getD], fun hl => ?_⟩⟩
          rw [put_get_ne hk, drained_get_ne (fun hx => hl (by simp only [AOp.looks]; exact List.mem_append_right _ hx))]
        · cases h
      · cases h
    case call f as =>
      split at h
      · cases h
        exact ⟨put_length, fun k hk => ⟨by rw [getD_of_get (put_get_ne hk)], fun _ => put_get_ne hk⟩⟩
      · cases h
      · cases h
    case app k0 x y =>
      split at h
      · split at h
        · cases h
          exact ⟨put_length, fun k hk => ⟨by rw [getD_of_get (put_get_ne hk)], fun _ => put_get_ne hk⟩⟩
        · split at h
          · split at h
            · cases h
              exact ⟨put_length, fun k hk => ⟨by rw [getD_of_get (put_get_ne hk)], fun _ => put_get_ne hk⟩⟩
            · split at h
              · rename_i xs s1 hs1
                split at h
                · cases h
                  obtain ⟨⟨i, rfl, j, h1, h2⟩, _⟩ := taken_slots hs1
                  refine ⟨by simp [put_length, h2], fun k hk => ⟨by rw [getD_of_get (put_get_ne hk)]; simp only [h2]; exact set_no_getD h1, fun hl => ?_⟩⟩
                  rw [put_get_ne hk]
                  simp only [h2]
                  rw [List.getElem?_set_ne]
                  rintro rfl
                  exact hl (by simp [AOp.looks, AOpd.slot])
                · cases h
              · cases h
          · cases h
      · cases h
    case pan x =>
      split at h
      · cases h
      · cases h
end
end Go.AE
