/- The abstract executor: a step at a time: assignments, stores. No condition. -/
import Derived.Test.YtlognicjhmcgjaaGreatDoorAeStep1
namespace Go.AE

/-- The spare cells of block b are ℓ's now. -/
def Ghost.give (G : Ghost) (b : Nat) (ℓ : Option Loc) : Ghost := { γ := G.γ, imm := G.imm, ow := fun x => if x = b then ℓ else G.ow x }

section
variable {P : Program} {gl : Nat → Option (List AVal)} {G G' : Ghost} {w w' : World} {h : List ABox} {t : List AVal} {a : Act} {n : Nat}

theorem Rel.give (hr : Rel P gl G h w) {b : Nat} {ℓ0 ℓ : Loc} (hb : G.ow b = some ℓ0) (hcell : ∀ (id o : Nat) (cs : List AVal) (xs : List AVal) (k : Nat), ℓ0 = .cell id o → h[id]? = some (.cells cs) → cs[o]? = some (.lst xs (.own k)) → False) :
    Rel P gl (G.give b (some ℓ)) h w := by
  refine ⟨hr.γlt, hr.inj, fun i b' bx hi hx => ?_, hr.imm, hr.immγ, fun b' ℓ' hb' => ?_, hr.glob⟩
  · have hbx := hr.box i b' bx hi hx
    cases bx with
    | cells cs =>
      obtain ⟨c, e, h1, h2, h3⟩ := hbx
      refine ⟨c, e, h1, h2, fun o xs k v ho hv => ?_⟩
      obtain ⟨b2, p, len, cap, c2, e2, rfl, k1, k2⟩ := h3 o xs k v ho hv
      refine ⟨b2, p, len, cap, c2, e2, rfl, ?_, k2⟩
      have : b2 ≠ b := fun e3 => by
        subst e3
        rw [hb] at k1
        cases k1
        exact hcell i o cs xs k rfl hx ho
      simpa [Ghost.give, this] using k1
    | loop _ _ _ _ _ _ => obtain ⟨L, h1, h2⟩ := hbx; exact ⟨L, h1, { h2 with tmps := h2.tmps }⟩
  · simp only [Ghost.give] at hb'
    split at hb'
    · rename_i e1; subst e1; exact hr.ow b' ℓ0 hb
    · exact hr.ow b' ℓ' hb'

theorem Ext.give (n : Nat) (G : Ghost) (w : World) {b : Nat} {ℓ0 : Loc} (ℓ : Option Loc) (hb : G.ow b = some ℓ0) : Ext n G w (G.give b ℓ) w := by
  refine ⟨fun _ _ h => h, fun _ _ h => .inl h, fun _ _ _ h => h, fun _ _ _ h => .inl h, fun x hx => ?_, Nat.le_refl _, fun _ _ _ => rfl, (Ext.refl n G w).loops, rfl, rfl, rfl⟩
  simp only [Ghost.give] at hx
  split at hx
  · rename_i e1; subst e1; exact .inl (by simp [hb])
  · exact .inl hx

theorem getD_some {t : List AVal} {i : Nat} {xs : List AVal} {f : Flag} (h : t.getD i .undef = .lst xs f) : t[i]? = some (.lst xs f) := by
  by_cases hi : i < t.length
  · simpa [List.getD, List.getElem?_eq_getElem hi] using h
  · simp [List.getD, List.getElem?_eq_none (Nat.le_of_not_lt hi)] at h

theorem drained_eq (t : List AVal) (x : AOpd) : drained t x = t ∨ ∃ i xs k, x = .t i ∧ t[i]? = some (.lst xs (.own k)) ∧ drained t x = t.set i (.lst xs .no) := by
  cases x with
  | c v => exact .inl rfl
  | t i =>
    simp only [drained]
    split
    · rename_i xs k he
      exact .inr ⟨i, xs, k, rfl, getD_some he, rfl⟩
    · exact .inl rfl

theorem raw_not_own {t : List AVal} {x : AOpd} (hx : ∀ i xs k, x = .t i → t[i]? ≠ some (.lst xs (.own k))) (hc : ∀ v, x = .c v → v.dim = v) : (raw t x).dim = raw t x ∧ drained t x = t := by
  cases x with
  | c v => exact ⟨hc v rfl, rfl⟩
  | t i =>
    simp only [raw, drained]
    cases hg : t.getD i .undef with
    | lst xs f =>
      cases f with
      | own k => exact absurd (getD_some hg) (hx i xs k rfl)
      | no => exact ⟨rfl, rfl⟩
      | full => exact ⟨rfl, rfl⟩
    | _ => exact ⟨rfl, rfl⟩

theorem opd_const {x : Operand} {ax : AOpd} (hx : opd gl x = some ax) : ∀ v, ax = .c v → v.dim = v := by
  intro v hv
  subst hv
  cases x with
  | tmp i => simp [opd] at hx
  | const u =>
    simp only [opd] at hx
    obtain ⟨c, hc, he⟩ := mapO hx
    cases he
    exact const_dim hc
  | global g =>
    simp only [opd] at hx
    obtain ⟨c, hc, he⟩ := mapO hx
    cases he
    rfl
  | func f => simp only [opd, Option.some.injEq, AOpd.c.injEq] at hx; subst hx; rfl

theorem opd_tmp {x : Operand} {i : Nat} (hx : opd gl x = some (.t i)) : x = .tmp i := by
  cases x with
  | tmp j => simp [opd] at hx; rw [hx]
  | const u => simp only [opd] at hx; obtain ⟨c, _, he⟩ := mapO hx; cases he
  | global g => simp only [opd] at hx; obtain ⟨c, _, he⟩ := mapO hx; cases he
  | func f => simp [opd] at hx

/-- A slot loses its spare cells. -/
theorem TRel.drain (ht : TRel G w t a.tmps) {i : Nat} {xs : List AVal} {f : Flag} (hi : t[i]? = some (.lst xs f)) : TRel G w (t.set i (.lst xs .no)) a.tmps := by
  obtain ⟨v, hv, hr⟩ := ht.rel.get hi
  have hrel : G.VL (t.set i (.lst xs .no)) (a.tmps.toList.set i v) := ht.rel.set i (no_rel hr)
  have e : a.tmps.toList.set i v = a.tmps.toList := by
    obtain ⟨h1, h2⟩ := List.getElem?_eq_some_iff.1 hv
    rw [← h2]; exact List.set_getElem_self h1
  rw [e] at hrel
  refine ⟨hrel, fun j ys k u hj hu => ?_⟩
  by_cases e1 : i = j
  · subst e1
    rw [List.getElem?_set_self (List.getElem?_eq_some_iff.1 hi).1] at hj
    simp at hj
  · rw [List.getElem?_set_ne e1] at hj
    exact ht.own j ys k u hj hu

theorem eval_tmp {i : Nat} {v : Value} (hv : a.tmps.toList[i]? = some v) : a.eval (.tmp i) = v := by
  simp only [Array.getElem?_toList] at hv
  obtain ⟨h1, h2⟩ := Array.getElem?_eq_some_iff.1 hv
  simp [Act.eval, Array.getD, h1, h2]

/-- An own list is put into a slot. -/
theorem TRel.putOwn {ts : Array Value} (ht : TRel G w t ts) (d : Nat) {x : List AVal} {k : Nat} {v : Value} (hv : G.V (.lst x (.own k)) v) (ho : Owns G w (.tmp d) k v) (ds : List Deferred) :
    TRel G w (t.set d (.lst x (.own k))) ((({ tmps := ts, defers := ds } : Act).put (some d) v).tmps) := by
  refine ⟨by simpa [Act.put] using ht.rel.set d hv, fun i xs k' u hi hu => ?_⟩
  simp only [Act.put] at hu
  by_cases e : d = i
  · subst e
    have hd : d < t.length := by
      by_cases hd : d < t.length
      · exact hd
      · rw [List.getElem?_eq_none (by simp; omega)] at hi; cases hi
    rw [List.getElem?_set_self hd] at hi
    simp only [Option.some.injEq, AVal.lst.injEq, Flag.own.injEq] at hi
    obtain ⟨rfl, rfl⟩ := hi
    rw [Array.getElem?_setIfInBounds_self_of_lt (by rw [← ht.length]; exact hd)] at hu
    cases hu
    exact ho
  · rw [List.getElem?_set_ne e] at hi
    rw [Array.getElem?_setIfInBounds_ne e] at hu
    exact ht.own i xs k' u hi hu

/-- Slots, the spare cells of one of whose lists went elsewhere. -/
theorem TRel.give (ht : TRel G w t a.tmps) {i : Nat} {xs : List AVal} {k b : Nat} {ℓ : Option Loc} (hi : t[i]? = some (.lst xs (.own k))) (hb : G.ow b = some (.tmp i)) :
    TRel (G.give b ℓ) w (t.set i (.lst xs .no)) a.tmps := by
  have hd := ht.drain hi
  refine ⟨hd.rel, fun j ys k' u hj hu => ?_⟩
  have hne : i ≠ j := fun e => by
    subst e
    rw [List.getElem?_set_self (List.getElem?_eq_some_iff.1 hi).1] at hj
    simp at hj
  obtain ⟨b2, p, len, cap, c, e, rfl, h1, h2⟩ := hd.own j ys k' u hj hu
  refine ⟨b2, p, len, cap, c, e, rfl, ?_, h2⟩
  have : b2 ≠ b := fun e2 => by subst e2; rw [hb] at h1; cases h1; exact hne rfl
  simpa [Ghost.give, this] using h1

theorem did_asg (hc : Cfg P gl G h t a w) {o : Oper} {x : Operand} {ax : AOpd} (ho : o.op = .assign x) (hx : opd gl x = some ax) (n : Nat) :
    Did P gl G w a o n h (AE.put o.dst (raw t ax) (drained t ax)) := by
  have hrun : (execOp a.eval o).run P w = .ok (.value (a.eval x)) w := by simp [execOp, ho]
  by_cases hown : ∃ i xs k, ax = .t i ∧ t[i]? = some (.lst xs (.own k))
  · obtain ⟨i, xs, k, rfl, hi⟩ := hown
    have hx' := opd_tmp hx
    subst hx'
    obtain ⟨v, hv, hr⟩ := hc.tr.rel.get hi
    have hve := eval_tmp hv
    have hg : t.getD i .undef = .lst xs (.own k) := by simp [List.getD, hi]
    have hdr : drained t (.t i) = t.set i (.lst xs .no) := by simp only [drained, hg]
    simp only [raw, hg, hdr]
    cases hd : o.dst with
    | none =>
      exact ⟨_, _, w, G, hrun, .inl rfl, fun _ _ _ => rfl, Ext.refl n G w, hc.rel, by rw [hd]; exact hc.tr.drain hi⟩
    | some d =>
      have hov := hc.tr.own i xs k v hi (by simpa using hv)
      obtain ⟨b, p, len, cap, c, e, rfl, h1, h2⟩ := hov
      refine ⟨_, _, w, G.give b (some (.tmp d)), hrun, .inl rfl, fun _ _ _ => rfl, Ext.give n G w _ h1, hc.rel.give h1 (fun id o' _ _ _ e1 => by cases e1), ?_⟩
      rw [hve, hd]
      exact (hc.tr.give hi h1).putOwn d (G := G.give b (some (.tmp d))) hr ⟨b, p, len, cap, c, e, rfl, by simp [Ghost.give], h2⟩ a.defers
  · have hown' : ∀ i xs k, ax = .t i → t[i]? ≠ some (.lst xs (.own k)) := fun i xs k h1 h2 => hown ⟨i, xs, k, h1, h2⟩
    obtain ⟨h1, h2⟩ := raw_not_own hown' (opd_const hx)
    rw [h2]
    exact ⟨_, _, w, G, hrun, .inl rfl, fun _ _ _ => rfl, Ext.refl n G w, hc.put o.dst (raw_rel hc.rel hc.tr hx) h1⟩
end
end Go.AE
