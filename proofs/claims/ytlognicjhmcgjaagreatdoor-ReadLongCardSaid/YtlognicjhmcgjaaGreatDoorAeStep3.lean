/- The abstract executor: a step at a time: stores. No condition. -/
import Derived.Test.YtlognicjhmcgjaaGreatDoorAeStep2
namespace Go.AE
section
variable {P : Program} {gl : Nat → Option (List AVal)} {G G' : Ghost} {w w' : World} {h : List ABox} {t : List AVal} {a : Act} {n : Nat}

theorem setRow_other' (w : World) (b x : Nat) (c : Array Value) (h : x ≠ b) : (w.setRow b c).heap[x]? = w.heap[x]? := setRow_other w b x c h

/-- A box's cells are turned; G': whom the spare cells belong to then. -/
theorem Rel.store (hr : Rel P gl G h w) {id b : Nat} {cs cs' : List AVal} {c c' : Array Value} {e : TypeId} (hb : G.γ id = some b) (hid : h[id]? = some (.cells cs)) (hw : w.heap[b]? = some (.cells c e (0, 0)))
    (hγ : G'.γ = G.γ) (hi : G'.imm = G.imm) (how : ∀ x, G'.ow x ≠ none → G.ow x ≠ none) (hcell : ∀ x id' o, id' ≠ id → G.ow x = some (.cell id' o) → G'.ow x = some (.cell id' o))
    (hrel : G.VL cs' c'.toList)
    (hown : ∀ (o : Nat) (xs : List AVal) (k : Nat) (v : Value), cs'[o]? = some (.lst xs (.own k)) → c'[o]? = some v → Owns G' (w.setRow b c') (.cell id o) k v) :
    Rel P gl G' (h.set id (.cells cs')) (w.setRow b c') := by
  have hlt := Array.getElem?_eq_some_iff.1 hw |>.1
  have hil := List.getElem?_eq_some_iff.1 hid |>.1
  have hne : ∀ x ℓ, G.ow x = some ℓ → x ≠ b := fun x ℓ hx e1 => (hr.ow x ℓ hx).2 id (e1 ▸ hb)
  refine ⟨fun i x hx => ?_, fun i j x hx hy => ?_, fun i x bx hx hb' => ?_, fun x o v hv => ?_, fun x o v i hv => ?_, fun x ℓ hx => ?_, fun g cs hg => ?_⟩
  · rw [hγ] at hx; simpa using hr.γlt i x hx
  · rw [hγ] at hx hy; exact hr.inj i j x hx hy
  · rw [hγ] at hx
    by_cases e1 : i = id
    · subst e1
      rw [hb] at hx; cases hx
      rw [List.getElem?_set_self hil] at hb'
      cases hb'
      exact ⟨c', e, setRow_heap w b c c' e (0, 0) hw, by rw [Ghost.VL, hγ, hi]; exact hrel, hown⟩
    · rw [List.getElem?_set_ne (Ne.symm e1)] at hb'
      have hxb : x ≠ b := fun e2 => e1 (hr.inj i id x hx (e2 ▸ hb))
      have hbx := hr.box i x bx hx hb'
      cases bx with
      | cells ds =>
        obtain ⟨d, e', h1, h2, h3⟩ := hbx
        refine ⟨d, e', by rw [setRow_other' w b x c' hxb]; exact h1, by rw [Ghost.VL, hγ, hi]; exact h2, fun o xs k v ho hv => ?_⟩
        exact (h3 o xs k v ho hv).keep (fun y hy => hcell y i o e1 hy) (fun y hy => setRow_other' w b y c' (hne y _ hy)) (fun y j _ hj => by rw [hi]; exact hj)
      | loop _ _ _ _ _ _ =>
        obtain ⟨L, h1, h2⟩ := hbx
        exact ⟨L, by rw [setRow_other' w b x c' hxb]; exact h1, { h2 with tmps := by rw [Ghost.VL, hγ, hi]; exact h2.tmps }⟩
  · rw [hi] at hv
    obtain ⟨h1, h2⟩ := hr.imm x o v hv
    have hxb : x ≠ b := fun e2 => hr.immγ x o v id hv (e2 ▸ hb)
    exact ⟨(cell_congr (setRow_other' w b x c' hxb)).trans h1, by simpa using h2⟩
  · rw [hi] at hv; rw [hγ]; exact hr.immγ x o v i hv
  · have := how x (by simp [hx])
    cases hx0 : G.ow x with
    | none => exact absurd hx0 this
    | some ℓ0 =>
      obtain ⟨h1, h2⟩ := hr.ow x ℓ0 hx0
      exact ⟨by simpa using h1, by rw [hγ]; exact h2⟩
  · rw [hγ, hi]; exact hr.glob g cs hg

theorem Ext.store (n : Nat) {id b : Nat} {c c' : Array Value} {e : TypeId} (hb : G.γ id = some b) (hw : w.heap[b]? = some (.cells c e (0, 0)))
    (hγ : G'.γ = G.γ) (hi : G'.imm = G.imm) (how : ∀ x, G'.ow x ≠ none → G.ow x ≠ none) : Ext n G w G' (w.setRow b c') := by
  refine ⟨fun i x hx => by rw [hγ]; exact hx, fun i x hx => by rw [hγ] at hx; exact .inl hx, fun x o v hv => by rw [hi]; exact hv, fun x o v hv => by rw [hi] at hv; exact .inl hv, fun x hx => .inl (how x hx), by simp, fun x hx hf => ?_, fun x L hL => ?_, rfl, rfl, rfl⟩
  · exact setRow_other' w b x c' (fun e1 => hf.1 id (e1 ▸ hb))
  · have : x ≠ b := fun e1 => by subst e1; rw [hw] at hL; cases hL
    exact ⟨L, by rw [setRow_other' w b x c' this]; exact hL, rfl, rfl, rfl, rfl, rfl, rfl⟩

/-- Slots beside a turned box. -/
theorem TRel.store {ts : Array Value} (hr : Rel P gl G h w) (ht : TRel G w t ts) {id b : Nat} (c' : Array Value) (hb : G.γ id = some b) : TRel G (w.setRow b c') t ts :=
  ⟨ht.rel, fun i xs k v hx hv => (ht.own i xs k v hx hv).keep (fun _ h => h) (fun y hy => setRow_other' w b y c' (fun e1 => (hr.ow y _ hy).2 id (e1 ▸ hb))) (fun _ _ _ h => h)⟩

theorem store_run {ty : TypeId} {k : Nat} (hk : szOf P ty = some k) {b o : Nat} {v : Value} {c : Array Value} {e : TypeId} (hw : w.heap[b]? = some (.cells c e (0, 0))) (hs : v.cells.size = k) (ho : o + k ≤ c.size) (h1 : ∀ u ∈ v.cells.toList, u.oneCell' = true) :
    (Instr.storeAt ty (.pointer (some ⟨b, o, none⟩)) v).run P w = .ok () (w.setRow b (c.toList.take o ++ v.cells.toList ++ c.toList.drop (o + v.cells.toList.length)).toArray) := by
  have := run_storeCells_at P b o e v.cells.toList 0 c w hw (by simp; omega) h1
  simp only [Nat.add_zero] at this
  simp only [Instr.storeAt, Instr.sureAddr, Sem.run_bind, Sem.run_pure, Result.andThen_ok, storeVar, szOf_run hk, hs, ne_eq, not_true_eq_false, if_false]
  exact this

theorem splice_get {cs vs : List AVal} {o i : Nat} {x : AVal} (hl : o + vs.length ≤ cs.length) (h : (splice cs o vs)[i]? = some x) : (i < o ∨ o + vs.length ≤ i) ∧ cs[i]? = some x ∨ o ≤ i ∧ i < o + vs.length ∧ vs[i - o]? = some x := by
  unfold splice at h
  by_cases h1 : i < o
  · left
    rw [List.append_assoc, List.getElem?_append_left (by simp; omega), List.getElem?_take_of_lt h1] at h
    exact ⟨.inl h1, h⟩
  · by_cases h2 : i < o + vs.length
    · right
      rw [List.getElem?_append_left (by simp; omega), List.getElem?_append_right (by simp; omega)] at h
      refine ⟨by omega, h2, ?_⟩
      simpa [Nat.min_eq_left (show o ≤ cs.length by omega)] using h
    · left
      rw [List.getElem?_append_right (by simp; omega), List.getElem?_drop] at h
      refine ⟨.inr (by omega), ?_⟩
      rw [← h]
      congr 1
      simp [Nat.min_eq_left (show o ≤ cs.length by omega)]
      omega

theorem vsplice_get {cs vs : List Value} {o i : Nat} (hl : o + vs.length ≤ cs.length) : (i < o ∨ o + vs.length ≤ i → (cs.take o ++ vs ++ cs.drop (o + vs.length))[i]? = cs[i]?) ∧ (o ≤ i → i < o + vs.length → (cs.take o ++ vs ++ cs.drop (o + vs.length))[i]? = vs[i - o]?) := by
  constructor
  · rintro (h1 | h1)
    · rw [List.append_assoc, List.getElem?_append_left (by simp; omega), List.getElem?_take_of_lt h1]
    · rw [List.getElem?_append_right (by simp; omega), List.getElem?_drop]
      congr 1
      simp [Nat.min_eq_left (show o ≤ cs.length by omega)]
      omega
  · intro h1 h2
    rw [List.getElem?_append_left (by simp; omega), List.getElem?_append_right (by simp; omega)]
    simp [Nat.min_eq_left (show o ≤ cs.length by omega)]

theorem did_st (hc : Cfg P gl G h t a w) {o : Oper} {ty : TypeId} {x y : Operand} {ax ay : AOpd} {k : Option Nat} {id p : Nat} {cs : List AVal} (ho : o.op = .store ty x y) (hsz : szOf P ty = some (k.getD 1)) (hx : opd gl x = some ax) (hy : opd gl y = some ay)
    (hp : ev t ax = .ptr id p) (hid : h[id]? = some (.cells cs)) (hlen : (match k with | none => [raw t ay] | some _ => (raw t ay).dim.cells.map AVal.dim).length = k.getD 1)
    (hfit : p + (match k with | none => [raw t ay] | some _ => (raw t ay).dim.cells.map AVal.dim).length ≤ cs.length) (hst : (match k with | none => [raw t ay] | some _ => (raw t ay).dim.cells.map AVal.dim).all AVal.storable = true) (n : Nat) :
    Did P gl G w a o n (h.set id (.cells (splice cs p (match k with | none => [raw t ay] | some _ => (raw t ay).dim.cells.map AVal.dim)))) (AE.put o.dst .undef (drained t ay)) := by
  have hv := ev_rel hc.rel hc.tr hx
  rw [hp] at hv
  simp only [Ghost.V, VRel] at hv
  obtain ⟨b, hb, he⟩ := hv
  obtain ⟨c, e, hw, hcs, hown⟩ := hc.rel.box id b _ hb hid
  have hyr := raw_rel hc.rel hc.tr hy
  generalize hvs : (match k with | none => [raw t ay] | some _ => (raw t ay).dim.cells.map AVal.dim) = vs at *
  -- what is stored, cell by cell
  have hcells : (raw t ay).dim.cells.all AVal.storable = true ∧ vs.length = (raw t ay).dim.cells.length ∧ (∀ (i : Nat) (x : AVal), vs[i]? = some x → x = raw t ay ∧ k = none ∨ x.dim = x) ∧ (∀ γ imm us, VRelL γ imm (raw t ay).dim.cells us → VRelL γ imm vs us ∨ k = none) := by
    cases k with
    | none =>
      subst hvs
      simp only [List.all_cons, List.all_nil, Bool.and_true] at hst
      have hd : (raw t ay).dim.storable = true := by
        generalize raw t ay = r at hst ⊢
        cases r <;> first | exact hst | rfl | skip
        rename_i xs f
        cases f <;> rfl
      refine ⟨by rw [storable_cells hd]; simp [hd], by rw [storable_cells hd]; rfl, fun i x hi => ?_, fun _ _ _ _ => .inr rfl⟩
      cases i with
      | zero => simp at hi; exact .inl ⟨hi.symm, rfl⟩
      | succ i => simp at hi
    | some m =>
      subst hvs
      refine ⟨?_, by simp, fun i x hi => .inr ?_, fun γ imm us hu => .inl hu.dims⟩
      · rw [List.all_map] at hst
        rw [List.all_eq_true] at hst ⊢
        intro y hy
        have := hst y hy
        cases y <;> first | exact this | rfl
      · simp only [List.getElem?_map, Option.map_eq_some_iff] at hi
        obtain ⟨z, _, rfl⟩ := hi
        exact dim_dim z
  obtain ⟨hc1, hc2, hc3, hc4⟩ := hcells
  obtain ⟨hr1, hr2⟩ := cells_rel (dim_rel hyr) hc1
  have hvsrel : G.VL vs (a.eval y).cells.toList := by
    rcases hc4 _ _ _ hr1 with h1 | h1
    · exact h1
    · subst h1
      subst hvs
      simp only [List.all_cons, List.all_nil, Bool.and_true] at hst
      have := (cells_rel hyr (by rw [storable_cells hst]; simp [hst])).1
      rwa [storable_cells hst] at this
  have hcsl : cs.length = c.size := by simpa using hcs.length
  have hsize : (a.eval y).cells.size = k.getD 1 := by have := hvsrel.length; simp at this; omega
  have hrun0 := store_run (P := P) (w := w) hsz hw hsize (by omega : p + k.getD 1 ≤ c.size) hr2
  generalize hc' : (c.toList.take p ++ (a.eval y).cells.toList ++ c.toList.drop (p + (a.eval y).cells.toList.length)).toArray = c' at hrun0
  have hrun : (execOp a.eval o).run P w = .ok .skip (w.setRow b c') := by simp [execOp, ho, he, hrun0]
  have hrel' : G.VL (splice cs p vs) c'.toList := by
    rw [← hc']
    simpa using VRelL.splice (o := p) hcs hvsrel
  have hvl : (a.eval y).cells.toList.length = vs.length := hvsrel.length.symm
  have hcget : ∀ i, i < p ∨ p + vs.length ≤ i → c'[i]? = c[i]? := fun i hi => by
    have := (vsplice_get (cs := c.toList) (vs := (a.eval y).cells.toList) (o := p) (i := i) (by simp at hvl ⊢; omega)).1 (by rw [hvl]; exact hi)
    rw [← hc', ← Array.getElem?_toList, ← Array.getElem?_toList (xs := c)]
    exact this
  by_cases hownx : ∃ i xs j, ay = .t i ∧ t[i]? = some (.lst xs (.own j))
  · obtain ⟨i, xs, j, rfl, hi⟩ := hownx
    have hy' := opd_tmp hy
    subst hy'
    obtain ⟨v, hv, hr⟩ := hc.tr.rel.get hi
    have hve := eval_tmp hv
    have hg : t.getD i .undef = .lst xs (.own j) := by simp [List.getD, hi]
    have hdr : drained t (.t i) = t.set i (.lst xs .no) := by simp only [drained, hg]
    obtain ⟨b2, p2, len, cap, c2, e2, rfl, k1, k2, k3, k4, k5⟩ := hc.tr.own i xs j v hi (by simpa using hv)
    have hb2 : b2 ≠ b := fun e1 => (hc.rel.ow b2 _ k1).2 id (e1 ▸ hb)
    rw [hdr]
    refine ⟨_, undef, _, G.give b2 (some (.cell id p)), hrun, .inr ⟨rfl, rfl⟩, fun hq => absurd (.inl ⟨ty, x, _, ho⟩) hq, Ext.store n hb hw rfl rfl (fun x hx => ?_), ?_, ?_⟩
    · simp only [Ghost.give] at hx
      split at hx
      · rename_i e1; subst e1; simp [k1]
      · exact hx
    · refine hc.rel.store hb hid hw rfl rfl (fun x hx => ?_) (fun x id' o' hne hx => ?_) hrel' (fun o' ys k' u hy' hu => ?_)
      · simp only [Ghost.give] at hx
        split at hx
        · rename_i e1; subst e1; simp [k1]
        · exact hx
      · have : x ≠ b2 := fun e1 => by subst e1; rw [k1] at hx; cases hx
        simpa [Ghost.give, this] using hx
      · rcases splice_get hfit hy' with ⟨h1, h2⟩ | ⟨h1, h2, h3⟩
        · have h4 : c[o']? = some u := by rw [← hcget o' h1]; exact hu
          refine (hown o' ys k' u h2 h4).keep (fun x hx => ?_) (fun x hx => setRow_other' w b x c' (fun e1 => (hc.rel.ow x _ hx).2 id (e1 ▸ hb))) (fun _ _ _ h => h)
          have : x ≠ b2 := fun e1 => by subst e1; rw [k1] at hx; cases hx
          simpa [Ghost.give, this] using hx
        · rcases hc3 _ _ h3 with ⟨h4, h5⟩ | h4
          · subst h5
            simp only [raw, hg, AVal.lst.injEq, Flag.own.injEq] at h4
            obtain ⟨rfl, rfl⟩ := h4
            have hvl1 : vs.length = 1 := by rw [← hvs]; rfl
            have ho' : o' = p := by omega
            subst ho'
            have hu' : u = .slice (some ⟨b2, p2, none⟩) len cap := by
              have h6 := (vsplice_get (cs := c.toList) (vs := (a.eval (.tmp i)).cells.toList) (o := o') (i := o') (by simp at hvl ⊢; omega)).2 (Nat.le_refl _) (by rw [hvl]; omega)
              rw [← hc', ← Array.getElem?_toList, h6, hve] at hu
              simpa [Value.cells] using hu.symm
            subst hu'
            exact ⟨b2, p2, len, cap, c2, e2, rfl, by simp [Ghost.give], by rw [setRow_other' w b b2 c' hb2]; exact k2, k3, k4, k5⟩
          · simp [AVal.dim] at h4
    · have htr := (hc.tr.give (ℓ := some (.cell id p)) hi k1).store (hc.rel.give (ℓ := .cell id p) k1 (fun _ _ _ _ _ e1 => by cases e1)) c' (id := id) (b := b) hb
      exact htr.put o.dst (by simp [Ghost.V, VRel]) rfl a.defers
  · have hown' : ∀ i xs k, ay = .t i → t[i]? ≠ some (.lst xs (.own k)) := fun i xs k h1 h2 => hownx ⟨i, xs, k, h1, h2⟩
    obtain ⟨hd1, hd2⟩ := raw_not_own hown' (opd_const hy)
    rw [hd2]
    refine ⟨_, undef, _, G, hrun, .inr ⟨rfl, rfl⟩, fun hq => absurd (.inl ⟨ty, x, _, ho⟩) hq, Ext.store n hb hw rfl rfl (fun _ h => h), ?_, ?_⟩
    · refine hc.rel.store hb hid hw rfl rfl (fun _ h => h) (fun _ _ _ _ h => h) hrel' (fun o' ys k' u hy' hu => ?_)
      rcases splice_get hfit hy' with ⟨h1, h2⟩ | ⟨h1, h2, h3⟩
      · have h4 : c[o']? = some u := by rw [← hcget o' h1]; exact hu
        exact (hown o' ys k' u h2 h4).keep (fun _ h => h) (fun x hx => setRow_other' w b x c' (fun e1 => (hc.rel.ow x _ hx).2 id (e1 ▸ hb))) (fun _ _ _ h => h)
      · exfalso
        rcases hc3 _ _ h3 with ⟨h4, _⟩ | h4
        · rw [← h4] at hd1; simp [AVal.dim] at hd1
        · simp [AVal.dim] at h4
    · exact (hc.tr.store hc.rel c' hb).put o.dst (by simp [Ghost.V, VRel]) rfl a.defers
end
end Go.AE
