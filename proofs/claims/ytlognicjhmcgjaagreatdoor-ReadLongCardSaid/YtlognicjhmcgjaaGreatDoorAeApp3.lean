/- The abstract executor: append, in the state. No condition. -/
import Derived.Test.YtlognicjhmcgjaaGreatDoorAeApp2
namespace Go.AE
section
variable {P : Program} {gl : Nat → Option (List AVal)} {G G' : Ghost} {w w' : World} {h : List ABox} {t : List AVal} {a : Act} {n : Nat}

/-- A place's list is not flagged any more. -/
def Quiet (h : List ABox) (t : List AVal) : Loc → Prop
  | .tmp i => ∀ xs k, t[i]? ≠ some (.lst xs (.own k))
  | .cell id o => ∀ cs xs k, h[id]? = some (.cells cs) → cs[o]? ≠ some (.lst xs (.own k))

theorem fixed_cfg (hr : Rel P gl G h w) (ht : TRel G w t a.tmps) {b s hi : Nat} {ℓ0 : Loc} {ℓ : Option Loc} {c c' : Array Value} {e : TypeId} (hb : G.ow b = some ℓ0) (hq : Quiet h t ℓ0)
    (hw : w.heap[b]? = some (.cells c e (0, 0))) (himm : ∀ j, s ≤ j → G.imm b j = none) (hlow : ∀ j, j < s → c'[j]? = c[j]?) (n : Nat) :
    Rel P gl (G.fixed b c' s hi ℓ) h (w.setRow b c') ∧ TRel (G.fixed b c' s hi ℓ) (w.setRow b c') t a.tmps ∧ Ext n G w (G.fixed b c' s hi ℓ) (w.setRow b c') := by
  have hγb : ∀ i, G.γ i ≠ some b := (hr.ow b ℓ0 hb).2
  have hik : ∀ x o v, G.imm x o = some v → (G.fixed b c' s hi ℓ).imm x o = some v := by
    intro x o v hv
    simp only [Ghost.fixed]
    rw [if_neg]
    · exact hv
    · rintro ⟨rfl, h1, _⟩
      rw [himm o h1] at hv
      cases hv
  have hin : ∀ x j, x ≠ b → G.imm x j = none → (G.fixed b c' s hi ℓ).imm x j = none := by
    intro x j hx hj
    simp only [Ghost.fixed]
    rw [if_neg (fun hh => hx hh.1)]
    exact hj
  have how : ∀ x ℓ', x ≠ b → G.ow x = some ℓ' → (G.fixed b c' s hi ℓ).ow x = some ℓ' := by
    intro x ℓ' hx hh
    simp only [Ghost.fixed]
    rw [if_neg hx]; exact hh
  refine ⟨⟨fun i x hx => by simpa using hr.γlt i x hx, hr.inj, fun i x bx hx hbx => ?_, fun x o v hv => ?_, fun x o v i hv => ?_, fun x ℓ' hx => ?_, fun g cs hg => ?_⟩, ?_, ?_⟩
  · have hxb : x ≠ b := fun e1 => hγb i (e1 ▸ hx)
    have h0 := hr.box i x bx hx hbx
    cases bx with
    | cells cs =>
      obtain ⟨d, e', h1, h2, h3⟩ := h0
      obtain ⟨m, hm⟩ := lowerL_ex cs
      refine ⟨d, e', by rw [setRow_other' w b x c' hxb]; exact h1, VRelL.mono hik m (fun _ _ _ h => h) cs _ hm h2, fun o xs k v ho hv => ?_⟩
      have hne : ∀ y, G.ow y = some (.cell i o) → y ≠ b := fun y hy e1 => by
        subst e1
        rw [hb] at hy
        cases hy
        exact hq cs xs k hbx ho
      exact (h3 o xs k v ho hv).keep (fun y hy => how y _ (hne y hy) hy) (fun y hy => setRow_other' w b y c' (hne y hy)) (fun y j hy hj => hin y j (hne y hy) hj)
    | loop tt _ _ _ _ _ =>
      obtain ⟨L, h1, h2⟩ := h0
      obtain ⟨m, hm⟩ := lowerL_ex tt
      exact ⟨L, by rw [setRow_other' w b x c' hxb]; exact h1, { h2 with tmps := VRelL.mono hik m (fun _ _ _ h => h) tt _ hm h2.tmps }⟩
  · simp only [Ghost.fixed] at hv
    split at hv
    · rename_i hh
      obtain ⟨rfl, _, _⟩ := hh
      refine ⟨?_, by simpa using (hr.ow x ℓ0 hb).1⟩
      simp only [World.cell?, setRow_heap w x c c' e (0, 0) hw]
      simpa using hv
    · rename_i hh
      obtain ⟨h1, h2⟩ := hr.imm x o v hv
      refine ⟨?_, by simpa using h2⟩
      by_cases hxb : x = b
      · subst hxb
        have hos : o < s := by
          by_cases hos : o < s
          · exact hos
          · rw [himm o (by omega)] at hv; cases hv
        simp only [World.cell?, setRow_heap w x c c' e (0, 0) hw, hw] at h1 ⊢
        simpa [hlow o hos] using h1
      · exact (cell_congr (setRow_other' w b x c' hxb)).trans h1
  · simp only [Ghost.fixed] at hv
    split at hv
    · rename_i hh; obtain ⟨rfl, _, _⟩ := hh; exact hγb i
    · exact hr.immγ x o v i hv
  · simp only [Ghost.fixed] at hx
    split at hx
    · rename_i hh; subst hh; exact ⟨by simpa using (hr.ow x ℓ0 hb).1, hγb⟩
    · exact ⟨by simpa using (hr.ow x ℓ' hx).1, (hr.ow x ℓ' hx).2⟩
  · obtain ⟨h1, h2⟩ := hr.glob g cs hg
    exact ⟨ICells.mono hik 0 (fun i _ hi => absurd hi (Nat.not_lt_zero _)) cs g 0 h2 h1, h2⟩
  · obtain ⟨m, hm⟩ := lowerL_ex t
    refine ⟨VRelL.mono hik m (fun _ _ _ h => h) t _ hm ht.rel, fun i xs k v hi' hv => ?_⟩
    have hne : ∀ y, G.ow y = some (.tmp i) → y ≠ b := fun y hy e1 => by
      subst e1
      rw [hb] at hy
      cases hy
      exact hq xs k hi'
    exact (ht.own i xs k v hi' hv).keep (fun y hy => how y _ (hne y hy) hy) (fun y hy => setRow_other' w b y c' (hne y hy)) (fun y j hy hj => hin y j (hne y hy) hj)
  · refine ⟨fun _ _ h => h, fun _ _ h => .inl h, hik, fun x o v hv => ?_, fun x hx => ?_, by simp, fun x hx hf => ?_, fun x L hL => ?_, rfl, rfl, rfl⟩
    · simp only [Ghost.fixed] at hv
      split at hv
      · rename_i hh; obtain ⟨rfl, _, _⟩ := hh; exact .inr (.inr (by simp [hb]))
      · exact .inl hv
    · simp only [Ghost.fixed] at hx
      split at hx
      · rename_i hh; subst hh; exact .inl (by simp [hb])
      · exact .inl hx
    · exact setRow_other' w b x c' (fun e1 => by subst e1; rw [hf.2] at hb; cases hb)
    · have : x ≠ b := fun e1 => by subst e1; rw [hw] at hL; cases hL
      exact ⟨L, by rw [setRow_other' w b x c' this]; exact hL, rfl, rfl, rfl, rfl, rfl, rfl⟩

/-- A cell's list is not flagged any more. -/
theorem Rel.drainCell (hr : Rel P gl G h w) {id o : Nat} {cs : List AVal} {xs : List AVal} {f : Flag} (hid : h[id]? = some (.cells cs)) (ho : cs[o]? = some (.lst xs f)) :
    Rel P gl G (h.set id (.cells (cs.set o (.lst xs .no)))) w := by
  have hil := List.getElem?_eq_some_iff.1 hid |>.1
  refine ⟨fun i x hx => by simpa using hr.γlt i x hx, hr.inj, fun i x bx hx hbx => ?_, hr.imm, hr.immγ, hr.ow, hr.glob⟩
  by_cases e1 : id = i
  · subst e1
    rw [List.getElem?_set_self hil] at hbx
    cases hbx
    obtain ⟨c, e, h1, h2, h3⟩ := hr.box id x _ hx hid
    obtain ⟨v, hv, hrv⟩ := h2.get ho
    have h4 := VRelL.set o h2 (no_rel hrv)
    have e2 : c.toList.set o v = c.toList := by
      obtain ⟨h5, h6⟩ := List.getElem?_eq_some_iff.1 hv
      rw [← h6]; exact List.set_getElem_self h5
    rw [e2] at h4
    refine ⟨c, e, h1, h4, fun o' ys k u ho' hu => ?_⟩
    by_cases e3 : o = o'
    · subst e3
      rw [List.getElem?_set_self (List.getElem?_eq_some_iff.1 ho).1] at ho'
      simp at ho'
    · rw [List.getElem?_set_ne e3] at ho'
      exact h3 o' ys k u ho' hu
  · rw [List.getElem?_set_ne e1] at hbx
    exact hr.box i x bx hx hbx

/-- A list to which may be appended in place, whose place does not hold it any more; it goes to slot d. -/
theorem app_own (hc : Cfg P gl G h t a w) {o : Oper} {c : Go.Call} {x y : Operand} {sT xT e : TypeId} {i : TypeInfo} {ux : TypeDesc} {z : AVal} {ys xs : List AVal} {f0 : Flag} (ho : o.op = .call c) (hcal : c.callee = .builtin .append)
    (hargs : c.args.toList = [x, y]) (hty : c.argTypes.toList = [sT, xT]) (hu : P.underlying sT = some (.slice e)) (hx : P.underlying xT = some ux) (hux : (∃ e', ux = .slice e') ∨ ux = .string) (hi : P.info? e = some i)
    (hi0 : i.size ≠ 0) (hb : i.bytes ≤ 65536) (hz : zeroOf P e = some z) (hzs : z.cells.length = i.size)
    (hxv : G.V (.lst xs f0) (a.eval x)) (hyv : ∃ nv : List Value, G.VL (flat ys) nv ∧ (∀ w1 : World, (∀ q, w1.cell? q = w.cell? q) → (Builtin.firstCells i.size ys.length (a.eval y)).run P w1 = .ok nv.toArray w1) ∧ (Builtin.lenOf (a.eval y)).run P w = .ok ys.length w)
    (hlim : xs.length + ys.length ≤ limit) (hysk : ∀ y ∈ ys, y.cells.length = i.size) (hyst : (flat ys).all AVal.storable = true) (hxsk : ∀ x ∈ xs, x.cells.length = i.size) (hne : ys ≠ [])
    (hmode : f0 = .full ∨ ∃ ℓ0, Owns G w ℓ0 i.size (a.eval x) ∧ Quiet h t ℓ0) (n : Nat) :
    Did P gl G w a o n h (AE.put o.dst (.lst (xs ++ ys) (.own i.size)) t) := by
  have ea : c.args = #[x, y] := by rw [← Array.toArray_toList (xs := c.args), hargs]
  have et : c.argTypes = #[sT, xT] := by rw [← Array.toArray_toList (xs := c.argTypes), hty]
  obtain ⟨nv, hn1, hn2, hn3⟩ := hyv
  obtain ⟨ov, ho1, ho2, ho3⟩ := first_run (P := P) hc.rel hxv hxsk
  have hnl : nv.length = ys.length * i.size := by rw [← hn1.length, flat_length hysk]
  have hol : ov.length = xs.length * i.size := by rw [← ho1.length, flat_length hxsk]
  have hysl : 0 < ys.length := by cases ys with | nil => exact absurd rfl hne | cons _ _ => simp
  have hn4 := IElems.cells_one hn1 hyst
  obtain ⟨u0, hu0, hu0r⟩ : ∃ u0 : Value, (∀ w1 : World, (zeroValue e).run P w1 = .ok u0 w1) ∧ u0.cells.size = i.size := by
    unfold zeroOf at hz
    rw [hi] at hz
    simp only at hz
    obtain ⟨u, hu1, hu2⟩ := bindO (by simpa [Option.bind_eq_bind] using hz)
    refine ⟨u, fun w1 => by simp [zeroValue, typeInfo, hi, hu1], ?_⟩
    have := (zcells_rel (γ := G.γ) (imm := G.imm) hu2).length
    simp at this
    omega
  have hxv' := hxv
  simp only [Ghost.V, VRel] at hxv'
  obtain ⟨base, len, cap, hval, h1, h2, h3, h4, _, h5⟩ := hxv'
  subst h1
  rw [hval] at ho2 ho3
  have hrunE : ∀ r w1, (Builtin.append_ #[sT, xT] o.type #[.slice base xs.length cap, a.eval y]).run P w = .ok r w1 → (execOp a.eval o).run P w = .ok (.value r) w1 := by
    intro r w1 hr
    simp [execOp, ho, hcal, ea, et, resolve, invoke, builtin, hval, hr]
  obtain ⟨hA, hB, _⟩ := append_run (P := P) (w := w) hu hx hux hi hn3 o.type ov nv hn2 ho2 hlim hb hu0 hu0r hol hnl
  have huni : ∀ q ∈ xs ++ ys, q.cells.length = i.size := fun q hq => by
    rcases List.mem_append.1 hq with hq | hq
    · exact hxsk q hq
    · exact hysk q hq
  by_cases hcap : xs.length + ys.length ≤ cap
  · -- in place
    rcases hmode with rfl | ⟨ℓ0, hown, hq⟩
    · exfalso; have := h3 rfl; omega
    · obtain ⟨b, p, len', cap', cc, te, hval', k1, k2, k3, k4, k5⟩ := hown
      rw [hval] at hval'
      cases hval'
      have hrun := hrunE _ _ (hB hcap b p rfl cc te k2 k4 hn4)
      generalize hc' : (cc.toList.take (p + xs.length * i.size) ++ nv ++ cc.toList.drop (p + xs.length * i.size + nv.length)).toArray = c' at hrun
      have hfit : p + xs.length * i.size + nv.length ≤ cc.toList.length := by
        have : (xs.length + ys.length) * i.size ≤ cap * i.size := Nat.mul_le_mul_right _ hcap
        rw [Nat.add_mul] at this
        simp; omega
      have hlow : ∀ j, j < p + xs.length * i.size → c'[j]? = cc[j]? := fun j hj => by
        have := (vsplice_get (cs := cc.toList) (vs := nv) (o := p + xs.length * i.size) (i := j) hfit).1 (.inl hj)
        rw [← hc', ← Array.getElem?_toList, ← Array.getElem?_toList (xs := cc)]
        exact this
      have hnew : ∀ (j : Nat) (v : Value), nv[j]? = some v → c'[p + xs.length * i.size + j]? = some v := fun j v hj => by
        have hjl := (List.getElem?_eq_some_iff.1 hj).1
        have := (vsplice_get (cs := cc.toList) (vs := nv) (o := p + xs.length * i.size) (i := p + xs.length * i.size + j) hfit).2 (by omega) (by omega)
        rw [← hc', ← Array.getElem?_toList, this]
        simpa using hj
      have hcsize : c'.size = cc.size := by rw [← hc']; simp at hfit ⊢; omega
      obtain ⟨f1, f2, f3⟩ := fixed_cfg (P := P) (gl := gl) (ℓ := o.dst.map Loc.tmp) (hi := p + xs.length * i.size + nv.length) hc.rel hc.tr k1 hq k2 k5 hlow n
      have hV : (G.fixed b c' (p + xs.length * i.size) (p + xs.length * i.size + nv.length) (o.dst.map Loc.tmp)).V (.lst (xs ++ ys) (.own i.size)) (.slice (some ⟨b, p, none⟩) (xs.length + ys.length) cap) := by
        simp only [Ghost.V, VRel]
        refine ⟨_, _, _, rfl, by simp, hcap, by simp, by simp, ⟨i.size, huni⟩, .inr ⟨b, p, rfl, ?_⟩⟩
        refine IElems.append hxsk ?_ ?_
        · rcases h5 with rfl | ⟨b', p', hbp, hE⟩
          · simp [IElems]
          · cases hbp
            obtain ⟨m, hm⟩ := lowerL_ex xs
            exact IElems.mono f3.ik m (fun _ _ _ h => h) xs b p hm hE
        · refine IElems.of_flat (vs := nv) (f3.VL hn1) fun j v hj => ?_
          simp only [Ghost.fixed]
          rw [if_pos ⟨trivial, by omega, by have := (List.getElem?_eq_some_iff.1 hj).1; omega⟩]
          exact hnew j v hj
      refine ⟨_, _, _, _, hrun, .inl rfl, fun hq => absurd (.inr ⟨c, ho, hcal⟩) hq, f3, f1, ?_⟩
      cases hd : o.dst with
      | none => simpa [AE.put, Act.put, hd] using f2
      | some d =>
        rw [hd] at hV f1 f2 f3
        refine f2.putOwn d hV ⟨b, p, _, cap, c', te, rfl, by simp [Ghost.fixed], setRow_heap w b cc c' te (0, 0) k2, hcap, by rw [hcsize]; exact k4, fun j hj => ?_⟩ a.defers
        simp only [Ghost.fixed]
        rw [if_neg (fun hh => by rw [Nat.add_mul] at hj; omega)]
        exact k5 j (by rw [Nat.add_mul] at hj; omega)
  · -- in new cells
    obtain ⟨newCap, d0, cc, hge, hrun, hcs, hcc⟩ := hA (by omega)
    have hrun := hrunE _ _ hrun
    have hr0 : Rel P gl G h { w with drawn := d0 } := hc.rel.of_drew d0
    have ht0 : TRel G { w with drawn := d0 } t a.tmps := hc.tr.of_drew d0
    have f1 := hr0.newRow cc e ((xs.length + ys.length) * i.size) (o.dst.map Loc.tmp)
    have f2 := TRel.newRow hr0 ht0 cc e ((xs.length + ys.length) * i.size) (o.dst.map Loc.tmp)
    have f3 : Ext n G w _ _ := ((Ext.refl n G w).drew d0).trans (Nat.le_refl n) (Ext.newRow n cc e ((xs.length + ys.length) * i.size) (o.dst.map Loc.tmp) hr0)
    have hsz : ({ w with drawn := d0 } : World).heap.size = w.heap.size := rfl
    have hcel : ∀ (j : Nat) (v : Value), (ov ++ nv)[j]? = some v → (G.withRow w.heap.size cc ((xs.length + ys.length) * i.size) (o.dst.map Loc.tmp)).imm w.heap.size (0 + j) = some v := fun j v hj => by
      have hjl := (List.getElem?_eq_some_iff.1 hj).1
      simp only [List.length_append, hol, hnl] at hjl
      rw [← Nat.add_mul] at hjl
      simp only [Ghost.withRow, Nat.zero_add, if_true, if_pos hjl]
      exact hcc j v hj
    have hV : (G.withRow w.heap.size cc ((xs.length + ys.length) * i.size) (o.dst.map Loc.tmp)).V (.lst (xs ++ ys) (.own i.size)) (.slice (some ⟨w.heap.size, 0, none⟩) (xs.length + ys.length) newCap) := by
      simp only [Ghost.V, VRel]
      refine ⟨_, _, _, rfl, by simp, hge, by simp, by simp, ⟨i.size, huni⟩, .inr ⟨_, _, rfl, ?_⟩⟩
      refine IElems.of_flat (vs := ov ++ nv) ?_ hcel
      have : flat (xs ++ ys) = flat xs ++ flat ys := by simp [flat]
      rw [this]
      exact (f3.VL ho1).append (f3.VL hn1)
    refine ⟨_, _, _, _, hrun, .inl rfl, fun hq => absurd (.inr ⟨c, ho, hcal⟩) hq, f3, f1, ?_⟩
    cases hd : o.dst with
    | none => simpa [AE.put, Act.put, hd] using f2
    | some d =>
      rw [hd] at hV f1 f2 f3
      refine f2.putOwn d hV ⟨w.heap.size, 0, _, newCap, cc, e, rfl, by simp [Ghost.withRow], alloc_heap_size _ _, hge, by rw [hcs]; omega, fun j hj => ?_⟩ a.defers
      simp only [Ghost.withRow, if_true]
      rw [if_neg (by omega)]
end
end Go.AE
