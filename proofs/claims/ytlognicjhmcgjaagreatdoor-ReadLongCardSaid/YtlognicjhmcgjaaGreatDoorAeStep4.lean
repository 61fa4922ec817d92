/- The abstract executor: a step at a time: append, where the list comes from. No condition. -/
import Derived.Test.YtlognicjhmcgjaaGreatDoorAeApp3
namespace Go.AE
section
variable {P : Program} {gl : Nat → Option (List AVal)} {G G' : Ghost} {w w' : World} {h : List ABox} {t : List AVal} {a : Act} {n : Nat}

def ProvOK (G : Ghost) (w : World) (t : List AVal) (a : Act) (p : Prov) : Prop :=
  ∀ d s, (d, s) ∈ p → ∀ u, a.tmps[d]? = some u → match s with
    | .tmp i => a.tmps.getD i undef = u
    | .cell x => ∀ id o, ev t x = .ptr id o → ∃ b, G.γ id = some b ∧ w.cell? ⟨b, o, none⟩ = some u

theorem ProvOK.nil : ProvOK G w t a [] := fun _ _ h => by cases h

/-- An operation of append, and all that compiling it has found out. -/
structure AppOK (P : Program) (gl : Nat → Option (List AVal)) (o : Oper) (k : Nat) (ax ay : AOpd) : Prop where
  ex : ∃ (c : Go.Call) (x y : Operand) (sT xT e : TypeId) (i : TypeInfo) (ux : TypeDesc) (z : AVal), o.op = .call c ∧ c.callee = .builtin .append ∧ c.args.toList = [x, y] ∧ c.argTypes.toList = [sT, xT] ∧
    P.underlying sT = some (.slice e) ∧ P.underlying xT = some ux ∧ ((∃ e', ux = .slice e') ∨ ux = .string) ∧ P.info? e = some i ∧ i.size = k ∧ i.size ≠ 0 ∧ i.bytes ≤ 65536 ∧ zeroOf P e = some z ∧ z.cells.length = i.size ∧
    opd gl x = some ax ∧ opd gl y = some ay

theorem uniform {xs : List AVal} {f : Flag} {v : Value} {k : Nat} (hv : G.V (.lst xs f) v) (hk : xs.head?.all (fun y => y.cells.length == k) = true) : ∀ x ∈ xs, x.cells.length = k := by
  simp only [Ghost.V, VRel] at hv
  obtain ⟨_, _, _, _, _, _, _, _, ⟨k', h6⟩, _⟩ := hv
  intro x hx
  cases xs with
  | nil => cases hx
  | cons y ys =>
    simp at hk
    rw [h6 x hx, ← h6 y (by simp), hk]

theorem taken_spec (hc : Cfg P gl G h t a w) {p : Prov} (hp : ProvOK G w t a p) {k : Nat} {x : Operand} {ax : AOpd} (hx : opd gl x = some ax) {xs0 : List AVal} {f : Flag} (hraw : raw t ax = .lst xs0 f) {e : Bool} {xs : List AVal} {s' : St} (ht : taken k p ax ⟨t, h, e⟩ = some (xs, s')) :
    ∃ ℓ0, Cfg P gl G s'.h s'.t a w ∧ s'.e = e ∧ s'.h.length = h.length ∧ Owns G w ℓ0 k (a.eval x) ∧ Quiet s'.h s'.t ℓ0 ∧ G.V (.lst xs .no) (a.eval x) := by
  unfold taken at ht
  split at ht
  · cases ht
  · rename_i i
    have hx' := opd_tmp hx
    subst hx'
    simp only at ht
    have hi0 : t[i]? = some (.lst xs0 f) := getD_some hraw
    obtain ⟨u, hu, hru⟩ := hc.tr.rel.get hi0
    have hev := eval_tmp hu
    have hu' : a.tmps[i]? = some u := by simpa using hu
    split at ht
    · rename_i xs1 j he
      split at ht
      · rename_i hj
        cases ht
        subst hj
        have hi := getD_some he
        have : xs0 = xs ∧ f = .own j := by rw [hi0] at hi; cases hi; exact ⟨rfl, rfl⟩
        obtain ⟨rfl, rfl⟩ := this
        refine ⟨.tmp i, ⟨hc.rel, hc.tr.drain hi⟩, rfl, rfl, ?_, ?_, ?_⟩
        · rw [hev]; exact hc.tr.own i _ j u hi hu'
        · intro ys k' hq
          simp only at hq
          rw [List.getElem?_set_self (List.getElem?_eq_some_iff.1 hi).1] at hq
          simp at hq
        · rw [hev]; exact no_rel hru
      · cases ht
    · split at ht
      · rename_i d b hf
        have hmem := List.mem_of_find?_eq_some hf
        have hd : d = i := by have := List.find?_some hf; simpa using this
        subst hd
        split at ht
        · rename_i xs1 j he
          split at ht
          · rename_i hj
            cases ht
            subst hj
            have hb := getD_some he
            obtain ⟨u2, hu2, hru2⟩ := hc.tr.rel.get hb
            have h1 := hp _ _ hmem u hu'
            simp only at h1
            have hu2' : a.tmps[b]? = some u2 := by simpa using hu2
            have h2 : u2 = u := by
              rw [← h1]
              obtain ⟨q1, q2⟩ := Array.getElem?_eq_some_iff.1 hu2'
              simp [Array.getD, q1, q2]
            subst h2
            refine ⟨.tmp b, ⟨hc.rel, hc.tr.drain hb⟩, rfl, rfl, ?_, ?_, ?_⟩
            · rw [hev]; exact hc.tr.own b _ j u2 hb hu2'
            · intro ys k' hq
              simp only at hq
              rw [List.getElem?_set_self (List.getElem?_eq_some_iff.1 hb).1] at hq
              simp at hq
            · rw [hev]; exact no_rel hru2
          · cases ht
        · cases ht
      · rename_i d x0 hf
        have hmem := List.mem_of_find?_eq_some hf
        have hd : d = i := by have := List.find?_some hf; simpa using this
        subst hd
        split at ht
        · rename_i id o he
          split at ht
          · rename_i cs hid
            split at ht
            · rename_i xs1 j ho
              split at ht
              · rename_i hj
                cases ht
                subst hj
                have h1 := hp _ _ hmem u hu'
                simp only at h1
                obtain ⟨b, hb, hcell⟩ := h1 id o he
                obtain ⟨c, te, hw, hcs, hown⟩ := hc.rel.box id b _ hb hid
                obtain ⟨u2, hu2, hru2⟩ := hcs.get ho
                have hu2' : c[o]? = some u2 := by simpa using hu2
                have h2 : u2 = u := by
                  simp only [World.cell?, hw] at hcell
                  simpa [hu2'] using hcell
                subst h2
                refine ⟨.cell id o, ⟨hc.rel.drainCell hid ho, hc.tr⟩, rfl, by simp, ?_, ?_, ?_⟩
                · rw [hev]; exact hown o _ j u2 ho hu2'
                · intro cs' ys k' hq hq2
                  simp only at hq
                  rw [List.getElem?_set_self (List.getElem?_eq_some_iff.1 hid).1] at hq
                  cases hq
                  rw [List.getElem?_set_self (List.getElem?_eq_some_iff.1 ho).1] at hq2
                  simp at hq2
                · rw [hev]; exact no_rel hru2
              · cases ht
            · cases ht
          · cases ht
        · cases ht
      · cases ht

theorem tail_run (hr : Rel P gl G h w) {y : AVal} {v : Value} (hv : G.V y v) {ys : List AVal} (ht : tail y = some ys) {k : Nat} (hk : ∀ q ∈ ys, q.cells.length = k) :
    ∃ nv : List Value, G.VL (flat ys) nv ∧ (∀ w1 : World, (∀ q, w1.cell? q = w.cell? q) → (Builtin.firstCells k ys.length v).run P w1 = .ok nv.toArray w1) ∧ (Builtin.lenOf v).run P w = .ok ys.length w := by
  unfold tail at ht
  split at ht
  · cases ht
    exact first_run hr hv hk
  · rename_i s
    cases ht
    obtain ⟨nv, h1, h2, h3⟩ := firstS_run (P := P) (w := w) hv
    exact ⟨nv, h1, fun w1 _ => by simpa [ints] using h2 k w1, by simpa [ints] using h3⟩
  · cases ht

/-- append, as the executor carries it out. -/
theorem did_app (hc : Cfg P gl G h t a w) {p : Prov} (hp : ProvOK G w t a p) {o : Oper} {k : Nat} {ax ay : AOpd} (hok : AppOK P gl o k ax ay) {base : Nat} {call : AE.Call} {e : Bool} {s' : St}
    (hrun : runOp base call p o.dst (.app k ax ay) ⟨t, h, e⟩ = some (.nor, s')) (n : Nat) (hn : n ≤ h.length) : Did P gl G w a o n s'.h s'.t ∧ s'.e = e ∧ s'.h.length = h.length := by
  obtain ⟨c, x, y, sT, xT, et, i, ux, z, h1, h2, h3, h4, h5, h6, h7, h8, h9, h10, h11, h12, h13, h14, h15⟩ := hok.ex
  subst h9
  have hyv := ev_rel hc.rel hc.tr h15
  have hxr := raw_rel hc.rel hc.tr h14
  simp only [runOp] at hrun
  split at hrun
  · rename_i xs f ys hraw htail
    split at hrun
    · -- nothing is appended
      rename_i hemp
      simp only [List.isEmpty_iff] at hemp
      subst hemp
      cases hrun
      refine ⟨?_, rfl, rfl⟩
      rw [hraw] at hxr
      obtain ⟨nv, m1, m2, m3⟩ := tail_run (P := P) hc.rel hyv htail (k := i.size) (fun q hq => by cases hq)
      obtain ⟨ov, o1, o2, o3⟩ : ∃ vs : List Value, True ∧ True ∧ True := ⟨[], trivial, trivial, trivial⟩
      have hxr' := hxr
      simp only [Ghost.V, VRel] at hxr'
      obtain ⟨bs, len, cap, hval, q1, q2, q3, q4, _, q5⟩ := hxr'
      have ea : c.args = #[x, y] := by rw [← Array.toArray_toList (xs := c.args), h3]
      have et' : c.argTypes = #[sT, xT] := by rw [← Array.toArray_toList (xs := c.argTypes), h4]
      have hnv : nv = [] := List.eq_nil_of_length_eq_zero (by have := m1.length; simp [flat] at this; exact this.symm)
      subst hnv
      have hf0 := m2 w (fun _ => rfl)
      simp only [List.length_nil] at hf0 m3
      have hsz : (sizeOf et).run P w = .ok i.size w := by simp [sizeOf, typeInfo, h8]
      have hap : (Builtin.append_ #[sT, xT] o.type #[.slice bs len cap, a.eval y]).run P w = .ok (.slice bs len cap) w := by
        rcases h7 with ⟨e', rfl⟩ | rfl <;> cases bs <;> simp [Builtin.append_, run_underlying h5, run_underlying h6, hsz, m3, q2, hf0, storeCells]
      refine did_gives hc ⟨.slice bs len cap, ?_, ?_, dim_dim _⟩ n
      · simp [execOp, h1, h2, ea, et', resolve, invoke, builtin, hval, hap]
      · rw [← hval]; exact dim_rel hxr
    · rename_i hne
      split at hrun
      · rename_i hcond
        obtain ⟨c1, c2, c3⟩ := hcond
        have hne' : ys ≠ [] := by simpa using hne
        have hysk : ∀ q ∈ ys, q.cells.length = i.size := fun q hq => by
          rw [List.all_eq_true] at c2
          have := c2 q hq
          simp at this
          exact this.1
        have hyst : (flat ys).all AVal.storable = true := by
          rw [List.all_eq_true] at c2 ⊢
          intro q hq
          simp only [flat, List.mem_flatMap] at hq
          obtain ⟨r, hr1, hr2⟩ := hq
          have := c2 r hr1
          simp only [Bool.and_eq_true] at this
          have := this.2
          rw [List.all_eq_true] at this
          exact this q hr2
        have htl := tail_run (P := P) hc.rel hyv htail hysk
        split at hrun
        · cases hrun
          rw [hraw] at hxr
          exact ⟨app_own hc h1 h2 h3 h4 h5 h6 h7 h8 h10 h11 h12 h13 hxr htl c1 hysk hyst (uniform hxr c3) hne' (.inl rfl) n, rfl, rfl⟩
        · split at hrun
          · rename_i xs2 s2 htk
            split at hrun
            rotate_left
            · cases hrun
            rename_i hhead
            cases hrun
            obtain ⟨ℓ0, d1, d2, d3, d4, d5, d6⟩ := taken_spec hc hp h14 hraw htk
            -- the list at its place is as long as the operand's
            have hlen : xs2.length = xs.length := by
              rw [hraw] at hxr
              simp only [Ghost.V, VRel] at hxr d6
              obtain ⟨_, _, _, g1, g2, _⟩ := hxr
              obtain ⟨_, _, _, g3, g4, _⟩ := d6
              rw [g1] at g3
              cases g3
              omega
            have hxsk : ∀ q ∈ xs2, q.cells.length = i.size := uniform d6 hhead
            exact ⟨app_own d1 h1 h2 h3 h4 h5 h6 h7 h8 h10 h11 h12 h13 d6 htl (by omega) hysk hyst hxsk hne' (.inr ⟨ℓ0, d4, d5⟩) n, d2, d3⟩
          · cases hrun
      · cases hrun
  · cases hrun
end
end Go.AE
