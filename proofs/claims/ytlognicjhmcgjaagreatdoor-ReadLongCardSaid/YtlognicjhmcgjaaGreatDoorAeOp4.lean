/- The abstract executor: each operation that looks at no box does what the machine's does. No condition. -/
import Derived.Test.YtlognicjhmcgjaaGreatDoorAeOp3
namespace Go.AE
section
variable {P : Program} {gl : Nat → Option (List AVal)} {G : Ghost} {w : World} {h : List ABox} {t : List AVal} {a : Act}

theorem extract_str (s : ByteArray) (l m : Nat) : (s.extract l m).data.toList = (s.data.toList.drop l).take (m - l) := by
  simp [ByteArray.data_extract, Array.toList_extract, List.extract_eq_take_drop]

theorem gives_subS (hr : Rel P gl G h w) (ht : TRel G w t a.tmps) {o : Oper} {ty : TypeId} {x : Operand} {lo hi : Option Operand} {ax : AOpd} {alo ahi : Option AOpd} {v : AVal} (ho : o.op = .slice ty x lo hi none) (hx : opd gl x = some ax)
    (hlo : optOpd gl lo = some alo) (hhi : optOpd gl hi = some ahi) (hu : P.underlying ty = some .string) (hp : pureV t (.subS ax alo ahi) = some v) : Gives P G w a o v := by
  have hv := ev_rel hr ht hx
  simp only [pureV] at hp
  split at hp
  rotate_left
  · cases hp
  rename_i s hs
  rw [hs] at hv
  simp only [Ghost.V, VRel] at hv
  obtain ⟨b, he, hb⟩ := hv
  have hsz : b.size = s.length := by rw [← hb]; rfl
  split at hp
  · rename_i m hm
    split at hp
    · rename_i l hl
      split at hp
      · rename_i hlm
        cases hp
        have hbr := bounds_run hr ht hlo hhi (len := b.size) (cap := b.size) (w := w) hl (by rw [hsz]; exact hm) hlm.1 (by omega) (Nat.le_refl _) false
        refine ⟨.string (b.extract l m), ?_, ?_, rfl⟩
        · simp [execOp, ho, he, Instr.sliceAt, Instr.slice, run_underlying hu, hbr]
        · simp only [Ghost.V, VRel]; exact ⟨_, rfl, by rw [extract_str, hb]⟩
      · cases hp
    · cases hp
  · cases hp

theorem gives_subL (hr : Rel P gl G h w) (ht : TRel G w t a.tmps) {o : Oper} {ty e : TypeId} {x : Operand} {lo hi : Option Operand} {ax : AOpd} {alo ahi : Option AOpd} {v : AVal} {k : Nat} (ho : o.op = .slice ty x lo hi none) (hx : opd gl x = some ax)
    (hlo : optOpd gl lo = some alo) (hhi : optOpd gl hi = some ahi) (hu : P.underlying ty = some (.slice e)) (hk : szOf P e = some k) (hp : pureV t (.subL k ax alo ahi) = some v) : Gives P G w a o v := by
  have hv := ev_rel hr ht hx
  simp only [pureV] at hp
  split at hp
  rotate_left
  · cases hp
  rename_i xs f hs
  have hdim : (AVal.lst xs f).dim = .lst xs f := by rw [← hs]; exact ev_dim t ax
  rw [hs] at hv
  simp only [Ghost.V, VRel] at hv
  obtain ⟨b, len, cap, he, h1, h2, h3, h4, ⟨k', h6⟩, h5⟩ := hv
  split at hp
  · rename_i m hm
    split at hp
    · rename_i l hl
      split at hp
      · rename_i hlm
        split at hp
        · rename_i hkk
          cases hp
          have hbr := bounds_run hr ht hlo hhi (len := len) (cap := cap) (w := w) hl (by rw [h1]; exact hm) hlm.1 (by omega) (by omega) true
          refine ⟨.slice (if cap = l then b else b.map (·.add (l * k))) (m - l) (cap - l), ?_, ?_, ?_⟩
          · simp [execOp, ho, he, Instr.sliceAt, Instr.slice, run_underlying hu, hbr, szOf_run hk]
          · simp only [Ghost.V, VRel]
            refine ⟨_, _, _, rfl, by simp; omega, by omega, ?_, ?_, ⟨k', fun x hx => h6 x (List.mem_of_mem_drop (List.mem_of_mem_take hx))⟩, ?_⟩
            · intro hf
              split at hf
              · rename_i hmx; have := h3 hf; omega
              · cases hf
            · intro hb0
              split at hb0
              · have := h4 hb0; omega
              · rw [Option.map_eq_none_iff] at hb0; have := h4 hb0; omega
            · rcases h5 with rfl | ⟨p, q, rfl, hE⟩
              · left; simp
              · by_cases hc : cap = l
                · left
                  have : m - l = 0 := by omega
                  simp [this]
                · right
                  rw [if_neg hc]
                  refine ⟨p, q + l * k, by simp [addr_add], ?_⟩
                  by_cases hx0 : xs = []
                  · subst hx0; simp [IElems]
                  · have hkk' : k' = k := by
                      obtain ⟨y, ys, rfl⟩ := List.exists_cons_of_ne_nil hx0
                      have e1 := h6 y (by simp)
                      simp at hkk
                      omega
                    subst hkk'
                    exact IElems.take (IElems.drop h6 hE l (by omega)) _
          · cases f <;> first | (simp [AVal.dim] at hdim; done) | (split <;> rfl)
        · cases hp
      · cases hp
    · cases hp
  · cases hp

theorem gives_ixaL (hr : Rel P gl G h w) (ht : TRel G w t a.tmps) {o : Oper} {ty e : TypeId} {x i : Operand} {ax ai : AOpd} {v : AVal} {k : Nat} (ho : o.op = .indexAddr ty x i) (hx : opd gl x = some ax) (hi : opd gl i = some ai)
    (hu : P.underlying ty = some (.slice e)) (hk : szOf P e = some k) (hp : pureV t (.ixaL k ax ai) = some v) : Gives P G w a o v := by
  have hv := ev_rel hr ht hx
  have hn := ev_rel hr ht hi
  simp only [pureV] at hp
  split at hp
  · rename_i xs f kk n e1 e2
    rw [e1] at hv; rw [e2] at hn
    simp only [Ghost.V, VRel] at hv hn
    obtain ⟨b, len, cap, he, h1, h2, h3, h4, ⟨k', h6⟩, h5⟩ := hv
    split at hp
    · rename_i hb
      split at hp
      · rename_i y hy
        split at hp
        · rename_i hyk
          cases hp
          rcases h5 with rfl | ⟨p, q, rfl, hE⟩
          · simp at hy
          · have hk' : k' = k := by rw [← h6 y (List.mem_of_getElem? hy)]; exact hyk
            subst hk'
            have hc := IElems.get h6 hE hy
            refine ⟨.pointer (some ⟨p, q + n.toNat * k', none⟩), ?_, ?_, rfl⟩
            · have hb' : 0 ≤ n ∧ n < (len : Int) := ⟨hb.1, by omega⟩
              simp [execOp, ho, he, hn, Instr.indexAt, asIntOf, run_underlying hu, hb', szOf_run hk, addr_add]
            · simp only [Ghost.V, VRel]; exact ⟨p, _, rfl, hc⟩
        · cases hp
      · cases hp
    · cases hp
  · cases hp

theorem gives_ixaA (hr : Rel P gl G h w) (ht : TRel G w t a.tmps) {o : Oper} {ty e : TypeId} {x i : Operand} {ax ai : AOpd} {v : AVal} {k len : Nat} (ho : o.op = .indexAddr ty x i) (hx : opd gl x = some ax) (hi : opd gl i = some ai)
    (hu : P.underlying ty = some (.array len e)) (hk : szOf P e = some k) (hp : pureV t (.ixaA len k ax ai) = some v) : Gives P G w a o v := by
  have hv := ev_rel hr ht hx
  have hn := ev_rel hr ht hi
  simp only [pureV] at hp
  have hrun : ∀ b p kk n, a.eval x = .pointer (some ⟨b, p, none⟩) → a.eval i = .int kk n → 0 ≤ n ∧ n < (len : Int) → (Instr.indexAt ty (a.eval x) (a.eval i)).run P w = .ok (.pointer (some ⟨b, p + n.toNat * k, none⟩)) w := by
    intro b p kk n h1 h2 h3
    simp [h1, h2, Instr.indexAt, asIntOf, run_underlying hu, Instr.sureAddr, h3, szOf_run hk, addr_add]
  split at hp
  · rename_i e1 e2; rw [e1] at hv; rw [e2] at hn; simp only [Ghost.V, VRel] at hv hn
    obtain ⟨b, hb, he⟩ := hv
    split at hp
    · rename_i hb'
      cases hp
      exact ⟨_, by simp only [execOp, ho]; exact run_v (hrun _ _ _ _ he hn hb'), by simp only [Ghost.V, VRel]; exact ⟨b, hb, rfl⟩, rfl⟩
    · cases hp
  · rename_i e1 e2; rw [e1] at hv; rw [e2] at hn; simp only [Ghost.V, VRel] at hv hn
    obtain ⟨b, p, he, hc⟩ := hv
    split at hp
    · rename_i hb'
      cases hp
      exact ⟨_, by simp only [execOp, ho]; exact run_v (hrun _ _ _ _ he hn hb'), by simp only [Ghost.V, VRel]; exact ⟨b, p, by rw [Nat.add_assoc], hc⟩, rfl⟩
    · cases hp
  · cases hp

theorem gives_ixS (hr : Rel P gl G h w) (ht : TRel G w t a.tmps) {o : Oper} {ty : TypeId} {x i : Operand} {ax ai : AOpd} {v : AVal} (ho : o.op = .index ty x i) (hx : opd gl x = some ax) (hi : opd gl i = some ai)
    (hu : P.underlying ty = some .string) (hp : pureV t (.ixS ax ai) = some v) : Gives P G w a o v := by
  have hv := ev_rel hr ht hx
  have hn := ev_rel hr ht hi
  simp only [pureV] at hp
  split at hp
  · rename_i e1 e2
    rw [e1] at hv; rw [e2] at hn
    simp only [Ghost.V, VRel] at hv hn
    obtain ⟨b, he, hb⟩ := hv
    split at hp
    · rename_i h0
      obtain ⟨c, hc, rfl⟩ := mapO hp
      rename_i n
      have hc' : b[n.toNat]? = some c := by
        rw [← hb] at hc
        simp only [Array.getElem?_toList] at hc
        obtain ⟨h1, h2⟩ := Array.getElem?_eq_some_iff.1 hc
        have : n.toNat < b.size := h1
        rw [getElem?_pos b n.toNat this]
        exact congrArg some h2
      exact ⟨_, by simp [execOp, ho, he, hn, Instr.index, asIntOf, run_underlying hu, h0, hc']; rfl, by simp [Ghost.V, VRel], rfl⟩
    · cases hp
  · cases hp

theorem gives_ixA (hr : Rel P gl G h w) (ht : TRel G w t a.tmps) {o : Oper} {ty e : TypeId} {x i : Operand} {ax ai : AOpd} {v : AVal} {k : Option Nat} {len : Nat} (ho : o.op = .index ty x i) (hx : opd gl x = some ax) (hi : opd gl i = some ai)
    (hu : P.underlying ty = some (.array len e)) (hk : tyk P e = some k) {n : Nat} (hn1 : szOf P e = some n) (hn2 : n = k.getD 1) (hp : pureV t (.ixA len k ax ai) = some v) : Gives P G w a o v := by
  have hv := ev_rel hr ht hx
  have hn := ev_rel hr ht hi
  simp only [pureV] at hp
  split at hp
  · rename_i e1 e2
    rw [e1] at hv; rw [e2] at hn
    simp only [Ghost.V, VRel] at hv hn
    obtain ⟨c, he, hc⟩ := hv
    split at hp
    · rename_i m hb
      obtain ⟨u, h1, h2, h3⟩ := part_run hk hc hp w
      rw [← hn2] at h1
      exact ⟨u, by simp [execOp, ho, he, hn, Instr.index, asIntOf, run_underlying hu, hb, szOf_run hn1, h1], h2, h3⟩
    · cases hp
  · cases hp

theorem gives_lenS (hr : Rel P gl G h w) (ht : TRel G w t a.tmps) {o : Oper} {c : Go.Call} {x : Operand} {ty : TypeId} {ax : AOpd} {v : AVal} (ho : o.op = .call c) (hc : c.callee = .builtin .len) (hargs : c.args.toList = [x]) (hty : c.argTypes.toList = [ty]) (hx : opd gl x = some ax)
    (hu : P.underlying ty = some .string) (hp : pureV t (.len true ax) = some v) : Gives P G w a o v := by
  have hv := ev_rel hr ht hx
  have ea : c.args = #[x] := by rw [← Array.toArray_toList (xs := c.args), hargs]
  have et : c.argTypes = #[ty] := by rw [← Array.toArray_toList (xs := c.argTypes), hty]
  simp only [pureV] at hp
  split at hp
  · rename_i hs
    rw [hs] at hv
    simp only [Ghost.V, VRel] at hv
    obtain ⟨b, he, hb⟩ := hv
    cases hp
    rename_i s
    have hsz : b.size = s.length := by rw [← hb]; rfl
    exact ⟨_, by simp [execOp, ho, hc, ea, et, resolve, invoke, builtin, Builtin.len_, run_underlying hu, he]; rfl, by simp [Ghost.V, VRel, goInt, hsz], rfl⟩
  · cases hp

theorem gives_lenL (hr : Rel P gl G h w) (ht : TRel G w t a.tmps) {o : Oper} {c : Go.Call} {x : Operand} {ty e : TypeId} {ax : AOpd} {v : AVal} (ho : o.op = .call c) (hc : c.callee = .builtin .len) (hargs : c.args.toList = [x]) (hty : c.argTypes.toList = [ty]) (hx : opd gl x = some ax)
    (hu : P.underlying ty = some (.slice e)) (hp : pureV t (.len false ax) = some v) : Gives P G w a o v := by
  have hv := ev_rel hr ht hx
  have ea : c.args = #[x] := by rw [← Array.toArray_toList (xs := c.args), hargs]
  have et : c.argTypes = #[ty] := by rw [← Array.toArray_toList (xs := c.argTypes), hty]
  simp only [pureV] at hp
  split at hp
  · rename_i hs
    rw [hs] at hv
    simp only [Ghost.V, VRel] at hv
    obtain ⟨b, len, cap, he, h1, _⟩ := hv
    cases hp
    exact ⟨_, by simp [execOp, ho, hc, ea, et, resolve, invoke, builtin, Builtin.len_, run_underlying hu, he]; rfl, by simp [Ghost.V, VRel, goInt, h1], rfl⟩
  · cases hp

theorem gives_mm (hr : Rel P gl G h w) (ht : TRel G w t a.tmps) {o : Oper} {c : Go.Call} {x y : Operand} {ax ay : AOpd} {v : AVal} {isMax : Bool} (ho : o.op = .call c) (hc : c.callee = .builtin (if isMax then .max else .min)) (hargs : c.args.toList = [x, y]) (hx : opd gl x = some ax) (hy : opd gl y = some ay)
    (hp : pureV t (.mm isMax ax ay) = some v) : Gives P G w a o v := by
  have hv := ev_rel hr ht hx
  have hn := ev_rel hr ht hy
  have ea : c.args = #[x, y] := by rw [← Array.toArray_toList (xs := c.args), hargs]
  simp only [pureV] at hp
  split at hp
  · rename_i k p j q e1 e2
    rw [e1] at hv; rw [e2] at hn
    simp only [Ghost.V, VRel] at hv hn
    cases hp
    cases isMax
    · exact ⟨_, by simp [execOp, ho, hc, ea, resolve, invoke, builtin, Builtin.min_, Builtin.min2, hv, hn]; rfl, by simp [Ghost.V, VRel], rfl⟩
    · exact ⟨_, by simp [execOp, ho, hc, ea, resolve, invoke, builtin, Builtin.max_, Builtin.max2, hv, hn]; rfl, by simp [Ghost.V, VRel], rfl⟩
  · cases hp

theorem gives_lenA {o : Oper} {c : Go.Call} {x : Operand} {ty e : TypeId} {n : Nat} (ho : o.op = .call c) (hc : c.callee = .builtin .len) (hargs : c.args.toList = [x]) (hty : c.argTypes.toList = [ty])
    (hu : P.underlying ty = some (.array n e)) : Gives P G w a o (.int .i64 n) := by
  have ea : c.args = #[x] := by rw [← Array.toArray_toList (xs := c.args), hargs]
  have et : c.argTypes = #[ty] := by rw [← Array.toArray_toList (xs := c.argTypes), hty]
  exact ⟨_, by simp [execOp, ho, hc, ea, et, resolve, invoke, builtin, Builtin.len_, run_underlying hu]; rfl, by simp [Ghost.V, VRel, goInt], rfl⟩

theorem zero_run {ty : TypeId} {z : AVal} (hz : zeroOf P ty = some z) (w : World) : ∃ u, (zeroValue ty).run P w = .ok u w ∧ (∀ γ imm, VRel γ imm z u) ∧ z.lower 0 = true := by
  unfold zeroOf at hz
  split at hz
  · rename_i i hi
    obtain ⟨u, hu, hc⟩ := bindO (by simpa [Option.bind_eq_bind] using hz)
    exact ⟨u, by simp [zeroValue, typeInfo, hi, hu], fun γ imm => (const_rel hc).1, (const_rel (γ := fun _ => none) (imm := fun _ _ => none) hc).2⟩
  · cases hz

theorem const_dim {v : Value} {z : AVal} (h : constV v = some z) : z.dim = z := by
  unfold constV at h
  split at h
  · obtain ⟨_, _, rfl⟩ := mapO h; rfl
  · split at h
    · cases h; rfl
    · cases h
  · unfold scalarV at h
    split at h <;> first | (cases h; rfl) | (split at h <;> cases h; rfl) | cases h

theorem gives_tas (hr : Rel P gl G h w) (ht : TRel G w t a.tmps) {o : Oper} {ty xt : TypeId} {x : Operand} {ax : AOpd} {v z : AVal} (ho : o.op = .typeAssert x xt ty true) (hx : opd gl x = some ax)
    {d : TypeDesc} (hu : P.underlying ty = some d) (hd : ∀ ms, d ≠ .interface ms) (hz : zeroOf P ty = some z) (hp : pureV t (.tas ty z ax) = some v) : Gives P G w a o v := by
  have hv := ev_rel hr ht hx
  obtain ⟨u, hzu, hzr, _⟩ := zero_run hz w
  simp only [pureV] at hp
  have hfail : VRel G.γ G.imm (.tup [z, .bool false]) (.tuple #[u, .bool false]) := by
    simp only [VRel, VRelL]
    exact ⟨_, rfl, u, [.bool false], rfl, hzr _ _, _, [], rfl, rfl, rfl⟩
  split at hp
  · rename_i e1; rw [e1] at hv; simp only [Ghost.V, VRel] at hv; cases hp
    refine ⟨.tuple #[u, .bool false], ?_, hfail, rfl⟩
    simp only [execOp, ho]
    refine run_v ?_
    simp only [Instr.typeAssert, Sem.run_bind, run_underlying hu, Result.andThen_ok, hv]
    cases d <;> first | (simp [hzu]; done) | exact absurd rfl (hd _)
  · rename_i q y e1; rw [e1] at hv; simp only [Ghost.V, VRel] at hv
    obtain ⟨y', hy, hry⟩ := hv
    split at hp
    · rename_i hq
      cases hp
      refine ⟨.tuple #[y', .bool true], ?_, ?_, rfl⟩
      · simp only [execOp, ho]
        refine run_v ?_
        simp only [Instr.typeAssert, Sem.run_bind, run_underlying hu, Result.andThen_ok, hy]
        cases d <;> first | (simp [hq]; done) | exact absurd rfl (hd _)
      · simp only [Ghost.V, VRel, VRelL]
        exact ⟨_, rfl, y', [.bool true], rfl, hry, _, [], rfl, rfl, rfl⟩
    · rename_i hq
      cases hp
      refine ⟨.tuple #[u, .bool false], ?_, hfail, rfl⟩
      simp only [execOp, ho]
      refine run_v ?_
      simp only [Instr.typeAssert, Sem.run_bind, run_underlying hu, Result.andThen_ok, hy]
      cases d <;> first | (simp [hq, hzu]; done) | exact absurd rfl (hd _)
  · cases hp
end
end Go.AE
