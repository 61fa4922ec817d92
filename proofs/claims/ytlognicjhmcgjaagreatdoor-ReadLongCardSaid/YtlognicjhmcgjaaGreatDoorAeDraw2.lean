/- The abstract executor: what the machine has still to do of a region that draws its order. No condition. -/
import Derived.Test.YtlognicjhmcgjaaGreatDoorAeDraw1
namespace Go.AE
section
variable {P : Program} {gl : Nat → Option (List AVal)} {G G' : Ghost} {w w' : World} {h : List ABox} {t t' : List AVal} {a : Act} {n : Nat}

/-- More is forgotten of the slots. -/
theorem TRel.poison {ts : Array Value} (hr : TRel G w t ts) (hl : t'.length = t.length) (h : ∀ (i : Nat) (y : AVal), t'[i]? = some y → t[i]? = some y ∨ y = .undef) : TRel G w t' ts := by
  refine ⟨VRelL.of_get (by rw [hl]; exact hr.rel.length) fun i x v hx hv => ?_, fun i xs k v hx hv => ?_⟩
  · rcases h i x hx with h1 | rfl
    · obtain ⟨u, hu, hr'⟩ := hr.rel.get h1
      rw [hv] at hu
      cases hu
      exact hr'
    · trivial
  · rcases h i _ hx with h1 | h1
    · exact hr.own i xs k v h1 hv
    · cases h1

/-- Boxes that are not there for the machine. -/
theorem Rel.grow (hr : Rel P gl G h w) (g : List ABox) : Rel P gl G (h ++ g) w where
  γlt i b hb := ⟨Nat.lt_of_lt_of_le (hr.γlt i b hb).1 (by simp), (hr.γlt i b hb).2⟩
  inj := hr.inj
  box i b bx hb hx := hr.box i b bx hb (by rwa [List.getElem?_append_left (hr.γlt i b hb).1] at hx)
  imm := hr.imm
  immγ := hr.immγ
  ow := hr.ow
  glob := hr.glob

def msk (U : List (DOper × Option Nat)) : List Nat := U.filterMap (·.1.o.dst)

theorem mem_msk {U : List (DOper × Option Nat)} {k : Nat} : k ∈ msk U ↔ ∃ x ∈ U, x.1.o.dst = some k := by simp [msk, List.mem_filterMap]

def NewOf (t : List AVal) (o : AOp) (cs : List AVal) : Prop :=
  (∃ z, o = .new z ∧ cs = z.map AVal.dim) ∨ ∃ k y, o = .box k y ∧ cs = (ev t y).cells.map AVal.dim ∧ cs.all AVal.storable = true

/-- What the machine has still to do, and what it will find. -/
structure Lag (G : Ghost) (n : Nat) (pend : List (Nat × Chk)) (s : St) (x : DOper × Option Nat) : Prop where
  quiet : x.1.o.op.effs = false
  does : (wanted s.t x.1.o.guard = some false ∧ x.2 = none ∧ ∀ k y, x.1.o.dst = some k → s.t[k]? = some y → y = .tup []) ∨
    (wanted s.t x.1.o.guard = some true ∧ ∃ v, (∀ k y, x.1.o.dst = some k → s.t[k]? = some y → y = v) ∧
      ((x.2 = none ∧ pureV s.t x.1.o.op = some v) ∨
       (x.2 = none ∧ ∃ k q, x.1.o.op = .ld k q ∧ (x.1.ix, Chk.ld (ev s.t q) k v) ∈ pend ∧ ldAt s.h (ev s.t q) k = some v) ∨
       (∃ id cs, x.2 = some id ∧ v = .ptr id 0 ∧ NewOf s.t x.1.o.op cs ∧ (x.1.ix, Chk.box id cs) ∈ pend ∧ s.h[id]? = some (.cells cs))))
  young : ∀ id, x.2 = some id → n ≤ id ∧ id < s.h.length ∧ G.γ id = none

theorem Lag.keep {pend pend' : List (Nat × Chk)} {s s' : St} {x : DOper × Option Nat} (hx : Lag G n pend s x) (h1 : Same s.t s'.t x.1.o.looks) (h2 : ∀ k, x.1.o.dst = some k → s'.t[k]? = s.t[k]?)
    (h3 : ∀ c, (x.1.ix, c) ∈ pend → c.Holds s.h → (x.1.ix, c) ∈ pend' ∧ c.Holds s'.h) (h4 : ∀ id, x.2 = some id → id < s.h.length → G.γ id = none → id < s'.h.length ∧ G'.γ id = none) : Lag G' n pend' s' x := by
  obtain ⟨hg, hl⟩ := AOper.want_looks h1
  refine ⟨hx.quiet, ?_, fun id hid => ?_⟩
  · rcases hx.does with ⟨d1, d2, d3⟩ | ⟨d1, v, d2, d3⟩
    · exact .inl ⟨by rw [← hg]; exact d1, d2, fun k y hk hy => d3 k y hk (by rw [← h2 k hk]; exact hy)⟩
    · refine .inr ⟨by rw [← hg]; exact d1, v, fun k y hk hy => d2 k y hk (by rw [← h2 k hk]; exact hy), ?_⟩
      rcases d3 with ⟨e1, e2⟩ | ⟨e0, k, q, e1, e2, e3⟩ | ⟨id, cs, e1, e2, e3, e4, e5⟩
      · exact .inl ⟨e1, by rw [← hl.pureV]; exact e2⟩
      · have hq : ev s.t q = ev s'.t q := by rw [e1] at hl; exact Same.ev hl
        obtain ⟨g1, g2⟩ := h3 _ e2 e3
        rw [hq] at g1 g2
        exact .inr (.inl ⟨e0, k, q, e1, g1, g2⟩)
      · obtain ⟨g1, g2⟩ := h3 _ e4 e5
        refine .inr (.inr ⟨id, cs, e1, e2, ?_, g1, g2⟩)
        rcases e3 with e3 | ⟨k, y, f1, f2, f3⟩
        · exact .inl e3
        · have hq : ev s.t y = ev s'.t y := by rw [f1] at hl; exact Same.ev hl
          exact .inr ⟨k, y, f1, by rw [← hq]; exact f2, f3⟩
  · obtain ⟨g1, g2, g3⟩ := hx.young id hid
    exact ⟨g1, h4 id hid g2 g3⟩

/-- What lags and lies beside it in the order do not touch one another. -/
def Free (x y : DOper) : Prop := (∀ d, y.o.dst = some d → d ∈ x.o.looks → x.cl.testBit y.ix = true) ∧ (∀ d, y.o.dst = some d → x.o.dst ≠ some d)

theorem pairOK_free {x y : DOper} (h : pairOK x y = true) (hx : x.o.op.effs = false) (hy : y.o.op.effs = false) : Free x y ∧ Free y x ∧ x.ix ≠ y.ix := by
  simp only [pairOK, Bool.and_eq_true, bne_iff_ne, ne_eq, Bool.or_eq_true, hx, hy, Bool.not_false, Bool.true_and, Bool.false_and, Bool.false_eq_true, false_or] at h
  obtain ⟨⟨h1, h2⟩, h3⟩ := h
  refine ⟨⟨fun d hd hl => ?_, fun d hd he => ?_⟩, ⟨fun d hd hl => ?_, fun d hd he => ?_⟩, h1⟩
  · rw [hd] at h3; simp at h3; exact absurd hl h3.1
  · rw [hd] at h3; simp at h3; exact absurd he h3.2
  · rw [hd] at h2
    rcases h2 with h2 | h2
    · exact h2
    · simp at h2; exact absurd hl h2
  · rw [he] at h3; simp at h3; exact absurd hd h3.2

/-- One that acts, and one that lags and need not lie before it. -/
theorem pairOK_eff {x y : DOper} (h : pairOK x y = true) (hn : y.cl.testBit x.ix = false) : (∀ d, x.o.dst = some d → d ∉ y.o.looks) ∧ (∀ d, y.o.dst = some d → d ∉ x.o.looks ∧ x.o.dst ≠ some d) := by
  simp only [pairOK, Bool.and_eq_true, bne_iff_ne, ne_eq, Bool.or_eq_true, hn, Bool.false_eq_true, false_or, and_false, Bool.not_eq_true'] at h
  obtain ⟨⟨h1, h2, h2'⟩, h3⟩ := h
  refine ⟨fun d hd => ?_, fun d hd => ?_⟩
  · rw [hd] at h2'; simpa using h2'
  · rw [hd] at h3; simpa using h3

theorem put_mask_out {U U' : List (DOper × Option Nat)} {x : DOper × Option Nat} {v : AVal} (hU : ∀ y, y ∈ U' ↔ y ∈ U ∧ y.1.ix ≠ x.1.ix) (hx : x ∈ U) (huniq : ∀ y ∈ U, y.1.ix = x.1.ix → y = x)
    (hfree : ∀ y ∈ U, y.1.ix ≠ x.1.ix → Free y.1 x.1) (hv : ∀ k y, x.1.o.dst = some k → t[k]? = some y → y = v) : AE.put x.1.o.dst v (mask (msk U) t) = mask (msk U') t := by
  have hother : ∀ k, x.1.o.dst ≠ some k → ((msk U).contains k = (msk U').contains k) := by
    intro k hk
    rw [Bool.eq_iff_iff]
    simp only [List.contains_iff_mem, mem_msk]
    constructor
    · rintro ⟨y, hy, hd⟩
      refine ⟨y, (hU y).2 ⟨hy, fun e => ?_⟩, hd⟩
      rw [huniq y hy e] at hd
      exact hk hd
    · rintro ⟨y, hy, hd⟩
      exact ⟨y, ((hU y).1 hy).1, hd⟩
  apply List.ext_getElem?
  intro k
  by_cases hd : x.1.o.dst = some k
  · rw [hd]
    simp only [AE.put]
    rw [List.getElem?_set, if_pos rfl, mask_length, mask_get]
    have hc : (msk U').contains k = false := by
      rw [Bool.eq_false_iff]
      intro hc
      simp only [List.contains_iff_mem, mem_msk] at hc
      obtain ⟨y, hy, hyd⟩ := hc
      obtain ⟨h1, h2⟩ := (hU y).1 hy
      exact (hfree y h1 h2).2 k hd hyd
    rw [hc]
    by_cases hl : k < t.length
    · rw [if_pos hl, List.getElem?_eq_getElem hl]
      simp only [Option.map_some, Bool.false_eq_true, if_false]
      rw [hv k _ hd (List.getElem?_eq_getElem hl)]
    · rw [if_neg hl, List.getElem?_eq_none (Nat.le_of_not_lt hl)]
      rfl
  · rw [put_get_ne hd, mask_get, mask_get, hother k hd]

theorem mask_in {U : List (DOper × Option Nat)} {x : DOper × Option Nat} {v : AVal} {i : Nat} {y : AVal} (hy : (mask (msk (x :: U)) (AE.put x.1.o.dst v t))[i]? = some y) : (mask (msk U) t)[i]? = some y ∨ y = .undef := by
  rw [mask_get] at hy ⊢
  by_cases hc : (msk (x :: U)).contains i = true
  · rw [Option.map_eq_some_iff] at hy
    obtain ⟨z, _, hz⟩ := hy
    rw [if_pos hc] at hz
    exact .inr hz.symm
  · have hd : x.1.o.dst ≠ some i := fun e => hc (by simp only [List.contains_iff_mem, mem_msk]; exact ⟨x, List.mem_cons_self .., e⟩)
    have hc' : ¬(msk U).contains i = true := fun e => hc (by
      simp only [List.contains_iff_mem, mem_msk] at e ⊢
      obtain ⟨z, h1, h2⟩ := e
      exact ⟨z, List.mem_cons_of_mem _ h1, h2⟩)
    rw [put_get_ne hd] at hy
    simp only [hc, hc', Bool.false_eq_true, if_false] at hy ⊢
    exact .inl hy

/-- A box that the machine lays later than the executor. -/
theorem late_box (hc : Cfg P gl G h t a w) {o : Oper} {ao : AOp} (hcomp : compOp P gl o = some ao) {cs : List AVal} (hnew : NewOf t ao cs) {id : Nat} (hid : h[id]? = some (.cells cs)) (hγ : G.γ id = none) (hn : n ≤ id) :
    ∃ u w', (execOp a.eval o).run P w = .ok (.value u) w' ∧ Ext n G w (G.withBox id w.heap.size) w' ∧ Cfg P gl (G.withBox id w.heap.size) h (AE.put o.dst (.ptr id 0) t) (a.put o.dst u) w' := by
  have key : ∀ {cs0 : List AVal} {c : Array Value} {e : TypeId}, G.VL cs0 c.toList → cs = cs0.map AVal.dim → (execOp a.eval o).run P w = .ok (.value (.pointer (some ⟨w.heap.size, 0, none⟩))) (w.alloc (.cells c e)) →
      ∃ u w', (execOp a.eval o).run P w = .ok (.value u) w' ∧ Ext n G w (G.withBox id w.heap.size) w' ∧ Cfg P gl (G.withBox id w.heap.size) h (AE.put o.dst (.ptr id 0) t) (a.put o.dst u) w' := by
    rintro cs0 c e hcs rfl h1
    have hext : Ext n G w (G.withBox id w.heap.size) (w.alloc (.cells c e)) := Ext.newBox hγ hn _
    have hrel := hc.rel.newBox (o := .cells c e) (bx := .cells (cs0.map AVal.dim)) (h' := h) hγ (Nat.le_refl _) (List.getElem?_eq_some_iff.1 hid).1 (fun _ _ _ _ => rfl) hid
      ⟨c, e, alloc_heap_size w _, (hext.VL hcs).dims, fun o xs k v ho _ => (no_own ho).elim⟩
    obtain ⟨m, hm⟩ := lowerL_ex t
    have htr : TRel (G.withBox id w.heap.size) (w.alloc (.cells c e)) t a.tmps :=
      hc.tr.keep hm hext.ik (fun i b _ => hext.gk i b) (fun _ _ h => h) (fun b i hb => alloc_heap_lt w _ (hc.rel.ow b _ hb).1) (fun _ _ _ _ h => h)
    refine ⟨_, _, h1, hext, (Cfg.mk hrel htr).put o.dst ?_ rfl⟩
    simp only [Ghost.V, VRel, Ghost.withBox, if_true]
    exact ⟨_, rfl, rfl⟩
  rcases hnew with ⟨z, rfl, hz⟩ | ⟨k, y, rfl, hy, hs⟩
  · obtain ⟨e, z', ho, hzz, rfl⟩ := (comp_was hcomp).2.2.2.2.2.1 z rfl
    obtain ⟨u, hu, hr⟩ := zeroOf_run hzz w
    refine key (hr _ _) hz (c := u.cells) (e := e) ?_
    simp only [execOp, ho]
    refine run_v ?_
    simp [Instr.alloc, hu, newVar, newRow]
  · obtain ⟨e, x, ho, hx⟩ := (comp_was hcomp).2.2.2.2.2.2 k y rfl
    have hv := ev_rel hc.rel hc.tr hx
    have hs' : (ev t y).cells.all AVal.storable = true := by
      rw [hy, List.all_map] at hs
      rw [List.all_eq_true] at hs ⊢
      intro z hz
      have := hs z hz
      cases z <;> first | exact this | rfl
    refine key (cells_rel hv hs').1 hy (e := e) ?_
    simp only [execOp, ho]
    refine run_v ?_
    simp [Instr.box, newVar, newRow]

theorem runOp_pure {base : Nat} {call : AE.Call} {p : Prov} {dst : Option Nat} {o : AOp} {s : St} {v : AVal} (h : pureV s.t o = some v) : runOp base call p dst o s = some (.nor, { s with t := AE.put dst v s.t }) := by
  cases o <;> first
    | (simp only [runOp, h, Option.map_some]; done)
    | (simp [pureV] at h; done)

theorem pure_chk {o : AOp} {s : St} {v : AVal} (h : pureV s.t o = some v) : chkOf s o = none := by
  cases o <;> first
    | rfl
    | (simp [pureV] at h; done)

theorem joinE_bit {cl : List Nat} {j : Nat} : ∀ {es : List Nat} {m : Nat}, (es.foldl (fun m e => m ||| 1 <<< e ||| cl.getD e 0) m).testBit j = true → m.testBit j = true ∨ j ∈ es ∨ ∃ e ∈ es, (cl.getD e 0).testBit j = true
  | [], m, h => .inl h
  | e :: es, m, h => by
    simp only [List.foldl_cons] at h
    rcases joinE_bit h with h | h | ⟨e', h1, h2⟩
    · simp only [Nat.testBit_or, Bool.or_eq_true] at h
      rcases h with (h | h) | h
      · exact .inl h
      · refine .inr (.inl ?_)
        rw [Nat.one_shiftLeft, Nat.testBit_two_pow] at h
        simp at h
        simp [h]
      · exact .inr (.inr ⟨e, by simp, h⟩)
    · exact .inr (.inl (List.mem_cons_of_mem _ h))
    · exact .inr (.inr ⟨e', List.mem_cons_of_mem _ h1, h2⟩)
end
end Go.AE
