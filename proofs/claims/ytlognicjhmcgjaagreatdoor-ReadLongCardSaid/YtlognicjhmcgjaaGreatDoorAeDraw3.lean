/- The abstract executor: a region that draws its order, in whatever order. No condition. -/
import Derived.Test.YtlognicjhmcgjaaGreatDoorAeDraw2
namespace Go.AE

structure Stat (P : Program) (gl : Nat → Option (List AVal)) (ops : Array Oper) (cl : List Nat) (all : List DOper) : Prop where
  comp : ∀ d ∈ all, ∃ o, ops[d.ix]? = some o ∧ compOper P gl ops o = some d.o ∧ d.cl = cl.getD d.ix 0 ∧ d.cl = joinE cl (edges o)
  cover : ∀ i, i < ops.size → ∃ d ∈ all, d.ix = i
  order : ordOK (ops.toList.map edges) [] all = true
  selfs : ∀ d ∈ all, selfOK d = true

structure Inv (P : Program) (gl : Nat → Option (List AVal)) (ops : Array Oper) (all : List DOper) (n : Nat) (listed : Array Bool) (a : Act) (G : Ghost) (w : World)
    (pre ds : List DOper) (U : List (DOper × Option Nat)) (pend : List (Nat × Chk)) (s : St) : Prop where
  cfg : Cfg P gl G s.h (mask (msk U) s.t) a w
  lag : ∀ x ∈ U, Lag G n pend s x
  free : ∀ x ∈ U, ∀ y ∈ U, y.1.ix ≠ x.1.ix → Free y.1 x.1
  uniq : ∀ x ∈ U, ∀ y ∈ U, y.1.ix = x.1.ix → y = x
  ids : ∀ x ∈ U, ∀ y ∈ U, ∀ id, x.2 = some id → y.2 = some id → y = x
  inPre : ∀ x ∈ U, x.1 ∈ pre
  ord : ordOK (ops.toList.map edges) pre ds = true
  mem : ∀ d, d ∈ all ↔ (d ∈ pre ∨ d ∈ ds)
  l1 : ∀ d ∈ pre, listed.getD d.ix false = true ∨ ∃ x ∈ U, x.1 = d
  l2 : ∀ x ∈ U, listed.getD x.1.ix true = false
  l3 : ∀ d ∈ ds, listed.getD d.ix true = false
  size : listed.size = ops.size
  closed : ∀ d ∈ all, listed.getD d.ix false = true → ∀ j, d.cl.testBit j = true → listed.getD j false = true
  hlen : n ≤ s.h.length

section
variable {P : Program} {gl : Nat → Option (List AVal)} {ops : Array Oper} {all : List DOper} {cl : List Nat} {n : Nat} {listed : Array Bool} {a : Act} {G G' : Ghost} {w w' : World}
  {pre ds : List DOper} {U : List (DOper × Option Nat)} {pend : List (Nat × Chk)} {s : St}

theorem ordOK_cons {ess : List (List Nat)} {d : DOper} (h : ordOK ess pre (d :: ds) = true) : (∀ e ∈ ess.getD d.ix [], ∃ x ∈ pre, x.ix = e) ∧ (∀ x ∈ pre, pairOK x d = true) ∧ selfOK d = true ∧ ordOK ess (d :: pre) ds = true := by
  simp only [ordOK, Bool.and_eq_true, List.all_eq_true, List.any_eq_true, beq_iff_eq] at h
  exact ⟨h.1.1.1, h.1.1.2, h.1.2, h.2⟩

theorem ordOK_self {ess : List (List Nat)} : ∀ {ds pre : List DOper}, ordOK ess pre ds = true → ∀ d ∈ ds, selfOK d = true
  | [], _, _, d, hd => by cases hd
  | x :: ds, pre, h, d, hd => by
    obtain ⟨_, _, h3, h4⟩ := ordOK_cons h
    rcases List.mem_cons.1 hd with rfl | hd
    · exact h3
    · exact ordOK_self h4 d hd

theorem ordOK_pair {ess : List (List Nat)} : ∀ {ds pre : List DOper} {x : DOper}, ordOK ess pre ds = true → x ∈ pre → ∀ d ∈ ds, pairOK x d = true
  | [], _, _, _, _, d, hd => by cases hd
  | y :: ds, pre, x, h, hx, d, hd => by
    obtain ⟨_, h2, _, h4⟩ := ordOK_cons h
    rcases List.mem_cons.1 hd with rfl | hd
    · exact h2 x hx
    · exact ordOK_pair h4 (List.mem_cons_of_mem _ hx) d hd

/-- An operation that does not act, ahead of the machine. -/
theorem Inv.push {d : DOper} {rest : List DOper} (hi : Inv P gl ops all n listed a G w pre (d :: rest) U pend s) (hq : d.o.op.effs = false) {s1 : St} {v : AVal} {g : List ABox} {pend' : List (Nat × Chk)} {oid : Option Nat}
    (ht : s1.t = AE.put d.o.dst v s.t) (hh : s1.h = s.h ++ g) (hp : ∀ c, c ∈ pend → c ∈ pend') (hoid : ∀ id, oid = some id → s.h.length ≤ id) (hlag : Lag G n pend' s1 (d, oid)) :
    Inv P gl ops all n listed a G w (d :: pre) rest ((d, oid) :: U) pend' s1 := by
  obtain ⟨ho1, ho2, ho3, ho4⟩ := ordOK_cons hi.ord
  have hfr : ∀ x ∈ U, Free x.1 d ∧ Free d x.1 ∧ x.1.ix ≠ d.ix := fun x hx => pairOK_free (ho2 _ (hi.inPre x hx)) (hi.lag x hx).quiet hq
  have hfd : ∀ x ∈ U, ∀ k, d.o.dst = some k → k ∉ x.1.o.looks := fun x hx k hk hl => by
    have hpk := ho2 _ (hi.inPre x hx)
    simp only [pairOK, hk, hq, Bool.and_eq_true, Bool.false_and, Bool.false_or] at hpk
    have := hpk.2.1
    simp at this
    exact this hl
  refine ⟨⟨by rw [hh]; exact hi.cfg.rel.grow g, ?_⟩, ?_, ?_, ?_, ?_, ?_, ho4, ?_, ?_, ?_, ?_, hi.size, hi.closed, by rw [hh]; simp; have := hi.hlen; omega⟩
  · refine hi.cfg.tr.poison (by rw [mask_length, mask_length, ht, put_length]) fun i y hy => ?_
    rw [ht] at hy
    exact mask_in (x := (d, oid)) hy
  · intro x hx
    rcases List.mem_cons.1 hx with rfl | hx
    · exact hlag
    · refine (hi.lag x hx).keep (fun i hl => ?_) (fun k hk => ?_) (fun c hc hho => ⟨hp _ hc, ?_⟩) (fun id _ hlt hγ => ⟨by rw [hh]; simp; omega, hγ⟩)
      · rw [ht, getD_of_get (put_get_ne fun e => hfd x hx i e hl)]
      · rw [ht, put_get_ne fun e => (hfr x hx).1.2 k e hk]
      · rw [hh]; exact hho.append
  · intro x hx y hy hne
    rcases List.mem_cons.1 hx with rfl | hx <;> rcases List.mem_cons.1 hy with rfl | hy
    · exact absurd rfl hne
    · exact (hfr y hy).1
    · exact (hfr x hx).2.1
    · exact hi.free x hx y hy hne
  · intro x hx y hy he
    rcases List.mem_cons.1 hx with rfl | hx <;> rcases List.mem_cons.1 hy with rfl | hy
    · rfl
    · exact absurd he (hfr y hy).2.2
    · exact absurd he.symm (hfr x hx).2.2
    · exact hi.uniq x hx y hy he
  · intro x hx y hy id h1 h2
    rcases List.mem_cons.1 hx with rfl | hx <;> rcases List.mem_cons.1 hy with rfl | hy
    · rfl
    · have := (hi.lag y hy).young id h2
      have := hoid id h1
      omega
    · have := (hi.lag x hx).young id h1
      have := hoid id h2
      omega
    · exact hi.ids x hx y hy id h1 h2
  · intro x hx
    rcases List.mem_cons.1 hx with rfl | hx
    · exact List.mem_cons_self ..
    · exact List.mem_cons_of_mem _ (hi.inPre x hx)
  · intro e
    rw [hi.mem e, List.mem_cons, List.mem_cons]
    constructor
    · rintro (h1 | h1 | h1)
      · exact .inl (.inr h1)
      · exact .inl (.inl h1)
      · exact .inr h1
    · rintro ((h1 | h1) | h1)
      · exact .inr (.inl h1)
      · exact .inl h1
      · exact .inr (.inr h1)
  · intro e he
    rcases List.mem_cons.1 he with rfl | he
    · exact .inr ⟨(e, oid), List.mem_cons_self .., rfl⟩
    · rcases hi.l1 e he with h1 | ⟨x, h1, h2⟩
      · exact .inl h1
      · exact .inr ⟨x, List.mem_cons_of_mem _ h1, h2⟩
  · intro x hx
    rcases List.mem_cons.1 hx with rfl | hx
    · exact hi.l3 d (List.mem_cons_self ..)
    · exact hi.l2 x hx
  · exact fun e he => hi.l3 e (List.mem_cons_of_mem _ he)

theorem self_free {d : DOper} (hs : selfOK d = true) (hq : d.o.op.effs = false) : ∀ k, d.o.dst = some k → k ∉ d.o.looks := by
  intro k hk
  simp only [selfOK, hq, hk, Bool.false_or, Bool.not_eq_true', List.contains_eq_mem, decide_eq_false_iff_not] at hs
  exact hs

theorem put_same {d : DOper} (hs : selfOK d = true) (hq : d.o.op.effs = false) (v : AVal) (t : List AVal) : Same t (AE.put d.o.dst v t) d.o.looks := fun i hi => by
  rw [getD_of_get (put_get_ne fun e => self_free hs hq i e hi)]

theorem put_self {dst : Option Nat} {v : AVal} {t : List AVal} {k : Nat} {y : AVal} (hk : dst = some k) (hy : (AE.put dst v t)[k]? = some y) : y = v := by
  subst hk
  simp only [AE.put, List.getElem?_set] at hy
  split at hy
  · split at hy
    · cases hy; rfl
    · cases hy
  · rename_i hh; exact absurd trivial hh

/-- What does not act, one after the other, ahead of the machine. -/
theorem advance {base : Nat} {call : AE.Call} {dsts : List Nat} {x : Ex} {s' : St} : ∀ (ds pre : List DOper) (U : List (DOper × Option Nat)) (pend : List (Nat × Chk)) (s : St), Inv P gl ops all n listed a G w pre ds U pend s → base ≤ s.h.length →
    runDraw base call dsts ds pend s = some (x, s') → ∃ pre' ds' U' pend' s1, Inv P gl ops all n listed a G w pre' ds' U' pend' s1 ∧ base ≤ s1.h.length ∧ runDraw base call dsts ds' pend' s1 = some (x, s') ∧
      (∀ d rest, ds' = d :: rest → d.o.op.effs = true) ∧ U'.length + ds'.length = U.length + ds.length
  | [], pre, U, pend, s, hi, hb, hr => ⟨pre, [], U, pend, s, hi, hb, hr, fun _ _ h => (by cases h), rfl⟩
  | d :: rest, pre, U, pend, s, hi, hb, hr => by
    cases hq : d.o.op.effs with
    | true => exact ⟨pre, d :: rest, U, pend, s, hi, hb, hr, fun _ _ h => by cases h; exact hq, rfl⟩
    | false =>
      obtain ⟨_, _, hself, _⟩ := ordOK_cons hi.ord
      simp only [runDraw, hq, Bool.false_eq_true, if_false] at hr
      have fin : ∀ {s1 : St} {pend' : List (Nat × Chk)} {oid : Option Nat}, Inv P gl ops all n listed a G w (d :: pre) rest ((d, oid) :: U) pend' s1 → base ≤ s1.h.length → runDraw base call dsts rest pend' s1 = some (x, s') →
          ∃ pre' ds' U' pend' s1, Inv P gl ops all n listed a G w pre' ds' U' pend' s1 ∧ base ≤ s1.h.length ∧ runDraw base call dsts ds' pend' s1 = some (x, s') ∧
            (∀ d rest, ds' = d :: rest → d.o.op.effs = true) ∧ U'.length + ds'.length = U.length + (d :: rest).length := by
        intro s1 pend' oid hi' hb' hr'
        obtain ⟨pre'', ds'', U'', pend'', s2, h1, h2, h3, h4, h5⟩ := advance rest _ _ _ _ hi' hb' hr'
        exact ⟨pre'', ds'', U'', pend'', s2, h1, h2, h3, h4, by rw [h5]; simp; omega⟩
      split at hr
      · rename_i hw
        split at hr
        · rename_i s1 hop
          obtain ⟨_, v, hv, hve, hcase⟩ := runOp_quiet hq hop
          have hsame : Same s.t s1.t d.o.looks := by rw [hv]; exact put_same hself hq v s.t
          obtain ⟨hg, hl⟩ := AOper.want_looks hsame
          have hdst : ∀ k y, d.o.dst = some k → s1.t[k]? = some y → y = v := fun k y hk hy => by rw [hv] at hy; exact put_self hk hy
          rcases hcase with ⟨hh, hpure | ⟨k, q, hop', hld⟩⟩ | ⟨cs, hh, hvv, hchk⟩
          · rw [pure_chk hpure] at hr
            refine fin (hi.push (oid := none) (g := []) hq hv (by simp [hh]) (fun _ h => h) (fun _ h => by cases h) ⟨hq, .inr ⟨by rw [← hg]; exact hw, v, hdst, .inl ⟨rfl, by rw [← hl.pureV]; exact hpure⟩⟩, fun _ h => by cases h⟩) (by rw [hh]; exact hb) hr
          · have hchk : chkOf s d.o.op = some (.ld (ev s.t q) k v) := by simp only [hop', chkOf, hld, Option.map_some]
            rw [hchk] at hr
            have hq' : ev s.t q = ev s1.t q := by rw [hop'] at hl; exact Same.ev hl
            refine fin (hi.push (oid := none) (g := []) hq hv (by simp [hh]) (fun _ h => List.mem_cons_of_mem _ h) (fun _ h => by cases h)
              ⟨hq, .inr ⟨by rw [← hg]; exact hw, v, hdst, .inr (.inl ⟨rfl, k, q, hop', by rw [← hq']; exact List.mem_cons_self .., by rw [← hq', hh]; exact hld⟩)⟩, fun _ h => by cases h⟩) (by rw [hh]; exact hb) hr
          · rw [hchk] at hr
            have hnew : NewOf s1.t d.o.op cs := by
              cases hopc : d.o.op <;> rw [hopc] at hchk <;> simp only [chkOf, Option.some.injEq, Chk.box.injEq, true_and, Option.map_eq_some_iff, reduceCtorEq, and_false, exists_false] at hchk
              case new z => exact .inl ⟨z, rfl, hchk.symm⟩
              case box k y =>
                rw [hopc] at hl hop
                have hq' : ev s.t y = ev s1.t y := Same.ev hl
                simp only [runOp] at hop
                split at hop
                · rename_i hcond
                  exact .inr ⟨k, y, rfl, by rw [← hq']; exact hchk.symm, by rw [← hchk]; exact hcond.2⟩
                · cases hop
            have hget : s1.h[s.h.length]? = some (.cells cs) := by rw [hh]; simp
            refine fin (hi.push (oid := some s.h.length) (g := [.cells cs]) hq hv hh (fun _ h => List.mem_cons_of_mem _ h) (fun _ h => by cases h; exact Nat.le_refl _)
              ⟨hq, .inr ⟨by rw [← hg]; exact hw, v, hdst, .inr (.inr ⟨s.h.length, cs, rfl, hvv, hnew, List.mem_cons_self .., hget⟩)⟩, fun id h => by
                cases h
                refine ⟨hi.hlen, by rw [hh]; simp, ?_⟩
                cases hg : G.γ s.h.length with
                | none => rfl
                | some b => have := (hi.cfg.rel.γlt _ b hg).1; omega⟩) (by rw [hh]; simp; omega) hr
        · cases hr
        · cases hr
      · rename_i hw
        have hsame : Same s.t (AE.put d.o.dst (.tup []) s.t) d.o.looks := put_same hself hq _ s.t
        obtain ⟨hg, hl⟩ := AOper.want_looks hsame
        refine fin (hi.push (s1 := { s with t := AE.put d.o.dst (.tup []) s.t }) (oid := none) (g := []) hq rfl (by simp) (fun _ h => h) (fun _ h => by cases h)
          ⟨hq, .inl ⟨by rw [← hg]; exact hw, rfl, fun k y hk hy => put_self hk hy⟩, fun _ h => by cases h⟩) hb hr
      · cases hr
end
end Go.AE
