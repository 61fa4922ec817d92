/- The abstract executor: a region that draws its order, in whatever order: the end of it. No condition. -/
import Derived.Test.YtlognicjhmcgjaaGreatDoorAeDraw3
namespace Go.AE
section
variable {P : Program} {gl : Nat → Option (List AVal)} {ops : Array Oper} {all : List DOper} {cl : List Nat} {n : Nat} {listed : Array Bool} {a : Act} {G G' : Ghost} {w w' : World}
  {pre ds : List DOper} {U : List (DOper × Option Nat)} {pend : List (Nat × Chk)} {s : St}

theorem mem_edges {o : Oper} {e : Nat} : e ∈ edges o ↔ ∃ x ∈ o.after, Region.binds .any x = true ∧ x.on = e := by
  simp only [edges, List.mem_map, List.mem_filter, Array.mem_toList_iff, and_assoc]

theorem getD_lt {i : Nat} (h : listed.getD i false = true) : i < listed.size := by
  rcases Nat.lt_or_ge i listed.size with h' | h'
  · exact h'
  · simp [Array.getElem?_eq_none h'] at h

theorem getD_tf {i : Nat} (h : listed.getD i true = false) : listed.getD i false = false := by
  rcases Nat.lt_or_ge i listed.size with h' | h'
  · simpa [h'] using h
  · simp [Array.getElem?_eq_none h'] at h

theorem getD_ft {i : Nat} (hl : i < listed.size) (h : listed.getD i false ≠ true) : listed.getD i true = false := by
  simpa [hl] using h

theorem getD_set_self {i : Nat} (hl : i < listed.size) (b : Bool) : (listed.setIfInBounds i true).getD i b = true := by
  simp [hl]

/-- What must lie before one that is ready has been done. -/
theorem Inv.cl_listed (hst : Stat P gl ops cl all) (hi : Inv P gl ops all n listed a G w pre ds U pend s) {d : DOper} (hd : d ∈ all) (hr : d.ix ∈ Region.ready .any ops listed) {j : Nat} (hj : d.cl.testBit j = true) : listed.getD j false = true := by
  obtain ⟨_, o, ho, hall⟩ := mem_ready.1 hr
  obtain ⟨o', ho', _, _, hcl⟩ := hst.comp d hd
  rw [ho] at ho'
  cases ho'
  have hes : ∀ e ∈ edges o, listed.getD e false = true := fun e he => by
    obtain ⟨x, h1, h2, rfl⟩ := mem_edges.1 he
    exact hall x h1 h2
  rw [hcl] at hj
  rcases joinE_bit hj with h | h | ⟨e, h1, h2⟩
  · simp at h
  · exact hes j h
  · have hl := hes e h1
    obtain ⟨d', hd', he⟩ := hst.cover e (by rw [← hi.size]; exact getD_lt hl)
    subst he
    obtain ⟨_, _, _, hc, _⟩ := hst.comp d' hd'
    exact hi.closed d' hd' hl j (by rw [hc]; exact h2)

theorem all_listed (hst : Stat P gl ops cl all) (hsz : listed.size = ops.size) (hr : Region.ready .any ops listed = []) : ∀ (ds pre : List DOper), (∀ d ∈ ds, d ∈ all) → ordOK (ops.toList.map edges) pre ds = true →
    (∀ x ∈ pre, listed.getD x.ix false = true) → ∀ d ∈ ds, listed.getD d.ix false = true
  | [], _, _, _, _, d, hd => by cases hd
  | y :: ds, pre, hsub, ho, hp, d, hd => by
    obtain ⟨h1, _, _, h4⟩ := ordOK_cons ho
    have hy : listed.getD y.ix false = true := by
      refine Classical.byContradiction fun hn => ?_
      obtain ⟨o, hoo, _⟩ := hst.comp y (hsub y (List.mem_cons_self ..))
      have hlt : y.ix < ops.size := (Array.getElem?_eq_some_iff.1 hoo).1
      have : y.ix ∈ Region.ready .any ops listed := by
        refine mem_ready.2 ⟨getD_ft (by rw [hsz]; exact hlt) hn, o, hoo, fun e he hb => ?_⟩
        have hess : (ops.toList.map edges).getD y.ix [] = edges o := by
          rw [List.getD_eq_getElem?_getD, List.getElem?_map, Array.getElem?_toList, hoo]
          rfl
        obtain ⟨x, hx, hxe⟩ := h1 e.on (by rw [hess]; exact mem_edges.2 ⟨e, he, hb, rfl⟩)
        rw [← hxe]
        exact hp x hx
      rw [hr] at this
      cases this
    rcases List.mem_cons.1 hd with rfl | hd
    · exact hy
    · exact all_listed hst hsz hr ds (y :: pre) (fun d hd => hsub d (List.mem_cons_of_mem _ hd)) h4 (fun x hx => by
        rcases List.mem_cons.1 hx with rfl | hx
        · exact hy
        · exact hp x hx) d hd

theorem Inv.finished (hst : Stat P gl ops cl all) (hi : Inv P gl ops all n listed a G w pre ds U pend s) (hr : Region.ready .any ops listed = []) : U = [] ∧ ds = [] := by
  have hall := all_listed hst hi.size hr all [] (fun _ h => h) hst.order (fun _ h => by cases h)
  constructor
  · cases U with
    | nil => rfl
    | cons x U =>
      have h1 := hi.l2 x (List.mem_cons_self ..)
      have h2 := hall x.1 ((hi.mem x.1).2 (.inl (hi.inPre x (List.mem_cons_self ..))))
      rw [getD_tf h1] at h2
      cases h2
  · cases ds with
    | nil => rfl
    | cons d ds =>
      have h1 := hi.l3 d (List.mem_cons_self ..)
      have h2 := hall d ((hi.mem d).2 (.inr (List.mem_cons_self ..)))
      rw [getD_tf h1] at h2
      cases h2

theorem Inv.closed' (hst : Stat P gl ops cl all) (hi : Inv P gl ops all n listed a G w pre ds U pend s) {d : DOper} (hd : d ∈ all) (hr : d.ix ∈ Region.ready .any ops listed) :
    ∀ e ∈ all, (listed.setIfInBounds d.ix true).getD e.ix false = true → ∀ j, e.cl.testBit j = true → (listed.setIfInBounds d.ix true).getD j false = true := by
  intro e he hl j hj
  by_cases heq : d.ix = e.ix
  · have hc : e.cl = d.cl := by
      obtain ⟨_, _, _, h1, _⟩ := hst.comp e he
      obtain ⟨_, _, _, h2, _⟩ := hst.comp d hd
      rw [h1, h2, heq]
    rw [hc] at hj
    exact getD_set_true (hi.cl_listed hst hd hr hj)
  · rw [getD_set_ne false heq] at hl
    exact getD_set_true (hi.closed e he hl j hj)

/-- The machine does what lagged. -/
theorem Inv.caught (hst : Stat P gl ops cl all) (hi : Inv P gl ops all n listed a G w pre ds U pend s) {x : DOper × Option Nat} (hx : x ∈ U) (hr : x.1.ix ∈ Region.ready .any ops listed) {a' : Act}
    (hcfg : Cfg P gl G' s.h (mask (msk (U.filter fun y => y.1.ix != x.1.ix)) s.t) a' w')
    (hγ : ∀ y ∈ U, y ≠ x → ∀ id, y.2 = some id → G.γ id = none → G'.γ id = none) :
    Inv P gl ops all n (listed.setIfInBounds x.1.ix true) a' G' w' pre ds (U.filter fun y => y.1.ix != x.1.ix) pend s ∧ (U.filter fun y => y.1.ix != x.1.ix).length < U.length := by
  have hU : ∀ y, y ∈ (U.filter fun y => y.1.ix != x.1.ix) ↔ y ∈ U ∧ y.1.ix ≠ x.1.ix := by simp [List.mem_filter]
  have hxall : x.1 ∈ all := (hi.mem x.1).2 (.inl (hi.inPre x hx))
  have hlt : x.1.ix < listed.size := by
    obtain ⟨o, ho, _⟩ := hst.comp x.1 hxall
    rw [hi.size]
    exact (Array.getElem?_eq_some_iff.1 ho).1
  refine ⟨⟨hcfg, fun y hy => ?_, fun y hy z hz => hi.free y ((hU y).1 hy).1 z ((hU z).1 hz).1, fun y hy z hz => hi.uniq y ((hU y).1 hy).1 z ((hU z).1 hz).1, fun y hy z hz => hi.ids y ((hU y).1 hy).1 z ((hU z).1 hz).1,
    fun y hy => hi.inPre y ((hU y).1 hy).1, hi.ord, hi.mem, fun d hd => ?_, fun y hy => ?_, fun d hd => ?_, by simpa using hi.size, hi.closed' hst hxall hr, hi.hlen⟩, ?_⟩
  · obtain ⟨h1, h2⟩ := (hU y).1 hy
    exact (hi.lag y h1).keep (fun _ _ => rfl) (fun _ _ => rfl) (fun c hc hh => ⟨hc, hh⟩) (fun id hid hlt hg => ⟨hlt, hγ y h1 (fun e => h2 (by rw [e])) id hid hg⟩)
  · by_cases he : x.1.ix = d.ix
    · refine .inl ?_
      rw [← he]
      exact getD_set_self hlt false
    · rcases hi.l1 d hd with h1 | ⟨y, h1, rfl⟩
      · exact .inl (getD_set_true h1)
      · exact .inr ⟨y, (hU y).2 ⟨h1, fun e => he e.symm⟩, rfl⟩
  · obtain ⟨h1, h2⟩ := (hU y).1 hy
    rw [getD_set_ne true (fun e => h2 e.symm)]
    exact hi.l2 y h1
  · by_cases he : x.1.ix = d.ix
    · have hpk := ordOK_pair hi.ord (hi.inPre x hx) d hd
      simp [pairOK, he] at hpk
    · rw [getD_set_ne true he]
      exact hi.l3 d hd
  · rcases Nat.lt_or_ge (U.filter fun y => y.1.ix != x.1.ix).length U.length with h | h
    · exact h
    · have h2 : (U.filter fun y => y.1.ix != x.1.ix).length = U.length := Nat.le_antisymm (List.length_filter_le _ _) h
      have := List.length_filter_eq_length_iff.1 h2 x hx
      simp at this

/-- The machine does one that acts. -/
theorem Inv.acted (hst : Stat P gl ops cl all) {d : DOper} {rest : List DOper} (hi : Inv P gl ops all n listed a G w pre (d :: rest) U pend s) (hr : d.ix ∈ Region.ready .any ops listed) {a' : Act} {s1 : St} {pend' : List (Nat × Chk)}
    (hcfg : Cfg P gl G' s1.h (mask (msk U) s1.t) a' w') (hslots : ∀ k, d.o.dst ≠ some k → (s1.t.getD k .undef).dim = (s.t.getD k .undef).dim ∧ (k ∉ d.o.looks → s1.t[k]? = s.t[k]?))
    (hpend : ∀ c, c ∈ pend → d.cl.testBit c.1 = false → c.2.Holds s.h → c ∈ pend' ∧ c.2.Holds s1.h) (hlen : s.h.length ≤ s1.h.length) (hγ : ∀ id, id < s.h.length → G.γ id = none → G'.γ id = none) :
    Inv P gl ops all n (listed.setIfInBounds d.ix true) a' G' w' (d :: pre) rest U pend' s1 := by
  have hdall : d ∈ all := (hi.mem d).2 (.inr (List.mem_cons_self ..))
  obtain ⟨_, ho2, _, ho4⟩ := ordOK_cons hi.ord
  have hlt : d.ix < listed.size := by
    obtain ⟨o, ho, _⟩ := hst.comp d hdall
    rw [hi.size]
    exact (Array.getElem?_eq_some_iff.1 ho).1
  have hncl : ∀ x ∈ U, d.cl.testBit x.1.ix = false := fun x hx => by
    cases hb : d.cl.testBit x.1.ix with
    | false => rfl
    | true =>
      have h1 := hi.cl_listed hst hdall hr hb
      rw [getD_tf (hi.l2 x hx)] at h1
      cases h1
  have hpo := fun x hx => pairOK_eff (ho2 _ (hi.inPre x hx)) (hncl x hx)
  have hne : ∀ x ∈ U, d.ix ≠ x.1.ix := fun x hx e => by
    have := ho2 _ (hi.inPre x hx)
    simp [pairOK, e] at this
  refine ⟨hcfg, fun x hx => ?_, hi.free, hi.uniq, hi.ids, fun x hx => List.mem_cons_of_mem _ (hi.inPre x hx), ho4, fun e => ?_, fun e he => ?_, fun x hx => ?_, fun e he => ?_, by simpa using hi.size, hi.closed' hst hdall hr, by have := hi.hlen; omega⟩
  · refine (hi.lag x hx).keep (fun i hl => ?_) (fun k hk => ?_) (fun c hc hh => ?_) (fun id _ hlt hg => ⟨by omega, hγ id hlt hg⟩)
    · exact ((hslots i fun e => ((hpo x hx).2 i e).1 hl).1).symm
    · exact (hslots k fun e => ((hpo x hx).2 k e).2 hk).2 ((hpo x hx).1 k hk)
    · exact hpend _ hc (hncl x hx) hh
  · rw [hi.mem e, List.mem_cons, List.mem_cons]
    constructor
    · rintro (h1 | h1 | h1)
      · exact .inl (.inr h1)
      · exact .inl (.inl h1)
      · exact .inr h1
    · rintro ((h1 | h1) | h1)
      · exact .inr (.inl h1)
      · exact .inl h1
      · exact .inr (.inr h1)
  · rcases List.mem_cons.1 he with rfl | he
    · exact .inl (getD_set_self hlt false)
    · rcases hi.l1 e he with h1 | h1
      · exact .inl (getD_set_true h1)
      · exact .inr h1
  · rw [getD_set_ne true (hne x hx)]
    exact hi.l2 x hx
  · have hne' : d.ix ≠ e.ix := fun h => by
      have := ordOK_pair ho4 (List.mem_cons_self ..) e he
      simp [pairOK, h] at this
    rw [getD_set_ne true hne']
    exact hi.l3 e (List.mem_cons_of_mem _ he)

theorem draw_any {base : Nat} {call : AE.Call} {dsts : List Nat} (hdsts : ∀ d ∈ all, ∀ k, d.o.dst = some k → k ∈ dsts) (hcall : CallOK P gl call) (hk : CallKeeps call) (hst : Stat P gl ops cl all) {ro : Option Nat} {m : Nat} {x : Ex} {s' : St} {Q : Exit → Act → World → Prop} :
    ∀ (fuel : Nat) (listed : Array Bool) (a : Act) (w : World) (G : Ghost) (pre ds : List DOper) (U : List (DOper × Option Nat)) (pend : List (Nat × Chk)) (s : St), Inv P gl ops all n listed a G w pre ds U pend s → base ≤ s.h.length →
      runDraw base call dsts ds pend s = some (x, s') → (∀ d rest, ds = d :: rest → d.o.op.effs = true) → U.length + ds.length ≤ fuel → (∀ e a' w', Fin P gl n G w a.defers x s' e a' w' → Q e a' w') →
      wpAnyIn (FR ro) m P .any ops Q fuel listed a w := by
  intro fuel
  induction fuel with
  | zero =>
    intro listed a w G pre ds U pend s hi hb hr hhead hfuel hQ
    obtain ⟨rfl, rfl⟩ : U = [] ∧ ds = [] := ⟨List.length_eq_zero_iff.1 (by omega), List.length_eq_zero_iff.1 (by omega)⟩
    simp only [runDraw] at hr
    cases hr
    have hcfg := hi.cfg
    simp only [msk, List.filterMap_nil, mask_nil] at hcfg
    refine ⟨?_, hQ _ _ _ ⟨G, Ext.refl _ G w, rfl, rfl, hcfg⟩⟩
    cases hrd : Region.ready .any ops listed with
    | nil => rfl
    | cons i is =>
      have hmem : i ∈ Region.ready .any ops listed := by rw [hrd]; exact List.mem_cons_self ..
      obtain ⟨h1, o, ho, _⟩ := mem_ready.1 hmem
      obtain ⟨d, hd, rfl⟩ := hst.cover i (Array.getElem?_eq_some_iff.1 ho).1
      rcases (hi.mem d).1 hd with h2 | h2
      · rcases hi.l1 d h2 with h3 | ⟨y, h3, _⟩
        · rw [getD_tf h1] at h3; cases h3
        · cases h3
      · cases h2
  | succ fuel ih =>
    intro listed a w G pre ds U pend s hi hb hr hhead hfuel hQ
    refine ⟨fun hnil => ?_, fun i hri => ?_⟩
    · obtain ⟨rfl, rfl⟩ := hi.finished hst hnil
      simp only [runDraw] at hr
      cases hr
      have hcfg := hi.cfg
      simp only [msk, List.filterMap_nil, mask_nil] at hcfg
      exact hQ _ _ _ ⟨G, Ext.refl _ G w, rfl, rfl, hcfg⟩
    · obtain ⟨hun, o, ho, _⟩ := mem_ready.1 hri
      obtain ⟨d, hd, rfl⟩ := hst.cover i (Array.getElem?_eq_some_iff.1 ho).1
      obtain ⟨o', ho', hco, _, _⟩ := hst.comp d hd
      rw [ho] at ho'
      cases ho'
      have hpres : d ∈ pre → ∃ y ∈ U, y.1 = d := fun h => by
        rcases hi.l1 d h with h3 | h3
        · rw [getD_tf hun] at h3; cases h3
        · exact h3
      unfold wpOpIn
      simp only [ho]
      rcases (hi.mem d).1 hd with h2 | h2
      · -- it lagged
        obtain ⟨y, hy, rfl⟩ := hpres h2
        have hlag := hi.lag y hy
        have hself := self_free (hst.selfs _ hd) hlag.quiet
        have hmask : ∀ k ∈ y.1.o.looks, k ∉ msk U := fun k hkl hkm => by
          obtain ⟨z, hz, hzd⟩ := mem_msk.1 hkm
          by_cases he : z.1.ix = y.1.ix
          · rw [hi.uniq y hy z hz he] at hzd
            exact hself k hzd hkl
          · have hf := hi.free z hz y hy (fun e => he e.symm)
            have hb := hf.1 k hzd hkl
            have h1 := hi.cl_listed hst hd hri hb
            rw [getD_tf (hi.l2 z hz)] at h1
            cases h1
        obtain ⟨hg, hl⟩ := AOper.want_looks (same_mask (t := s.t) hmask)
        have hout : ∀ v, (∀ k z, y.1.o.dst = some k → s.t[k]? = some z → z = v) → AE.put y.1.o.dst v (mask (msk U) s.t) = mask (msk (U.filter fun z => z.1.ix != y.1.ix)) s.t := fun v hv =>
          put_mask_out (fun z => by simp [List.mem_filter]) hy (fun z hz he => hi.uniq y hy z hz he) (fun z hz hne => hi.free y hy z hz hne) hv
        have next : ∀ {u : Value} {w' : World} {G' : Ghost}, Ext n G w G' w' → Cfg P gl G' s.h (mask (msk (U.filter fun z => z.1.ix != y.1.ix)) s.t) (a.put o.dst u) w' →
            (∀ z ∈ U, z ≠ y → ∀ id, z.2 = some id → G.γ id = none → G'.γ id = none) → wpAnyIn (FR ro) m P .any ops Q fuel (listed.setIfInBounds y.1.ix true) (a.put o.dst u) w' := by
          intro u w' G' he hcfg hγ
          obtain ⟨hi', hlt⟩ := hi.caught hst hy hri hcfg hγ
          refine ih _ _ _ _ _ _ _ _ _ hi' hb hr hhead (by omega) fun e a' w'' hf => hQ _ _ _ ?_
          rw [put_defers] at hf
          exact Fin.of_ext (Nat.le_refl _) he hf
        have hold : ∀ {w' : World} {G' : Ghost}, Ext s.h.length G w G' w' → ∀ z ∈ U, z ≠ y → ∀ id, z.2 = some id → G.γ id = none → G'.γ id = none := by
          intro w' G' he z hz _ id hid hg
          cases hg' : G'.γ id with
          | none => rfl
          | some b =>
            rcases he.gn id b hg' with h | ⟨h, _⟩
            · rw [hg] at h; cases h
            · have := ((hi.lag z hz).young id hid).2.1; omega
        rcases hlag.does with ⟨d1, d2, d3⟩ | ⟨d1, v, d2, d3⟩
        · obtain ⟨hcomp, hdst, hwant⟩ := wanted_rel hi.cfg.tr hco (hg.trans d1)
          rw [if_neg (by rw [hwant]; simp)]
          refine ⟨fun _ _ => trivial, ?_⟩
          have := unwanted_put hi.cfg y.1.o.dst
          rw [hout _ d3] at this
          exact next (Ext.refl n G w) (by rw [← hdst]; exact this) (fun _ _ _ _ _ h => h)
        · obtain ⟨hcomp, hdst, hwant⟩ := wanted_rel hi.cfg.tr hco (hg.trans d1)
          rw [if_pos hwant]
          have plain : runOp base call [] o.dst y.1.o.op ⟨mask (msk U) s.t, s.h, s.e⟩ = some (.nor, ⟨AE.put o.dst v (mask (msk U) s.t), s.h, s.e⟩) →
              o.wpIn (FR ro) m P a w (wpAnyIn (FR ro) m P .any ops Q fuel (listed.setIfInBounds y.1.ix true)) Q := by
            intro hrun
            refine op_sound hcall hk hi.cfg ProvOK.nil hcomp hrun (fun _ u w' G' he hc' _ _ _ => ?_) (fun pv h => by cases h)
            simp only [← hdst] at hc'
            rw [hout v d2] at hc'
            rw [hdst] at hc'
            exact next (he.weaken hi.hlen) hc' (hold he)
          rcases d3 with ⟨e1, e2⟩ | ⟨e0, k, q, e1, e2, e3⟩ | ⟨id, cs, e1, e2, e3, e4, e5⟩
          · exact plain (runOp_pure (s := ⟨mask (msk U) s.t, s.h, s.e⟩) (by rw [hl.pureV]; exact e2))
          · refine plain ?_
            have hq : ev (mask (msk U) s.t) q = ev s.t q := by rw [e1] at hl; exact Same.ev hl
            simp only [e1, runOp, hq, e3, Option.map_some]
          · obtain ⟨g1, g2, g3⟩ := hlag.young id e1
            have hnew : NewOf (mask (msk U) s.t) y.1.o.op cs := by
              rcases e3 with e3 | ⟨k, q, f1, f2, f3⟩
              · exact .inl e3
              · have hq : ev (mask (msk U) s.t) q = ev s.t q := by rw [f1] at hl; exact Same.ev hl
                exact .inr ⟨k, q, f1, by rw [hq]; exact f2, f3⟩
            obtain ⟨u, w', h1, h2, h3⟩ := late_box hi.cfg hcomp hnew e5 g3 g1
            refine ⟨fun _ _ => trivial, ?_⟩
            rw [Oper.semAt_eq _ _ _ (comp_not_defer hcomp), h1, Oper.uponIn_value]
            rw [← hdst, ← e2, hout v d2, hdst] at h3
            refine next h2 h3 fun z hz hne id' hid' hg' => ?_
            simp only [Ghost.withBox]
            rw [if_neg]
            · exact hg'
            · rintro rfl
              exact hne (hi.ids y hy z hz id' e1 hid')
      · -- one that acts
        cases ds with
        | nil => cases h2
        | cons d0 rest =>
          have hd0 : d = d0 := by
            rcases List.mem_cons.1 h2 with h2 | h2
            · exact h2
            · obtain ⟨_, _, _, ho4⟩ := ordOK_cons hi.ord
              have hpk := ordOK_pair ho4 (List.mem_cons_self ..) d h2
              have heff := hhead d0 rest rfl
              simp only [pairOK, heff, Bool.not_true, Bool.false_and, Bool.or_false, Bool.and_eq_true] at hpk
              have h1 := hi.cl_listed hst hd hri hpk.1.2
              rw [getD_tf (hi.l3 d0 (List.mem_cons_self ..))] at h1
              cases h1
          subst hd0
          have heff := hhead d rest rfl
          obtain ⟨_, ho2, _, ho4⟩ := ordOK_cons hi.ord
          have hncl : ∀ x ∈ U, d.cl.testBit x.1.ix = false := fun x hx => by
            cases hb : d.cl.testBit x.1.ix with
            | false => rfl
            | true =>
              have h1 := hi.cl_listed hst hd hri hb
              rw [getD_tf (hi.l2 x hx)] at h1
              cases h1
          have hpo := fun x hx => pairOK_eff (ho2 _ (hi.inPre x hx)) (hncl x hx)
          have hmask : ∀ k ∈ d.o.looks, k ∉ msk U := fun k hkl hkm => by
            obtain ⟨z, hz, hzd⟩ := mem_msk.1 hkm
            exact (hpo z hz).1 k hzd hkl
          have hdm : ∀ k, d.o.dst = some k → k ∉ msk U := fun k hkd hkm => by
            obtain ⟨z, hz, hzd⟩ := mem_msk.1 hkm
            exact ((hpo z hz).2 k hkd).2 hzd
          obtain ⟨hg, hl⟩ := AOper.want_looks (same_mask (t := s.t) hmask)
          have hlm : ∀ k ∈ d.o.op.looks, k ∉ msk U := fun k hk0 => hmask k (by unfold AOper.looks; split <;> simp [hk0])
          have next : ∀ {u : Value} {w' : World} {G' : Ghost} {s1 : St} {pend' : List (Nat × Chk)}, Ext n G w G' w' → Inv P gl ops all n (listed.setIfInBounds d.ix true) (a.put o.dst u) G' w' (d :: pre) rest U pend' s1 → base ≤ s1.h.length →
              runDraw base call dsts rest pend' s1 = some (x, s') → wpAnyIn (FR ro) m P .any ops Q fuel (listed.setIfInBounds d.ix true) (a.put o.dst u) w' := by
            intro u w' G' s1 pend' he hi' hb' hr'
            obtain ⟨pre2, ds2, U2, pend2, s2, hi2, hb2, hr2, hhead2, hlen2⟩ := advance rest (d :: pre) U pend' s1 hi' hb' hr'
            refine ih _ _ _ _ _ _ _ _ _ hi2 hb2 hr2 hhead2 (by simp at hfuel; omega) fun e a' w'' hf => hQ _ _ _ ?_
            rw [put_defers] at hf
            exact Fin.of_ext (Nat.le_refl _) he hf
          simp only [runDraw, heff, if_true] at hr
          split at hr
          · rename_i hw
            obtain ⟨hcomp, hdst, hwant⟩ := wanted_rel hi.cfg.tr hco (hg.trans hw)
            rw [if_pos hwant]
            split at hr
            · rename_i s1 hop
              split at hr
              · rename_i hpend
                have hkeep := (runOp_keeps (base := base) hk hb hop).1
                have hrun : runOp base call [] o.dst d.o.op ⟨mask (msk U) s.t, s.h, s.e⟩ = some (.nor, { s1 with t := mask (msk U) s1.t }) := by
                  have := runOp_mask (base := base) (call := call) (dst := d.o.dst) (t := s.t) (h := s.h) (e := s.e) heff hlm hdm
                  rw [← hdst, this, hop]
                  rfl
                refine op_sound hcall hk hi.cfg ProvOK.nil hcomp hrun (fun _ u w' G' he hc' _ _ _ => ?_) (fun pv h => by cases h)
                refine next (he.weaken hi.hlen) (hi.acted hst hri (s1 := s1) hc' (fun k hkd => ⟨((runOp_slots hop).2 k hkd).1, fun hk0 => ((runOp_slots hop).2 k hkd).2 fun hin => hk0 (by unfold AOper.looks; split <;> simp [hin])⟩) (fun c hc hcl _ => ?_) hkeep (fun id hid hg' => ?_)) (by omega) hr
                · have hm : c ∈ pend.filter fun c => !d.cl.testBit c.1 := List.mem_filter.2 ⟨hc, by simp [hcl]⟩
                  exact ⟨hm, Chk.holds_of_ok (List.all_eq_true.1 hpend c hm)⟩
                · cases hg2 : G'.γ id with
                  | none => rfl
                  | some b =>
                    rcases he.gn id b hg2 with h | ⟨h, _⟩
                    · rw [hg'] at h; cases h
                    · omega
              · cases hr
            · rename_i v s1 hop
              cases hr
              have hrun : runOp base call [] o.dst d.o.op ⟨mask (msk U) s.t, s.h, s.e⟩ = some (.pan v, { s1 with t := mask (msk U) s1.t }) := by
                have := runOp_mask (base := base) (call := call) (dst := d.o.dst) (t := s.t) (h := s.h) (e := s.e) heff hlm hdm
                rw [← hdst, this, hop]
                rfl
              refine op_sound hcall hk hi.cfg ProvOK.nil hcomp hrun (fun h => by cases h) (fun pv hpv u w' G' he hc' hv => ?_)
              cases hpv
              refine hQ _ _ _ ⟨G', he.weaken hi.hlen, rfl, u, rfl, ⟨hc'.rel, hc'.tr.poison (by rw [mask_length, mask_length]) fun i y hy => ?_⟩, hv⟩
              simp only [mask_get] at hy ⊢
              by_cases hi1 : dsts.contains i = true
              · rw [Option.map_eq_some_iff] at hy
                obtain ⟨z, _, hz⟩ := hy
                rw [if_pos hi1] at hz
                exact .inr hz.symm
              · have hi2 : ¬(msk U).contains i = true := fun e => hi1 (by
                  simp only [List.contains_iff_mem, mem_msk] at e ⊢
                  obtain ⟨z, h1, h2⟩ := e
                  exact hdsts z.1 ((hi.mem z.1).2 (.inl (hi.inPre z h1))) i h2)
                simp only [hi1, hi2, Bool.false_eq_true, if_false] at hy ⊢
                exact .inl hy
            · cases hr
          · rename_i hw
            obtain ⟨hcomp, hdst, hwant⟩ := wanted_rel hi.cfg.tr hco (hg.trans hw)
            rw [if_neg (by rw [hwant]; simp)]
            refine ⟨fun _ _ => trivial, ?_⟩
            have hc' := unwanted_put hi.cfg d.o.dst
            rw [put_mask hdm] at hc'
            have hc2 : Cfg P gl G s.h (mask (msk U) (AE.put d.o.dst (.tup []) s.t)) (a.put o.dst undef) w := by rw [← hdst]; exact hc'
            exact next (Ext.refl n G w) (hi.acted hst hri (s1 := { s with t := AE.put d.o.dst (.tup []) s.t }) hc2 (fun k hkd => ⟨by rw [getD_of_get (put_get_ne hkd)], fun _ => put_get_ne hkd⟩)
              (fun c hc _ hh => ⟨hc, hh⟩) (Nat.le_refl _) (fun _ _ h => h)) hb hr
          · cases hr
end
end Go.AE
