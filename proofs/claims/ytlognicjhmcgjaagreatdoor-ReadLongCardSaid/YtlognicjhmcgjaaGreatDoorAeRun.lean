/- The abstract executor: whole calls. No condition. -/
import Derived.Test.YtlognicjhmcgjaaGreatDoorAeCode2
namespace Go.AE
section
variable {P : Program} {gl : Nat → Option (List AVal)} {G G' G0 : Ghost} {w w' w0 : World} {h : List ABox} {t : List AVal} {ts : Array Value} {n : Nat}

/-! ### The boxes of a call's own go -/
mutual
theorem V_lower {γ : Nat → Option Nat} {imm : Nat → Nat → Option Value} {n : Nat} (hγ : ∀ i b, γ i = some b → i < n) : ∀ (a : AVal) (v : Value), VRel γ imm a v → a.lower n = true
  | .undef, _, _ => rfl
  | .bool _, _, _ => rfl
  | .int _ _, _, _ => rfl
  | .str _, _, _ => rfl
  | .nilptr, _, _ => rfl
  | .ptr i o, v, h => by simp only [VRel] at h; obtain ⟨b, hb, _⟩ := h; simpa [AVal.lower] using hγ i b hb
  | .iptr cs o, v, h => by simp only [VRel] at h; obtain ⟨b, p, _, hc⟩ := h; simp only [AVal.lower]; exact IC_lower hγ cs b p hc
  | .lst xs f, v, h => by
    simp only [VRel] at h
    obtain ⟨a, len, cap, _, _, _, _, _, _, h5⟩ := h
    simp only [AVal.lower]
    rcases h5 with rfl | ⟨b, p, _, he⟩
    · rfl
    · exact IE_lower hγ xs b p he
  | .nilfunc, _, _ => rfl
  | .fn f as bs, v, h => by
    simp only [VRel] at h
    obtain ⟨x, y, _, h1, h2⟩ := h
    simp only [AVal.lower, Bool.and_eq_true]
    exact ⟨VL_lower hγ as _ h1, VL_lower hγ bs _ h2⟩
  | .yld i, v, h => by simp only [VRel] at h; obtain ⟨b, hb, _⟩ := h; simpa [AVal.lower] using hγ i b hb
  | .niliface, _, _ => rfl
  | .iface t a, v, h => by simp only [VRel] at h; obtain ⟨x, _, h1⟩ := h; simp only [AVal.lower]; exact V_lower hγ a x h1
  | .agg cs, v, h => by simp only [VRel] at h; obtain ⟨x, _, h1⟩ := h; simp only [AVal.lower]; exact VL_lower hγ cs _ h1
  | .tup cs, v, h => by simp only [VRel] at h; obtain ⟨x, _, h1⟩ := h; simp only [AVal.lower]; exact VL_lower hγ cs _ h1
theorem VL_lower {γ : Nat → Option Nat} {imm : Nat → Nat → Option Value} {n : Nat} (hγ : ∀ i b, γ i = some b → i < n) : ∀ (as : List AVal) (vs : List Value), VRelL γ imm as vs → lowerL n as = true
  | [], _, _ => rfl
  | a :: as, vs, h => by
    simp only [VRelL] at h
    obtain ⟨v, rest, _, h1, h2⟩ := h
    simp only [lowerL, Bool.and_eq_true]
    exact ⟨V_lower hγ a v h1, VL_lower hγ as rest h2⟩
theorem IC_lower {γ : Nat → Option Nat} {imm : Nat → Nat → Option Value} {n : Nat} (hγ : ∀ i b, γ i = some b → i < n) : ∀ (cs : List AVal) (b p : Nat), ICells γ imm cs b p → lowerL n cs = true
  | [], _, _, _ => rfl
  | c :: cs, b, p, h => by
    simp only [ICells] at h
    obtain ⟨⟨v, _, h1⟩, h2⟩ := h
    simp only [lowerL, Bool.and_eq_true]
    exact ⟨V_lower hγ c v h1, IC_lower hγ cs b (p + 1) h2⟩
theorem IE_lower {γ : Nat → Option Nat} {imm : Nat → Nat → Option Value} {n : Nat} (hγ : ∀ i b, γ i = some b → i < n) : ∀ (xs : List AVal) (b p : Nat), IElems γ imm xs b p → lowerL n xs = true
  | [], _, _, _ => rfl
  | x :: xs, b, p, h => by
    obtain ⟨h1, h2⟩ := h.uncons
    simp only [lowerL, Bool.and_eq_true]
    refine ⟨?_, IE_lower hγ xs b _ h2⟩
    cases x with
    | agg cs => simp only [AVal.cells] at h1; simp only [AVal.lower]; exact IC_lower hγ cs b p h1
    | _ =>
      simp only [AVal.cells, ICells] at h1
      obtain ⟨⟨v, _, h3⟩, _⟩ := h1
      exact V_lower hγ _ v h3
end

theorem box_lower (hr : Rel P gl G h w) {i b : Nat} {bx : ABox} (hi : G.γ i = some b) (hx : h[i]? = some bx) : bx.lower h.length = true := by
  have hγ : ∀ i b, G.γ i = some b → i < h.length := fun i b hb => (hr.γlt i b hb).1
  have h0 := hr.box i b bx hi hx
  cases bx with
  | cells cs => obtain ⟨c, e, _, h1, _⟩ := h0; exact VL_lower hγ cs _ h1
  | loop t ps asg body st pend => obtain ⟨L, _, h1⟩ := h0; exact VL_lower hγ t _ h1.tmps

/-- G without the boxes from n on. -/
def Ghost.below (G : Ghost) (n : Nat) : Ghost := { G with γ := fun i => if i < n then G.γ i else none }

theorem below_γ {n i b : Nat} (h : (G.below n).γ i = some b) : i < n ∧ G.γ i = some b := by
  simp only [Ghost.below] at h
  split at h
  · exact ⟨‹_›, h⟩
  · cases h

theorem below_V {n : Nat} {a : AVal} {v : Value} (hl : a.lower n = true) (hv : G.V a v) : (G.below n).V a v :=
  VRel.mono (fun _ _ _ h => h) n (fun i b hi hb => by simp [Ghost.below, hi, hb]) a v hl hv

theorem left (hr0 : Rel P gl G0 h w0) {h' : List ABox} (he : Ext h.length G0 w0 G w) (hr : Rel P gl G h' w) (hk : Keeps h.length h h') : Ext h.length G0 w0 (G.below h.length) w ∧ Rel P gl (G.below h.length) (h'.take h.length) w := by
  have hlen : (h'.take h.length).length = h.length := by simp [hk.1]
  refine ⟨⟨fun i b hi => ?_, fun i b hi => ?_, he.ik, he.inew, he.on, he.size, he.heap, he.loops, he.os, he.tape, he.output⟩, ⟨fun i b hi => ?_, fun i j b hi hj => ?_, fun i b bx hi hx => ?_, hr.imm, fun b o v i hv hi => ?_, fun b ℓ hb => ⟨(hr.ow b ℓ hb).1, fun i hi => ?_⟩, fun g cs hg => ?_⟩⟩
  · simp [Ghost.below, (hr0.γlt i b hi).1, he.gk i b hi]
  · obtain ⟨h1, h2⟩ := below_γ hi
    rcases he.gn i b h2 with h3 | ⟨h3, _⟩
    · exact .inl h3
    · omega
  · obtain ⟨h1, h2⟩ := below_γ hi
    exact ⟨by rw [hlen]; exact h1, (hr.γlt i b h2).2⟩
  · exact hr.inj i j b (below_γ hi).2 (below_γ hj).2
  · obtain ⟨h1, h2⟩ := below_γ hi
    rw [List.getElem?_take_of_lt h1] at hx
    have hi0 : G0.γ i = some b := by
      rcases he.gn i b h2 with h3 | ⟨h3, _⟩
      · exact h3
      · omega
    obtain ⟨bx', h3, h4⟩ := hk.2 i h.length h[i] h1 (Nat.le_refl _) (List.getElem?_eq_getElem h1) (box_lower hr0 hi0 (List.getElem?_eq_getElem h1))
    rw [hx] at h3
    cases h3
    exact (hr.box i b bx h2 hx).keep h4 (fun _ _ _ h => h) (fun j c hj hc => by simp [Ghost.below, hj, hc]) rfl (fun _ _ h => h) (fun _ _ _ => rfl) (fun _ _ _ _ h => h)
  · exact hr.immγ b o v i hv (below_γ hi).2
  · exact (hr.ow b ℓ hb).2 i (below_γ hi).2
  · obtain ⟨h1, h2⟩ := hr.glob g cs hg
    exact ⟨ICells.mono (fun _ _ _ h => h) 0 (fun i _ hi => absurd hi (Nat.not_lt_zero _)) cs g 0 h2 h1, h2⟩

/-! ### A call's end -/
theorem nilTmp (hn : NoTmp G) (k : Nat) : NoTmp (G.below k) := hn

/-- A call's slots are gone: what they owned is nobody's. -/
theorem leave_back (hr0 : Rel P gl G0 h w0) {s : St} (he : Ext h.length G0 w0 G w) (hr : Rel P gl G s.h w) (hk : h.length ≤ s.h.length ∧ (s.e = false → Keeps h.length h s.h)) {r0 r : CRes} {h' : List ABox} {e' : Bool}
    (hl : leave h.length r0 s.h s.e = (r, h', e')) : r = r0 ∧ ∃ G', Ext h.length G0 w0 G' w ∧ Rel P gl G' h' w ∧ NoTmp G' ∧ (∀ a v, (r0 = .ret a ∨ r0 = .pan a) → G.V a v → G'.V a v) := by
  obtain ⟨hc1, hc2⟩ := hr.cellsOnly
  have hec : Ext h.length G0 w0 G.cellsOnly w := ⟨he.gk, he.gn, he.ik, he.inew, fun b hb => he.on b fun e => hb (by simp [Ghost.cellsOnly, e]), he.size, he.heap, he.loops, he.os, he.tape, he.output⟩
  cases r0 <;> unfold leave at hl <;> simp only at hl <;> split at hl
  all_goals first
    | (rename_i hcond
       simp only [Bool.and_eq_true, Bool.not_eq_true'] at hcond
       cases hl
       obtain ⟨k1, k2⟩ := left hr0 hec hc1 (hk.2 hcond.1)
       refine ⟨rfl, _, k1, k2, nilTmp hc2 _, fun a v ha hv => below_V (G := G.cellsOnly) ?_ hv⟩
       rcases ha with ha | ha <;> cases ha <;> exact hcond.2)
    | (cases hl
       exact ⟨rfl, _, hec, hc1, hc2, fun a v _ hv => hv⟩)

/-- a result -/
def resF (tmps : Array Value) : ResultVar → Sem Value
  | .tmp t => pure (tmps.getD t undef)
  | .cell a t => do loadVar t (← asAddr (tmps.getD a undef))

theorem results_eq (fn : Func) (tmps : Array Value) : results fn tmps = (do
    let vs ← fn.results.mapM (resF tmps)
    pure (if h : vs.size = 1 then vs[0] else .tuple vs)) := rfl

theorem results_list {s : St} {a : Act} (hc : Cfg P gl G s.h s.t a w) : ∀ (l : List ResultVar) (rs : List ARes) (vs : List AVal), l.mapM (compRes P) = some rs → readRes s rs = some vs →
    ∃ us : List Value, (l.mapM (resF a.tmps)).run P w = .ok us w ∧ G.VL vs us
  | [], rs, vs, h, hv => by simp at h; subst h; simp only [readRes] at hv; cases hv; exact ⟨[], by simp, by simp [Ghost.VL, VRelL]⟩
  | x :: l, rs, vs, h, hv => by
    simp only [List.mapM_cons, Option.pure_def, Option.bind_eq_bind, Option.bind_eq_some_iff] at h
    obtain ⟨y, hy, ys, hys, h⟩ := h
    cases h
    cases x with
    | tmp i =>
      simp only [compRes, Option.some.injEq] at hy
      subst hy
      simp only [readRes] at hv
      split at hv
      · rename_i vs' hvs'
        cases hv
        obtain ⟨us, h1, h2⟩ := results_list hc l ys vs' hys hvs'
        refine ⟨a.tmps.getD i undef :: us, ?_, by simp only [Ghost.VL, VRelL]; exact ⟨_, us, rfl, dim_rel (hc.tr.get i), h2⟩⟩
        rw [List.mapM_cons]
        simp only [resF, Sem.run_bind, Sem.run_pure, Result.andThen_ok]
        rw [h1]
        rfl
      · cases hv
    | cell i ty =>
      simp only [compRes, Option.map_eq_some_iff] at hy
      obtain ⟨k, hk, rfl⟩ := hy
      simp only [readRes] at hv
      split at hv
      · rename_i v vs' hld hvs'
        cases hv
        obtain ⟨us, h1, h2⟩ := results_list hc l ys vs' hys hvs'
        have hp := hc.tr.get i
        obtain ⟨u, h3, h4, _⟩ := ld_run hc.rel hk hp hld
        have hptr : ∃ ad, a.tmps.getD i undef = .pointer (some ad) := by
          revert hp
          revert hld
          generalize s.t.getD i .undef = p
          intro hld hp
          cases p <;> simp only [ldAt] at hld <;> first | (cases hld; done) | skip
          · simp only [Ghost.V, VRel] at hp; obtain ⟨b, _, e⟩ := hp; exact ⟨_, e⟩
          · simp only [Ghost.V, VRel] at hp; obtain ⟨b, p, e, _⟩ := hp; exact ⟨_, e⟩
        obtain ⟨ad, had⟩ := hptr
        refine ⟨u :: us, ?_, by simp only [Ghost.VL, VRelL]; exact ⟨_, us, rfl, h4, h2⟩⟩
        rw [List.mapM_cons]
        have h5 : (resF a.tmps (.cell i ty)).run P w = .ok u w := by
          simp only [resF]
          rw [had] at h3 ⊢
          exact h3
        rw [Sem.run_bind, h5, Result.andThen_ok, Sem.run_bind, h1]
        rfl
      · cases hv

theorem results_sound {s : St} {a : Act} (hc : Cfg P gl G s.h s.t a w) {fn : Func} {rs : List ARes} {vs : List AVal} (h1 : fn.results.toList.mapM (compRes P) = some rs) (h2 : readRes s rs = some vs) :
    ∃ u, (results fn a.tmps).run P w = .ok u w ∧ G.V (oneRes vs) u := by
  obtain ⟨us, h3, h4⟩ := results_list hc _ rs vs h1 h2
  have hlen := h4.length
  have hrun : (results fn a.tmps).run P w = .ok (if h : us.toArray.size = 1 then us.toArray[0] else .tuple us.toArray) w := by
    rw [results_eq, Array.mapM_eq_mapM_toList]
    simp only [Sem.run_bind, map_eq_pure_bind]
    rw [h3]
    rfl
  refine ⟨_, hrun, ?_⟩
  match vs, us, h4, hlen with
  | [], [], h4, _ => simp [oneRes, Ghost.V, VRel, VRelL]
  | [v], [u], h4, _ =>
    simp only [Ghost.VL, VRelL] at h4
    obtain ⟨_, _, e, h5, _⟩ := h4
    cases e
    simpa [oneRes] using h5
  | v :: v' :: vs, u :: u' :: us, h4, _ =>
    simp only [oneRes, Ghost.V, VRel]
    refine ⟨_, ?_, h4⟩
    simp

/-- The marks are shut, one after the other. -/
theorem leaves_marks {fn : Func} {a : Act} {R : Ending → World → Prop} {F : Fence} {m : Nat} {u : FrameMode} (hu : u ≠ .run) : ∀ (ds : List Deferred) (w' : World), Marks G' w' w0.heap.size ds → Ext n G0 w0 G' w' → Rel P gl G' h w' → TRel G' w' t a.tmps →
    (∀ w'', Ext n G0 w0 G' w'' → Rel P gl G' h w'' → TRel G' w'' t a.tmps → LeavesIn F m P fn a.tmps R [] u w'') → LeavesInM F m P fn a.tmps R ds u w'
  | [], w', _, he, hr, ht, hR => hR w' he hr ht
  | d :: ds, w', hm, he, hr, ht, hR => by
    obtain ⟨r, rfl, h1, h2, h3⟩ := hm.all d (List.mem_cons_self ..)
    refine ⟨hu, .inl ⟨r, w'.putObj r (.deferred none), rfl, run_takeDeferred h2, ?_⟩⟩
    have hnd := List.nodup_cons.1 hm.nodup
    refine leaves_marks hu ds _ ⟨hnd.2, fun d hd => ?_⟩ (he.putFar h1 _) (hr.putFar h3 fun k => by simp [World.cell?, h2]) (ht.putFar h3) hR
    obtain ⟨r', g1, g2, g3, g4⟩ := hm.all d (List.mem_cons_of_mem _ hd)
    refine ⟨r', g1, g2, ?_, g4⟩
    rw [World.putObj_heap_other]
    · exact g3
    · rintro rfl
      rw [g1] at hd
      exact hnd.1 hd

theorem leaves_marks' {fn : Func} {ts : Array Value} {R : Ending → World → Prop} {F : Fence} {m : Nat} {u : FrameMode} (hu : u ≠ .run) : ∀ (ds : List Deferred) (w' : World), Marks G' w' w0.heap.size ds → Ext n G0 w0 G' w' → Rel P gl G' h w' →
    (∀ w'', Ext n G0 w0 G' w'' → Rel P gl G' h w'' → LeavesIn F m P fn ts R [] u w'') → LeavesInM F m P fn ts R ds u w'
  | [], w', _, he, hr, hR => hR w' he hr
  | d :: ds, w', hm, he, hr, hR => by
    obtain ⟨r, rfl, h1, h2, h3⟩ := hm.all d (List.mem_cons_self ..)
    refine ⟨hu, .inl ⟨r, w'.putObj r (.deferred none), rfl, run_takeDeferred h2, ?_⟩⟩
    have hnd := List.nodup_cons.1 hm.nodup
    refine leaves_marks' hu ds _ ⟨hnd.2, fun d hd => ?_⟩ (he.putFar h1 _) (hr.putFar h3 fun k => by simp [World.cell?, h2]) hR
    obtain ⟨r', g1, g2, g3, g4⟩ := hm.all d (List.mem_cons_of_mem _ hd)
    refine ⟨r', g1, g2, ?_, g4⟩
    rw [World.putObj_heap_other]
    · exact g3
    · rintro rfl
      rw [g1] at hd
      exact hnd.1 hd
end
end Go.AE
