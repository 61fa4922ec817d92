/- The abstract executor: regions as compiled; loops' records; marks. No condition. -/
import Derived.Test.YtlognicjhmcgjaaGreatDoorAeDraw4
import Derived.RangeFuncRecord
namespace Go.AE
section
variable {P : Program} {gl : Nat → Option (List AVal)} {ops : Array Oper} {G G' : Ghost} {w w' : World} {h : List ABox} {t : List AVal} {a : Act} {n : Nat}

theorem mapM_get {α β : Type} {f : α → Option β} : ∀ {l : List α} {r : List β}, l.mapM f = some r → ∀ (i : Nat) (b : β), r[i]? = some b → ∃ x, l[i]? = some x ∧ f x = some b
  | [], r, h, i, b, hb => by simp at h; subst h; simp at hb
  | x :: l, r, h, i, b, hb => by
    simp only [List.mapM_cons, Option.pure_def, Option.bind_eq_bind, Option.bind_eq_some_iff] at h
    obtain ⟨y, hy, ys, hys, h⟩ := h
    cases h
    cases i with
    | zero => simp at hb; subst hb; exact ⟨x, rfl, hy⟩
    | succ i => simp at hb; simpa using mapM_get hys i b hb

theorem lays_of_mapM : ∀ (l : List Oper) (k : Nat) (os : List AOper), (∀ j, l[j]? = ops[k + j]?) → l.mapM (compOper P gl ops) = some os → Lays P gl ops (List.range' k l.length) os
  | [], k, os, _, h => by simp at h; subst h; trivial
  | x :: l, k, os, hl, h => by
    simp only [List.mapM_cons, Option.pure_def, Option.bind_eq_bind, Option.bind_eq_some_iff] at h
    obtain ⟨y, hy, ys, hys, h⟩ := h
    cases h
    refine ⟨⟨x, by have := hl 0; simpa using this.symm, hy⟩, ?_⟩
    exact lays_of_mapM l (k + 1) ys (fun j => by have := hl (j + 1); simp at this; rw [this]; congr 1; omega) hys

theorem compDraw_stat {ds : List DOper} (h : compDraw P gl ops = some ds) : ∃ cl, Stat P gl ops cl ds := by
  simp only [compDraw, Option.pure_def, Option.bind_eq_bind, Option.bind_eq_some_iff] at h
  obtain ⟨as, has, h⟩ := h
  split at h
  · rename_i hc
    simp only [Bool.and_eq_true, List.all_eq_true, List.mem_range, List.any_eq_true, beq_iff_eq] at hc
    obtain ⟨⟨hc1, hc2⟩, hc3⟩ := hc
    have hds := Option.some.inj h
    rw [hds] at hc1 hc2 hc3
    refine ⟨closure (ops.toList.map edges), fun d hd => ?_, hc1, hc3, ordOK_self hc3⟩
    have hd' := hd
    rw [← hds] at hd'
    simp only [orderD, List.mem_filterMap, Option.map_eq_some_iff] at hd'
    obtain ⟨i, _, ao, hao, rfl⟩ := hd'
    obtain ⟨o, ho, hco⟩ := mapM_get has i ao hao
    have ho' : ops[i]? = some o := by simpa using ho
    refine ⟨o, ho', hco, rfl, ?_⟩
    have := hc2 _ hd
    simp only at this
    rw [this, List.getD_eq_getElem?_getD, List.getElem?_map, ho]
    rfl
  · cases h

theorem Cfg.of_drew (hc : Cfg P gl G h t a w) (d : Nat) : Cfg P gl G h t a { w with drawn := d } := ⟨hc.rel.of_drew d, hc.tr.of_drew d⟩

theorem draw_sound (hm : P.follows .mixedOrders = true) {call : AE.Call} (hcall : CallOK P gl call) (hk : CallKeeps call) {ds : List DOper} (hcomp : compDraw P gl ops = some ds) {base : Nat} {ro : Option Nat} {m : Nat} {s : St} {x : Ex} {s' : St}
    (hc : Cfg P gl G s.h s.t a w) (hb : base ≤ s.h.length) (hrun : runDraw base call (ds.filterMap (·.o.dst)) ds [] s = some (x, s')) {id : Nat} : (Code.region id ops true).wpIn (FR ro) m P (Fin P gl s.h.length G w a.defers x s') a w := by
  obtain ⟨cl, hst⟩ := compDraw_stat hcomp
  refine wpIn_region_any hm ?_
  have hc' := hc.of_drew (w.drawn + 1)
  have hinv : Inv P gl ops ds s.h.length (Array.replicate ops.size false) a G { w with drawn := w.drawn + 1 } [] ds [] [] s := by
    refine ⟨by rw [msk, List.filterMap_nil, mask_nil]; exact hc', (fun _ h => by cases h), (fun _ h => by cases h), (fun _ h => by cases h), (fun _ h => by cases h), (fun _ h => by cases h), hst.order, fun d => by simp, (fun _ h => by cases h), (fun _ h => by cases h),
      fun d hd => ?_, by simp, fun d hd hl => ?_, Nat.le_refl _⟩
    · obtain ⟨o, ho, _⟩ := hst.comp d hd
      have := (Array.getElem?_eq_some_iff.1 ho).1
      simp [this]
    · have := getD_lt hl
      simp at this
      simp [this] at hl
  obtain ⟨pre, ds', U, pend, s1, h1, h2, h3, h4, h5⟩ := advance ds [] [] [] s hinv hb hrun
  refine draw_any (fun d hd k hk => List.mem_filterMap.2 ⟨d, hd, hk⟩) hcall hk hst ops.size _ _ _ _ _ _ _ _ _ h1 h2 h3 h4 ?_ fun e a' w' hf => ?_
  · rw [h5]
    simp
    have hnd : (ds.map (·.ix)).Nodup := by
      have key : ∀ (l pre : List DOper), ordOK (ops.toList.map edges) pre l = true → (l.map (·.ix)).Nodup := by
        intro l
        induction l with
        | nil => intro _ _; simp
        | cons d l ih =>
          intro pre ho
          obtain ⟨_, _, _, h4⟩ := ordOK_cons ho
          rw [List.map_cons, List.nodup_cons]
          refine ⟨fun hmem => ?_, ih _ h4⟩
          obtain ⟨y, hy, hye⟩ := List.mem_map.1 hmem
          have := ordOK_pair h4 (List.mem_cons_self ..) y hy
          simp [pairOK, hye] at this
      exact key ds [] hst.order
    have hsub : ∀ i ∈ ds.map (·.ix), i ∈ List.range ops.size := by
      intro i hi
      obtain ⟨d, hd, rfl⟩ := List.mem_map.1 hi
      obtain ⟨o, ho, _⟩ := hst.comp d hd
      exact List.mem_range.2 (Array.getElem?_eq_some_iff.1 ho).1
    have := (List.nodup_iff_count.1 hnd)
    have hle := hnd.length_le_of_subset hsub
    simpa using hle
  · exact Fin.of_ext (Nat.le_refl _) ((Ext.refl _ G w).drew _) hf

/-! ### Loops' records, marks -/
theorem Rel.putLoop (hr : Rel P gl G h w) {i b : Nat} (hi : G.γ i = some b) {t : List AVal} {ps : List Nat} {asg body : ACode} {st : LSt} {pend : Option Jump} {L' : Loop} (hL : LoopRel P gl G t ps asg body st pend L') :
    Rel P gl G (h.set i (.loop t ps asg body st pend)) (w.putObj b (.loop L')) := by
  have hb := (hr.γlt i b hi).2
  have hne : ∀ b', (∀ j, G.γ j ≠ some b') → (w.putObj b (.loop L')).heap[b']? = w.heap[b']? := fun b' hb' => World.putObj_heap_other (fun e => hb' i (by rw [hi, e]))
  refine ⟨fun j b' hj => by simpa using hr.γlt j b' hj, hr.inj, fun j b' bx hj hx => ?_, fun b' o v hv => ?_, hr.immγ, fun b' ℓ hb' => ⟨by simpa using (hr.ow b' ℓ hb').1, (hr.ow b' ℓ hb').2⟩, hr.glob⟩
  · by_cases e : i = j
    · subst e
      rw [hi] at hj
      cases hj
      rw [List.getElem?_set_self (hr.γlt i b hi).1] at hx
      cases hx
      exact ⟨L', World.putObj_heap_same hb, hL⟩
    · rw [List.getElem?_set_ne e] at hx
      have h0 := hr.box j b' bx hj hx
      obtain ⟨n, hn⟩ := ABox.lower_ex bx
      exact h0.keep hn (fun _ _ _ h => h) (fun _ _ _ h => h) (World.putObj_heap_other fun e' => e (hr.inj i j b hi (by rw [hj, e']))) (fun _ _ h => h) (fun b'' o hb'' => hne b'' (hr.ow b'' _ hb'').2) (fun _ _ _ _ h => h)
  · obtain ⟨h1, h2⟩ := hr.imm b' o v hv
    refine ⟨?_, by simpa using h2⟩
    rw [cell_congr (w := w) (hne b' fun j => hr.immγ b' o v j hv)]
    exact h1

theorem TRel.putLoop (hr : Rel P gl G h w) {ts : Array Value} (ht : TRel G w t ts) {i b : Nat} (hi : G.γ i = some b) (o : Obj) : TRel G (w.putObj b o) t ts :=
  ⟨ht.rel, fun j xs k v hx hv => (ht.own j xs k v hx hv).keep (fun _ h => h) (fun y hy => World.putObj_heap_other fun e => (hr.ow y _ hy).2 i (by rw [hi, e])) (fun _ _ _ h => h)⟩

theorem Ext.putLoop (n : Nat) {i b : Nat} (hi : G.γ i = some b) {L L' : Loop} (hL : w.heap[b]? = some (.loop L)) (he : L'.fn = L.fn ∧ L'.tmps = L.tmps ∧ L'.params = L.params ∧ L'.assign = L.assign ∧ L'.body = L.body ∧ L'.defers = L.defers) :
    Ext n G w G (w.putObj b (.loop L')) := by
  refine ⟨fun _ _ h => h, fun _ _ h => .inl h, fun _ _ _ h => h, fun _ _ _ h => .inl h, fun _ h => .inl h, by simp, fun b' _ hf => World.putObj_heap_other (fun e => hf.1 i (by rw [hi, e])), fun b' M hM => ?_, rfl, rfl, rfl⟩
  by_cases e : b' = b
  · subst e
    rw [hL] at hM
    cases hM
    exact ⟨L', World.putObj_heap_same (Array.getElem?_eq_some_iff.1 hL).1, he⟩
  · exact ⟨M, by rw [World.putObj_heap_other e]; exact hM, rfl, rfl, rfl, rfl, rfl, rfl⟩

/-- Another block's object of whatever make, none of the boxes. -/
theorem Rel.putFar (hr : Rel P gl G h w) {r : Nat} {o : Obj} (hf : Foreign G r) (hc : ∀ k, w.cell? ⟨r, k, none⟩ = none) : Rel P gl G h (w.putObj r o) := by
  refine ⟨fun j b' hj => by simpa using hr.γlt j b' hj, hr.inj, fun j b' bx hj hx => ?_, fun b' k v hv => ?_, hr.immγ, fun b' ℓ hb' => ⟨by simpa using (hr.ow b' ℓ hb').1, (hr.ow b' ℓ hb').2⟩, hr.glob⟩
  · have h0 := hr.box j b' bx hj hx
    obtain ⟨n, hn⟩ := ABox.lower_ex bx
    exact h0.keep hn (fun _ _ _ h => h) (fun _ _ _ h => h) (World.putObj_heap_other fun e' => hf.1 j (by rw [hj, e'])) (fun _ _ h => h)
      (fun b'' o hb'' => World.putObj_heap_other fun e' => by rw [e', hf.2] at hb''; cases hb'') (fun _ _ _ _ h => h)
  · obtain ⟨h1, h2⟩ := hr.imm b' k v hv
    refine ⟨?_, by simpa using h2⟩
    rw [cell_congr (w := w) (World.putObj_heap_other fun e' => ?_)]
    · exact h1
    · subst e'
      rw [hc] at h1
      cases h1

theorem TRel.putFar {ts : Array Value} (ht : TRel G w t ts) {r : Nat} {o : Obj} (hf : Foreign G r) : TRel G (w.putObj r o) t ts :=
  ⟨ht.rel, fun j xs k v hx hv => (ht.own j xs k v hx hv).keep (fun _ h => h) (fun y hy => World.putObj_heap_other fun e => by rw [e, hf.2] at hy; cases hy) (fun _ _ _ h => h)⟩

theorem Ext.putFar {w0 : World} {G0 : Ghost} (he : Ext n G0 w0 G w) {r : Nat} (hr : w0.heap.size ≤ r) (o : Obj) : Ext n G0 w0 G (w.putObj r o) := by
  refine ⟨he.gk, he.gn, he.ik, he.inew, he.on, by simpa using he.size, fun b hb hf => ?_, fun b L hL => ?_, he.os, he.tape, he.output⟩
  · rw [World.putObj_heap_other (by omega)]
    exact he.heap b hb hf
  · obtain ⟨L', h1, h2⟩ := he.loops b L hL
    have hb := (Array.getElem?_eq_some_iff.1 hL).1
    exact ⟨L', by rw [World.putObj_heap_other (by omega)]; exact h1, h2⟩

/-- The marks among an activation's deferred calls. -/
structure Marks (G : Ghost) (w : World) (lo : Nat) (ds : List Deferred) : Prop where
  nodup : ds.Nodup
  all : ∀ d ∈ ds, ∃ r, d = { target := .collected r, args := #[] } ∧ lo ≤ r ∧ w.heap[r]? = some (.deferred (some [])) ∧ Foreign G r

theorem Foreign.ext {r : Nat} (hf : Foreign G r) (hr : r < w.heap.size) (he : Ext n G w G' w') : Foreign G' r := by
  refine ⟨fun i hi => ?_, ?_⟩
  · rcases he.gn i r hi with h1 | ⟨_, h1⟩
    · exact hf.1 i h1
    · omega
  · cases ho : G'.ow r with
    | none => rfl
    | some ℓ =>
      rcases he.on r (by simp [ho]) with h1 | h1
      · exact absurd hf.2 h1
      · omega

theorem Marks.ext {lo : Nat} {ds : List Deferred} (hm : Marks G w lo ds) (he : Ext n G w G' w') : Marks G' w' lo ds :=
  ⟨hm.nodup, fun d hd => by
    obtain ⟨r, h1, h2, h3, h4⟩ := hm.all d hd
    have hr := (Array.getElem?_eq_some_iff.1 h3).1
    exact ⟨r, h1, h2, by rw [he.heap r hr h4]; exact h3, h4.ext hr he⟩⟩

/-- ..ahead of others, that stay. -/
def MarksF (G : Ghost) (w : World) (lo : Nat) (rf : Bool) (fx ds : List Deferred) : Prop := ∃ ms, ds = ms ++ fx ∧ Marks G w lo ms ∧ (rf = true → ms = [])

theorem MarksF.ext {lo : Nat} {rf : Bool} {fx ds : List Deferred} (hm : MarksF G w lo rf fx ds) (he : Ext n G w G' w') : MarksF G' w' lo rf fx ds :=
  let ⟨ms, h1, h2, h3⟩ := hm
  ⟨ms, h1, h2.ext he, h3⟩

def RoundIs (ro : Option Nat) (w : World) : Prop := ∀ l, ro = some l → ∃ L, w.heap[l]? = some (.loop L)

theorem RoundIs.ext {ro : Option Nat} (hr : RoundIs ro w) (he : Ext n G w G' w') : RoundIs ro w' := fun l hl => by
  obtain ⟨L, h1⟩ := hr l hl
  obtain ⟨L', h2, _⟩ := he.loops l L h1
  exact ⟨L', h2⟩

/-- What holds behind a text, the marks told. -/
def Fin2 (P : Program) (gl : Nat → Option (List AVal)) (n : Nat) (G : Ghost) (w : World) (lo : Nat) (rf : Bool) (fx : List Deferred) (x : Ex) (s' : St) (e : Exit) (a' : Act) (w' : World) : Prop :=
  ∃ G', Ext n G w G' w' ∧ MarksF G' w' lo rf fx a'.defers ∧ match x with
    | .nor => e = .normal ∧ Cfg P gl G' s'.h s'.t a' w'
    | .exit id => e = .exit id ∧ Cfg P gl G' s'.h s'.t a' w'
    | .ret => e = .ret ∧ Cfg P gl G' s'.h s'.t a' w'
    | .pan pv => ∃ v, e = .panic [{ v, recovered := false }] ∧ Cfg P gl G' s'.h s'.t a' w' ∧ G'.V pv v

theorem Fin.to2 {lo : Nat} {rf : Bool} {fx ds : List Deferred} {x : Ex} {s' : St} {e : Exit} {a' : Act} (hm : MarksF G w lo rf fx ds) (hf : Fin P gl n G w ds x s' e a' w') : Fin2 P gl n G w lo rf fx x s' e a' w' := by
  obtain ⟨G', h1, h2, h3⟩ := hf
  exact ⟨G', h1, by rw [h2]; exact hm.ext h1, h3⟩

theorem Fin2.of_ext {m lo : Nat} {rf : Bool} {fx : List Deferred} {x : Ex} {s' : St} {e : Exit} {a' : Act} {w'' : World} (hnm : n ≤ m) (he : Ext n G w G' w') (hf : Fin2 P gl m G' w' lo rf fx x s' e a' w'') : Fin2 P gl n G w lo rf fx x s' e a' w'' :=
  let ⟨G'', h1, h2⟩ := hf
  ⟨G'', he.trans hnm h1, h2⟩
end
end Go.AE
