/- The abstract executor: the world as a row's call finds it; a call from there. No condition. -/
import Derived.Test.YtlognicjhmcgjaaGreatDoorAeGuard2
import Derived.OpenShut
import Derived.LaidLaws
import Derived.ChangeArms
namespace Go.AE
section
variable {P : Program} {gl : Nat → Option (List AVal)}

def Ghost.start (gl : Nat → Option (List AVal)) (W : World) : Ghost := { γ := fun _ => none, imm := fun b o => if (gl b).isSome then W.cell? ⟨b, o, none⟩ else none, ow := fun _ => none }

/-- The variables that are told read as told. -/
def Told (gl : Nat → Option (List AVal)) (W : World) : Prop := ∀ g cs, gl g = some cs → lowerL 0 cs = true ∧ ∃ vs : List Value, VRelL (fun _ => none) (fun _ _ => none) cs vs ∧ ∀ (j : Nat) (v : Value), vs[j]? = some v → W.cell? ⟨g, j, none⟩ = some v

theorem start_rel {W : World} (h : Told gl W) : Rel P gl (Ghost.start gl W) [] W ∧ NoTmp (Ghost.start gl W) := by
  refine ⟨⟨(fun _ _ h => by cases h), (fun _ _ _ h => by cases h), (fun _ _ _ h => by cases h), fun b o v hv => ?_, (fun _ _ _ _ _ h => by cases h), (fun _ _ h => by cases h), fun g cs hg => ?_⟩, (fun _ _ h => by cases h)⟩
  · simp only [Ghost.start] at hv
    split at hv
    · refine ⟨hv, ?_⟩
      rcases Nat.lt_or_ge b W.heap.size with hb | hb
      · exact hb
      · simp [World.cell?, Array.getElem?_eq_none hb] at hv
    · cases hv
  · obtain ⟨h1, vs, h2, h3⟩ := h g cs hg
    refine ⟨ICells.of_get fun i c hc => ?_, h1⟩
    obtain ⟨v, hv, hr⟩ := h2.get hc
    refine ⟨v, ?_, ?_⟩
    · simp only [Ghost.start, hg, Option.isSome_some, if_true, Nat.zero_add]
      exact h3 i v hv
    · exact VRel.mono (fun _ _ _ h => by cases h) 0 (fun i _ hi => absurd hi (Nat.not_lt_zero _)) c v (lowerL_get h1 hc) hr

/-- Old blocks lie as they lay. -/
theorem start_kept {n : Nat} {W W' : World} {G' : Ghost} (he : Ext n (Ghost.start gl W) W G' W') : W.keptBut W' (fun _ => False) := by
  refine ⟨he.os, he.output, fun i hi => ?_⟩
  rw [he.heap i hi ⟨fun _ h => by simp [Ghost.start] at h, rfl⟩]
  split
  · rename_i h1 h2
    rw [h1] at h2
    cases h2
    exact ⟨rfl, rfl, rfl, fun _ _ => rfl⟩
  · rename_i h1 h2
    rw [h1] at h2
    cases h2
    exact .inr ⟨rfl, rfl⟩
  · rfl

/-- A call of a function of the program, out of the row's world. -/
theorem call_start {call : AE.Call} (hcall : CallOK P gl call) {f : FuncId} {pf : Func} {c : Code} (h1 : P.funcs[f]? = some pf) (h2 : (pf.name == "runtime.NumGoroutine") = false) (h3 : pf.body = some c) {args : List AVal} {rv : AVal} {h' : List ABox} {e' : Bool}
    (hrun : call (.fn f [] []) args [] = some (.ret rv, h', e')) {W : World} (ht : Told gl W) {vs : Array Value} (hargs : VRelL (fun _ => none) (fun _ _ => none) args vs.toList) :
    Calls P f vs W fun e W' => ∃ v G', e = .returned v ∧ Ghost.V G' rv v ∧ W.keptBut W' (fun _ => False) := by
  obtain ⟨hr, hn⟩ := start_rel (P := P) ht
  have hlow : lowerL 0 args = true := VL_lower (n := 0) (fun _ _ h => by cases h) args _ hargs
  have hargs' : (Ghost.start gl W).VL args vs.toList := VRelL.mono (fun _ _ _ h => by cases h) 0 (fun i _ hi => absurd hi (Nat.not_lt_zero _)) args _ hlow hargs
  have hfv : (Ghost.start gl W).V (.fn f [] []) (.func (.func f) #[] #[]) := by simp [Ghost.V, VRel, VRelL]
  have hS : (callS (.func (.func f) #[] #[]) vs).run P W = .ok (.enter f vs) W := by
    rw [callS_fn, callFunc_enter h1 h2 h3]
    simp
  rcases hcall _ _ _ _ _ _ hrun _ W _ vs hr hn hfv hargs' with ⟨f', as, k1, k2⟩ | ⟨_, _, _, _, _, _, hy, _⟩ | ⟨v, w', _, k1, _⟩
  · rw [hS] at k1
    cases k1
    refine (callsIn_wide (n := 0)).1 (CallsIn.mono (k2 none 0) fun e W' hb => ?_)
    cases e with
    | returned v =>
      obtain ⟨rv', G', g1, g2, g3, g4, g5⟩ := hb
      cases g1
      exact ⟨v, G', rfl, g5, start_kept g2⟩
    | panicked ch => obtain ⟨_, _, _, g1, _⟩ := hb; cases g1
    | outgrown => exact hb.elim
  · cases hy
  · rw [hS] at k1
    cases k1

/-! ### What a row says of the variables -/
def litV {H : Type} : DataW H → Option AVal
  | .lit (.int k z) => some (.int k z)
  | .lit (.string s) => some (.str s)
  | .lit (.bool b) => some (.bool b)
  | _ => none

theorem lit_trod {H : Type} {enc : TypeId × Value → H} {w : World} {base : Nat} {sp : Nat → Bool} {held : Bool} {fuel : Nat} {e : TypeId} {cs : List Value} {x : DataW H × List MemPlace} {a : AVal}
    (he : (∃ k, P.underlying e = some (.int k)) ∨ P.underlying e = some .string) (h : DataW.trod enc P w base sp held fuel e cs = some x) (ha : litV x.1 = some a) : ∃ v, cs = [v] ∧ VRel (fun _ => none) (fun _ _ => none) a v := by
  rcases he with ⟨k, he⟩ | he
  · obtain ⟨n, rfl, rfl, _⟩ := DataW.trod_int he h
    simp only [litV, Option.some.injEq] at ha
    subst ha
    exact ⟨_, rfl, by simp [VRel]⟩
  · obtain ⟨s, rfl, rfl, _⟩ := DataW.trod_string he h
    simp only [litV, Option.some.injEq] at ha
    subst ha
    exact ⟨_, rfl, by simp only [VRel]; exact ⟨s, rfl, rfl⟩⟩

/-- A listed array of numbers or strings. -/
theorem told_array {laid : List (String × DataW Unit)} {W : World} (hL : laidMet P laid W) {name : String} {ds : List (DataW Unit)} (hm : (name, DataW.agg ds) ∈ laid) {g : Nat} (hg : P.globalNamed name = some g) {t e : TypeId} {n : Nat} (ht : (P.globals[g]?).map (·.type) = some t)
    (hu : P.underlying t = some (.array n e)) (he : (∃ k, P.underlying e = some (.int k)) ∨ P.underlying e = some .string) (hc : P.cellsOf e = 1) {as : List AVal} (has : ds.mapM litV = some as) :
    lowerL 0 as = true ∧ ∃ vs : List Value, VRelL (fun _ => none) (fun _ _ => none) as vs ∧ ∀ (j : Nat) (v : Value), vs[j]? = some v → W.cell? ⟨g, j, none⟩ = some v := by
  obtain ⟨ps, hv, hrest⟩ := hL
  clear hrest
  induction laid generalizing ps with
  | nil => cases hm
  | cons x laid ih =>
    obtain ⟨nx, dx⟩ := x
    obtain ⟨g', t', cs, fuel, p, q, hg', ht', hvar, hd, hq, _⟩ := hv
    rcases List.mem_cons.1 hm with hm | hm
    · cases hm
      obtain rfl := Option.some.inj (hg.symm.trans hg')
      obtain rfl := Option.some.inj (ht.symm.trans ht')
      obtain ⟨xs, m, _, hx, _, hxl, hel⟩ := DataW.trod_array hu hd
      have hds : xs.map (·.1) = ds := (DataW.agg.inj (Prod.mk.inj hx).1).symm
      have key : ∀ (i : Nat) (a : AVal), as[i]? = some a → ∃ v, cs[i]? = some v ∧ VRel (fun _ => none) (fun _ _ => none) a v := by
        intro i a ha
        obtain ⟨d, hd1, hd2⟩ := mapM_get has i a ha
        rw [← hds, List.getElem?_map, Option.map_eq_some_iff] at hd1
        obtain ⟨y, hy, rfl⟩ := hd1
        have hi : i < n := by rw [← hxl]; exact (List.getElem?_eq_some_iff.1 hy).1
        have h1 := hel i hi
        rw [hy, hc, Nat.mul_one] at h1
        obtain ⟨v, hv1, hv2⟩ := lit_trod he h1 hd2
        have h0 : ((cs.toList.drop i).take 1)[0]? = some v := by rw [hv1]; rfl
        exact ⟨v, by simpa using h0, hv2⟩
      refine ⟨lowerL_of fun a ha => ?_, as.mapIdx (fun i _ => cs.getD i undef), VRelL.of_get (by simp) fun i a v ha hv => ?_, fun j v hv => ?_⟩
      · obtain ⟨i, hi⟩ := List.getElem?_of_mem ha
        obtain ⟨v, _, hr⟩ := key i a hi
        exact V_lower (n := 0) (fun _ _ h => by cases h) a v hr
      · obtain ⟨u, hu1, hu2⟩ := key i a ha
        rw [List.getElem?_mapIdx, ha] at hv
        simp only [Option.map_some, Option.some.injEq] at hv
        rw [Array.getD_eq_getD_getElem?, hu1] at hv
        simp only [Option.getD_some] at hv
        rw [← hv]
        exact hu2
      · rw [World.var?_cell hg hvar j]
        rw [List.getElem?_mapIdx] at hv
        cases ha : as[j]? with
        | none => rw [ha] at hv; cases hv
        | some a =>
          obtain ⟨u, hu1, _⟩ := key j a ha
          rw [ha] at hv
          simp only [Option.map_some, Option.some.injEq] at hv
          rw [Array.getD_eq_getD_getElem?, hu1] at hv
          simp only [Option.getD_some] at hv
          rw [← hv]
          exact hu1
    · exact ih hm q hq
end
end Go.AE

namespace Go.AE
section
variable {P : Program} {gl : Nat → Option (List AVal)}

theorem progOK_of {T : FTree} (hT : T.All fun i v => ∃ pf, P.funcs[i]? = some pf ∧ compFunc P gl pf = some v ∧ (pf.name == "runtime.NumGoroutine") = false) : ProgOK P gl T.get := fun f fn h => by
  obtain ⟨pf, h1, h2, h3⟩ := FTree.get_all hT h
  unfold compFunc at h2
  split at h2
  · cases h2
  · rename_i c hb
    split at h2
    · rename_i code rs e1 e2
      cases h2
      exact ⟨pf, c, h1, h3, hb, e1, e2, rfl⟩
    · cases h2

theorem told_nil {W : World} {g : Nat} : lowerL 0 [] = true ∧ ∃ vs : List Value, VRelL (fun _ => none) (fun _ _ => none) [] vs ∧ ∀ (j : Nat) (v : Value), vs[j]? = some v → W.cell? ⟨g, j, none⟩ = some v :=
  ⟨rfl, [], by simp [VRelL], fun j v h => by simp at h⟩
end
end Go.AE
