/- A part of the proof: the abstract executor and what goes through it (part 14). No condition. -/
import Derived.Test.YtgcfnjnahihmdaaGreatDoorMq13
set_option maxRecDepth 100000
namespace Go.Proofs.YtgcfnjnahihmdaaGreatDoor.AE
open Go.AE
def ow : Nat → Flag
  | 0 => .full
  | _ + 1 => .own 4
theorem list_vI (n : Int) : listV 4 [.int .i64 0, .int .i64 0, .str [], .lst [] .full] 1 [(0, .agg [.int .i64 0, .int .i64 n, .str [], .lst [] .full])] = some (.lst [.agg [.int .i64 0, .int .i64 n, .str [], .lst [] .full]] .full) := list_agg1 rfl (by decide) rfl (by simp [AVal.storable]) (by decide)
theorem app_vI {l : List Int} {n : Int} (hl : l.length ≤ 200) : appOK 4 (l.map vI) [.agg [.int .i64 0, .int .i64 n, .str [], .lst [] .full]] = true := by
  have hm : l.length + 1 ≤ limit := by
    unfold limit
    omega
  cases l <;> simp [appOK, vI, AVal.cells, AVal.storable] <;> simpa using hm
def LawInv (l : List Int) (h : List ABox) (e : Bool) (i : Nat) (st : St) : Prop :=
  ∃ tt, st = ⟨tt, h, e⟩ ∧ tt.length = 99 ∧ lkp tt 0 = .lst (l.map (AVal.int .i64)) .no ∧ lkp tt 3 = .lst ((l.take i).map vI) (ow i) ∧ lkp tt 4 = .lst ((l.reverse.take i).map vI) (ow i) ∧ lkp tt 5 = .int .i64 (i : Nat)
theorem law_loop (b : Nat) (l : List Int) (h : List ABox) (e : Bool) (hl : l.length ≤ 200) :
    ∀ k st, (∃ i, i + k = l.length ∧ LawInv l h e i st) → ∃ x st', execW b Wd (.loop l4_0) st = some (x, st') ∧ (x = .exit 0 ∧ LawInv l h e l.length st') := by
  refine loop_rule _ (fun x st' => x = .exit 0 ∧ LawInv l h e l.length st') ?_
  rintro k st ⟨i, hik, tt, rfl, ht, e0, e3, e4, e5⟩
  generalize he : execW b Wd l4_0 _ = r
  rcases Nat.lt_or_ge i l.length with hi | hi
  · have c1 : ilt (i : Int) (l.length : Int) = true := by rw [ilt_eq]; simp; omega
    have hx : ixaV 1 (.lst (l.map (AVal.int .i64)) .no) (.int .i64 (i : Nat)) = some (.iptr [.int .i64 l[i]] 0) := ixaV_get (x := .int .i64 l[i]) (by rw [List.getElem?_map, List.getElem?_eq_getElem hi]; rfl) rfl
    have hj : l.length - 1 - i < l.length := by omega
    have hy : ixaV 1 (.lst (l.map (AVal.int .i64)) .no) (.int .i64 ((l.length - 1 - i : Nat) : Int)) = some (.iptr [.int .i64 l[l.length - 1 - i]] 0) := ixaV_get (x := .int .i64 l[l.length - 1 - i]) (by rw [List.getElem?_map, List.getElem?_eq_getElem hj]; rfl) rfl
    have w := wrap_succ (n := i) (by omega)
    have w1 : IntKind.i64.wrap ((l.length : Int) - 1) = (l.length : Int) - 1 := wrap_id (by omega) (by omega)
    have w2 : IntKind.i64.wrap ((l.length : Int) - 1 - i) = ((l.length - 1 - i : Nat) : Int) := by rw [wrap_id (by omega) (by omega)]; omega
    have a1 : appOK 4 ((l.take i).map vI) [.agg [.int .i64 0, .int .i64 l[i], .str [], .lst [] .full]] = true := app_vI (by rw [List.length_take]; omega)
    have a2 : appOK 4 ((l.reverse.take i).map vI) [.agg [.int .i64 0, .int .i64 l[l.length - 1 - i], .str [], .lst [] .full]] = true := app_vI (by rw [List.length_take, List.length_reverse]; omega)
    have t1 : l.take (i + 1) = l.take i ++ [l[i]] := by rw [List.take_add_one, List.getElem?_eq_getElem hi]; rfl
    have t2 : l.reverse.take (i + 1) = l.reverse.take i ++ [l[l.length - 1 - i]] := by
      rw [List.take_add_one, List.getElem?_eq_getElem (by rw [List.length_reverse]; exact hi), List.getElem_reverse]
      rfl
    cases i with
    | zero =>
      simp only [List.take_zero, List.map_nil, ow] at e3 e4 a1 a2
      simp only [l4_0, sT.1, sC.1, sTA.1, sCA.1, noApp, provA, provE, Src.isTmp, provOf, Src.hangs, AOpd.isT, srcOf, lookV, Nat.testBit, bne, simprocAttr, -Int.reduceNatCast', ht, e0, e3, e4, e5, c1, hx, hy, w, w1, w2, a1, a2, list_vI, fillS, List.length_map] at he
      subst he
      refine .inl ⟨_, k - 1, rfl, by omega, 1, by omega, _, rfl, by simp only [length_up, ht], by simp only [sT.1, sC.1, sTA.1, sCA.1, noApp, provA, provE, Src.isTmp, provOf, Src.hangs, AOpd.isT, srcOf, lookV, Nat.testBit, bne, simprocAttr, -Int.reduceNatCast', ht, e0], ?_, ?_, by simp only [sT.1, sC.1, sTA.1, sCA.1, noApp, provA, provE, Src.isTmp, provOf, Src.hangs, AOpd.isT, srcOf, lookV, Nat.testBit, bne, simprocAttr, -Int.reduceNatCast', ht]⟩
      · rw [t1]
        simp only [sT.1, sC.1, sTA.1, sCA.1, noApp, provA, provE, Src.isTmp, provOf, Src.hangs, AOpd.isT, srcOf, lookV, Nat.testBit, bne, simprocAttr, -Int.reduceNatCast', ht, ow]
        rfl
      · rw [t2]
        simp only [sT.1, sC.1, sTA.1, sCA.1, noApp, provA, provE, Src.isTmp, provOf, Src.hangs, AOpd.isT, srcOf, lookV, Nat.testBit, bne, simprocAttr, -Int.reduceNatCast', ht, ow]
        rfl
    | succ i =>
      simp only [ow] at e3 e4
      simp only [l4_0, sT.1, sC.1, sTA.1, sCA.1, noApp, provA, provE, Src.isTmp, provOf, Src.hangs, AOpd.isT, srcOf, lookV, Nat.testBit, bne, simprocAttr, -Int.reduceNatCast', ht, e0, e3, e4, e5, c1, hx, hy, w, w1, w2, a1, a2, list_vI, fillS, List.length_map] at he
      subst he
      refine .inl ⟨_, k - 1, rfl, by omega, i + 2, by omega, _, rfl, by simp only [length_up, ht], by simp only [sT.1, sC.1, sTA.1, sCA.1, noApp, provA, provE, Src.isTmp, provOf, Src.hangs, AOpd.isT, srcOf, lookV, Nat.testBit, bne, simprocAttr, -Int.reduceNatCast', ht, e0], ?_, ?_, by simp only [sT.1, sC.1, sTA.1, sCA.1, noApp, provA, provE, Src.isTmp, provOf, Src.hangs, AOpd.isT, srcOf, lookV, Nat.testBit, bne, simprocAttr, -Int.reduceNatCast', ht]⟩
      · rw [t1, List.map_append]
        simp only [sT.1, sC.1, sTA.1, sCA.1, noApp, provA, provE, Src.isTmp, provOf, Src.hangs, AOpd.isT, srcOf, lookV, Nat.testBit, bne, simprocAttr, -Int.reduceNatCast', ht, ow]
        rfl
      · rw [t2, List.map_append]
        simp only [sT.1, sC.1, sTA.1, sCA.1, noApp, provA, provE, Src.isTmp, provOf, Src.hangs, AOpd.isT, srcOf, lookV, Nat.testBit, bne, simprocAttr, -Int.reduceNatCast', ht, ow]
        rfl
  · have c1 : ilt (i : Int) (l.length : Int) = false := by rw [ilt_eq]; simp; omega
    have hil : i = l.length := by omega
    subst hil
    simp only [l4_0, sT.1, sC.1, sTA.1, sCA.1, noApp, provA, provE, Src.isTmp, provOf, Src.hangs, AOpd.isT, srcOf, lookV, Nat.testBit, bne, simprocAttr, -Int.reduceNatCast', ht, e0, e5, c1, List.length_map] at he
    subst he
    exact .inr ⟨_, _, rfl, by simp, rfl, _, rfl, by simp only [length_up, ht], by simp only [sT.1, sC.1, noApp, lookV, Nat.testBit, simprocAttr, -Int.reduceNatCast', ht, e0], by simp only [sT.1, sC.1, sTA.1, sCA.1, noApp, provA, provE, Src.isTmp, provOf, Src.hangs, AOpd.isT, srcOf, lookV, Nat.testBit, bne, simprocAttr, -Int.reduceNatCast', ht, e3], by simp only [sT.1, sC.1, sTA.1, sCA.1, noApp, provA, provE, Src.isTmp, provOf, Src.hangs, AOpd.isT, srcOf, lookV, Nat.testBit, bne, simprocAttr, -Int.reduceNatCast', ht, e4], by simp only [sT.1, sC.1, noApp, lookV, Nat.testBit, simprocAttr, -Int.reduceNatCast', ht, e5]⟩
end Go.Proofs.YtgcfnjnahihmdaaGreatDoor.AE
