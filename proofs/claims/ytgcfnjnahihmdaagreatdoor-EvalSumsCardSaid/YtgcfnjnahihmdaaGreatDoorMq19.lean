/- A part of the proof: the abstract executor and what goes through it (part 19). No condition. -/
import Derived.Test.YtgcfnjnahihmdaaGreatDoorMq17
import Derived.Test.YtgcfnjnahihmdaaGreatDoorMq18
import Derived.Test.YtgcfnjnahihmdaaGreatDoorMq2
set_option maxRecDepth 100000
namespace Go.Proofs.YtgcfnjnahihmdaaGreatDoor.AE
open Go.AE
theorem sum_app (l m : List Int) : sumL (l ++ m) = sumL l + sumL m := by
  induction l with
  | nil => simp [sumL]
  | cons n l ih => simp only [List.cons_append, sumL, ih]; omega
theorem sum_rev (l : List Int) : sumL l.reverse = sumL l := by
  induction l with
  | nil => rfl
  | cons n l ih => simp only [List.reverse_cons, sum_app, sumL, ih]; omega
theorem lit6S (base : Nat) (h : List ABox) : hop base (.lit 6 [.int .i64 0, .int .i64 0, .str [], .str [], .int .i64 0, .lst [] .full] 1 [0]) [.agg [.int .i64 9, .int .i64 0, .str [], .str [], .int .i64 0, .lst [] .full]] h = some (.sl h.length 0 1 1 0, h ++ [.cells [.int .i64 9, .int .i64 0, .str [], .str [], .int .i64 0, .lst [] .full]], false) := by kernel_rfl
theorem list1S (xs : List AVal) (f : Flag) : listV 1 [.lst [] .full] 1 [(0, .lst xs f)] = some (.lst [.lst xs f] .full) := by kernel_rfl
theorem leave_0S (b : Bool) (H : List ABox) (e : Bool) : leave 0 (.ret (.bool b)) H e = (.ret (.bool b), [], e) := by simp [leave, AVal.lower]
def fd : List Int → Flag
  | [] => .full
  | _ :: _ => .no
theorem fd_or (l : List Int) : fd l = .no ∨ fd l = .full := by cases l <;> simp [fd]
theorem law_big (l : List Int) (hl : 200 < l.length) : ∃ e', Wd (.fn 4 [] []) [.lst (l.map (AVal.int .i64)) .no] [] = some (.ret (.bool true), [], e') := by
  obtain ⟨R, e, h1, Q, e', h2⟩ := awake_0x
  have c1 : ilt 200 (l.length : Int) = true := by rw [ilt_eq]; simp; omega
  generalize hw : Wd (.fn 4 [] []) _ [] = w
  rw [Wd_fn rfl (show T.get 4 = some c4 by kernel_rfl)] at hw
  simp only [c4, sT.1, sC.1, sTA.1, sCA.1, noApp, provA, provE, Src.isTmp, provOf, Src.hangs, AOpd.isT, srcOf, lookV, Nat.testBit, bne, simprocAttr, -Int.reduceNatCast', h1, h2, c1, List.length_map] at hw
  subst hw
  exact ⟨_, congrArg some (leave_0S _ _ _)⟩
theorem law_fit (l : List Int) (hs : small l) (hl : l.length ≤ 200) : ∃ e', Wd (.fn 4 [] []) [.lst (l.map (AVal.int .i64)) .no] [] = some (.ret (.bool true), [], e') := by
  obtain ⟨R, e, h1, -⟩ := awake_0x
  have c1 : ilt 200 (l.length : Int) = false := by rw [ilt_eq]; simp; omega
  generalize hw : Wd (.fn 4 [] []) _ [] = w
  rw [Wd_fn rfl (show T.get 4 = some c4 by kernel_rfl)] at hw
  simp only [c4, sT.1, sC.1, sTA.1, sCA.1, noApp, provA, provE, Src.isTmp, provOf, Src.hangs, AOpd.isT, srcOf, lookV, Nat.testBit, bne, simprocAttr, -Int.reduceNatCast', h1, c1, List.length_map] at hw
  generalize hr : execW _ Wd (.loop l4_0) _ = r at hw
  obtain ⟨x, st', rfl, rfl, tt, rfl, ht, e0, e3, e4, e5⟩ := known hr (law_loop _ l R e hl l.length _ ⟨0, by omega, _, rfl, by simp only [sT.1, sC.1, noApp, lookV, Nat.testBit, simprocAttr, -Int.reduceNatCast'], by simp only [sT.1, sC.1, noApp, lookV, Nat.testBit, simprocAttr, -Int.reduceNatCast'], by simp only [sT.1, sC.1, noApp, lookV, Nat.testBit, simprocAttr, -Int.reduceNatCast', ow, List.take_zero, List.map_nil], by simp only [sT.1, sC.1, noApp, lookV, Nat.testBit, simprocAttr, -Int.reduceNatCast', ow, List.take_zero, List.map_nil], by simp only [sT.1, sC.1, noApp, lookV, Nat.testBit, simprocAttr, -Int.reduceNatCast', Int.natCast_zero]⟩)
  have hrl : l.reverse.length ≤ 200 := by rw [List.length_reverse]; exact hl
  have hrs : small l.reverse := fun x hx => hs x (List.mem_reverse.1 hx)
  rw [List.take_length] at e3
  rw [List.take_of_length_le (by rw [List.length_reverse]; exact Nat.le_refl _)] at e4
  have v1 := evalS_ok (g := R ++ [.cells nodeS]) R.length l (fd l) (fd_or l) hs hl (by simp) (by simp)
  have v2 := fun n => evalS_ok (g := R ++ [.cells nodeS, .cells [.int .i64 0, .int .i64 n, .str [], .lst [] .full]]) R.length l.reverse (fd l) (fd_or l) hrs hrl (by simp) (by simp)
  have v3 := fun m => sumR_ok (R ++ m) l (fd l) (fd_or l) hs hl
  rw [sum_rev] at v2
  simp only [envS, nodeS, vI] at v1 v2
  have z0 : ((0 : Int) == 0) = true := by kernel_rfl
  have z2 : ((2 : Int) == 0) = false := by kernel_rfl
  have z22 : ((2 : Int) == 2) = true := by kernel_rfl
  have hE : (fits (sumL l) = true ∧ outE (sumL l) = 0) ∨ (fits (sumL l) = false ∧ outE (sumL l) = 2 ∧ outN (sumL l) = 0) := by
    cases h : fits (sumL l) <;> simp [outE, outN, h]
  generalize outN (sumL l) = n at *
  generalize outE (sumL l) = m at *
  have key : ∀ F : Flag, fd l = F → ((ow l.length = .full ∧ F = .full) ∨ (ow l.length = .own 4 ∧ F = .no)) → ∃ e', w = some (.ret (.bool true), [], e') := by
    rintro F hF hc
    rw [hF] at v1 v2 v3
    rcases hE with ⟨f1, rfl⟩ | ⟨f1, rfl, rfl⟩ <;> rcases hc with ⟨h8, rfl⟩ | ⟨h8, rfl⟩ <;> rw [h8] at e3 e4 <;> rw [f1] at v3
    all_goals simp only [sT.1, sC.1, sTA.1, sCA.1, noApp, provA, provE, Src.isTmp, provOf, Src.hangs, AOpd.isT, srcOf, lookV, Nat.testBit, bne, simprocAttr, -Int.reduceNatCast', ht, e0, e3, e4, e5, fillS, op_hx, hxW_some, plain_hx, effs_hx, isApp_hx, lit6S, list1S, lenV_sl, dim_sl, drain_sl, stor_sl, cells_sl, lower_sl, v1, v2, v3, z0, z2, z22, beq_self_eq_true, leave_0S] at hw
    all_goals (subst hw; exact ⟨_, rfl⟩)
  cases l with
  | nil => exact key .full rfl (.inl ⟨rfl, rfl⟩)
  | cons => exact key .no rfl (.inr ⟨rfl, rfl⟩)
theorem law_ok (l : List Int) (hs : small l) : ∃ e', Wd (.fn 4 [] []) [.lst (l.map (AVal.int .i64)) .no] [] = some (.ret (.bool true), [], e') := by
  rcases Nat.lt_or_ge 200 l.length with h | h
  · exact law_big l h
  · exact law_fit l hs h
theorem Wd_iff {fv : AVal} {aS : List AVal} {h : List ABox} (x : CRes × List ABox × Bool) : Wd fv aS h = some x ↔ ∃ n, run T.get X n fv aS h = some x := W_iff xfine x
end Go.Proofs.YtgcfnjnahihmdaaGreatDoor.AE
