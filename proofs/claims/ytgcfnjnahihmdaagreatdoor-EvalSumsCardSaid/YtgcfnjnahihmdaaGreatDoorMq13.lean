/- A part of the proof: the abstract executor and what goes through it (part 13). No condition. -/
import Derived.Test.YtgcfnjnahihmdaaGreatDoorMq12
set_option maxRecDepth 100000
namespace Go.Proofs.YtgcfnjnahihmdaaGreatDoor.AE
open Go.AE
theorem wrap_id {n : Int} (h1 : -9223372036854775808 ≤ n) (h2 : n ≤ 9223372036854775807) : IntKind.i64.wrap n = n := by
  rw [IntKind.wrap_i64]
  omega
theorem wrap_succ {n : Nat} (h : n < 9223372036854775807) : IntKind.i64.wrap ((n : Int) + 1) = ((n + 1 : Nat) : Int) := by
  rw [wrap_id (by omega) (by omega)]
  rfl
section
variable {h : List ABox}
theorem right0_ok (n r : Int) : Wd (.fn 48 [] []) [vI n, .int .i64 r] h = some (.ret (.bool true), h, false) := by
  rw [Wd_fn rfl (show T.get 48 = some c48 by kernel_rfl)]
  simp only [c48, sT.1, sC.1, noApp, lookV, Nat.testBit, simprocAttr, -Int.reduceNatCast', fillS, vI]
  rfl
theorem right_ok (n : Int) : Wd (.fn 36 [] []) [vI n] h = some (.ret (.bool true), h, false) := by
  rw [Wd_fn rfl (show T.get 36 = some c36 by kernel_rfl)]
  have e := fun l => right0_ok (h := h ++ l) n 3
  simp only [vI] at e
  simp only [c36, sT.1, sC.1, noApp, lookV, Nat.testBit, simprocAttr, -Int.reduceNatCast', fillS, vI, e]
def two64 : Int := 18446744073709551616
def uw (x : Int) : Int := IntKind.u64.wrap x
def cy (S n : Int) : Int := (S % 18446744073709551616 + n % 18446744073709551616) / 18446744073709551616
def loS (S : Int) : Int := S % 18446744073709551616
def hiS (S : Int) : Int := (S / 18446744073709551616) % 18446744073709551616
theorem add64_is (x y c : Int) : Wd (.fn 49 [] []) [.int .u64 x, .int .u64 y, .int .u64 c] h = add64X Wd [.int .u64 x, .int .u64 y, .int .u64 c] h := by
  rw [show Wd = W T.get X from rfl, W_ext xfine (show X 49 = some add64X from rfl)]
  rfl
theorem add64_eq {x y c : Int} (h1 : 0 ≤ x) (h2 : 0 ≤ y) (h3 : 0 ≤ c) (h4 : c ≤ 1) : Wd (.fn 49 [] []) [.int .u64 x, .int .u64 y, .int .u64 c] h = some (.ret (.tup [.int .u64 ((x + y + c) % 18446744073709551616), .int .u64 ((x + y + c) / 18446744073709551616)]), h, false) := by
  rw [add64_is]
  unfold add64X
  simp only [ile_eq, decide_eq_true h1, decide_eq_true h2, decide_eq_true h3, decide_eq_true h4, Bool.and_true, cond_true]
theorem lo_step (S n : Int) : Wd (.fn 49 [] []) [.int .u64 (loS S), .int .u64 (IntKind.u64.wrap n), .int .u64 0] h = some (.ret (.tup [.int .u64 (loS (S + n)), .int .u64 (cy S n)]), h, false) := by
  rw [IntKind.wrap_u64, add64_eq (by unfold loS; omega) (by omega) (by omega) (by omega)]
  unfold loS cy
  have e : (S % 18446744073709551616 + n % 18446744073709551616 + 0) % 18446744073709551616 = (S + n) % 18446744073709551616 := by omega
  rw [e, Int.add_zero]
theorem hi_step (S : Int) {n : Int} (hn : I64 n) : ∃ c, Wd (.fn 49 [] []) [.int .u64 (hiS S), .int .u64 (IntKind.u64.wrap (n / 9223372036854775808)), .int .u64 (cy S n)] h = some (.ret (.tup [.int .u64 (hiS (S + n)), .int .u64 c]), h, false) := by
  obtain ⟨n1, n2⟩ := hn
  refine ⟨(hiS S + n / 9223372036854775808 % 18446744073709551616 + cy S n) / 18446744073709551616, ?_⟩
  rw [IntKind.wrap_u64, add64_eq (by unfold hiS; omega) (by omega) (by unfold cy; omega) (by unfold cy; omega)]
  have e : (hiS S + n / 9223372036854775808 % 18446744073709551616 + cy S n) % 18446744073709551616 = hiS (S + n) := by
    have e1 : (S + n) / 18446744073709551616 = S / 18446744073709551616 + n / 9223372036854775808 + cy S n := by
      unfold cy
      omega
    unfold hiS
    rw [e1]
    generalize S / 18446744073709551616 = a
    generalize n / 9223372036854775808 = b
    generalize cy S n = c
    omega
  rw [e]
theorem bin_sar (n : Int) : binV .shr (.int .i64 n) (.int .u64 63) = some (.int .i64 (n / 9223372036854775808)) := by
  have h : n.fdiv (2 ^ (min 63 64)) = n / 9223372036854775808 := by
    rw [Int.fdiv_eq_ediv_of_nonneg _ (by decide)]
    simp
  simp only [binV, intBin, IntKind.bits]
  rw [if_neg (by decide)]
  exact congrArg (fun z => some (AVal.int .i64 z)) h
def sumL : List Int → Int
  | [] => 0
  | n :: l => n + sumL l
def small (l : List Int) : Prop := ∀ n ∈ l, I64 n
theorem sum_small : ∀ {l : List Int}, small l → -9223372036854775808 * (l.length : Int) ≤ sumL l ∧ sumL l ≤ 9223372036854775808 * (l.length : Int)
  | [], _ => by simp [sumL]
  | n :: l, hs => by
    obtain ⟨h1, h2⟩ := sum_small (l := l) (fun x hx => hs x (by simp [hx]))
    obtain ⟨n1, n2⟩ := hs n (by simp)
    simp only [sumL, List.length_cons, Int.natCast_add]
    omega
theorem sum_fits {T : Int} (hT : -9223372036854775808 * 200 ≤ T ∧ T ≤ 9223372036854775808 * 200) : (hiS T == IntKind.u64.wrap (IntKind.i64.wrap (loS T) / 9223372036854775808)) = fits T ∧ (fits T = true → IntKind.i64.wrap (loS T) = T) := by
  obtain ⟨q, o, e, o1, o2⟩ : ∃ q o : Int, T = 18446744073709551616 * q + o ∧ 0 ≤ o ∧ o < 18446744073709551616 := ⟨T / 18446744073709551616, T % 18446744073709551616, by omega, by omega, by omega⟩
  have eL : loS T = o := by unfold loS; omega
  have eH : T / 18446744073709551616 = q := by omega
  have q1 : -200 ≤ q ∧ q ≤ 200 := by omega
  unfold hiS
  rw [eL, eH]
  rcases Int.lt_or_le o 9223372036854775808 with ho | ho
  · have ew : IntKind.i64.wrap o = o := by rw [IntKind.wrap_i64]; omega
    rw [ew, show o / 9223372036854775808 = 0 by omega, show IntKind.u64.wrap 0 = 0 by kernel_rfl, Bool.eq_iff_iff, beq_iff_eq, fits_iff, I64]
    omega
  · have ew : IntKind.i64.wrap o = o - 18446744073709551616 := by rw [IntKind.wrap_i64]; omega
    rw [ew, show (o - 18446744073709551616) / 9223372036854775808 = -1 by omega, show IntKind.u64.wrap (-1) = 18446744073709551615 by kernel_rfl, Bool.eq_iff_iff, beq_iff_eq, fits_iff, I64]
    omega
end
section
variable (h : List ABox)
theorem sum_ok (l : List Int) (f : Flag) (hf : f = .no ∨ f = .full) (hs : small l) (hl : l.length ≤ 200) : Wd (.fn 37 [] []) [.lst (l.map vI) f] h = some (.ret (rI (outN (sumL l)) (outE (sumL l))), h, false) := by
  have hd : ∀ xs, (AVal.lst xs f).dim = .lst xs f := fun xs => by rcases hf with rfl | rfl <;> rfl
  have loop : ∀ k st, (∃ tt g i S, st = ⟨tt, g, false⟩ ∧ tt.length = 53 ∧ g.take h.length = h ∧ h.length < g.length ∧ g[h.length]? = some (.cells [.int .i64 0, .int .i64 0, .str [], .lst [] .full, .int .i64 0]) ∧ lkp tt 2 = .ptr h.length 0 ∧ lkp tt 9 = .lst (l.map vI) f ∧ lkp tt 10 = .int .i64 (l.length : Nat) ∧ lkp tt 11 = .int .i64 (i : Nat) ∧ lkp tt 3 = .int .u64 (hiS S) ∧ lkp tt 4 = .int .u64 (loS S) ∧ i + k = l.length ∧ S + sumL (l.drop i) = sumL l) →
      ∃ x st', execW h.length Wd (.loop l37_0) st = some (x, st') ∧ (x = .exit 0 ∧ ∃ tt g, st' = ⟨tt, g, false⟩ ∧ tt.length = 53 ∧ g.take h.length = h ∧ h.length < g.length ∧ g[h.length]? = some (.cells [.int .i64 0, .int .i64 0, .str [], .lst [] .full, .int .i64 0]) ∧ lkp tt 2 = .ptr h.length 0 ∧ lkp tt 3 = .int .u64 (hiS (sumL l)) ∧ lkp tt 4 = .int .u64 (loS (sumL l))) := by
    refine loop_rule _ (fun x st' => (x = .exit 0 ∧ ∃ tt g, st' = ⟨tt, g, false⟩ ∧ tt.length = 53 ∧ g.take h.length = h ∧ h.length < g.length ∧ g[h.length]? = some (.cells [.int .i64 0, .int .i64 0, .str [], .lst [] .full, .int .i64 0]) ∧ lkp tt 2 = .ptr h.length 0 ∧ lkp tt 3 = .int .u64 (hiS (sumL l)) ∧ lkp tt 4 = .int .u64 (loS (sumL l)))) ?_
    rintro k st ⟨tt, g, i, S, rfl, ht, hg, hlt, hb, e2, e9, e10, e11, e3, e4, hik, hS⟩
    generalize he : execW h.length Wd l37_0 _ = r
    rcases Nat.lt_or_ge i l.length with hi | hi
    · have c1 : ilt (i : Int) (l.length : Int) = true := by rw [ilt_eq]; simp; omega
      have hx : ixaV 4 (.lst (l.map vI) f) (.int .i64 (i : Nat)) = some (.iptr [.int .i64 0, .int .i64 l[i], .str [], .lst [] .full] 0) := ixaV_get (x := vI l[i]) (by rw [List.getElem?_map, List.getElem?_eq_getElem hi]; rfl) rfl
      have w := wrap_succ (n := i) (by omega)
      have hr := fun m => right_ok (h := m) l[i]
      simp only [vI] at hr
      obtain ⟨c, hh⟩ := hi_step (h := g ++ [.cells [.int .i64 0, .int .i64 l[i], .str [], .lst [] .full]]) S (hs _ (List.getElem_mem hi))
      rw [List.drop_eq_getElem_cons hi, sumL] at hS
      simp only [l37_0, sT.1, sC.1, noApp, lookV, Nat.testBit, simprocAttr, -Int.reduceNatCast', ht, e2, e9, e10, e11, e3, e4, c1, hd, hx, w, hr, lo_step, hh, bin_sar, fillS] at he
      subst he
      exact .inl ⟨_, k - 1, rfl, by omega, _, _, i + 1, S + l[i], rfl, by simp only [length_up, ht], by rw [List.take_append_of_le_length (by omega), hg], by simp only [List.length_append]; omega, by rw [List.getElem?_append_left hlt, hb], by simp only [sT.1, sC.1, noApp, lookV, Nat.testBit, simprocAttr, -Int.reduceNatCast', ht, e2], by simp only [sT.1, sC.1, noApp, lookV, Nat.testBit, simprocAttr, -Int.reduceNatCast', ht, e9], by simp only [sT.1, sC.1, noApp, lookV, Nat.testBit, simprocAttr, -Int.reduceNatCast', ht, e10], by simp only [sT.1, sC.1, noApp, lookV, Nat.testBit, simprocAttr, -Int.reduceNatCast', ht], by simp only [sT.1, sC.1, noApp, lookV, Nat.testBit, simprocAttr, -Int.reduceNatCast', ht], by simp only [sT.1, sC.1, noApp, lookV, Nat.testBit, simprocAttr, -Int.reduceNatCast', ht], by omega, by omega⟩
    · have c1 : ilt (i : Int) (l.length : Int) = false := by rw [ilt_eq]; simp; omega
      simp only [l37_0, sT.1, sC.1, noApp, lookV, Nat.testBit, simprocAttr, -Int.reduceNatCast', ht, e10, e11, c1] at he
      subst he
      rw [List.drop_eq_nil_of_le hi, sumL, Int.add_zero] at hS
      subst hS
      exact .inr ⟨_, _, rfl, by simp, rfl, _, _, rfl, by simp only [length_up, ht], hg, hlt, hb, by simp only [sT.1, sC.1, noApp, lookV, Nat.testBit, simprocAttr, -Int.reduceNatCast', ht, e2], by simp only [sT.1, sC.1, noApp, lookV, Nat.testBit, simprocAttr, -Int.reduceNatCast', ht, e3], by simp only [sT.1, sC.1, noApp, lookV, Nat.testBit, simprocAttr, -Int.reduceNatCast', ht, e4]⟩
  have hT : -9223372036854775808 * 200 ≤ sumL l ∧ sumL l ≤ 9223372036854775808 * 200 := by
    obtain ⟨h1, h2⟩ := sum_small hs
    omega
  obtain ⟨f1, f2⟩ := sum_fits hT
  have d0 : loS 0 = 0 := by kernel_rfl
  have d1 : hiS 0 = 0 := by kernel_rfl
  rw [Wd_fn rfl (show T.get 37 = some c37 by kernel_rfl)]
  simp only [c37, sT.1, sC.1, noApp, lookV, Nat.testBit, simprocAttr, -Int.reduceNatCast', hd]
  generalize hr : execW h.length Wd (.loop l37_0) _ = r
  obtain ⟨x, st', rfl, rfl, tt, g, rfl, ht, hg, hlt, hb, e2, e3, e4⟩ := known hr (loop l.length _ ⟨_, _, 0, 0, rfl, by simp only [sT.1, sC.1, noApp, lookV, Nat.testBit, simprocAttr, -Int.reduceNatCast'], by simp, by simp, by simp, by simp only [sT.1, sC.1, noApp, lookV, Nat.testBit, simprocAttr, -Int.reduceNatCast'], by simp only [sT.1, sC.1, noApp, lookV, Nat.testBit, simprocAttr, -Int.reduceNatCast'], by simp only [sT.1, sC.1, noApp, lookV, Nat.testBit, simprocAttr, -Int.reduceNatCast', List.length_map], by simp only [sT.1, sC.1, noApp, lookV, Nat.testBit, simprocAttr, -Int.reduceNatCast', Int.natCast_zero], by simp only [sT.1, sC.1, noApp, lookV, Nat.testBit, simprocAttr, -Int.reduceNatCast', d1], by simp only [sT.1, sC.1, noApp, lookV, Nat.testBit, simprocAttr, -Int.reduceNatCast', d0], by omega, by simp⟩)
  cases hf : fits (sumL l) with
  | true =>
    rw [hf] at f1 f2
    have f2 := f2 rfl
    rw [f2] at f1
    simp only [sT.1, sC.1, noApp, lookV, Nat.testBit, simprocAttr, -Int.reduceNatCast', ht, e2, e3, e4, f1, f2, bin_sar, fillS, whole_ok, wrong_ok, hb, hg, hlt, rI]
    have htk : ∀ b, (g.set h.length b).take h.length = h := fun b => by rw [List.take_set_of_le (by omega), hg]
    simp only [outN, outE, hf, cond_true]
    exact congrArg some (leave_cut (htk _) rfl)
  | false =>
    rw [hf] at f1
    simp only [sT.1, sC.1, noApp, lookV, Nat.testBit, simprocAttr, -Int.reduceNatCast', ht, e2, e3, e4, f1, bin_sar, fillS, whole_ok, wrong_ok, hb, hg, hlt, rI]
    have htk : ∀ b, (g.set h.length b).take h.length = h := fun b => by rw [List.take_set_of_le (by omega), hg]
    simp only [outN, outE, hf, cond_false]
    exact congrArg some (leave_cut (htk _) rfl)
def sLo : List Int → Int
  | [] => 0
  | n :: l => n % 4294967296 + sLo l
def sHi : List Int → Int
  | [] => 0
  | n :: l => n / 4294967296 + sHi l
theorem halves : ∀ l, sumL l = 4294967296 * sHi l + sLo l
  | [] => rfl
  | n :: l => by simp only [sumL, sHi, sLo, halves l]; omega
theorem sLo_le : ∀ l, 0 ≤ sLo l ∧ sLo l ≤ 4294967296 * (l.length : Int)
  | [] => by simp [sLo]
  | n :: l => by
    have := sLo_le l
    simp only [sLo, List.length_cons, Int.natCast_add]
    omega
theorem sHi_le : ∀ {l}, small l → -2147483648 * (l.length : Int) ≤ sHi l ∧ sHi l ≤ 2147483648 * (l.length : Int)
  | [], _ => by simp [sHi]
  | n :: l, hs => by
    obtain ⟨h1, h2⟩ := sHi_le (l := l) (fun x hx => hs x (by simp [hx]))
    obtain ⟨n1, n2⟩ := hs n (by simp)
    simp only [sHi, List.length_cons, Int.natCast_add]
    omega
theorem tm (n : Int) : (n.tmod 4294967296 < 0 → n.tmod 4294967296 + 4294967296 = n % 4294967296) ∧ (0 ≤ n.tmod 4294967296 → n.tmod 4294967296 = n % 4294967296) ∧ -4294967296 < n.tmod 4294967296 := by
  rcases Int.le_total 0 n with h | h
  · rw [Int.tmod_eq_emod_of_nonneg h]
    omega
  · have e : n.tmod 4294967296 = -((-n) % 4294967296) := by rw [← Int.tmod_eq_emod_of_nonneg (by omega), Int.neg_tmod, Int.neg_neg]
    omega
theorem td (n : Int) : (n - n % 4294967296).tdiv 4294967296 = n / 4294967296 := by
  rw [show n - n % 4294967296 = n / 4294967296 * 4294967296 by omega, Int.mul_tdiv_cancel _ (by decide)]
theorem sumR_ok (l : List Int) (f : Flag) (hf : f = .no ∨ f = .full) (hs : small l) (hl : l.length ≤ 200) : Wd (.fn 8 [] []) [.lst (l.map vI) f] h = some (.ret (.tup [.int .i64 (outN (sumL l)), .bool (fits (sumL l))]), h, false) := by
  have hd : ∀ xs, (AVal.lst xs f).dim = .lst xs f := fun xs => by rcases hf with rfl | rfl <;> rfl
  have loop : ∀ k st, (∃ tt i A B, st = ⟨tt, h, false⟩ ∧ tt.length = 51 ∧ lkp tt 0 = .lst (l.map vI) f ∧ lkp tt 6 = .int .i64 (i : Nat) ∧ lkp tt 4 = .int .i64 A ∧ lkp tt 5 = .int .i64 B ∧ i + k = l.length ∧ A + sHi (l.drop i) = sHi l ∧ B + sLo (l.drop i) = sLo l ∧ -2147483648 * (i : Int) ≤ A ∧ A ≤ 2147483648 * (i : Int) ∧ 0 ≤ B ∧ B ≤ 4294967296 * (i : Int)) →
      ∃ x st', execW h.length Wd (.loop l8_0) st = some (x, st') ∧ (x = .exit 0 ∧ ∃ tt, st' = ⟨tt, h, false⟩ ∧ tt.length = 51 ∧ lkp tt 4 = .int .i64 (sHi l) ∧ lkp tt 5 = .int .i64 (sLo l)) := by
    refine loop_rule _ (fun x st' => (x = .exit 0 ∧ ∃ tt, st' = ⟨tt, h, false⟩ ∧ tt.length = 51 ∧ lkp tt 4 = .int .i64 (sHi l) ∧ lkp tt 5 = .int .i64 (sLo l))) ?_
    rintro k st ⟨tt, i, A, B, rfl, ht, e0, e6, e4, e5, hik, hA, hB, a1, a2, b1, b2⟩
    generalize he : execW h.length Wd l8_0 _ = r
    rcases Nat.lt_or_ge i l.length with hi | hi
    · have c1 : ilt (i : Int) (l.length : Int) = true := by rw [ilt_eq]; simp; omega
      have hx : ixaV 4 (.lst (l.map vI) f) (.int .i64 (i : Nat)) = some (.iptr [.int .i64 0, .int .i64 l[i], .str [], .lst [] .full] 0) := ixaV_get (x := vI l[i]) (by rw [List.getElem?_map, List.getElem?_eq_getElem hi]; rfl) rfl
      have w := wrap_succ (n := i) (by omega)
      obtain ⟨n1, n2⟩ := hs _ (List.getElem_mem hi)
      rw [List.drop_eq_getElem_cons hi, sHi] at hA
      rw [List.drop_eq_getElem_cons hi, sLo] at hB
      simp only [l8_0, sT.1, sC.1, noApp, lookV, Nat.testBit, simprocAttr, -Int.reduceNatCast', ht, e0, e6, e4, e5, c1, hd, hx, w, List.length_map] at he
      obtain ⟨t1, t2, t3⟩ := tm l[i]
      have d := td l[i]
      generalize l[i] = n at *
      have v1 : IntKind.i64.wrap (B + n % 4294967296) = B + n % 4294967296 := wrap_id (by omega) (by omega)
      have v2 : IntKind.i64.wrap (n - n % 4294967296) = n - n % 4294967296 := wrap_id (by omega) (by omega)
      have v3 : IntKind.i64.wrap (n / 4294967296) = n / 4294967296 := wrap_id (by omega) (by omega)
      have v4 : IntKind.i64.wrap (A + n / 4294967296) = A + n / 4294967296 := wrap_id (by omega) (by omega)
      cases hb : ilt (n.tmod 4294967296) 0 with
      | true =>
        rw [ilt_eq, decide_eq_true_eq] at hb
        have t1 := t1 hb
        have v0 : IntKind.i64.wrap (n.tmod 4294967296 + 4294967296) = n % 4294967296 := by rw [t1]; exact wrap_id (by omega) (by omega)
        have hb : ilt (n.tmod 4294967296) 0 = true := by rw [ilt_eq, decide_eq_true hb]
        simp only [hb, sT.1, sC.1, noApp, lookV, Nat.testBit, simprocAttr, -Int.reduceNatCast', ht, e0, e6, e4, e5, hd, hx, w, v0, v1, v2, v3, v4, d] at he
        subst he
        refine .inl ⟨_, k - 1, rfl, by omega, _, i + 1, A + n / 4294967296, B + n % 4294967296, rfl, by simp only [length_up, ht], by simp only [sT.1, sC.1, noApp, lookV, Nat.testBit, simprocAttr, -Int.reduceNatCast', ht, e0], by simp only [sT.1, sC.1, noApp, lookV, Nat.testBit, simprocAttr, -Int.reduceNatCast', ht], by simp only [sT.1, sC.1, noApp, lookV, Nat.testBit, simprocAttr, -Int.reduceNatCast', ht], by simp only [sT.1, sC.1, noApp, lookV, Nat.testBit, simprocAttr, -Int.reduceNatCast', ht], by omega, by omega, by omega, ?_, ?_, ?_, ?_⟩ <;> first | omega | (rw [Int.natCast_add]; omega)
      | false =>
        rw [ilt_eq, decide_eq_false_iff_not] at hb
        have t2 := t2 (by omega)
        have hb : ilt (n % 4294967296) 0 = false := by rw [← t2, ilt_eq, decide_eq_false hb]
        simp only [hb, sT.1, sC.1, noApp, lookV, Nat.testBit, simprocAttr, -Int.reduceNatCast', ht, e0, e6, e4, e5, hd, hx, w, t2, v1, v2, v3, v4, d] at he
        subst he
        refine .inl ⟨_, k - 1, rfl, by omega, _, i + 1, A + n / 4294967296, B + n % 4294967296, rfl, by simp only [length_up, ht], by simp only [sT.1, sC.1, noApp, lookV, Nat.testBit, simprocAttr, -Int.reduceNatCast', ht, e0], by simp only [sT.1, sC.1, noApp, lookV, Nat.testBit, simprocAttr, -Int.reduceNatCast', ht], by simp only [sT.1, sC.1, noApp, lookV, Nat.testBit, simprocAttr, -Int.reduceNatCast', ht], by simp only [sT.1, sC.1, noApp, lookV, Nat.testBit, simprocAttr, -Int.reduceNatCast', ht], by omega, by omega, by omega, ?_, ?_, ?_, ?_⟩ <;> first | omega | (rw [Int.natCast_add]; omega)
    · have c1 : ilt (i : Int) (l.length : Int) = false := by rw [ilt_eq]; simp; omega
      simp only [l8_0, sT.1, sC.1, noApp, lookV, Nat.testBit, simprocAttr, -Int.reduceNatCast', ht, e0, e6, c1, hd, List.length_map] at he
      subst he
      rw [List.drop_eq_nil_of_le hi, sHi, Int.add_zero] at hA
      rw [List.drop_eq_nil_of_le hi, sLo, Int.add_zero] at hB
      subst hA
      subst hB
      exact .inr ⟨_, _, rfl, by simp, rfl, _, rfl, by simp only [length_up, ht], by simp only [sT.1, sC.1, noApp, lookV, Nat.testBit, simprocAttr, -Int.reduceNatCast', ht, e4], by simp only [sT.1, sC.1, noApp, lookV, Nat.testBit, simprocAttr, -Int.reduceNatCast', ht, e5]⟩
  have hT : -9223372036854775808 * 200 ≤ sumL l ∧ sumL l ≤ 9223372036854775808 * 200 := by
    obtain ⟨h1, h2⟩ := sum_small hs
    omega
  have hh := halves l
  obtain ⟨p1, p2⟩ := sLo_le l
  obtain ⟨p3, p4⟩ := sHi_le hs
  have g1 : (sLo l).tdiv 4294967296 = sLo l / 4294967296 := Int.tdiv_eq_ediv_of_nonneg p1
  have g2 : (sLo l).tmod 4294967296 = sLo l % 4294967296 := Int.tmod_eq_emod_of_nonneg p1
  have v1 : IntKind.i64.wrap (sLo l / 4294967296) = sLo l / 4294967296 := wrap_id (by omega) (by omega)
  have e1 : sHi l + sLo l / 4294967296 = sumL l / 4294967296 := by omega
  have e2 : sLo l % 4294967296 = sumL l % 4294967296 := by omega
  have v2 : IntKind.i64.wrap (sHi l + sLo l / 4294967296) = sumL l / 4294967296 := by rw [e1]; exact wrap_id (by omega) (by omega)
  have q : (ilt 2147483647 (sumL l / 4294967296) || ilt (sumL l / 4294967296) (-2147483648)) = !fits (sumL l) := by
    rw [Bool.eq_iff_iff, Bool.not_eq_true', ← Bool.not_eq_true, fits_iff, I64, Bool.or_eq_true, ilt_eq, ilt_eq, decide_eq_true_eq, decide_eq_true_eq]
    omega
  rw [Wd_fn rfl (show T.get 8 = some c8 by kernel_rfl)]
  simp only [c8, sT.1, sC.1, noApp, lookV, Nat.testBit, simprocAttr, -Int.reduceNatCast', hd]
  generalize hr : execW h.length Wd (.loop l8_0) _ = r
  obtain ⟨x, st', rfl, rfl, tt, rfl, ht, e4, e5⟩ := known hr (loop l.length _ ⟨_, 0, 0, 0, rfl, by simp only [sT.1, sC.1, noApp, lookV, Nat.testBit, simprocAttr, -Int.reduceNatCast'], by simp only [sT.1, sC.1, noApp, lookV, Nat.testBit, simprocAttr, -Int.reduceNatCast'], by simp only [sT.1, sC.1, noApp, lookV, Nat.testBit, simprocAttr, -Int.reduceNatCast', Int.natCast_zero], by simp only [sT.1, sC.1, noApp, lookV, Nat.testBit, simprocAttr, -Int.reduceNatCast'], by simp only [sT.1, sC.1, noApp, lookV, Nat.testBit, simprocAttr, -Int.reduceNatCast'], by omega, by simp, by simp, by simp, by simp, by simp, by simp⟩)
  cases hf : fits (sumL l) with
  | true =>
    have hI := fits_iff.1 hf
    unfold I64 at hI
    rw [hf] at q
    have v3 : IntKind.i64.wrap (sumL l / 4294967296 * 4294967296) = sumL l / 4294967296 * 4294967296 := wrap_id (by omega) (by omega)
    have v4 : IntKind.i64.wrap (sumL l / 4294967296 * 4294967296 + sumL l % 4294967296) = sumL l := by
      rw [show sumL l / 4294967296 * 4294967296 + sumL l % 4294967296 = sumL l by omega]
      exact wrap_id (by omega) (by omega)
    simp only [sT.1, sC.1, noApp, lookV, Nat.testBit, simprocAttr, -Int.reduceNatCast', ht, e4, e5, g1, g2, v1, v2, e2, q, v3, v4, Bool.not_true]
    simp [outN, hf]
  | false =>
    rw [hf] at q
    simp only [sT.1, sC.1, noApp, lookV, Nat.testBit, simprocAttr, -Int.reduceNatCast', ht, e4, e5, g1, g2, v1, v2, e2, q, Bool.not_false]
    simp [outN, hf]
end
end Go.Proofs.YtgcfnjnahihmdaaGreatDoor.AE
