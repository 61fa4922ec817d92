/- A part of the proof: the abstract executor and what goes through it (part 12). No condition. -/
import Derived.Test.YtgcfnjnahihmdaaGreatDoorMq11
set_option maxRecDepth 100000
namespace Go.Proofs.YtgcfnjnahihmdaaGreatDoor.AE
open Go.AE
def I64 (a : Int) : Prop := -9223372036854775808 ≤ a ∧ a ≤ 9223372036854775807
def fits (r : Int) : Bool := ile (-9223372036854775808) r && ile r 9223372036854775807
theorem fits_iff {r : Int} : fits r = true ↔ I64 r := by simp [fits, ile_eq, I64]
def outN (r : Int) : Int := bif fits r then r else 0
def outE (r : Int) : Int := bif fits r then 0 else 2
def calcV (op a b : Int) : Int × Int :=
  if op = 15 then (outN (a + b), outE (a + b)) else if op = 16 then (outN (a - b), outE (a - b)) else if op = 17 then (outN (a * b), outE (a * b))
  else if b = 0 then (0, 3) else if op = 18 then (outN (a.tdiv b), outE (a.tdiv b)) else (a.tmod b, 0)
theorem wrap_I64 {r : Int} (h : I64 r) : IntKind.i64.wrap r = r := by
  obtain ⟨h1, h2⟩ := h
  rw [IntKind.wrap_i64]
  omega
theorem out_of {r w : Int} {q : Bool} (hq : q = fits r) (hw : q = true → w = r) : (bif q then rI w 0 else rI 0 2) = rI (outN r) (outE r) := by
  subst hq
  cases h : fits r with
  | true => rw [hw h]; simp [outN, outE, h]
  | false => simp [outN, outE, h]
theorem tup_of {r w : Int} {q : Bool} (hq : (!q) = fits r) (hw : q = false → w = r) : (AVal.tup [.int .i64 (bif q then 0 else w), .int .i64 (bif q then 2 else 0)]) = .tup [.int .i64 (outN r), .int .i64 (outE r)] := by
  cases q with
  | true => simp only [Bool.not_true] at hq; simp [outN, outE, ← hq]
  | false => simp only [Bool.not_false] at hq; rw [hw rfl]; simp [outN, outE, ← hq]
section
variable {h : List ABox} {a b : Int}
theorem add_q (ha : I64 a) (hb : I64 b) : (ilt a (IntKind.i64.wrap (a + b)) == ilt 0 b) = fits (a + b) := by
  obtain ⟨a1, a2⟩ := ha
  obtain ⟨b1, b2⟩ := hb
  rw [Bool.eq_iff_iff, beq_iff_eq, fits_iff, IntKind.wrap_i64, ilt_eq, ilt_eq, decide_eq_decide, I64]
  omega
theorem sub_q (ha : I64 a) (hb : I64 b) : (ilt (IntKind.i64.wrap (a - b)) a == ilt 0 b) = fits (a - b) := by
  obtain ⟨a1, a2⟩ := ha
  obtain ⟨b1, b2⟩ := hb
  rw [Bool.eq_iff_iff, beq_iff_eq, fits_iff, IntKind.wrap_i64, ilt_eq, ilt_eq, decide_eq_decide, I64]
  omega
theorem radd_q (ha : I64 a) (hb : I64 b) : (!((ilt 0 b && ilt (IntKind.i64.wrap (9223372036854775807 - b)) a) || (ilt b 0 && ilt a (IntKind.i64.wrap (-9223372036854775808 - b))))) = fits (a + b) := by
  obtain ⟨a1, a2⟩ := ha
  obtain ⟨b1, b2⟩ := hb
  rw [Bool.eq_iff_iff, fits_iff, I64]
  simp only [Bool.not_eq_true', Bool.or_eq_false_iff, Bool.and_eq_false_iff, ilt_eq, decide_eq_false_iff_not, IntKind.wrap_i64]
  omega
theorem rsub_q (ha : I64 a) (hb : I64 b) : (!((ilt b 0 && ilt (IntKind.i64.wrap (9223372036854775807 + b)) a) || (ilt 0 b && ilt a (IntKind.i64.wrap (-9223372036854775808 + b))))) = fits (a - b) := by
  obtain ⟨a1, a2⟩ := ha
  obtain ⟨b1, b2⟩ := hb
  rw [Bool.eq_iff_iff, fits_iff, I64]
  simp only [Bool.not_eq_true', Bool.or_eq_false_iff, Bool.and_eq_false_iff, ilt_eq, decide_eq_false_iff_not, IntKind.wrap_i64]
  omega
theorem abs_mul (ha : I64 a) (hb : I64 b) : -85070591730234615865843651857942052864 ≤ a * b ∧ a * b ≤ 85070591730234615865843651857942052864 := by
  obtain ⟨a1, a2⟩ := ha
  obtain ⟨b1, b2⟩ := hb
  have : (a * b).natAbs ≤ 9223372036854775808 * 9223372036854775808 := by
    rw [Int.natAbs_mul]
    exact Nat.mul_le_mul (by omega) (by omega)
  omega
theorem prod_xy {x y : Nat} (ha : I64 a) (hb : I64 b) (hx : IntKind.u64.wrap a = (x : Int)) (hy : IntKind.u64.wrap b = (y : Int)) :
    ((x * y : Nat) : Int) = a * b + (bif ilt a 0 then 18446744073709551616 * b else 0) + (bif ilt b 0 then 18446744073709551616 * a else 0) + (bif ilt a 0 && ilt b 0 then 18446744073709551616 * 18446744073709551616 else 0) := by
  obtain ⟨a1, a2⟩ := ha
  obtain ⟨b1, b2⟩ := hb
  rw [IntKind.wrap_u64] at hx hy
  rw [Int.natCast_mul, ← hx, ← hy, ilt_eq, ilt_eq]
  rcases Int.lt_or_le a 0 with la | la <;> rcases Int.lt_or_le b 0 with lb | lb
  · have e1 : a % 18446744073709551616 = a + 18446744073709551616 := by omega
    have e2 : b % 18446744073709551616 = b + 18446744073709551616 := by omega
    rw [e1, e2, decide_eq_true la, decide_eq_true lb, Int.add_mul, Int.mul_add, Int.mul_add]
    simp only [Bool.and_true, cond_true]
    omega
  · have e1 : a % 18446744073709551616 = a + 18446744073709551616 := by omega
    have e2 : b % 18446744073709551616 = b := by omega
    rw [e1, e2, decide_eq_true la, decide_eq_false (by omega), Int.add_mul]
    simp
  · have e1 : a % 18446744073709551616 = a := by omega
    have e2 : b % 18446744073709551616 = b + 18446744073709551616 := by omega
    rw [e1, e2, decide_eq_false (by omega), decide_eq_true lb, Int.mul_add]
    simp only [Bool.false_and, cond_true, cond_false]
    omega
  · have e1 : a % 18446744073709551616 = a := by omega
    have e2 : b % 18446744073709551616 = b := by omega
    rw [e1, e2, decide_eq_false (by omega), decide_eq_false (by omega)]
    simp
theorem prod_hi {x y : Nat} (ha : I64 a) (hb : I64 b) (hx : IntKind.u64.wrap a = (x : Int)) (hy : IntKind.u64.wrap b = (y : Int)) :
    hiV (ilt a 0) (ilt b 0) ((x * y / 18446744073709551616 : Nat) : Int) x y = IntKind.u64.wrap (a * b / 18446744073709551616) := by
  have e := prod_xy ha hb hx hy
  have hm := abs_mul ha hb
  obtain ⟨a1, a2⟩ := ha
  obtain ⟨b1, b2⟩ := hb
  rw [IntKind.wrap_u64] at hx hy
  generalize a * b = p at *
  generalize x * y = n at *
  have key : ((n / 18446744073709551616 : Nat) : Int) = (n : Int) / 18446744073709551616 := by omega
  rw [key]
  rw [ilt_eq, ilt_eq] at e ⊢
  rcases Int.lt_or_le a 0 with la | la <;> rcases Int.lt_or_le b 0 with lb | lb
  · rw [decide_eq_true la, decide_eq_true lb] at e ⊢
    simp only [hiV, Bool.and_true, cond_true, IntKind.wrap_u64] at e ⊢
    have hxa : (x : Int) = a + 18446744073709551616 := by omega
    have hyb : (y : Int) = b + 18446744073709551616 := by omega
    have hd : (n : Int) / 18446744073709551616 = p / 18446744073709551616 + b + a + 18446744073709551616 := by omega
    rw [hd, hxa, hyb]
    omega
  · rw [decide_eq_true la, decide_eq_false (p := b < 0) (by omega)] at e ⊢
    simp only [hiV, Bool.and_false, cond_true, cond_false, IntKind.wrap_u64] at e ⊢
    have hyb : (y : Int) = b := by omega
    have hd : (n : Int) / 18446744073709551616 = p / 18446744073709551616 + b := by omega
    rw [hd, hyb]
    omega
  · rw [decide_eq_false (p := a < 0) (by omega), decide_eq_true lb] at e ⊢
    simp only [hiV, Bool.false_and, cond_true, cond_false, IntKind.wrap_u64] at e ⊢
    have hxa : (x : Int) = a := by omega
    have hd : (n : Int) / 18446744073709551616 = p / 18446744073709551616 + a := by omega
    rw [hd, hxa]
    omega
  · have l1 : 0 ≤ p := by
      rw [decide_eq_false (p := a < 0) (by omega), decide_eq_false (p := b < 0) (by omega)] at e
      simp only [Bool.false_and, cond_false] at e
      omega
    rw [decide_eq_false (p := a < 0) (by omega), decide_eq_false (p := b < 0) (by omega)] at e ⊢
    simp only [hiV, Bool.false_and, cond_false, IntKind.wrap_u64] at e ⊢
    have hd : (n : Int) = p := by omega
    rw [hd]
    omega
theorem prod_lo {x y : Nat} (ha : I64 a) (hb : I64 b) (hx : IntKind.u64.wrap a = (x : Int)) (hy : IntKind.u64.wrap b = (y : Int)) :
    IntKind.i64.wrap (IntKind.u64.wrap ((x : Int) * (y : Int))) = IntKind.i64.wrap (a * b) := by
  have e := prod_xy ha hb hx hy
  rw [← Int.natCast_mul]
  generalize a * b = p at *
  generalize x * y = n at *
  rw [IntKind.wrap_u64, IntKind.wrap_i64, IntKind.wrap_i64]
  generalize ilt a 0 = sa at e
  generalize ilt b 0 = sb at e
  cases sa <;> cases sb <;> simp only [Bool.and_true, Bool.and_false, Bool.false_and, cond_true, cond_false] at e <;> omega
theorem product_ok (ha : I64 a) (hb : I64 b) : Wd (.fn 39 [] []) [.int .i64 a, .int .i64 b] h = some (.ret (rI (outN (a * b)) (outE (a * b))), h, false) := by
  have hx : IntKind.u64.wrap a = ((IntKind.u64.wrap a).toNat : Int) := by rw [IntKind.wrap_u64]; omega
  have hy : IntKind.u64.wrap b = ((IntKind.u64.wrap b).toNat : Int) := by rw [IntKind.wrap_u64]; omega
  have hxl : (IntKind.u64.wrap a).toNat < 18446744073709551616 := by rw [IntKind.wrap_u64]; omega
  have hyl : (IntKind.u64.wrap b).toNat < 18446744073709551616 := by rw [IntKind.wrap_u64]; omega
  have hm := abs_mul ha hb
  rw [product_walk hx hy hxl hyl rfl rfl rfl, prod_hi ha hb hx hy, prod_lo ha hb hx hy]
  have hq : (IntKind.u64.wrap (a * b / 18446744073709551616) == IntKind.u64.wrap ((IntKind.i64.wrap (a * b)).fdiv 9223372036854775808)) = fits (a * b) := by
    generalize a * b = p at *
    rw [Bool.eq_iff_iff, beq_iff_eq, fits_iff, Int.fdiv_eq_ediv_of_nonneg _ (by decide), IntKind.wrap_u64, IntKind.wrap_u64, IntKind.wrap_i64, I64]
    omega
  rw [out_of hq fun hf => wrap_I64 (fits_iff.1 (hq ▸ hf))]
theorem div_q (ha : I64 a) (hb : I64 b) (h0 : b ≠ 0) : (!(a == -9223372036854775808) || !(b == -1)) = fits (a.tdiv b) := by
  obtain ⟨a1, a2⟩ := ha
  have hab := Int.natAbs_tdiv a b
  rw [Bool.eq_iff_iff, fits_iff, I64]
  simp only [Bool.or_eq_true, Bool.not_eq_true', beq_eq_false_iff_ne, ne_eq]
  by_cases h1 : b = -1
  · subst h1
    rw [Int.tdiv_neg, Int.tdiv_one]
    omega
  · by_cases h2 : b = 1
    · subst h2
      rw [Int.tdiv_one]
      omega
    · have h3 : a.natAbs / b.natAbs ≤ a.natAbs / 2 := Nat.div_le_div_left (by omega) (by omega)
      generalize a.tdiv b = t at *
      have h4 : t.natAbs ≤ a.natAbs / 2 := by rw [hab]; exact h3
      omega
theorem bne_of (h0 : b ≠ 0) : (b == 0) = false ∧ (b = 0) = False := ⟨by simpa using h0, by simp [h0]⟩
theorem mul_back (b : Int) : (a.tdiv b * b).natAbs ≤ a.natAbs := by
  rw [Int.natAbs_mul, Int.natAbs_tdiv]
  exact Nat.div_mul_le_self _ _
theorem sums_ok (ha : I64 a) (hb : I64 b) {op : Int} (hop : op = 15 ∨ op = 16 ∨ op = 17 ∨ op = 18 ∨ op = 19) : Wd (.fn 29 [] []) [.int .i64 op, .lst [vI a, vI b] .no] h = some (.ret (rI (calcV op a b).1 (calcV op a b).2), h, false) := by
  rcases hop with rfl | rfl | rfl | rfl | rfl
  · rw [sums_add (add_q ha hb), out_of rfl fun hf => wrap_I64 (fits_iff.1 hf)]
    rfl
  · rw [sums_sub (sub_q ha hb), out_of rfl fun hf => wrap_I64 (fits_iff.1 hf)]
    rfl
  · exact sums_mul (product_ok ha hb) rfl
  · by_cases h0 : b = 0
    · subst h0; exact sums_div0 rfl
    · rw [sums_div (bne_of h0).1 (bne_of h0).2 (div_q ha hb h0), out_of rfl fun hf => wrap_I64 (fits_iff.1 hf)]
      simp [calcV, h0]
  · by_cases h0 : b = 0
    · subst h0; exact sums_mod0 rfl
    · cases h1 : b == -1 with
      | true =>
        rw [sums_mod1 (bne_of h0).1 h1]
        have h1 : b = -1 := by simpa using h1
        subst h1
        simp [calcV, Int.tmod_neg]
      | false =>
        rw [sums_mod (bne_of h0).1 (bne_of h0).2 h1]
        simp [calcV, h0]
theorem rmul_ok (ha : I64 a) (hb : I64 b) : ∃ z n, Wd (.fn 31 [] []) [.int .i64 a, .int .i64 b] h = some (.ret (.tup [.int .i64 n, .bool z]), h, false) ∧ z = fits (a * b) ∧ (z = true → n = a * b) := by
  cases h0 : (a == 0) || (b == 0) with
  | true =>
    refine ⟨true, 0, mul_0 h0, ?_, fun _ => ?_⟩
    all_goals
      simp only [Bool.or_eq_true, beq_iff_eq] at h0
      rcases h0 with rfl | rfl <;> simp <;> decide
  | false =>
    have hz : a ≠ 0 ∧ b ≠ 0 := by simpa using h0
    cases hq : ((a == -9223372036854775808) && (b == -1)) || ((b == -9223372036854775808) && (a == -1)) with
    | true =>
      refine ⟨false, 0, mul_1 h0 hq, ?_, fun h => by cases h⟩
      simp only [Bool.or_eq_true, Bool.and_eq_true, beq_iff_eq] at hq
      rcases hq with ⟨rfl, rfl⟩ | ⟨rfl, rfl⟩ <;> decide
    | false =>
      have hb' := (bne_of hz.2).2
      have hw : IntKind.i64.wrap ((IntKind.i64.wrap (a * b)).tdiv b) = a ↔ I64 (a * b) := by
        constructor
        · intro hh
          have hp : I64 (IntKind.i64.wrap (a * b)) := by rw [IntKind.wrap_i64, I64]; omega
          have hf := div_q hp hb hz.2
          have hmul := Int.tmod_add_mul_tdiv (IntKind.i64.wrap (a * b)) b
          have hmod := Int.natAbs_tmod (IntKind.i64.wrap (a * b)) b
          have hlt : (IntKind.i64.wrap (a * b)).natAbs % b.natAbs < b.natAbs := Nat.mod_lt _ (by have := hz.2; omega)
          obtain ⟨a1, a2⟩ := ha
          obtain ⟨b1, b2⟩ := hb
          cases hq2 : fits ((IntKind.i64.wrap (a * b)).tdiv b) with
          | false =>
            exfalso
            rw [hq2] at hf
            simp only [Bool.or_eq_false_iff, Bool.not_eq_false', beq_iff_eq] at hf
            obtain ⟨e1, rfl⟩ := hf
            rw [e1] at hh
            have : IntKind.i64.wrap ((-9223372036854775808 : Int).tdiv (-1)) = -9223372036854775808 := by decide
            rw [this] at hh
            simp [← hh] at hq
          | true =>
            rw [wrap_I64 (fits_iff.1 hq2)] at hh
            rw [hh] at hmul
            have hr : IntKind.i64.wrap (a * b) = (a * b + 9223372036854775808) % 18446744073709551616 - 9223372036854775808 := IntKind.wrap_i64 _
            rw [Int.mul_comm b a] at hmul
            generalize a * b = p at *
            rw [hr] at hmul hmod hlt
            rw [I64]
            generalize ((p + 9223372036854775808) % 18446744073709551616 - 9223372036854775808).tmod b = m at *
            omega
        · intro hh
          rw [wrap_I64 hh, Int.mul_tdiv_cancel _ hz.2, wrap_I64 ha]
      cases hzz : (IntKind.i64.wrap ((IntKind.i64.wrap (a * b)).tdiv b) == a) with
      | true =>
        have := hw.1 (by simpa using hzz)
        exact ⟨true, _, mul_2 h0 hb' hq hzz, (fits_iff.2 this).symm, fun _ => by rw [cond_true, wrap_I64 this]⟩
      | false =>
        refine ⟨false, _, mul_2 h0 hb' hq hzz, ?_, fun h => by cases h⟩
        cases hf : fits (a * b) with
        | false => rfl
        | true => exact absurd (hw.2 (fits_iff.1 hf)) (by simpa using hzz)
theorem reckon_ok (ha : I64 a) (hb : I64 b) {op : Int} (hop : op = 15 ∨ op = 16 ∨ op = 17 ∨ op = 18 ∨ op = 19) : Wd (.fn 15 [] []) [.int .i64 op, .int .i64 a, .int .i64 b] h = some (.ret (.tup [.int .i64 (calcV op a b).1, .int .i64 (calcV op a b).2]), h, false) := by
  rcases hop with rfl | rfl | rfl | rfl | rfl
  · rw [reckon_add rfl, tup_of (radd_q ha hb) fun hf => wrap_I64 (fits_iff.1 (by rw [← radd_q ha hb, hf]; rfl))]
    rfl
  · rw [reckon_sub rfl, tup_of (rsub_q ha hb) fun hf => wrap_I64 (fits_iff.1 (by rw [← rsub_q ha hb, hf]; rfl))]
    rfl
  · obtain ⟨z, n, h1, h2, h3⟩ := rmul_ok (h := h) ha hb
    rw [reckon_mul h1]
    cases z with
    | true => rw [h3 rfl]; simp [calcV, outN, outE, ← h2]
    | false => simp [calcV, outN, outE, ← h2]
  · by_cases h0 : b = 0
    · subst h0; exact reckon_div0 rfl
    · have hd := div_q ha hb h0
      have hd' : (!((a == -9223372036854775808) && (b == -1))) = fits (a.tdiv b) := by rw [← hd]; cases (a == -9223372036854775808) <;> cases (b == -1) <;> rfl
      rw [reckon_div (bne_of h0).1 (bne_of h0).2 rfl, tup_of hd' fun hf => wrap_I64 (fits_iff.1 (by rw [← hd', hf]; rfl))]
      simp [calcV, h0]
  · by_cases h0 : b = 0
    · subst h0; exact reckon_mod0 rfl
    · rw [reckon_mod (bne_of h0).1 (bne_of h0).2 rfl]
      have hd := div_q ha hb h0
      have e : (bif (a == -9223372036854775808) && (b == -1) then 0 else IntKind.i64.wrap (a - IntKind.i64.wrap (IntKind.i64.wrap (a.tdiv b) * b))) = a.tmod b := by
        cases hq : (a == -9223372036854775808) && (b == -1) with
        | true =>
          simp only [Bool.and_eq_true, beq_iff_eq] at hq
          obtain ⟨rfl, rfl⟩ := hq
          decide
        | false =>
          have hf : fits (a.tdiv b) = true := by rw [← hd]; cases h1 : (a == -9223372036854775808) <;> cases h2 : (b == -1) <;> simp_all
          have h1 := Int.tmod_add_mul_tdiv a b
          have h2 := mul_back (a := a) b
          have h3 := Int.natAbs_tmod a b
          have h4 : a.natAbs % b.natAbs ≤ a.natAbs := Nat.mod_le _ _
          obtain ⟨a1, a2⟩ := ha
          rw [cond_false, wrap_I64 (fits_iff.1 hf)]
          rw [Int.mul_comm b] at h1
          generalize a.tdiv b * b = t at *
          have ht : t = a - a.tmod b := by omega
          have hmod : b.natAbs ≠ 0 := by omega
          have hlt : a.natAbs % b.natAbs < b.natAbs := Nat.mod_lt _ (by omega)
          obtain ⟨b1, b2⟩ := hb
          generalize a.tmod b = m at *
          rw [IntKind.wrap_i64, IntKind.wrap_i64]
          omega
      rw [e]
      simp [calcV, h0]
end
end Go.Proofs.YtgcfnjnahihmdaaGreatDoor.AE
