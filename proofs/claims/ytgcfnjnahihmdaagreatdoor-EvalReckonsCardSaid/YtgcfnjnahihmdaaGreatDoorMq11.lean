/- A part of the proof: the abstract executor and what goes through it (part 11). No condition. -/
import Derived.Test.YtgcfnjnahihmdaaGreatDoorMq5
import Derived.Test.YtgcfnjnahihmdaaGreatDoorMq2
import Derived.KernelRfl
import Derived.Laws.BitsLemmas
import Derived.Laws.Bits64
import Derived.Lib.Mul64
set_option maxRecDepth 100000
namespace Go.Proofs.YtgcfnjnahihmdaaGreatDoor.AE
open Go.AE
theorem xfine : XFine X where
  mono f g h := by
    unfold X at h
    split at h
    all_goals first
      | (cases h; exact fun c d hc aS h => gcall_mono hc (Nat.le_refl _))
      | (cases h; exact fun c d hc aS h x hx => hx)
      | cases h
  cont f g h := by
    unfold X at h
    split at h
    all_goals first
      | (cases h; exact fun c hc aS h x hx => gcall_cont hc hx)
      | (cases h; exact fun c hc aS h x hx => ⟨0, hx⟩)
      | cases h
noncomputable def Wd : AE.Call := W T.get X
theorem Wd_fn {f : FuncId} {first args cap : List AVal} {h : List ABox} {fn : AFunc} (h1 : X f = none) (h2 : T.get f = some fn) :
    Wd (.fn f first cap) args h = endR fn.results h (execW h.length Wd fn.code ⟨(first ++ args ++ cap).map AVal.dim ++ List.replicate (fn.ntmps - ((first ++ args ++ cap).map AVal.dim).length) (.tup []), h, false⟩) := W_go xfine h1 h2
theorem btf : (true != false) = true := Eq.trans rfl rfl
theorem bff : (false != false) = false := Eq.trans rfl rfl
theorem c2 : ((2 : Nat) : Int) = 2 := Eq.trans rfl rfl
theorem c1 : ((1 : Nat) : Int) = 1 := Eq.trans rfl rfl
theorem k02 : ilt 0 2 = true := Eq.trans rfl rfl
theorem k12 : ilt 1 2 = true := Eq.trans rfl rfl
theorem k22 : ilt 2 2 = false := Eq.trans rfl rfl
theorem w1 : IntKind.i64.wrap 1 = 1 := by kernel_rfl
theorem w2 : IntKind.i64.wrap 2 = 2 := by kernel_rfl
def vI (n : Int) : AVal := .agg [.int .i64 0, .int .i64 n, .str [], .lst [] .full]
def rI (n e : Int) : AVal := .agg [.int .i64 0, .int .i64 n, .str [], .lst [] .full, .int .i64 e]
section
variable {h : List ABox}
theorem whole_ok (n : Int) : Wd (.fn 22 [] []) [.int .i64 n] h = some (.ret (rI n 0), h, false) := by
  rw [Wd_fn rfl (show T.get 22 = some c22 by kernel_rfl)]
  simp only [c22, sT.1, sC.1, noApp, lookV, Nat.testBit, simprocAttr, -Int.reduceNatCast', fillS, rI]
theorem wrong_ok (e : Int) : Wd (.fn 27 [] []) [.int .i64 e] h = some (.ret (rI 0 e), h, false) := by
  rw [Wd_fn rfl (show T.get 27 = some c27 by kernel_rfl)]
  simp only [c27, sT.1, sC.1, noApp, lookV, Nat.testBit, simprocAttr, -Int.reduceNatCast', fillS, rI]
theorem sums_add {a b : Int} {q : Bool} (hq : (ilt a (IntKind.i64.wrap (a + b)) == ilt 0 b) = q) : Wd (.fn 29 [] []) [.int .i64 15, .lst [vI a, vI b] .no] h = some (.ret (bif q then rI (IntKind.i64.wrap (a + b)) 0 else rI 0 2), h, false) := by
  rw [Wd_fn rfl (show T.get 29 = some c29 by kernel_rfl)]
  cases q <;> simp only [c29, l29_0, sT.1, sC.1, noApp, lookV, Nat.testBit, simprocAttr, -Int.reduceNatCast', execW_loop, fillS, vI, ixaV, hq, c2, k02, k12, k22, w1, w2, btf, bff, whole_ok, wrong_ok, rI]
theorem sums_sub {a b : Int} {q : Bool} (hq : (ilt (IntKind.i64.wrap (a - b)) a == ilt 0 b) = q) : Wd (.fn 29 [] []) [.int .i64 16, .lst [vI a, vI b] .no] h = some (.ret (bif q then rI (IntKind.i64.wrap (a - b)) 0 else rI 0 2), h, false) := by
  rw [Wd_fn rfl (show T.get 29 = some c29 by kernel_rfl)]
  cases q <;> simp only [c29, l29_0, sT.1, sC.1, noApp, lookV, Nat.testBit, simprocAttr, -Int.reduceNatCast', execW_loop, fillS, vI, ixaV, hq, c2, k02, k12, k22, w1, w2, btf, bff, whole_ok, wrong_ok, rI]
theorem bin_andU (x : Nat) : binV .and (.int .u64 (x : Int)) (.int .u64 4294967295) = some (.int .u64 ((x % 4294967296 : Nat) : Int)) := by
  have h : (BitVec.ofInt 64 (x : Int) &&& BitVec.ofInt 64 4294967295).toNat = x % 4294967296 := by
    have e : (BitVec.ofInt 64 4294967295).toNat = 2 ^ 32 - 1 := by decide
    rw [BitVec.toNat_and, e, Nat.and_two_pow_sub_one_eq_mod]
    simp [BitVec.toNat_ofInt]
  have h2 : IntKind.u64.wrap ((x % 4294967296 : Nat) : Int) = ((x % 4294967296 : Nat) : Int) := by
    rw [IntKind.wrap_u64]; omega
  have e : binV .and (.int .u64 (x : Int)) (.int .u64 4294967295) = some (.int .u64 (IntKind.u64.wrap (((BitVec.ofInt 64 (x : Int) &&& BitVec.ofInt 64 4294967295).toNat : Nat) : Int))) := by
    simp only [binV, intBin, if_true, IntKind.bits]
    rfl
  rw [e, h, h2]
theorem bin_shrU (x : Nat) : binV .shr (.int .u64 (x : Int)) (.int .u64 32) = some (.int .u64 ((x / 4294967296 : Nat) : Int)) := by
  have h : ((x : Int)).fdiv (2 ^ (min 32 64)) = ((x / 4294967296 : Nat) : Int) := by
    rw [Int.fdiv_eq_ediv_of_nonneg _ (by decide)]
    simp
  simp only [binV, intBin, IntKind.bits]
  rw [if_neg (by decide)]
  exact congrArg (fun z => some (AVal.int .u64 z)) h
theorem wmul {a b : Nat} (h : a * b < 18446744073709551616) : IntKind.u64.wrap ((a : Int) * (b : Int)) = ((a * b : Nat) : Int) := by
  rw [IntKind.wrap_u64, ← Int.natCast_mul]; omega
theorem wadd {a b : Nat} (h : a + b < 18446744073709551616) : IntKind.u64.wrap ((a : Int) + (b : Int)) = ((a + b : Nat) : Int) := by
  rw [IntKind.wrap_u64]; omega
theorem mul64_ok {x y : Nat} (hx : x < 18446744073709551616) (hy : y < 18446744073709551616) : Wd (.fn 54 [] []) [.int .u64 (x : Int), .int .u64 (y : Int)] h = some (.ret (.tup [.int .u64 ((x * y / 18446744073709551616 : Nat) : Int), .int .u64 (IntKind.u64.wrap ((x : Int) * (y : Int)))]), h, false) := by
  obtain ⟨h1, h2, h3, h4⟩ := Lib.mul64_hi x y hx hy
  have ha := Lib.half_mul_le (a := x / 4294967296) (b := y % 4294967296) (by omega) (by omega)
  have hb := Lib.half_mul_le (a := x % 4294967296) (b := y / 4294967296) (by omega) (by omega)
  have hc := Lib.half_mul_le (a := x / 4294967296) (b := y / 4294967296) (by omega) (by omega)
  have m2 : x / 4294967296 * (y % 4294967296) < 18446744073709551616 := by omega
  have m3 : x % 4294967296 * (y / 4294967296) < 18446744073709551616 := by omega
  have m4 : x / 4294967296 * (y / 4294967296) < 18446744073709551616 := by omega
  have m5 : x / 4294967296 * (y / 4294967296) + (x / 4294967296 * (y % 4294967296) + x % 4294967296 * (y % 4294967296) / 4294967296) / 4294967296 < 18446744073709551616 := by omega
  have m6 : x * y / 18446744073709551616 < 18446744073709551616 := by
    rw [← h4]; omega
  rw [← h4] at m6
  rw [Wd_fn rfl (show T.get 54 = some c54 by kernel_rfl), ← h4]
  simp only [c54, sT.1, sC.1, noApp, lookV, Nat.testBit, simprocAttr, -Int.reduceNatCast', bin_andU, bin_shrU, wmul h1, wmul m2, wmul m3, wmul m4, wadd h2, wadd h3, wadd m5, wadd m6]
theorem bin_shrI (n : Int) : binV .shr (.int .i64 n) (.int .u64 63) = some (.int .i64 (n.fdiv 9223372036854775808)) := by
  simp [binV, intBin, IntKind.bits]
def hiV (sa sb : Bool) (H x y : Int) : Int := bif sb then IntKind.u64.wrap ((bif sa then IntKind.u64.wrap (H - y) else H) - x) else (bif sa then IntKind.u64.wrap (H - y) else H)
theorem product_walk {a b : Int} {x y : Nat} {sa sb q : Bool} (hx : IntKind.u64.wrap a = (x : Int)) (hy : IntKind.u64.wrap b = (y : Int)) (hxl : x < 18446744073709551616) (hyl : y < 18446744073709551616) (hsa : ilt a 0 = sa) (hsb : ilt b 0 = sb)
    (hq : (hiV sa sb ((x * y / 18446744073709551616 : Nat) : Int) x y == IntKind.u64.wrap ((IntKind.i64.wrap (IntKind.u64.wrap ((x : Int) * (y : Int)))).fdiv 9223372036854775808)) = q) :
    Wd (.fn 39 [] []) [.int .i64 a, .int .i64 b] h = some (.ret (bif q then rI (IntKind.i64.wrap (IntKind.u64.wrap ((x : Int) * (y : Int)))) 0 else rI 0 2), h, false) := by
  rw [Wd_fn rfl (show T.get 39 = some c39 by kernel_rfl)]
  cases sa <;> cases sb <;> simp only [hiV, cond_true, cond_false] at hq <;> cases q <;> simp only [c39, sT.1, sC.1, noApp, lookV, Nat.testBit, simprocAttr, -Int.reduceNatCast', fillS, hx, hy, hsa, hsb, hq, bin_shrI, mul64_ok hxl hyl, whole_ok, wrong_ok, rI]
theorem sums_mul {a b : Int} {r : AVal} (hp : Wd (.fn 39 [] []) [.int .i64 a, .int .i64 b] (h ++ [.cells [.int .i64 0, .int .i64 0, .str [], .lst [] .full, .int .i64 0], .cells [.int .i64 0, .int .i64 a, .str [], .lst [] .full], .cells [.int .i64 0, .int .i64 b, .str [], .lst [] .full]]) = some (.ret r, (h ++ [.cells [.int .i64 0, .int .i64 0, .str [], .lst [] .full, .int .i64 0], .cells [.int .i64 0, .int .i64 a, .str [], .lst [] .full], .cells [.int .i64 0, .int .i64 b, .str [], .lst [] .full]]), false)) {n e : Int} (hr : r = rI n e) : Wd (.fn 29 [] []) [.int .i64 17, .lst [vI a, vI b] .no] h = some (.ret (rI n e), h, false) := by
  rw [Wd_fn rfl (show T.get 29 = some c29 by kernel_rfl)]
  subst hr
  simp only [c29, l29_0, sT.1, sC.1, noApp, lookV, Nat.testBit, simprocAttr, -Int.reduceNatCast', execW_loop, fillS, vI, ixaV, hp, c2, k02, k12, k22, w1, w2, btf, bff, whole_ok, wrong_ok, rI]
theorem sums_div0 {a b : Int} (hb : (b == 0) = true) : Wd (.fn 29 [] []) [.int .i64 18, .lst [vI a, vI b] .no] h = some (.ret (rI 0 3), h, false) := by
  rw [Wd_fn rfl (show T.get 29 = some c29 by kernel_rfl)]
  simp only [c29, l29_0, sT.1, sC.1, noApp, lookV, Nat.testBit, simprocAttr, -Int.reduceNatCast', execW_loop, fillS, vI, ixaV, hb, c2, k02, k12, k22, w1, w2, btf, bff, whole_ok, wrong_ok, rI]
theorem sums_div {a b : Int} (hb : (b == 0) = false) (hb' : (b = 0) = False) {q : Bool} (hq : (!(a == -9223372036854775808) || !(b == -1)) = q) : Wd (.fn 29 [] []) [.int .i64 18, .lst [vI a, vI b] .no] h = some (.ret (bif q then rI (IntKind.i64.wrap (a.tdiv b)) 0 else rI 0 2), h, false) := by
  rw [Wd_fn rfl (show T.get 29 = some c29 by kernel_rfl)]
  cases q <;> simp only [c29, l29_0, sT.1, sC.1, noApp, lookV, Nat.testBit, simprocAttr, -Int.reduceNatCast', execW_loop, fillS, vI, ixaV, hb, hb', hq, c2, k02, k12, k22, w1, w2, btf, bff, whole_ok, wrong_ok, rI]
theorem sums_mod0 {a b : Int} (hb : (b == 0) = true) : Wd (.fn 29 [] []) [.int .i64 19, .lst [vI a, vI b] .no] h = some (.ret (rI 0 3), h, false) := by
  rw [Wd_fn rfl (show T.get 29 = some c29 by kernel_rfl)]
  simp only [c29, l29_0, sT.1, sC.1, noApp, lookV, Nat.testBit, simprocAttr, -Int.reduceNatCast', execW_loop, fillS, vI, ixaV, hb, c2, k02, k12, k22, w1, w2, btf, bff, whole_ok, wrong_ok, rI]
theorem sums_mod1 {a b : Int} (hb : (b == 0) = false) (hb1 : (b == -1) = true) : Wd (.fn 29 [] []) [.int .i64 19, .lst [vI a, vI b] .no] h = some (.ret (rI 0 0), h, false) := by
  rw [Wd_fn rfl (show T.get 29 = some c29 by kernel_rfl)]
  simp only [c29, l29_0, sT.1, sC.1, noApp, lookV, Nat.testBit, simprocAttr, -Int.reduceNatCast', execW_loop, fillS, vI, ixaV, hb, hb1, c2, k02, k12, k22, w1, w2, btf, bff, whole_ok, wrong_ok, rI]
theorem sums_mod {a b : Int} (hb : (b == 0) = false) (hb' : (b = 0) = False) (hb1 : (b == -1) = false) : Wd (.fn 29 [] []) [.int .i64 19, .lst [vI a, vI b] .no] h = some (.ret (rI (a.tmod b) 0), h, false) := by
  rw [Wd_fn rfl (show T.get 29 = some c29 by kernel_rfl)]
  simp only [c29, l29_0, sT.1, sC.1, noApp, lookV, Nat.testBit, simprocAttr, -Int.reduceNatCast', execW_loop, fillS, vI, ixaV, hb, hb', hb1, c2, k02, k12, k22, w1, w2, btf, bff, whole_ok, wrong_ok, rI]
theorem reckon_add {a b : Int} {q : Bool} (hq : ((ilt 0 b && ilt (IntKind.i64.wrap (9223372036854775807 - b)) a) || (ilt b 0 && ilt a (IntKind.i64.wrap (-9223372036854775808 - b)))) = q) : Wd (.fn 15 [] []) [.int .i64 15, .int .i64 a, .int .i64 b] h = some (.ret (.tup [.int .i64 (bif q then 0 else IntKind.i64.wrap (a + b)), .int .i64 (bif q then 2 else 0)]), h, false) := by
  rw [Wd_fn rfl (show T.get 15 = some c15 by kernel_rfl)]
  cases q <;> simp only [c15, sT.1, sC.1, noApp, lookV, Nat.testBit, simprocAttr, -Int.reduceNatCast', hq, btf, bff]
theorem reckon_sub {a b : Int} {q : Bool} (hq : ((ilt b 0 && ilt (IntKind.i64.wrap (9223372036854775807 + b)) a) || (ilt 0 b && ilt a (IntKind.i64.wrap (-9223372036854775808 + b)))) = q) : Wd (.fn 15 [] []) [.int .i64 16, .int .i64 a, .int .i64 b] h = some (.ret (.tup [.int .i64 (bif q then 0 else IntKind.i64.wrap (a - b)), .int .i64 (bif q then 2 else 0)]), h, false) := by
  rw [Wd_fn rfl (show T.get 15 = some c15 by kernel_rfl)]
  cases q <;> simp only [c15, sT.1, sC.1, noApp, lookV, Nat.testBit, simprocAttr, -Int.reduceNatCast', hq, btf, bff]
theorem mul_0 {a b : Int} (hq : ((a == 0) || (b == 0)) = true) : Wd (.fn 31 [] []) [.int .i64 a, .int .i64 b] h = some (.ret (.tup [.int .i64 0, .bool true]), h, false) := by
  rw [Wd_fn rfl (show T.get 31 = some c31 by kernel_rfl)]
  simp only [c31, sT.1, sC.1, noApp, lookV, Nat.testBit, simprocAttr, -Int.reduceNatCast', hq, btf, bff]
theorem mul_1 {a b : Int} (h0 : ((a == 0) || (b == 0)) = false) (hq : (((a == -9223372036854775808) && (b == -1)) || ((b == -9223372036854775808) && (a == -1))) = true) : Wd (.fn 31 [] []) [.int .i64 a, .int .i64 b] h = some (.ret (.tup [.int .i64 0, .bool false]), h, false) := by
  rw [Wd_fn rfl (show T.get 31 = some c31 by kernel_rfl)]
  simp only [c31, sT.1, sC.1, noApp, lookV, Nat.testBit, simprocAttr, -Int.reduceNatCast', h0, hq, btf, bff]
theorem mul_2 {a b : Int} (h0 : ((a == 0) || (b == 0)) = false) (hb' : (b = 0) = False) (hq : (((a == -9223372036854775808) && (b == -1)) || ((b == -9223372036854775808) && (a == -1))) = false) {z : Bool} (hz : (IntKind.i64.wrap ((IntKind.i64.wrap (a * b)).tdiv b) == a) = z) : Wd (.fn 31 [] []) [.int .i64 a, .int .i64 b] h = some (.ret (.tup [.int .i64 (bif z then IntKind.i64.wrap (a * b) else 0), .bool z]), h, false) := by
  rw [Wd_fn rfl (show T.get 31 = some c31 by kernel_rfl)]
  cases z <;> simp only [c31, sT.1, sC.1, noApp, lookV, Nat.testBit, simprocAttr, -Int.reduceNatCast', h0, hb', hq, hz, btf, bff]
theorem reckon_mul {a b : Int} {n : Int} {z : Bool} (hm : Wd (.fn 31 [] []) [.int .i64 a, .int .i64 b] h = some (.ret (.tup [.int .i64 n, .bool z]), h, false)) : Wd (.fn 15 [] []) [.int .i64 17, .int .i64 a, .int .i64 b] h = some (.ret (.tup [.int .i64 (bif z then n else 0), .int .i64 (bif z then 0 else 2)]), h, false) := by
  rw [Wd_fn rfl (show T.get 15 = some c15 by kernel_rfl)]
  cases z <;> simp only [c15, sT.1, sC.1, noApp, lookV, Nat.testBit, simprocAttr, -Int.reduceNatCast', hm, btf, bff]
theorem reckon_div0 {a b : Int} (hb : (b == 0) = true) : Wd (.fn 15 [] []) [.int .i64 18, .int .i64 a, .int .i64 b] h = some (.ret (.tup [.int .i64 0, .int .i64 3]), h, false) := by
  rw [Wd_fn rfl (show T.get 15 = some c15 by kernel_rfl)]
  simp only [c15, sT.1, sC.1, noApp, lookV, Nat.testBit, simprocAttr, -Int.reduceNatCast', hb, btf, bff]
theorem reckon_mod0 {a b : Int} (hb : (b == 0) = true) : Wd (.fn 15 [] []) [.int .i64 19, .int .i64 a, .int .i64 b] h = some (.ret (.tup [.int .i64 0, .int .i64 3]), h, false) := by
  rw [Wd_fn rfl (show T.get 15 = some c15 by kernel_rfl)]
  simp only [c15, sT.1, sC.1, noApp, lookV, Nat.testBit, simprocAttr, -Int.reduceNatCast', hb, btf, bff]
theorem reckon_div {a b : Int} (hb : (b == 0) = false) (hb' : (b = 0) = False) {q : Bool} (hq : ((a == -9223372036854775808) && (b == -1)) = q) : Wd (.fn 15 [] []) [.int .i64 18, .int .i64 a, .int .i64 b] h = some (.ret (.tup [.int .i64 (bif q then 0 else IntKind.i64.wrap (a.tdiv b)), .int .i64 (bif q then 2 else 0)]), h, false) := by
  rw [Wd_fn rfl (show T.get 15 = some c15 by kernel_rfl)]
  cases q <;> simp only [c15, sT.1, sC.1, noApp, lookV, Nat.testBit, simprocAttr, -Int.reduceNatCast', hb, hb', hq, btf, bff]
theorem reckon_mod {a b : Int} (hb : (b == 0) = false) (hb' : (b = 0) = False) {q : Bool} (hq : ((a == -9223372036854775808) && (b == -1)) = q) : Wd (.fn 15 [] []) [.int .i64 19, .int .i64 a, .int .i64 b] h = some (.ret (.tup [.int .i64 (bif q then 0 else IntKind.i64.wrap (a - IntKind.i64.wrap (IntKind.i64.wrap (a.tdiv b) * b))), .int .i64 0]), h, false) := by
  rw [Wd_fn rfl (show T.get 15 = some c15 by kernel_rfl)]
  cases q <;> simp only [c15, sT.1, sC.1, noApp, lookV, Nat.testBit, simprocAttr, -Int.reduceNatCast', hb, hb', hq, btf, bff]
end
end Go.Proofs.YtgcfnjnahihmdaaGreatDoor.AE
