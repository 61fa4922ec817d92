/- A part of the proof: the abstract executor and what goes through it (part 11). No condition. -/
import Derived.Test.YtgcfnjnahihmdaaGreatDoorMq5
import Derived.Test.YtgcfnjnahihmdaaGreatDoorMq2
import Derived.KernelRfl
import Derived.Laws.BitsLemmas
import Derived.Laws.Bits64
import Derived.Lib.Mul64
set_option maxRecDepth 100000
namespace Go.Proofs.YtgcfnjnahihmdaaGreatDoor.AE
open Go.AE
theorem xfine : XFine X where
  mono f g h := by
    unfold X at h
    split at h
    all_goals first
      | (cases h; exact fun c d hc aS h => gcall_mono hc (Nat.le_refl _))
      | (cases h; exact fun c d hc aS h x hx => hx)
      | cases h
  cont f g h := by
    unfold X at h
    split at h
    all_goals first
      | (cases h; exact fun c hc aS h x hx => gcall_cont hc hx)
      | (cases h; exact fun c hc aS h x hx => ⟨0, hx⟩)
      | cases h
noncomputable def Wd : AE.Call := W T.get X
theorem Wd_fn {f : FuncId} {first args cap : List AVal} {h : List ABox} {fn : AFunc} (h1 : X f = none) (h2 : T.get f = some fn) :
    Wd (.fn f first cap) args h = endR fn.results h (execW h.length Wd fn.code ⟨(first ++ args ++ cap).map AVal.dim ++ List.replicate (fn.ntmps - ((first ++ args ++ cap).map AVal.dim).length) (.tup []), h, false⟩) := W_go xfine h1 h2
theorem btf : (true != false) = true := Eq.trans rfl rfl
theorem bff : (false != false) = false := Eq.trans rfl rfl
theorem c2 : ((2 : Nat) : Int) = 2 := Eq.trans rfl rfl
theorem c1 : ((1 : Nat) : Int) = 1 := Eq.trans rfl rfl
theorem k12 : ilt 1 2 = true := Eq.trans rfl rfl
theorem w1 : IntKind.i64.wrap 1 = 1 := by kernel_rfl
theorem w2 : IntKind.i64.wrap 2 = 2 := by kernel_rfl
def vI (n : Int) : AVal := .agg [.int .i64 0, .int .i64 n, .str [], .lst [] .full]
def rI (n e : Int) : AVal := .agg [.int .i64 0, .int .i64 n, .str [], .lst [] .full, .int .i64 e]
section
variable {h : List ABox}
theorem whole_ok (n : Int) : Wd (.fn 22 [] []) [.int .i64 n] h = some (.ret (rI n 0), h, false) := by
  rw [Wd_fn rfl (show T.get 22 = some c22 by kernel_rfl)]
  simp only [c22, sT.1, sC.1, noApp, lookV, Nat.testBit, simprocAttr, -Int.reduceNatCast', fillS, rI]
theorem wrong_ok (e : Int) : Wd (.fn 27 [] []) [.int .i64 e] h = some (.ret (rI 0 e), h, false) := by
  rw [Wd_fn rfl (show T.get 27 = some c27 by kernel_rfl)]
  simp only [c27, sT.1, sC.1, noApp, lookV, Nat.testBit, simprocAttr, -Int.reduceNatCast', fillS, rI]
theorem bin_andU (x : Nat) : binV .and (.int .u64 (x : Int)) (.int .u64 4294967295) = some (.int .u64 ((x % 4294967296 : Nat) : Int)) := by
  have h : (BitVec.ofInt 64 (x : Int) &&& BitVec.ofInt 64 4294967295).toNat = x % 4294967296 := by
    have e : (BitVec.ofInt 64 4294967295).toNat = 2 ^ 32 - 1 := by decide
    rw [BitVec.toNat_and, e, Nat.and_two_pow_sub_one_eq_mod]
    simp [BitVec.toNat_ofInt]
  have h2 : IntKind.u64.wrap ((x % 4294967296 : Nat) : Int) = ((x % 4294967296 : Nat) : Int) := by
    rw [IntKind.wrap_u64]; omega
  have e : binV .and (.int .u64 (x : Int)) (.int .u64 4294967295) = some (.int .u64 (IntKind.u64.wrap (((BitVec.ofInt 64 (x : Int) &&& BitVec.ofInt 64 4294967295).toNat : Nat) : Int))) := by
    simp only [binV, intBin, if_true, IntKind.bits]
    rfl
  rw [e, h, h2]
theorem bin_shrU (x : Nat) : binV .shr (.int .u64 (x : Int)) (.int .u64 32) = some (.int .u64 ((x / 4294967296 : Nat) : Int)) := by
  have h : ((x : Int)).fdiv (2 ^ (min 32 64)) = ((x / 4294967296 : Nat) : Int) := by
    rw [Int.fdiv_eq_ediv_of_nonneg _ (by decide)]
    simp
  simp only [binV, intBin, IntKind.bits]
  rw [if_neg (by decide)]
  exact congrArg (fun z => some (AVal.int .u64 z)) h
theorem wmul {a b : Nat} (h : a * b < 18446744073709551616) : IntKind.u64.wrap ((a : Int) * (b : Int)) = ((a * b : Nat) : Int) := by
  rw [IntKind.wrap_u64, ← Int.natCast_mul]; omega
theorem wadd {a b : Nat} (h : a + b < 18446744073709551616) : IntKind.u64.wrap ((a : Int) + (b : Int)) = ((a + b : Nat) : Int) := by
  rw [IntKind.wrap_u64]; omega
theorem mul64_ok {x y : Nat} (hx : x < 18446744073709551616) (hy : y < 18446744073709551616) : Wd (.fn 54 [] []) [.int .u64 (x : Int), .int .u64 (y : Int)] h = some (.ret (.tup [.int .u64 ((x * y / 18446744073709551616 : Nat) : Int), .int .u64 (IntKind.u64.wrap ((x : Int) * (y : Int)))]), h, false) := by
  obtain ⟨h1, h2, h3, h4⟩ := Lib.mul64_hi x y hx hy
  have ha := Lib.half_mul_le (a := x / 4294967296) (b := y % 4294967296) (by omega) (by omega)
  have hb := Lib.half_mul_le (a := x % 4294967296) (b := y / 4294967296) (by omega) (by omega)
  have hc := Lib.half_mul_le (a := x / 4294967296) (b := y / 4294967296) (by omega) (by omega)
  have m2 : x / 4294967296 * (y % 4294967296) < 18446744073709551616 := by omega
  have m3 : x % 4294967296 * (y / 4294967296) < 18446744073709551616 := by omega
  have m4 : x / 4294967296 * (y / 4294967296) < 18446744073709551616 := by omega
  have m5 : x / 4294967296 * (y / 4294967296) + (x / 4294967296 * (y % 4294967296) + x % 4294967296 * (y % 4294967296) / 4294967296) / 4294967296 < 18446744073709551616 := by omega
  have m6 : x * y / 18446744073709551616 < 18446744073709551616 := by
    rw [← h4]; omega
  rw [← h4] at m6
  rw [Wd_fn rfl (show T.get 54 = some c54 by kernel_rfl), ← h4]
  simp only [c54, sT.1, sC.1, noApp, lookV, Nat.testBit, simprocAttr, -Int.reduceNatCast', bin_andU, bin_shrU, wmul h1, wmul m2, wmul m3, wmul m4, wadd h2, wadd h3, wadd m5, wadd m6]
theorem bin_shrI (n : Int) : binV .shr (.int .i64 n) (.int .u64 63) = some (.int .i64 (n.fdiv 9223372036854775808)) := by
  simp [binV, intBin, IntKind.bits]
def hiV (sa sb : Bool) (H x y : Int) : Int := bif sb then IntKind.u64.wrap ((bif sa then IntKind.u64.wrap (H - y) else H) - x) else (bif sa then IntKind.u64.wrap (H - y) else H)
end
end Go.Proofs.YtgcfnjnahihmdaaGreatDoor.AE
