/- A part of the proof: the abstract executor and what goes through it (part 12). No condition. -/
import Derived.Test.YtgcfnjnahihmdaaGreatDoorMq11
set_option maxRecDepth 100000
namespace Go.Proofs.YtgcfnjnahihmdaaGreatDoor.AE
open Go.AE
def I64 (a : Int) : Prop := -9223372036854775808 ≤ a ∧ a ≤ 9223372036854775807
def fits (r : Int) : Bool := ile (-9223372036854775808) r && ile r 9223372036854775807
theorem fits_iff {r : Int} : fits r = true ↔ I64 r := by simp [fits, ile_eq, I64]
def outN (r : Int) : Int := bif fits r then r else 0
def outE (r : Int) : Int := bif fits r then 0 else 2
def calcV (op a b : Int) : Int × Int :=
  if op = 15 then (outN (a + b), outE (a + b)) else if op = 16 then (outN (a - b), outE (a - b)) else if op = 17 then (outN (a * b), outE (a * b))
  else if b = 0 then (0, 3) else if op = 18 then (outN (a.tdiv b), outE (a.tdiv b)) else (a.tmod b, 0)
section
variable {h : List ABox} {a b : Int}
theorem abs_mul (ha : I64 a) (hb : I64 b) : -85070591730234615865843651857942052864 ≤ a * b ∧ a * b ≤ 85070591730234615865843651857942052864 := by
  obtain ⟨a1, a2⟩ := ha
  obtain ⟨b1, b2⟩ := hb
  have : (a * b).natAbs ≤ 9223372036854775808 * 9223372036854775808 := by
    rw [Int.natAbs_mul]
    exact Nat.mul_le_mul (by omega) (by omega)
  omega
theorem prod_xy {x y : Nat} (ha : I64 a) (hb : I64 b) (hx : IntKind.u64.wrap a = (x : Int)) (hy : IntKind.u64.wrap b = (y : Int)) :
    ((x * y : Nat) : Int) = a * b + (bif ilt a 0 then 18446744073709551616 * b else 0) + (bif ilt b 0 then 18446744073709551616 * a else 0) + (bif ilt a 0 && ilt b 0 then 18446744073709551616 * 18446744073709551616 else 0) := by
  obtain ⟨a1, a2⟩ := ha
  obtain ⟨b1, b2⟩ := hb
  rw [IntKind.wrap_u64] at hx hy
  rw [Int.natCast_mul, ← hx, ← hy, ilt_eq, ilt_eq]
  rcases Int.lt_or_le a 0 with la | la <;> rcases Int.lt_or_le b 0 with lb | lb
  · have e1 : a % 18446744073709551616 = a + 18446744073709551616 := by omega
    have e2 : b % 18446744073709551616 = b + 18446744073709551616 := by omega
    rw [e1, e2, decide_eq_true la, decide_eq_true lb, Int.add_mul, Int.mul_add, Int.mul_add]
    simp only [Bool.and_true, cond_true]
    omega
  · have e1 : a % 18446744073709551616 = a + 18446744073709551616 := by omega
    have e2 : b % 18446744073709551616 = b := by omega
    rw [e1, e2, decide_eq_true la, decide_eq_false (by omega), Int.add_mul]
    simp
  · have e1 : a % 18446744073709551616 = a := by omega
    have e2 : b % 18446744073709551616 = b + 18446744073709551616 := by omega
    rw [e1, e2, decide_eq_false (by omega), decide_eq_true lb, Int.mul_add]
    simp only [Bool.false_and, cond_true, cond_false]
    omega
  · have e1 : a % 18446744073709551616 = a := by omega
    have e2 : b % 18446744073709551616 = b := by omega
    rw [e1, e2, decide_eq_false (by omega), decide_eq_false (by omega)]
    simp
end
end Go.Proofs.YtgcfnjnahihmdaaGreatDoor.AE
