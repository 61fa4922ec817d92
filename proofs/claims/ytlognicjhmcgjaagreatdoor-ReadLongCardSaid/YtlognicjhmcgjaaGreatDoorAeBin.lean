/- The abstract executor: its two-sided operations are the machine's. No condition. -/
import Derived.Test.YtlognicjhmcgjaaGreatDoorAePure
import Derived.Lib.Strings
import GoSem.Dispatch
namespace Go.AE

/-- a plain value, as the machine has it -/
def valOf : AVal → Value
  | .int k n => .int k n
  | .bool b => .bool b
  | .str s => .string ⟨s.toArray⟩
  | _ => undef

section
variable {P : Program} {γ : Nat → Option Nat} {imm : Nat → Nat → Option Value}

theorem intBin_run {op : BinOp} {k : IntKind} {a b : Int} {r : AVal} (h : intBin op k a b = some r) (w : World) (j : IntKind) (hj : j = k ∨ op = .shl ∨ op = .shr) (t : TypeId) :
    (binOp op t (.int k a) (.int j b)).run P w = .ok (valOf r) w ∧ VRel γ imm r (valOf r) ∧ r.dim = r := by
  have hj' : op ≠ .shl → op ≠ .shr → j = k := by intro h1 h2; rcases hj with h | h | h <;> first | exact h | exact absurd h h1 | exact absurd h h2
  cases op <;> simp only [intBin, ile_eq, ilt_eq] at h
  case quo =>
    split at h
    · cases h
    · rename_i hb
      cases h; obtain rfl := hj' (by simp) (by simp)
      exact ⟨by simp [binOp, Op.intDiv, hb, valOf], by simp [VRel, valOf], rfl⟩
  case rem =>
    split at h
    · cases h
    · rename_i hb
      cases h; obtain rfl := hj' (by simp) (by simp)
      exact ⟨by simp [binOp, Op.intDiv, hb, valOf], by simp [VRel, valOf], rfl⟩
  case shl =>
    split at h
    · cases h
    · rename_i hb
      cases h
      exact ⟨by simp [binOp, Op.shift, hb, valOf], by simp [VRel, valOf], rfl⟩
  case shr =>
    split at h
    · cases h
    · rename_i hb
      cases h
      exact ⟨by simp [binOp, Op.shift, hb, valOf], by simp [VRel, valOf], rfl⟩
  all_goals
    cases h
    obtain rfl := hj' (by simp) (by simp)
    exact ⟨by simp only [binOp, ne_eq, not_true_eq_false, if_false]; rfl, by simp [VRel, valOf], rfl⟩

theorem strBin_run {op : BinOp} {a b : List UInt8} {r : AVal} (h : strBin op a b = some r) (w : World) {x y : ByteArray} (hx : x.data.toList = a) (hy : y.data.toList = b) (t : TypeId) :
    (binOp op t (.string x) (.string y)).run P w = .ok (valOf r) w ∧ VRel γ imm r (valOf r) ∧ r.dim = r := by
  have ex : x.toList = a := by rw [Lib.toList_data, hx]
  have ey : y.toList = b := by rw [Lib.toList_data, hy]
  cases op <;> simp only [strBin] at h
  case add =>
    split at h
    · rename_i hl
      cases h
      have hs : ¬ (((x.size + y.size : Nat) : Int) > IntKind.i64.max) := by
        have h1 : x.size = a.length := by rw [← hx]; rfl
        have h2 : y.size = b.length := by rw [← hy]; rfl
        unfold limit at hl
        simp only [IntKind.max, IntKind.signed, IntKind.bits, if_true]
        omega
      have hxy : x ++ y = ⟨(a ++ b).toArray⟩ := by
        apply ByteArray.ext
        apply Array.ext'
        rw [ByteArray.data_append, Array.toList_append, hx, hy]
      refine ⟨?_, ?_, rfl⟩
      · simp only [binOp, Op.stringOp, if_neg hs, valOf, hxy]; rfl
      · simp only [VRel, valOf]; exact ⟨_, rfl, rfl⟩
    · cases h
  all_goals first
    | (cases h; done)
    | (cases h; exact ⟨by simp [binOp, Op.stringOp, ex, ey, valOf], by simp [VRel, valOf], rfl⟩)

theorem binV_run {op : BinOp} {x y : AVal} {r : AVal} (h : binV op x y = some r) (w : World) {vx vy : Value} (hx : VRel γ imm x vx) (hy : VRel γ imm y vy) (t : TypeId) :
    (binOp op t vx vy).run P w = .ok (valOf r) w ∧ VRel γ imm r (valOf r) ∧ r.dim = r := by
  unfold binV at h
  split at h
  · simp only [VRel] at hx hy
    subst hx hy
    split at h
    · exact intBin_run h w _ (.inr (.inl rfl)) t
    · exact intBin_run h w _ (.inr (.inr rfl)) t
    · split at h
      · rename_i hk
        exact intBin_run h w _ (.inl hk.symm) t
      · cases h
  · simp only [VRel] at hx hy
    obtain ⟨bx, rfl, hbx⟩ := hx
    obtain ⟨by', rfl, hby⟩ := hy
    exact strBin_run h w hbx hby t
  · cases h

theorem eqGuard_run {op : BinOp} {t : TypeId} {x y : Operand} {a b : Value} (w : World) (h1 : ¬ (a = .nilIface ∧ b = .nilIface) ∨ isC x = true ∨ isC y = true)
    (h2 : ∀ xs ys, a = .agg xs → b = .agg ys → False) : (eqGuard op t x y a b).run P w = .ok () w := by
  by_cases hn : a = .nilIface ∧ b = .nilIface
  · obtain ⟨rfl, rfl⟩ := hn
    rcases h1 with h1 | h1 | h1
    · exact absurd ⟨rfl, rfl⟩ h1
    · cases x <;> first | (cases h1; done) | (cases op <;> rfl)
    · cases y <;> first | (cases h1; done) | (cases op <;> cases x <;> rfl)
  · clear h1
    cases op <;> first
      | rfl
      | (cases a <;> first
          | rfl
          | (cases b <;> first | rfl | exact (h2 _ _ rfl rfl).elim | exact absurd ⟨rfl, rfl⟩ hn))
end
end Go.AE
