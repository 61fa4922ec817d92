/- A part of the proof: the abstract executor and what goes through it (part 25). No condition. -/
import Derived.Test.YtidgnmfahonmpaaGreatDoorMq11
set_option maxRecDepth 100000
namespace Go.Proofs.YtidgnmfahonmpaaGreatDoor.AE
open Go.AE
theorem planNil_0 (a b : List UInt8) : (runF T.get Z 400 (.fn 3 [] []) [.str a, .str b, .int .i64 (.ofNat 0)] []).map (·.1) = some (.ret (.bool true)) := by kernel_rfl
theorem planNil_s (a b : List UInt8) (m : Nat) : (runF T.get Z 400 (.fn 3 [] []) [.str a, .str b, .int .i64 (.ofNat (m + 1))] []).map (·.1) = some (.ret (.bool true)) := by kernel_rfl
theorem planNil_n (a b : List UInt8) (m : Nat) : (runF T.get Z 400 (.fn 3 [] []) [.str a, .str b, .int .i64 (.negSucc m)] []).map (·.1) = some (.ret (.bool true)) := by kernel_rfl
theorem planNil_run (a b : List UInt8) (n : Int) : ∃ h e, Go.AE.run T.get Z 400 (.fn 3 [] []) [.str a, .str b, .int .i64 n] [] = some (.ret (.bool true), h, e) := by
  have key : ∀ r, (runF T.get Z 400 (.fn 3 [] []) [.str a, .str b, .int .i64 n] []).map (·.1) = some r → ∃ h e, Go.AE.run T.get Z 400 (.fn 3 [] []) [.str a, .str b, .int .i64 n] [] = some (r, h, e) := by
    intro r hr
    rw [runF_eq] at hr
    obtain ⟨⟨r', h, e⟩, h1, h2⟩ := Option.map_eq_some_iff.1 hr
    exact ⟨h, e, by rw [h1]; simp only at h2; rw [h2]⟩
  refine key _ ?_
  cases n with
  | ofNat m => cases m with
    | zero => exact planNil_0 a b
    | succ m => exact planNil_s a b m
  | negSucc m => exact planNil_n a b m
end Go.Proofs.YtidgnmfahonmpaaGreatDoor.AE
