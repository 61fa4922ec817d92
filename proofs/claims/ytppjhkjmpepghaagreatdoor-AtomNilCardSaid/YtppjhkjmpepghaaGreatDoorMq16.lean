/- A part of the proof: the abstract executor and what goes through it (part 16). No condition. -/
import Derived.Test.YtppjhkjmpepghaaGreatDoorMq11
set_option maxRecDepth 100000
namespace Go.Proofs.YtppjhkjmpepghaaGreatDoor.AE
open Go.AE
theorem law_all (a b c : Int) (xs : List AVal) (s : List UInt8) : (Go.AE.run T.get Z 400 (.fn 3 [] []) [.agg [.int .i64 a, .int .i64 b, .int .i64 c], .lst xs .no, .str s] []).map (·.1) = some (.ret (.bool true)) := by kernel_rfl
theorem law_run (a b c : Int) (xs : List AVal) (s : List UInt8) : ∃ h e, Go.AE.run T.get Z 400 (.fn 3 [] []) [.agg [.int .i64 a, .int .i64 b, .int .i64 c], .lst xs .no, .str s] [] = some (.ret (.bool true), h, e) := by
  obtain ⟨⟨r', h, e⟩, h1, h2⟩ := Option.map_eq_some_iff.1 (law_all a b c xs s)
  exact ⟨h, e, by rw [h1]; simp only at h2; rw [h2]⟩
end Go.Proofs.YtppjhkjmpepghaaGreatDoor.AE
