/- A part of the proof: the abstract executor and what goes through it (part 18). No condition. -/
import Derived.Test.YtgcfnjnahihmdaaGreatDoorMq11
import Derived.Test.YtgcfnjnahihmdaaGreatDoorMq3
set_option maxRecDepth 100000
namespace Go.Proofs.YtgcfnjnahihmdaaGreatDoor.AE
open Go.AE
theorem awake_0 : (runF T.get X 400 (.fn 7 [] []) [] []).map (fun r => (r.1, r.2.1)) = some (.ret (.bool true), []) := by kernel_rfl
theorem awake_0x : ∃ R e, Wd (.fn 7 [] []) [] [] = some (.ret (.bool true), R, e) ∧ ∃ Q e', Wd (.fn 7 [] []) [] R = some (.ret (.bool true), Q, e') := by
  have h := awake_0
  rw [runF_eq] at h
  obtain ⟨⟨r, hh, e⟩, h1, h2⟩ := Option.map_eq_some_iff.1 h
  simp only [Prod.mk.injEq] at h2
  obtain ⟨rfl, rfl⟩ := h2
  have h3 := (W_iff xfine _).2 ⟨400, h1⟩
  exact ⟨[], e, h3, [], e, h3⟩
end Go.Proofs.YtgcfnjnahihmdaaGreatDoor.AE
