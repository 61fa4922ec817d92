/- A part of the proof: the abstract executor and what goes through it (part 17). No condition. -/
import Derived.Test.YtgcfnjnahihmdaaGreatDoorMq11
import Derived.Test.YtgcfnjnahihmdaaGreatDoorMq3
set_option maxRecDepth 100000
namespace Go.Proofs.YtgcfnjnahihmdaaGreatDoor.AE
open Go.AE
theorem awake_4 (f : Nat → ABox) : (runF T.get X 400 (.fn 7 [] []) [] (bx f 4)).map (fun r => (r.1, r.2.1.take 4)) = some (.ret (.bool true), bx f 4) := by kernel_rfl
theorem awake_ex (b0 b1 b2 b3 : ABox) : ∃ R e, Wd (.fn 7 [] []) [] [b0, b1, b2, b3] = some (.ret (.bool true), [b0, b1, b2, b3] ++ R, e) := by
  have h := awake_4 fun i => match i with | 0 => b0 | 1 => b1 | 2 => b2 | _ => b3
  rw [runF_eq] at h
  obtain ⟨⟨r, hh, e⟩, h1, h2⟩ := Option.map_eq_some_iff.1 h
  simp only [Prod.mk.injEq] at h2
  obtain ⟨rfl, h3⟩ := h2
  refine ⟨hh.drop 4, e, (W_iff xfine _).2 ⟨400, ?_⟩⟩
  have e2 : ([b0, b1, b2, b3] : List ABox) ++ hh.drop 4 = hh := by
    rw [← List.take_append_drop 4 hh, h3]
    simp [bx]
    rfl
  rw [e2]
  exact h1
noncomputable def awR (b0 b1 b2 b3 : ABox) : List ABox := (awake_ex b0 b1 b2 b3).choose
noncomputable def awE (b0 b1 b2 b3 : ABox) : Bool := (awake_ex b0 b1 b2 b3).choose_spec.choose
theorem awake_W (b0 b1 b2 b3 : ABox) : Wd (.fn 7 [] []) [] [b0, b1, b2, b3] = some (.ret (.bool true), b0 :: b1 :: b2 :: b3 :: awR b0 b1 b2 b3, awE b0 b1 b2 b3) := (awake_ex b0 b1 b2 b3).choose_spec.choose_spec
end Go.Proofs.YtgcfnjnahihmdaaGreatDoor.AE
