/- A part of the proof: the abstract executor and what goes through it (part 20). No condition. -/
import Derived.Test.YtgcfnjnahihmdaaGreatDoorCards
import Derived.Test.YtgcfnjnahihmdaaGreatDoorProg
import Derived.ProofKit
set_option maxRecDepth 100000
namespace Go.Proofs.YtgcfnjnahihmdaaGreatDoor
theorem fact_in : (Rows.evalSumsRow.inPlace == Tryz.prog.inPlace 4) = true := by kernel_rfl
theorem fact_un : (Rows.evalSumsRow.unfollowed == Tryz.prog.unfollowed 4) = true := by kernel_rfl
theorem fact_re : (Rows.evalSumsRow.recurses == Tryz.prog.recurses 4) = true := by kernel_rfl
theorem fact_na : (Rows.evalSumsRow.named == Tryz.prog.varsNamed 4) = true := by kernel_rfl
theorem fact_me : Tryz.prog.mayEnter = true := by kernel_rfl
theorem facts : joinedFacts Tryz.prog 4 Tryz.f4 Rows.evalSumsSpec Rows.evalSumsRow = true := by
  unfold joinedFacts
  rw [fact_in, fact_un, fact_re, fact_na, fact_me]
  kernel_rfl
end Go.Proofs.YtgcfnjnahihmdaaGreatDoor
