/- A part of the proof: the abstract executor and what goes through it (part 17). No condition. -/
import Derived.Test.YtppjhkjmpepghaaGreatDoorCards
import Derived.Test.YtppjhkjmpepghaaGreatDoorProg
import Derived.ProofKit
set_option maxRecDepth 100000
namespace Go.Proofs.YtppjhkjmpepghaaGreatDoor
theorem fact_in : (Rows.atomNilRow.inPlace == Tryz.prog.inPlace 3) = true := by kernel_rfl
theorem fact_un : (Rows.atomNilRow.unfollowed == Tryz.prog.unfollowed 3) = true := by kernel_rfl
theorem fact_re : (Rows.atomNilRow.recurses == Tryz.prog.recurses 3) = true := by kernel_rfl
theorem fact_na : (Rows.atomNilRow.named == Tryz.prog.varsNamed 3) = true := by kernel_rfl
theorem fact_me : Tryz.prog.mayEnter = true := by kernel_rfl
theorem facts : joinedFacts Tryz.prog 3 Tryz.f3 Rows.atomNilSpec Rows.atomNilRow = true := by
  unfold joinedFacts
  rw [fact_in, fact_un, fact_re, fact_na, fact_me]
  kernel_rfl
end Go.Proofs.YtppjhkjmpepghaaGreatDoor
