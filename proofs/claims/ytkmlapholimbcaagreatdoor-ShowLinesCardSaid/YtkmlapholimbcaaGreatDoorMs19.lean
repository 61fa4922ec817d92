/- A part of the proof: the abstract executor and what goes through it (part 19). No condition. -/
import Derived.Test.YtkmlapholimbcaaGreatDoorCards
import Derived.Test.YtkmlapholimbcaaGreatDoorProg
import Derived.ProofKit
set_option maxRecDepth 100000
namespace Go.Proofs.YtkmlapholimbcaaGreatDoor
theorem fact_in:(Rows.showLinesRow.inPlace == Tryz.prog.inPlace 5) = true:=by kernel_rfl
theorem fact_un:(Rows.showLinesRow.unfollowed == Tryz.prog.unfollowed 5) = true:=by kernel_rfl
theorem fact_re:(Rows.showLinesRow.recurses == Tryz.prog.recurses 5) = true:=by kernel_rfl
theorem fact_na:(Rows.showLinesRow.named == Tryz.prog.varsNamed 5) = true:=by kernel_rfl
theorem fact_me:Tryz.prog.mayEnter = true:=by kernel_rfl
theorem facts:joinedFacts Tryz.prog 5 Tryz.f5 Rows.showLinesSpec Rows.showLinesRow = true:=by
 unfold joinedFacts
 rw [fact_in,fact_un,fact_re,fact_na,fact_me]
 kernel_rfl
end Go.Proofs.YtkmlapholimbcaaGreatDoor
