/- A part of the proof: the abstract executor and what goes through it (part 20). No condition. -/
import Derived.Test.YtkmlapholimbcaaGreatDoorCards
import Derived.Test.YtkmlapholimbcaaGreatDoorProg
import Derived.ProofKit
set_option maxRecDepth 100000
namespace Go.Proofs.YtkmlapholimbcaaGreatDoor
theorem qwE:(Rows.showExprsRow.inPlace == Tryz.prog.inPlace 3) = true:=by kernel_rfl
theorem qwI:(Rows.showExprsRow.unfollowed == Tryz.prog.unfollowed 3) = true:=by kernel_rfl
theorem qwH:(Rows.showExprsRow.recurses == Tryz.prog.recurses 3) = true:=by kernel_rfl
theorem qwG:(Rows.showExprsRow.named == Tryz.prog.varsNamed 3) = true:=by kernel_rfl
theorem qwF:Tryz.prog.mayEnter = true:=by kernel_rfl
theorem facts:joinedFacts Tryz.prog 3 Tryz.f3 Rows.showExprsSpec Rows.showExprsRow = true:=by
 unfold joinedFacts
 rw [qwE,qwI,qwH,qwG,qwF]
 kernel_rfl
end Go.Proofs.YtkmlapholimbcaaGreatDoor
