/- A part of the proof. No condition. -/
import Derived.Test.YtcbfifamliijlaaGreatDoorCards
import Derived.Test.YtcbfifamliijlaaGreatDoorProg
import Derived.ProofKit
set_option maxRecDepth 100000
namespace Go.Proofs.YtcbfifamliijlaaGreatDoor
theorem qzL:(Rows.showBackRow.inPlace == Tryz.prog.inPlace 3) = true:=by kernel_rfl
theorem qzP:(Rows.showBackRow.unfollowed == Tryz.prog.unfollowed 3) = true:=by kernel_rfl
theorem qzO:(Rows.showBackRow.recurses == Tryz.prog.recurses 3) = true:=by kernel_rfl
theorem qzN:(Rows.showBackRow.named == Tryz.prog.varsNamed 3) = true:=by kernel_rfl
theorem qzM:Tryz.prog.mayEnter = true:=by kernel_rfl
theorem facts:joinedFacts Tryz.prog 3 Tryz.f3 Rows.showBackSpec Rows.showBackRow = true:=by
 unfold joinedFacts
 rw [qzL,qzP,qzO,qzN,qzM]
 kernel_rfl
end Go.Proofs.YtcbfifamliijlaaGreatDoor
