/- A part of the proof. No condition. -/
import Derived.Test.YtcbfifamliijlaaGreatDoorCards
import Derived.Test.YtcbfifamliijlaaGreatDoorProg
import Derived.ProofKit
set_option maxRecDepth 100000
namespace Go.Proofs.YtcbfifamliijlaaGreatDoor
theorem qAy:(Rows.showAgainRow.inPlace == Tryz.prog.inPlace 4) = true:=by kernel_rfl
theorem qAC:(Rows.showAgainRow.unfollowed == Tryz.prog.unfollowed 4) = true:=by kernel_rfl
theorem qAB:(Rows.showAgainRow.recurses == Tryz.prog.recurses 4) = true:=by kernel_rfl
theorem qAA:(Rows.showAgainRow.named == Tryz.prog.varsNamed 4) = true:=by kernel_rfl
theorem qAz:Tryz.prog.mayEnter = true:=by kernel_rfl
theorem facts:joinedFacts Tryz.prog 4 Tryz.f4 Rows.showAgainSpec Rows.showAgainRow = true:=by
 unfold joinedFacts
 rw [qAy,qAC,qAB,qAA,qAz]
 kernel_rfl
end Go.Proofs.YtcbfifamliijlaaGreatDoor
