/- A part of the proof: the abstract executor and what goes through it (part 29). No condition. -/
import Derived.Test.YtnibchoenjmmjaaGreatDoorCards
import Derived.Test.YtnibchoenjmmjaaGreatDoorProg
import Derived.ProofKit
set_option maxRecDepth 100000
namespace Go.Proofs.YtnibchoenjmmjaaGreatDoor
theorem qxN:(Rows.evalPlaysRow.inPlace == Tryz.prog.inPlace 3) = true:=by kernel_rfl
theorem qxR:(Rows.evalPlaysRow.unfollowed == Tryz.prog.unfollowed 3) = true:=by kernel_rfl
theorem qxQ:(Rows.evalPlaysRow.recurses == Tryz.prog.recurses 3) = true:=by kernel_rfl
theorem qxP:(Rows.evalPlaysRow.named == Tryz.prog.varsNamed 3) = true:=by kernel_rfl
theorem qxO:Tryz.prog.mayEnter = true:=by kernel_rfl
theorem facts:joinedFacts Tryz.prog 3 Tryz.f3 Rows.evalPlaysSpec Rows.evalPlaysRow = true:=by
 unfold joinedFacts
 rw [qxN,qxR,qxQ,qxP,qxO]
 kernel_rfl
end Go.Proofs.YtnibchoenjmmjaaGreatDoor
