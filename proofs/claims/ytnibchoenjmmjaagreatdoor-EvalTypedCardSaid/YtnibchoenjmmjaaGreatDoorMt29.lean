/- Proved: part 29. No condition. -/
import Derived.Test.YtnibchoenjmmjaaGreatDoorCards
import Derived.Test.YtnibchoenjmmjaaGreatDoorProg
import Derived.ProofKit
set_option maxRecDepth 100000
namespace Go.Proofs.YtnibchoenjmmjaaGreatDoor
theorem qxK:(Rows.evalTypedRow.inPlace == Tryz.prog.inPlace 5) = true:=by kernel_rfl
theorem qxO:(Rows.evalTypedRow.unfollowed == Tryz.prog.unfollowed 5) = true:=by kernel_rfl
theorem qxN:(Rows.evalTypedRow.recurses == Tryz.prog.recurses 5) = true:=by kernel_rfl
theorem qxM:(Rows.evalTypedRow.named == Tryz.prog.varsNamed 5) = true:=by kernel_rfl
theorem qxL:Tryz.prog.mayEnter = true:=by kernel_rfl
theorem facts:joinedFacts Tryz.prog 5 Tryz.f5 Rows.evalTypedSpec Rows.evalTypedRow = true:=by
 unfold joinedFacts
 rw [qxK,qxO,qxN,qxM,qxL]
 kernel_rfl
end Go.Proofs.YtnibchoenjmmjaaGreatDoor
