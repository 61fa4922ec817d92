/- A part of the proof: the abstract executor and what goes through it (part 27). No condition. -/
import Derived.Test.YtnibchoenjmmjaaGreatDoorCards
import Derived.Test.YtnibchoenjmmjaaGreatDoorProg
import Derived.ProofKit
set_option maxRecDepth 100000
namespace Go.Proofs.YtnibchoenjmmjaaGreatDoor
theorem qwu:(Rows.evalEachRow.inPlace == Tryz.prog.inPlace 4) = true:=by kernel_rfl
theorem qwy:(Rows.evalEachRow.unfollowed == Tryz.prog.unfollowed 4) = true:=by kernel_rfl
theorem qwx:(Rows.evalEachRow.recurses == Tryz.prog.recurses 4) = true:=by kernel_rfl
theorem qww:(Rows.evalEachRow.named == Tryz.prog.varsNamed 4) = true:=by kernel_rfl
theorem qwv:Tryz.prog.mayEnter = true:=by kernel_rfl
theorem facts:joinedFacts Tryz.prog 4 Tryz.f4 Rows.evalEachSpec Rows.evalEachRow = true:=by
 unfold joinedFacts
 rw [qwu,qwy,qwx,qww,qwv]
 kernel_rfl
end Go.Proofs.YtnibchoenjmmjaaGreatDoor
