/- A part of the proof: the abstract executor and what goes through it (part 45). No condition. -/
import Derived.Test.YtnlhdflceelacaaGreatDoorCards
import Derived.Test.YtnlhdflceelacaaGreatDoorProg
import Derived.ProofKit
set_option maxRecDepth 100000
namespace Go.Proofs.YtnlhdflceelacaaGreatDoor
theorem qtl:(Rows.treeSortsRow.inPlace == Tryz.prog.inPlace 3) = true:=by kernel_rfl
theorem qtp:(Rows.treeSortsRow.unfollowed == Tryz.prog.unfollowed 3) = true:=by kernel_rfl
theorem qto:(Rows.treeSortsRow.recurses == Tryz.prog.recurses 3) = true:=by kernel_rfl
theorem qtn:(Rows.treeSortsRow.named == Tryz.prog.varsNamed 3) = true:=by kernel_rfl
theorem qtm:Tryz.prog.mayEnter = true:=by kernel_rfl
theorem facts:joinedFacts Tryz.prog 3 Tryz.f3 Rows.treeSortsSpec Rows.treeSortsRow = true:=by
 unfold joinedFacts
 rw [qtl,qtp,qto,qtn,qtm]
 kernel_rfl
end Go.Proofs.YtnlhdflceelacaaGreatDoor
