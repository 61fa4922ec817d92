/- A part of the proof. No condition. -/
import Derived.Test.YthgghcnoaecnoaaGreatDoorCards
import Derived.Test.YthgghcnoaecnoaaGreatDoorProg
import Derived.ProofKit
set_option maxRecDepth 100000
namespace Go.Proofs.YthgghcnoaecnoaaGreatDoor
theorem qnz:(Rows.checkAloneRow.inPlace==Tryz.prog.inPlace 3)=true:=by kernel_rfl
theorem qnD:(Rows.checkAloneRow.unfollowed==Tryz.prog.unfollowed 3)=true:=by kernel_rfl
theorem qnC:(Rows.checkAloneRow.recurses==Tryz.prog.recurses 3)=true:=by kernel_rfl
theorem qnB:(Rows.checkAloneRow.named==Tryz.prog.varsNamed 3)=true:=by kernel_rfl
theorem qnA:Tryz.prog.mayEnter=true:=by kernel_rfl
theorem facts:joinedFacts Tryz.prog 3 Tryz.f3 Rows.checkAloneSpec Rows.checkAloneRow=true:=by unfold joinedFacts;rw[qnz,qnD,qnC,qnB,qnA];kernel_rfl
end Go.Proofs.YthgghcnoaecnoaaGreatDoor
