/- A part of the proof: the abstract executor and what goes through it (part 23). No condition. -/
import Derived.Test.YtkmlapholimbcaaGreatDoorCards
import Derived.Test.YtkmlapholimbcaaGreatDoorProg
import Derived.ProofKit
set_option maxRecDepth 100000
namespace Go.Proofs.YtkmlapholimbcaaGreatDoor
theorem qwl:(Rows.showProgramsRow.inPlace == Tryz.prog.inPlace 4) = true:=by kernel_rfl
theorem qwp:(Rows.showProgramsRow.unfollowed == Tryz.prog.unfollowed 4) = true:=by kernel_rfl
theorem qwo:(Rows.showProgramsRow.recurses == Tryz.prog.recurses 4) = true:=by kernel_rfl
theorem qwn:(Rows.showProgramsRow.named == Tryz.prog.varsNamed 4) = true:=by kernel_rfl
theorem qwm:Tryz.prog.mayEnter = true:=by kernel_rfl
theorem facts:joinedFacts Tryz.prog 4 Tryz.f4 Rows.showProgramsSpec Rows.showProgramsRow = true:=by
 unfold joinedFacts
 rw [qwl,qwp,qwo,qwn,qwm]
 kernel_rfl
end Go.Proofs.YtkmlapholimbcaaGreatDoor
