/- A part of the proof. No condition. -/
import Derived.Test.YtebljcklaimcfaaGreatDoorCards
import Derived.Test.YtebljcklaimcfaaGreatDoorProg
import Derived.ProofKit
set_option maxRecDepth 100000
namespace Go.Proofs.YtebljcklaimcfaaGreatDoor
theorem qo3:(Rows.checkTablesRow.inPlace==Tryz.prog.inPlace 3)=true:=by kernel_rfl
theorem qo7:(Rows.checkTablesRow.unfollowed==Tryz.prog.unfollowed 3)=true:=by kernel_rfl
theorem qo6:(Rows.checkTablesRow.recurses==Tryz.prog.recurses 3)=true:=by kernel_rfl
theorem qo5:(Rows.checkTablesRow.named==Tryz.prog.varsNamed 3)=true:=by kernel_rfl
theorem qo4:Tryz.prog.mayEnter=true:=by kernel_rfl
theorem facts:joinedFacts Tryz.prog 3 Tryz.f3 Rows.checkTablesSpec Rows.checkTablesRow=true:=by unfold joinedFacts;rw[qo3,qo7,qo6,qo5,qo4];kernel_rfl
end Go.Proofs.YtebljcklaimcfaaGreatDoor
