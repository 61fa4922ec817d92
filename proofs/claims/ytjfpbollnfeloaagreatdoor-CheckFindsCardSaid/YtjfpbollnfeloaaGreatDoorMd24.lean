/- A part of the proof. No condition. -/
import Derived.Test.YtjfpbollnfeloaaGreatDoorCards
import Derived.Test.YtjfpbollnfeloaaGreatDoorProg
import Derived.ProofKit
set_option maxRecDepth 100000
namespace Go.Proofs.YtjfpbollnfeloaaGreatDoor
theorem qom:(Rows.checkFindsRow.inPlace==Tryz.prog.inPlace 3)=true:=by kernel_rfl
theorem qoq:(Rows.checkFindsRow.unfollowed==Tryz.prog.unfollowed 3)=true:=by kernel_rfl
theorem qop:(Rows.checkFindsRow.recurses==Tryz.prog.recurses 3)=true:=by kernel_rfl
theorem qoo:(Rows.checkFindsRow.named==Tryz.prog.varsNamed 3)=true:=by kernel_rfl
theorem qon:Tryz.prog.mayEnter=true:=by kernel_rfl
theorem facts:joinedFacts Tryz.prog 3 Tryz.f3 Rows.checkFindsSpec Rows.checkFindsRow=true:=by unfold joinedFacts;rw[qom,qoq,qop,qoo,qon];kernel_rfl
end Go.Proofs.YtjfpbollnfeloaaGreatDoor
