/- A part of the proof: the abstract executor and what goes through it (part 37). No condition. -/
import Derived.Test.YtfmkpcgpkdnioaaGreatDoorCards
import Derived.Test.YtfmkpcgpkdnioaaGreatDoorProg
import Derived.ProofKit
set_option maxRecDepth 100000
namespace Go.Proofs.YtfmkpcgpkdnioaaGreatDoor
theorem fact_in:(Rows.checkLowersRow.inPlace == Tryz.prog.inPlace 3) = true:=by kernel_rfl
theorem fact_un:(Rows.checkLowersRow.unfollowed == Tryz.prog.unfollowed 3) = true:=by kernel_rfl
theorem fact_re:(Rows.checkLowersRow.recurses == Tryz.prog.recurses 3) = true:=by kernel_rfl
theorem fact_na:(Rows.checkLowersRow.named == Tryz.prog.varsNamed 3) = true:=by kernel_rfl
theorem fact_me:Tryz.prog.mayEnter = true:=by kernel_rfl
theorem facts:joinedFacts Tryz.prog 3 Tryz.f3 Rows.checkLowersSpec Rows.checkLowersRow = true:=by
 unfold joinedFacts
 rw [fact_in,fact_un,fact_re,fact_na,fact_me]
 kernel_rfl
end Go.Proofs.YtfmkpcgpkdnioaaGreatDoor
