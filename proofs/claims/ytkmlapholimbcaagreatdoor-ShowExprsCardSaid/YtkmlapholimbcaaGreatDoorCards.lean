/-
  DERIVED. GIVEN WITH THE SEED: THE CARDS: each row of YtkmlapholimbcaaGreatDoorRows.lean that lists a variable, with what it lists TIED to the program's text (the seventh form; the later family's looks); each row that meets fmt, with fmt's text TOLD by the authors' own Lean function (tested against real Go, not proved from fmt's source: count such statements apart). THE CARD IS WHAT COUNTS. Prove the row's statement (the work); the ties are given (YtkmlapholimbcaaGreatDoorTie.lean); close each card by the builder's one call (the guide's Derived/Test/ToyasCard.lean, 'card_holds'). Laid BY PROGRAM, IN A SANDBOX (cutbox-door.mjs). By AI agents, Wed Nov 11 2026. No macro, syntax, notation, axiom, sorry.
-/
import Derived.Test.YtkmlapholimbcaaGreatDoorRows
import GoSem.ClaimSeven
namespace Go.Proofs.YtkmlapholimbcaaGreatDoor
namespace Rows

/-- THE TIED CARD OF 'gavottelaw11.ShowExprs'. -/
def showExprsCard : Claim7 := { stood := { row := showExprsRow, standIns := [], harness := (true, "97fee0d9cb8fcff3d7a626d4621caf66c24a844c9e6d1a38acd23e7b72121120"), looks := true }, kinds := [], alts := [], laidByText := true, laidKinds := [.data, .data, .data, .sentinel, .sentinel, .data, .data, .data], laidTests := true, laidLooks := .later }
def ShowExprsCardSaid : Prop := Claim7.holds Tryz.pinned (.plain (OpenSpec.ofChange showExprsSpec)) showExprsCard

/-- THE TIED CARD OF 'gavottelaw11.ShowPrograms'. -/
def showProgramsCard : Claim7 := { stood := { row := showProgramsRow, standIns := [], harness := (true, "97fee0d9cb8fcff3d7a626d4621caf66c24a844c9e6d1a38acd23e7b72121120"), looks := true }, kinds := [], alts := [], laidByText := true, laidKinds := [.data, .data, .data, .sentinel, .sentinel, .data, .data, .data], laidTests := true, laidLooks := .later }
def ShowProgramsCardSaid : Prop := Claim7.holds Tryz.pinned (.plain (OpenSpec.ofChange showProgramsSpec)) showProgramsCard

/-- THE TIED CARD OF 'gavottelaw11.ShowLines'. -/
def showLinesCard : Claim7 := { stood := { row := showLinesRow, standIns := [], harness := (true, "97fee0d9cb8fcff3d7a626d4621caf66c24a844c9e6d1a38acd23e7b72121120"), looks := true }, kinds := [], alts := [], laidByText := true, laidKinds := [.data, .data, .data, .sentinel, .sentinel, .data, .data, .data], laidTests := true, laidLooks := .later }
def ShowLinesCardSaid : Prop := Claim7.holds Tryz.pinned (.plain (OpenSpec.ofChange showLinesSpec)) showLinesCard

/-- THE SECOND FORM's CARD OF 'gavottelaw11.ShowExprs'. -/
def showExprsUptoCard : Claim7 := { stood := { row := showExprsUptoRow, standIns := [], harness := (true, "97fee0d9cb8fcff3d7a626d4621caf66c24a844c9e6d1a38acd23e7b72121120"), looks := true }, kinds := [], alts := [], laidByText := true, laidKinds := [.data, .data, .data, .sentinel, .sentinel, .data, .data, .data], laidTests := true, laidLooks := .later }
def ShowExprsUptoCardSaid : Prop := Claim7.holds Tryz.pinned (.plain (OpenSpec.upto showExprsSpec)) showExprsUptoCard

/-- THE SECOND FORM's CARD OF 'gavottelaw11.ShowPrograms'. -/
def showProgramsUptoCard : Claim7 := { stood := { row := showProgramsUptoRow, standIns := [], harness := (true, "97fee0d9cb8fcff3d7a626d4621caf66c24a844c9e6d1a38acd23e7b72121120"), looks := true }, kinds := [], alts := [], laidByText := true, laidKinds := [.data, .data, .data, .sentinel, .sentinel, .data, .data, .data], laidTests := true, laidLooks := .later }
def ShowProgramsUptoCardSaid : Prop := Claim7.holds Tryz.pinned (.plain (OpenSpec.upto showProgramsSpec)) showProgramsUptoCard

/-- THE SECOND FORM's CARD OF 'gavottelaw11.ShowLines'. -/
def showLinesUptoCard : Claim7 := { stood := { row := showLinesUptoRow, standIns := [], harness := (true, "97fee0d9cb8fcff3d7a626d4621caf66c24a844c9e6d1a38acd23e7b72121120"), looks := true }, kinds := [], alts := [], laidByText := true, laidKinds := [.data, .data, .data, .sentinel, .sentinel, .data, .data, .data], laidTests := true, laidLooks := .later }
def ShowLinesUptoCardSaid : Prop := Claim7.holds Tryz.pinned (.plain (OpenSpec.upto showLinesSpec)) showLinesUptoCard
end Rows
end Go.Proofs.YtkmlapholimbcaaGreatDoor
