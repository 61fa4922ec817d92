/-
  DERIVED. GIVEN WITH THE SEED: THE CARDS: each row of YtebljcklaimcfaaGreatDoorRows.lean that lists a variable, with what it lists TIED to the program's text (the seventh form; the later family's looks); each row that meets fmt, with fmt's text TOLD by the authors' own Lean function (tested against real Go, not proved from fmt's source: count such statements apart). THE CARD IS WHAT COUNTS. Prove the row's statement (the work); the ties are given (YtebljcklaimcfaaGreatDoorTie.lean); close each card by the builder's one call (the guide's Derived/Test/ToyasCard.lean, 'card_holds'). Laid BY PROGRAM, IN A SANDBOX (cutbox-door.mjs). By AI agents, Wed Nov 11 2026. No macro, syntax, notation, axiom, sorry.
-/
import Derived.Test.YtebljcklaimcfaaGreatDoorRows
import GoSem.ClaimSeven
namespace Go.Proofs.YtebljcklaimcfaaGreatDoor
namespace Rows

/-- THE TIED CARD OF 'gavottelaw13.CheckTables'. -/
def checkTablesCard : Claim7 := { stood := { row := checkTablesRow, standIns := [], harness := (true, "d7f0d9c1bbe0904d3445b7a5ad5f7df4d633744ab13049cfcc2d6d4c28c04045"), looks := true }, kinds := [], alts := [], laidByText := true, laidKinds := [.data, .data, .data, .sentinel, .sentinel, .data, .data], laidTests := true, laidLooks := .later }
def CheckTablesCardSaid : Prop := Claim7.holds Tryz.pinned (.plain (OpenSpec.ofChange checkTablesSpec)) checkTablesCard

/-- THE SECOND FORM's CARD OF 'gavottelaw13.CheckTables'. -/
def checkTablesUptoCard : Claim7 := { stood := { row := checkTablesUptoRow, standIns := [], harness := (true, "d7f0d9c1bbe0904d3445b7a5ad5f7df4d633744ab13049cfcc2d6d4c28c04045"), looks := true }, kinds := [], alts := [], laidByText := true, laidKinds := [.data, .data, .data, .sentinel, .sentinel, .data, .data], laidTests := true, laidLooks := .later }
def CheckTablesUptoCardSaid : Prop := Claim7.holds Tryz.pinned (.plain (OpenSpec.upto checkTablesSpec)) checkTablesUptoCard
end Rows
end Go.Proofs.YtebljcklaimcfaaGreatDoor
