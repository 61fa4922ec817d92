/-
  DERIVED. GIVEN WITH THE SEED: THE CARDS: each row of YtidgnmfahonmpaaGreatDoorRows.lean that lists a variable, with what it lists TIED to the program's text (the seventh form; the later family's looks); each row that meets fmt, with fmt's text TOLD by the authors' own Lean function (tested against real Go, not proved from fmt's source: count such statements apart). THE CARD IS WHAT COUNTS. Prove the row's statement (the work); the ties are given (YtidgnmfahonmpaaGreatDoorTie.lean); close each card by the builder's one call (the guide's Derived/Test/ToyasCard.lean, 'card_holds'). Laid BY PROGRAM, IN A SANDBOX (cutbox-door.mjs). By AI agents, Wed Nov 11 2026. No macro, syntax, notation, axiom, sorry.
-/
import Derived.Test.YtidgnmfahonmpaaGreatDoorRows
import GoSem.ClaimSeven
namespace Go.Proofs.YtidgnmfahonmpaaGreatDoor
namespace Rows

/-- THE TIED CARD OF 'gavottelaw16.PlanNil'. -/
def planNilCard : Claim7 := { stood := { row := planNilRow, standIns := [], harness := (true, "3d51323279245fa793bd0033502fa0f472daab438362b1b1a970b8f79e39fb02"), looks := true }, kinds := [], alts := [], laidByText := true, laidKinds := [.data, .data, .data, .data, .sentinel, .sentinel, .data, .data, .pinned], laidTests := true, laidLooks := .later }
def PlanNilCardSaid : Prop := Claim7.holds Tryz.pinned (.plain (OpenSpec.ofChange planNilSpec)) planNilCard

/-- THE SECOND FORM's CARD OF 'gavottelaw16.PlanNil'. -/
def planNilUptoCard : Claim7 := { stood := { row := planNilUptoRow, standIns := [], harness := (true, "3d51323279245fa793bd0033502fa0f472daab438362b1b1a970b8f79e39fb02"), looks := true }, kinds := [], alts := [], laidByText := true, laidKinds := [.data, .data, .data, .data, .sentinel, .sentinel, .data, .data, .pinned], laidTests := true, laidLooks := .later }
def PlanNilUptoCardSaid : Prop := Claim7.holds Tryz.pinned (.plain (OpenSpec.upto planNilSpec)) planNilUptoCard
end Rows
end Go.Proofs.YtidgnmfahonmpaaGreatDoor
