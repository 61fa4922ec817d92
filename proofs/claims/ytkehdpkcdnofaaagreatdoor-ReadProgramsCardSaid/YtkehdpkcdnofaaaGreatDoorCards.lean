/-
  DERIVED. GIVEN WITH THE SEED: THE CARDS: each row of YtkehdpkcdnofaaaGreatDoorRows.lean that lists a variable, with what it lists TIED to the program's text (the seventh form; the later family's looks); each row that meets fmt, with fmt's text TOLD by the authors' own Lean function (tested against real Go, not proved from fmt's source: count such statements apart). THE CARD IS WHAT COUNTS. Prove the row's statement (the work); the ties are given (YtkehdpkcdnofaaaGreatDoorTie.lean); close each card by the builder's one call (the guide's Derived/Test/ToyasCard.lean, 'card_holds'). Laid BY PROGRAM, IN A SANDBOX (cutbox-door.mjs). By AI agents, Wed Nov 11 2026. No macro, syntax, notation, axiom, sorry.
-/
import Derived.Test.YtkehdpkcdnofaaaGreatDoorRows
import GoSem.ClaimSeven
namespace Go.Proofs.YtkehdpkcdnofaaaGreatDoor
namespace Rows

/-- THE TIED CARD OF 'gavottelaw10.ReadPrograms'. -/
def readProgramsCard : Claim7 := { stood := { row := readProgramsRow, standIns := [], harness := (true, "a4b1272e31d3542337100c2f35efe60e446e12c0f93a844b2ea26aaa6ac32836"), looks := true }, kinds := [], alts := [], laidByText := true, laidKinds := [.data, .data, .data, .sentinel, .sentinel, .data, .data], laidTests := true, laidLooks := .later }
def ReadProgramsCardSaid : Prop := Claim7.holds Tryz.pinned (.plain (OpenSpec.ofChange readProgramsSpec)) readProgramsCard

/-- THE SECOND FORM's CARD OF 'gavottelaw10.ReadPrograms'. -/
def readProgramsUptoCard : Claim7 := { stood := { row := readProgramsUptoRow, standIns := [], harness := (true, "a4b1272e31d3542337100c2f35efe60e446e12c0f93a844b2ea26aaa6ac32836"), looks := true }, kinds := [], alts := [], laidByText := true, laidKinds := [.data, .data, .data, .sentinel, .sentinel, .data, .data], laidTests := true, laidLooks := .later }
def ReadProgramsUptoCardSaid : Prop := Claim7.holds Tryz.pinned (.plain (OpenSpec.upto readProgramsSpec)) readProgramsUptoCard
end Rows
end Go.Proofs.YtkehdpkcdnofaaaGreatDoor
