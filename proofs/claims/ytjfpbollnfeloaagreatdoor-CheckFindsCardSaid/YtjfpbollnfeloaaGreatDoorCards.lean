/-
  DERIVED. GIVEN WITH THE SEED: THE CARDS: each row of YtjfpbollnfeloaaGreatDoorRows.lean that lists a variable, with what it lists TIED to the program's text (the seventh form; the later family's looks); each row that meets fmt, with fmt's text TOLD by the authors' own Lean function (tested against real Go, not proved from fmt's source: count such statements apart). THE CARD IS WHAT COUNTS. Prove the row's statement (the work); the ties are given (YtjfpbollnfeloaaGreatDoorTie.lean); close each card by the builder's one call (the guide's Derived/Test/ToyasCard.lean, 'card_holds'). Laid BY PROGRAM, IN A SANDBOX (cutbox-door.mjs). By AI agents, Wed Nov 11 2026. No macro, syntax, notation, axiom, sorry.
-/
import Derived.Test.YtjfpbollnfeloaaGreatDoorRows
import GoSem.ClaimSeven
namespace Go.Proofs.YtjfpbollnfeloaaGreatDoor
namespace Rows

/-- THE TIED CARD OF 'gavottelaw13.CheckFinds'. -/
def checkFindsCard : Claim7 := { stood := { row := checkFindsRow, standIns := [], harness := (true, "3ee29fb668e89cf7a9727e4b11e4cbc891761090872e6db640a47e40b542e03c"), looks := true }, kinds := [], alts := [], laidByText := true, laidKinds := [.data, .data, .data, .sentinel, .sentinel, .data, .data], laidTests := true, laidLooks := .later }
def CheckFindsCardSaid : Prop := Claim7.holds Tryz.pinned (.plain (OpenSpec.ofChange checkFindsSpec)) checkFindsCard

/-- THE SECOND FORM's CARD OF 'gavottelaw13.CheckFinds'. -/
def checkFindsUptoCard : Claim7 := { stood := { row := checkFindsUptoRow, standIns := [], harness := (true, "3ee29fb668e89cf7a9727e4b11e4cbc891761090872e6db640a47e40b542e03c"), looks := true }, kinds := [], alts := [], laidByText := true, laidKinds := [.data, .data, .data, .sentinel, .sentinel, .data, .data], laidTests := true, laidLooks := .later }
def CheckFindsUptoCardSaid : Prop := Claim7.holds Tryz.pinned (.plain (OpenSpec.upto checkFindsSpec)) checkFindsUptoCard
end Rows
end Go.Proofs.YtjfpbollnfeloaaGreatDoor
