/-
  DERIVED. GIVEN WITH THE SEED: THE CARDS: each row of YthgghcnoaecnoaaGreatDoorRows.lean that lists a variable, with what it lists TIED to the program's text (the seventh form; the later family's looks); each row that meets fmt, with fmt's text TOLD by the authors' own Lean function (tested against real Go, not proved from fmt's source: count such statements apart). THE CARD IS WHAT COUNTS. Prove the row's statement (the work); the ties are given (YthgghcnoaecnoaaGreatDoorTie.lean); close each card by the builder's one call (the guide's Derived/Test/ToyasCard.lean, 'card_holds'). Laid BY PROGRAM, IN A SANDBOX (cutbox-door.mjs). By AI agents, Wed Nov 11 2026. No macro, syntax, notation, axiom, sorry.
-/
import Derived.Test.YthgghcnoaecnoaaGreatDoorRows
import GoSem.ClaimSeven
namespace Go.Proofs.YthgghcnoaecnoaaGreatDoor
namespace Rows

/-- THE TIED CARD OF 'gavottelaw13.CheckAlone'. -/
def checkAloneCard : Claim7 := { stood := { row := checkAloneRow, standIns := [], harness := (true, "3f24e95540bb1fb8471dc721653811684201b732d0647dda96079e93b1ea77b2"), looks := true }, kinds := [], alts := [], laidByText := true, laidKinds := [.data, .data, .data, .sentinel, .sentinel, .data, .data], laidTests := true, laidLooks := .later }
def CheckAloneCardSaid : Prop := Claim7.holds Tryz.pinned (.plain (OpenSpec.ofChange checkAloneSpec)) checkAloneCard

/-- THE SECOND FORM's CARD OF 'gavottelaw13.CheckAlone'. -/
def checkAloneUptoCard : Claim7 := { stood := { row := checkAloneUptoRow, standIns := [], harness := (true, "3f24e95540bb1fb8471dc721653811684201b732d0647dda96079e93b1ea77b2"), looks := true }, kinds := [], alts := [], laidByText := true, laidKinds := [.data, .data, .data, .sentinel, .sentinel, .data, .data], laidTests := true, laidLooks := .later }
def CheckAloneUptoCardSaid : Prop := Claim7.holds Tryz.pinned (.plain (OpenSpec.upto checkAloneSpec)) checkAloneUptoCard
end Rows
end Go.Proofs.YthgghcnoaecnoaaGreatDoor
