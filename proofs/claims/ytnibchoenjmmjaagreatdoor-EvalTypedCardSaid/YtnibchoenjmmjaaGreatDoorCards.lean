/-
  DERIVED. GIVEN WITH THE SEED: THE CARDS: each row of YtnibchoenjmmjaaGreatDoorRows.lean that lists a variable, with what it lists TIED to the program's text (the seventh form; the later family's looks); each row that meets fmt, with fmt's text TOLD by the authors' own Lean function (tested against real Go, not proved from fmt's source: count such statements apart). THE CARD IS WHAT COUNTS. Prove the row's statement (the work); the ties are given (YtnibchoenjmmjaaGreatDoorTie.lean); close each card by the builder's one call (the guide's Derived/Test/ToyasCard.lean, 'card_holds'). Laid BY PROGRAM, IN A SANDBOX (cutbox-door.mjs). By AI agents, Wed Nov 11 2026. No macro, syntax, notation, axiom, sorry.
-/
import Derived.Test.YtnibchoenjmmjaaGreatDoorRows
import GoSem.ClaimSeven
namespace Go.Proofs.YtnibchoenjmmjaaGreatDoor
namespace Rows

/-- THE TIED CARD OF 'gavottelaw14.EvalPlays'. -/
def evalPlaysCard : Claim7 := { stood := { row := evalPlaysRow, standIns := [], harness := (true, "e28ab03ace0ad23132d0e98bd5f2f8749129cb2e576d9b9f150c79994630cff5"), looks := true }, kinds := [], alts := [], laidByText := true, laidKinds := [.data, .data, .data, .sentinel, .sentinel, .data, .data], laidTests := true, laidLooks := .later }
def EvalPlaysCardSaid : Prop := Claim7.holds Tryz.pinned (.plain (OpenSpec.ofChange evalPlaysSpec)) evalPlaysCard

/-- THE TIED CARD OF 'gavottelaw14.EvalEach'. -/
def evalEachCard : Claim7 := { stood := { row := evalEachRow, standIns := [], harness := (true, "e28ab03ace0ad23132d0e98bd5f2f8749129cb2e576d9b9f150c79994630cff5"), looks := true }, kinds := [], alts := [], laidByText := true, laidKinds := [.data, .data, .data, .sentinel, .sentinel, .data, .data], laidTests := true, laidLooks := .later }
def EvalEachCardSaid : Prop := Claim7.holds Tryz.pinned (.plain (OpenSpec.ofChange evalEachSpec)) evalEachCard

/-- THE TIED CARD OF 'gavottelaw14.EvalTyped'. -/
def evalTypedCard : Claim7 := { stood := { row := evalTypedRow, standIns := [], harness := (true, "e28ab03ace0ad23132d0e98bd5f2f8749129cb2e576d9b9f150c79994630cff5"), looks := true }, kinds := [], alts := [], laidByText := true, laidKinds := [.data, .data, .data, .sentinel, .sentinel, .data, .data], laidTests := true, laidLooks := .later }
def EvalTypedCardSaid : Prop := Claim7.holds Tryz.pinned (.plain (OpenSpec.ofChange evalTypedSpec)) evalTypedCard

/-- THE SECOND FORM's CARD OF 'gavottelaw14.EvalPlays'. -/
def evalPlaysUptoCard : Claim7 := { stood := { row := evalPlaysUptoRow, standIns := [], harness := (true, "e28ab03ace0ad23132d0e98bd5f2f8749129cb2e576d9b9f150c79994630cff5"), looks := true }, kinds := [], alts := [], laidByText := true, laidKinds := [.data, .data, .data, .sentinel, .sentinel, .data, .data], laidTests := true, laidLooks := .later }
def EvalPlaysUptoCardSaid : Prop := Claim7.holds Tryz.pinned (.plain (OpenSpec.upto evalPlaysSpec)) evalPlaysUptoCard

/-- THE SECOND FORM's CARD OF 'gavottelaw14.EvalEach'. -/
def evalEachUptoCard : Claim7 := { stood := { row := evalEachUptoRow, standIns := [], harness := (true, "e28ab03ace0ad23132d0e98bd5f2f8749129cb2e576d9b9f150c79994630cff5"), looks := true }, kinds := [], alts := [], laidByText := true, laidKinds := [.data, .data, .data, .sentinel, .sentinel, .data, .data], laidTests := true, laidLooks := .later }
def EvalEachUptoCardSaid : Prop := Claim7.holds Tryz.pinned (.plain (OpenSpec.upto evalEachSpec)) evalEachUptoCard

/-- THE SECOND FORM's CARD OF 'gavottelaw14.EvalTyped'. -/
def evalTypedUptoCard : Claim7 := { stood := { row := evalTypedUptoRow, standIns := [], harness := (true, "e28ab03ace0ad23132d0e98bd5f2f8749129cb2e576d9b9f150c79994630cff5"), looks := true }, kinds := [], alts := [], laidByText := true, laidKinds := [.data, .data, .data, .sentinel, .sentinel, .data, .data], laidTests := true, laidLooks := .later }
def EvalTypedUptoCardSaid : Prop := Claim7.holds Tryz.pinned (.plain (OpenSpec.upto evalTypedSpec)) evalTypedUptoCard
end Rows
end Go.Proofs.YtnibchoenjmmjaaGreatDoor
