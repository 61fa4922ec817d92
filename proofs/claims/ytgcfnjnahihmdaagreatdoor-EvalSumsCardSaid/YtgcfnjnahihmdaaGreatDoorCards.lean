/-
  DERIVED. GIVEN WITH THE SEED: THE CARDS: each row of YtgcfnjnahihmdaaGreatDoorRows.lean that lists a variable, with what it lists TIED to the program's text (the seventh form; the later family's looks); each row that meets fmt, with fmt's text TOLD by the authors' own Lean function (tested against real Go, not proved from fmt's source: count such statements apart). THE CARD IS WHAT COUNTS. Prove the row's statement (the work); the ties are given (YtgcfnjnahihmdaaGreatDoorTie.lean); close each card by the builder's one call (the guide's Derived/Test/ToyasCard.lean, 'card_holds'). Laid BY PROGRAM, IN A SANDBOX (cutbox-door.mjs). By AI agents, Wed Nov 11 2026. No macro, syntax, notation, axiom, sorry.
-/
import Derived.Test.YtgcfnjnahihmdaaGreatDoorRows
import GoSem.ClaimSeven
namespace Go.Proofs.YtgcfnjnahihmdaaGreatDoor
namespace Rows

/-- THE TIED CARD OF 'gavottelaw14.EvalReckons'. -/
def evalReckonsCard : Claim7 := { stood := { row := evalReckonsRow, standIns := [], harness := (true, "f609711b52e7feba09f82d4282381546122bc2e54daddb84c5c42474be00ba65"), looks := true }, kinds := [], alts := [], laidByText := true, laidKinds := [.data, .data, .data, .sentinel, .sentinel, .data, .data], laidTests := true, laidLooks := .later }
def EvalReckonsCardSaid : Prop := Claim7.holds Tryz.pinned (.plain (OpenSpec.ofChange evalReckonsSpec)) evalReckonsCard

/-- THE TIED CARD OF 'gavottelaw14.EvalSums'. -/
def evalSumsCard : Claim7 := { stood := { row := evalSumsRow, standIns := [], harness := (true, "f609711b52e7feba09f82d4282381546122bc2e54daddb84c5c42474be00ba65"), looks := true }, kinds := [], alts := [], laidByText := true, laidKinds := [.data, .data, .data, .sentinel, .sentinel, .data, .data], laidTests := true, laidLooks := .later }
def EvalSumsCardSaid : Prop := Claim7.holds Tryz.pinned (.plain (OpenSpec.ofChange evalSumsSpec)) evalSumsCard

/-- THE SECOND FORM's CARD OF 'gavottelaw14.EvalReckons'. -/
def evalReckonsUptoCard : Claim7 := { stood := { row := evalReckonsUptoRow, standIns := [], harness := (true, "f609711b52e7feba09f82d4282381546122bc2e54daddb84c5c42474be00ba65"), looks := true }, kinds := [], alts := [], laidByText := true, laidKinds := [.data, .data, .data, .sentinel, .sentinel, .data, .data], laidTests := true, laidLooks := .later }
def EvalReckonsUptoCardSaid : Prop := Claim7.holds Tryz.pinned (.plain (OpenSpec.upto evalReckonsSpec)) evalReckonsUptoCard

/-- THE SECOND FORM's CARD OF 'gavottelaw14.EvalSums'. -/
def evalSumsUptoCard : Claim7 := { stood := { row := evalSumsUptoRow, standIns := [], harness := (true, "f609711b52e7feba09f82d4282381546122bc2e54daddb84c5c42474be00ba65"), looks := true }, kinds := [], alts := [], laidByText := true, laidKinds := [.data, .data, .data, .sentinel, .sentinel, .data, .data], laidTests := true, laidLooks := .later }
def EvalSumsUptoCardSaid : Prop := Claim7.holds Tryz.pinned (.plain (OpenSpec.upto evalSumsSpec)) evalSumsUptoCard
end Rows
end Go.Proofs.YtgcfnjnahihmdaaGreatDoor
