/-
  DERIVED. GIVEN WITH THE SEED: THE CARDS: each row of YtppjhkjmpepghaaGreatDoorRows.lean that lists a variable, with what it lists TIED to the program's text (the seventh form; the later family's looks); each row that meets fmt, with fmt's text TOLD by the authors' own Lean function (tested against real Go, not proved from fmt's source: count such statements apart). THE CARD IS WHAT COUNTS. Prove the row's statement (the work); the ties are given (YtppjhkjmpepghaaGreatDoorTie.lean); close each card by the builder's one call (the guide's Derived/Test/ToyasCard.lean, 'card_holds'). Laid BY PROGRAM, IN A SANDBOX (cutbox-door.mjs). By AI agents, Wed Nov 11 2026. No macro, syntax, notation, axiom, sorry.
-/
import Derived.Test.YtppjhkjmpepghaaGreatDoorRows
import GoSem.ClaimSeven
namespace Go.Proofs.YtppjhkjmpepghaaGreatDoor
namespace Rows

/-- THE TIED CARD OF 'gavottelaw15.AtomNil'. -/
def atomNilCard : Claim7 := { stood := { row := atomNilRow, standIns := [], harness := (true, "e9cbc1a7164238d12e299c94a4916b04f5bdb23b297aa08002c89c8718b84f48"), looks := true }, kinds := [], alts := [], laidByText := true, laidKinds := [.data, .data, .data, .sentinel, .sentinel, .data, .data], laidTests := true, laidLooks := .later }
def AtomNilCardSaid : Prop := Claim7.holds Tryz.pinned (.plain (OpenSpec.ofChange atomNilSpec)) atomNilCard

/-- THE SECOND FORM's CARD OF 'gavottelaw15.AtomNil'. -/
def atomNilUptoCard : Claim7 := { stood := { row := atomNilUptoRow, standIns := [], harness := (true, "e9cbc1a7164238d12e299c94a4916b04f5bdb23b297aa08002c89c8718b84f48"), looks := true }, kinds := [], alts := [], laidByText := true, laidKinds := [.data, .data, .data, .sentinel, .sentinel, .data, .data], laidTests := true, laidLooks := .later }
def AtomNilUptoCardSaid : Prop := Claim7.holds Tryz.pinned (.plain (OpenSpec.upto atomNilSpec)) atomNilUptoCard
end Rows
end Go.Proofs.YtppjhkjmpepghaaGreatDoor
