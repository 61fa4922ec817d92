/-
  DERIVED. GIVEN WITH THE SEED: THE CARDS: each row of YtnlhdflceelacaaGreatDoorRows.lean that lists a variable, with what it lists TIED to the program's text (the seventh form; the later family's looks); each row that meets fmt, with fmt's text TOLD by the authors' own Lean function (tested against real Go, not proved from fmt's source: count such statements apart). THE CARD IS WHAT COUNTS. Prove the row's statement (the work); the ties are given (YtnlhdflceelacaaGreatDoorTie.lean); close each card by the builder's one call (the guide's Derived/Test/ToyasCard.lean, 'card_holds'). Laid BY PROGRAM, IN A SANDBOX (cutbox-door.mjs). By AI agents, Wed Nov 11 2026. No macro, syntax, notation, axiom, sorry.
-/
import Derived.Test.YtnlhdflceelacaaGreatDoorRows
import GoSem.ClaimSeven
namespace Go.Proofs.YtnlhdflceelacaaGreatDoor
namespace Rows

/-- THE TIED CARD OF 'gavottelaw17.TreeSorts'. -/
def treeSortsCard : Claim7 := { stood := { row := treeSortsRow, standIns := [], harness := (true, "e1281b58f2fa4871c9e3b66b37cffa69f5a30810e0965eabbfc0c42ba4542456"), looks := true }, kinds := [], alts := [], laidByText := true, laidKinds := [.data, .data, .data, .sentinel, .sentinel, .data, .data], laidTests := true, laidLooks := .later }
def TreeSortsCardSaid : Prop := Claim7.holds Tryz.pinned (.plain (OpenSpec.ofChange treeSortsSpec)) treeSortsCard

/-- THE SECOND FORM's CARD OF 'gavottelaw17.TreeSorts'. -/
def treeSortsUptoCard : Claim7 := { stood := { row := treeSortsUptoRow, standIns := [], harness := (true, "e1281b58f2fa4871c9e3b66b37cffa69f5a30810e0965eabbfc0c42ba4542456"), looks := true }, kinds := [], alts := [], laidByText := true, laidKinds := [.data, .data, .data, .sentinel, .sentinel, .data, .data], laidTests := true, laidLooks := .later }
def TreeSortsUptoCardSaid : Prop := Claim7.holds Tryz.pinned (.plain (OpenSpec.upto treeSortsSpec)) treeSortsUptoCard
end Rows
end Go.Proofs.YtnlhdflceelacaaGreatDoor
