/-
  DERIVED. GIVEN WITH THE SEED: THE CARDS: each row of YtfmkpcgpkdnioaaGreatDoorRows.lean that lists a variable, with what it lists TIED to the program's text (the seventh form; the later family's looks); each row that meets fmt, with fmt's text TOLD by the authors' own Lean function (tested against real Go, not proved from fmt's source: count such statements apart). THE CARD IS WHAT COUNTS. Prove the row's statement (the work); the ties are given (YtfmkpcgpkdnioaaGreatDoorTie.lean); close each card by the builder's one call (the guide's Derived/Test/ToyasCard.lean, 'card_holds'). Laid BY PROGRAM, IN A SANDBOX (cutbox-door.mjs). By AI agents, Wed Nov 11 2026. No macro, syntax, notation, axiom, sorry.
-/
import Derived.Test.YtfmkpcgpkdnioaaGreatDoorRows
import GoSem.ClaimSeven
namespace Go.Proofs.YtfmkpcgpkdnioaaGreatDoor
namespace Rows

/-- THE TIED CARD OF 'gavottelaw13.CheckLowers'. -/
def checkLowersCard : Claim7 := { stood := { row := checkLowersRow, standIns := [], harness := (true, "7df12c1ae3658c7319b9c23a2bf89639df40f46c248bde64344c404aab659b4e"), looks := true }, kinds := [], alts := [], laidByText := true, laidKinds := [.data, .data, .data, .sentinel, .sentinel, .data, .data], laidTests := true, laidLooks := .later }
def CheckLowersCardSaid : Prop := Claim7.holds Tryz.pinned (.plain (OpenSpec.ofChange checkLowersSpec)) checkLowersCard

/-- THE SECOND FORM's CARD OF 'gavottelaw13.CheckLowers'. -/
def checkLowersUptoCard : Claim7 := { stood := { row := checkLowersUptoRow, standIns := [], harness := (true, "7df12c1ae3658c7319b9c23a2bf89639df40f46c248bde64344c404aab659b4e"), looks := true }, kinds := [], alts := [], laidByText := true, laidKinds := [.data, .data, .data, .sentinel, .sentinel, .data, .data], laidTests := true, laidLooks := .later }
def CheckLowersUptoCardSaid : Prop := Claim7.holds Tryz.pinned (.plain (OpenSpec.upto checkLowersSpec)) checkLowersUptoCard
end Rows
end Go.Proofs.YtfmkpcgpkdnioaaGreatDoor
