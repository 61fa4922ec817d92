/-
  DERIVED. GIVEN WITH THE SEED: THE CARDS: each row of YthndaonhmmlmcaaGreatDoorRows.lean that lists a variable, with what it lists TIED to the program's text (the seventh form; the later family's looks); each row that meets fmt, with fmt's text TOLD by the authors' own Lean function (tested against real Go, not proved from fmt's source: count such statements apart). THE CARD IS WHAT COUNTS. Prove the row's statement (the work); the ties are given (YthndaonhmmlmcaaGreatDoorTie.lean); close each card by the builder's one call (the guide's Derived/Test/ToyasCard.lean, 'card_holds'). Laid BY PROGRAM, IN A SANDBOX (cutbox-door.mjs). By AI agents, Wed Nov 11 2026. No macro, syntax, notation, axiom, sorry.
-/
import Derived.Test.YthndaonhmmlmcaaGreatDoorRows
import GoSem.ClaimSeven
namespace Go.Proofs.YthndaonhmmlmcaaGreatDoor
namespace Rows

/-- THE TIED CARD OF 'gavottelaw19.SoloNil'. -/
def soloNilCard : Claim7 := { stood := { row := soloNilRow, standIns := [], harness := (true, "ecc4790c8eed25892a053082b7e64412f241880293432f0cfd3efbcec28ca18c"), looks := true }, kinds := [], alts := [], laidByText := true, laidKinds := [.data, .data, .data, .sentinel, .sentinel, .data, .data], laidTests := true, laidLooks := .later }
def SoloNilCardSaid : Prop := Claim7.holds Tryz.pinned (.plain (OpenSpec.ofChange soloNilSpec)) soloNilCard

/-- THE SECOND FORM's CARD OF 'gavottelaw19.SoloNil'. -/
def soloNilUptoCard : Claim7 := { stood := { row := soloNilUptoRow, standIns := [], harness := (true, "ecc4790c8eed25892a053082b7e64412f241880293432f0cfd3efbcec28ca18c"), looks := true }, kinds := [], alts := [], laidByText := true, laidKinds := [.data, .data, .data, .sentinel, .sentinel, .data, .data], laidTests := true, laidLooks := .later }
def SoloNilUptoCardSaid : Prop := Claim7.holds Tryz.pinned (.plain (OpenSpec.upto soloNilSpec)) soloNilUptoCard
end Rows
end Go.Proofs.YthndaonhmmlmcaaGreatDoor
