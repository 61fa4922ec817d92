/-
  DERIVED. GIVEN WITH THE SEED: THE CARDS: each row of YtlognicjhmcgjaaGreatDoorRows.lean that lists a variable, with what it lists TIED to the program's text (the seventh form; the later family's looks); each row that meets fmt, with fmt's text TOLD by the authors' own Lean function (tested against real Go, not proved from fmt's source: count such statements apart). THE CARD IS WHAT COUNTS. Prove the row's statement (the work); the ties are given (YtlognicjhmcgjaaGreatDoorTie.lean); close each card by the builder's one call (the guide's Derived/Test/ToyasCard.lean, 'card_holds'). Laid BY PROGRAM, IN A SANDBOX (cutbox-door.mjs). By AI agents, Wed Nov 11 2026. No macro, syntax, notation, axiom, sorry.
-/
import Derived.Test.YtlognicjhmcgjaaGreatDoorRows
import GoSem.ClaimSeven
namespace Go.Proofs.YtlognicjhmcgjaaGreatDoor
namespace Rows

/-- THE TIED CARD OF 'gavottelaw10.ReadExprs'. -/
def readExprsCard : Claim7 := { stood := { row := readExprsRow, standIns := [], harness := (true, "9e0684ef31a6a217fa223af17b07280b8c387b1e26d2caa3283d9b7d2eec04f8"), looks := true }, kinds := [], alts := [], laidByText := true, laidKinds := [.data, .data, .data, .sentinel, .sentinel, .data, .data], laidTests := true, laidLooks := .later }
def ReadExprsCardSaid : Prop := Claim7.holds Tryz.pinned (.plain (OpenSpec.ofChange readExprsSpec)) readExprsCard

/-- THE TIED CARD OF 'gavottelaw10.ReadPrograms'. -/
def readProgramsCard : Claim7 := { stood := { row := readProgramsRow, standIns := [], harness := (true, "9e0684ef31a6a217fa223af17b07280b8c387b1e26d2caa3283d9b7d2eec04f8"), looks := true }, kinds := [], alts := [], laidByText := true, laidKinds := [.data, .data, .data, .sentinel, .sentinel, .data, .data], laidTests := true, laidLooks := .later }
def ReadProgramsCardSaid : Prop := Claim7.holds Tryz.pinned (.plain (OpenSpec.ofChange readProgramsSpec)) readProgramsCard

/-- THE TIED CARD OF 'gavottelaw10.ReadLong'. -/
def readLongCard : Claim7 := { stood := { row := readLongRow, standIns := [], harness := (true, "9e0684ef31a6a217fa223af17b07280b8c387b1e26d2caa3283d9b7d2eec04f8"), looks := true }, kinds := [], alts := [], laidByText := true, laidKinds := [.data, .data, .data, .sentinel, .sentinel, .data, .data], laidTests := true, laidLooks := .later }
def ReadLongCardSaid : Prop := Claim7.holds Tryz.pinned (.plain (OpenSpec.ofChange readLongSpec)) readLongCard

/-- THE TIED CARD OF 'gavottelaw11.ShowExprs'. -/
def showExprsCard : Claim7 := { stood := { row := showExprsRow, standIns := [], harness := (true, "9e0684ef31a6a217fa223af17b07280b8c387b1e26d2caa3283d9b7d2eec04f8"), looks := true }, kinds := [], alts := [], laidByText := true, laidKinds := [.data, .data, .data, .sentinel, .sentinel, .data, .data, .data], laidTests := true, laidLooks := .later }
def ShowExprsCardSaid : Prop := Claim7.holds Tryz.pinned (.plain (OpenSpec.ofChange showExprsSpec)) showExprsCard

/-- THE TIED CARD OF 'gavottelaw10.ReadRight'. -/
def readRightCard : Claim7 := { stood := { row := readRightRow, standIns := [], harness := (true, "9e0684ef31a6a217fa223af17b07280b8c387b1e26d2caa3283d9b7d2eec04f8"), looks := true }, kinds := [], alts := [], laidByText := true, laidKinds := [.data, .data, .data, .sentinel, .sentinel, .data, .data], laidTests := true, laidLooks := .later }
def ReadRightCardSaid : Prop := Claim7.holds Tryz.pinned (.plain (OpenSpec.ofChange readRightSpec)) readRightCard

/-- THE TIED CARD OF 'gavottelaw11.ShowPrograms'. -/
def showProgramsCard : Claim7 := { stood := { row := showProgramsRow, standIns := [], harness := (true, "9e0684ef31a6a217fa223af17b07280b8c387b1e26d2caa3283d9b7d2eec04f8"), looks := true }, kinds := [], alts := [], laidByText := true, laidKinds := [.data, .data, .data, .sentinel, .sentinel, .data, .data, .data], laidTests := true, laidLooks := .later }
def ShowProgramsCardSaid : Prop := Claim7.holds Tryz.pinned (.plain (OpenSpec.ofChange showProgramsSpec)) showProgramsCard

/-- THE TIED CARD OF 'gavottelaw11.ShowLines'. -/
def showLinesCard : Claim7 := { stood := { row := showLinesRow, standIns := [], harness := (true, "9e0684ef31a6a217fa223af17b07280b8c387b1e26d2caa3283d9b7d2eec04f8"), looks := true }, kinds := [], alts := [], laidByText := true, laidKinds := [.data, .data, .data, .sentinel, .sentinel, .data, .data, .data], laidTests := true, laidLooks := .later }
def ShowLinesCardSaid : Prop := Claim7.holds Tryz.pinned (.plain (OpenSpec.ofChange showLinesSpec)) showLinesCard

/-- THE SECOND FORM's CARD OF 'gavottelaw10.ReadExprs'. -/
def readExprsUptoCard : Claim7 := { stood := { row := readExprsUptoRow, standIns := [], harness := (true, "9e0684ef31a6a217fa223af17b07280b8c387b1e26d2caa3283d9b7d2eec04f8"), looks := true }, kinds := [], alts := [], laidByText := true, laidKinds := [.data, .data, .data, .sentinel, .sentinel, .data, .data], laidTests := true, laidLooks := .later }
def ReadExprsUptoCardSaid : Prop := Claim7.holds Tryz.pinned (.plain (OpenSpec.upto readExprsSpec)) readExprsUptoCard

/-- THE SECOND FORM's CARD OF 'gavottelaw10.ReadPrograms'. -/
def readProgramsUptoCard : Claim7 := { stood := { row := readProgramsUptoRow, standIns := [], harness := (true, "9e0684ef31a6a217fa223af17b07280b8c387b1e26d2caa3283d9b7d2eec04f8"), looks := true }, kinds := [], alts := [], laidByText := true, laidKinds := [.data, .data, .data, .sentinel, .sentinel, .data, .data], laidTests := true, laidLooks := .later }
def ReadProgramsUptoCardSaid : Prop := Claim7.holds Tryz.pinned (.plain (OpenSpec.upto readProgramsSpec)) readProgramsUptoCard

/-- THE SECOND FORM's CARD OF 'gavottelaw10.ReadLong'. -/
def readLongUptoCard : Claim7 := { stood := { row := readLongUptoRow, standIns := [], harness := (true, "9e0684ef31a6a217fa223af17b07280b8c387b1e26d2caa3283d9b7d2eec04f8"), looks := true }, kinds := [], alts := [], laidByText := true, laidKinds := [.data, .data, .data, .sentinel, .sentinel, .data, .data], laidTests := true, laidLooks := .later }
def ReadLongUptoCardSaid : Prop := Claim7.holds Tryz.pinned (.plain (OpenSpec.upto readLongSpec)) readLongUptoCard

/-- THE SECOND FORM's CARD OF 'gavottelaw11.ShowExprs'. -/
def showExprsUptoCard : Claim7 := { stood := { row := showExprsUptoRow, standIns := [], harness := (true, "9e0684ef31a6a217fa223af17b07280b8c387b1e26d2caa3283d9b7d2eec04f8"), looks := true }, kinds := [], alts := [], laidByText := true, laidKinds := [.data, .data, .data, .sentinel, .sentinel, .data, .data, .data], laidTests := true, laidLooks := .later }
def ShowExprsUptoCardSaid : Prop := Claim7.holds Tryz.pinned (.plain (OpenSpec.upto showExprsSpec)) showExprsUptoCard

/-- THE SECOND FORM's CARD OF 'gavottelaw10.ReadRight'. -/
def readRightUptoCard : Claim7 := { stood := { row := readRightUptoRow, standIns := [], harness := (true, "9e0684ef31a6a217fa223af17b07280b8c387b1e26d2caa3283d9b7d2eec04f8"), looks := true }, kinds := [], alts := [], laidByText := true, laidKinds := [.data, .data, .data, .sentinel, .sentinel, .data, .data], laidTests := true, laidLooks := .later }
def ReadRightUptoCardSaid : Prop := Claim7.holds Tryz.pinned (.plain (OpenSpec.upto readRightSpec)) readRightUptoCard

/-- THE SECOND FORM's CARD OF 'gavottelaw11.ShowPrograms'. -/
def showProgramsUptoCard : Claim7 := { stood := { row := showProgramsUptoRow, standIns := [], harness := (true, "9e0684ef31a6a217fa223af17b07280b8c387b1e26d2caa3283d9b7d2eec04f8"), looks := true }, kinds := [], alts := [], laidByText := true, laidKinds := [.data, .data, .data, .sentinel, .sentinel, .data, .data, .data], laidTests := true, laidLooks := .later }
def ShowProgramsUptoCardSaid : Prop := Claim7.holds Tryz.pinned (.plain (OpenSpec.upto showProgramsSpec)) showProgramsUptoCard

/-- THE SECOND FORM's CARD OF 'gavottelaw11.ShowLines'. -/
def showLinesUptoCard : Claim7 := { stood := { row := showLinesUptoRow, standIns := [], harness := (true, "9e0684ef31a6a217fa223af17b07280b8c387b1e26d2caa3283d9b7d2eec04f8"), looks := true }, kinds := [], alts := [], laidByText := true, laidKinds := [.data, .data, .data, .sentinel, .sentinel, .data, .data, .data], laidTests := true, laidLooks := .later }
def ShowLinesUptoCardSaid : Prop := Claim7.holds Tryz.pinned (.plain (OpenSpec.upto showLinesSpec)) showLinesUptoCard
end Rows
end Go.Proofs.YtlognicjhmcgjaaGreatDoor
