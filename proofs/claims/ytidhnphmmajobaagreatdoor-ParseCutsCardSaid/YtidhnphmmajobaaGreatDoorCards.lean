/-
  DERIVED. GIVEN WITH THE SEED: THE CARDS: each row of YtidhnphmmajobaaGreatDoorRows.lean that lists a variable, with what it lists TIED to the program's text (the seventh form; the later family's looks); each row that meets fmt, with fmt's text TOLD by the authors' own Lean function (tested against real Go, not proved from fmt's source: count such statements apart). THE CARD IS WHAT COUNTS. Prove the row's statement (the work); the ties are given (YtidhnphmmajobaaGreatDoorTie.lean); close each card by the builder's one call (the guide's Derived/Test/ToyasCard.lean, 'card_holds'). Laid BY PROGRAM, IN A SANDBOX (cutbox-door.mjs). By AI agents, Wed Nov 11 2026. No macro, syntax, notation, axiom, sorry.
-/
import Derived.Test.YtidhnphmmajobaaGreatDoorRows
import GoSem.ClaimSeven
namespace Go.Proofs.YtidhnphmmajobaaGreatDoor
namespace Rows

/-- THE TIED CARD OF 'triglyphlaw07.ParseFits'. -/
def parseFitsCard : Claim7 := { stood := { row := parseFitsRow, standIns := [], harness := (true, "e3d3b5e3511e0ab4eb33a5422c59785416765cfe202dcb974f560fd89a4dffa0"), looks := false }, kinds := [], alts := [], laidByText := true, laidKinds := [.data, .data, .data, .data, .listed, .data, .pinned], laidTests := true, laidLooks := .later }
def ParseFitsCardSaid : Prop := Claim7.holds Tryz.pinned (.plain (OpenSpec.ofChange parseFitsSpec)) parseFitsCard

/-- THE TIED CARD OF 'triglyphlaw07.ParseBlanks'. -/
def parseBlanksCard : Claim7 := { stood := { row := parseBlanksRow, standIns := [], harness := (true, "e3d3b5e3511e0ab4eb33a5422c59785416765cfe202dcb974f560fd89a4dffa0"), looks := false }, kinds := [], alts := [], laidByText := true, laidKinds := [.data, .data, .data, .data, .listed, .data, .pinned], laidTests := true, laidLooks := .later }
def ParseBlanksCardSaid : Prop := Claim7.holds Tryz.pinned (.plain (OpenSpec.ofChange parseBlanksSpec)) parseBlanksCard

/-- THE TIED CARD OF 'triglyphlaw07.ParseCuts'. -/
def parseCutsCard : Claim7 := { stood := { row := parseCutsRow, standIns := [], harness := (true, "e3d3b5e3511e0ab4eb33a5422c59785416765cfe202dcb974f560fd89a4dffa0"), looks := false }, kinds := [], alts := [], laidByText := true, laidKinds := [.data, .data, .data, .data, .listed, .data, .pinned], laidTests := true, laidLooks := .later }
def ParseCutsCardSaid : Prop := Claim7.holds Tryz.pinned (.plain (OpenSpec.ofChange parseCutsSpec)) parseCutsCard

/-- THE SECOND FORM's CARD OF 'triglyphlaw07.ParseFits'. -/
def parseFitsUptoCard : Claim7 := { stood := { row := parseFitsUptoRow, standIns := [], harness := (true, "e3d3b5e3511e0ab4eb33a5422c59785416765cfe202dcb974f560fd89a4dffa0"), looks := false }, kinds := [], alts := [], laidByText := true, laidKinds := [.data, .data, .data, .data, .listed, .data, .pinned], laidTests := true, laidLooks := .later }
def ParseFitsUptoCardSaid : Prop := Claim7.holds Tryz.pinned (.plain (OpenSpec.upto parseFitsSpec)) parseFitsUptoCard

/-- THE SECOND FORM's CARD OF 'triglyphlaw07.ParseBlanks'. -/
def parseBlanksUptoCard : Claim7 := { stood := { row := parseBlanksUptoRow, standIns := [], harness := (true, "e3d3b5e3511e0ab4eb33a5422c59785416765cfe202dcb974f560fd89a4dffa0"), looks := false }, kinds := [], alts := [], laidByText := true, laidKinds := [.data, .data, .data, .data, .listed, .data, .pinned], laidTests := true, laidLooks := .later }
def ParseBlanksUptoCardSaid : Prop := Claim7.holds Tryz.pinned (.plain (OpenSpec.upto parseBlanksSpec)) parseBlanksUptoCard

/-- THE SECOND FORM's CARD OF 'triglyphlaw07.ParseCuts'. -/
def parseCutsUptoCard : Claim7 := { stood := { row := parseCutsUptoRow, standIns := [], harness := (true, "e3d3b5e3511e0ab4eb33a5422c59785416765cfe202dcb974f560fd89a4dffa0"), looks := false }, kinds := [], alts := [], laidByText := true, laidKinds := [.data, .data, .data, .data, .listed, .data, .pinned], laidTests := true, laidLooks := .later }
def ParseCutsUptoCardSaid : Prop := Claim7.holds Tryz.pinned (.plain (OpenSpec.upto parseCutsSpec)) parseCutsUptoCard
end Rows
end Go.Proofs.YtidhnphmmajobaaGreatDoor
