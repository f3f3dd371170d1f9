/-
  DERIVED. GIVEN WITH THE SEED: THE CARDS: each row of YtakmoaimmdheeaaGreatDoorRows.lean that lists a variable, with what it lists TIED to the program's text (the seventh form; the later family's looks); each row that meets fmt, with fmt's text TOLD by the authors' own Lean function (tested against real Go, not proved from fmt's source: count such statements apart). THE CARD IS WHAT COUNTS. Prove the row's statement (the work); the ties are given (YtakmoaimmdheeaaGreatDoorTie.lean); close each card by the builder's one call (the guide's Derived/Test/ToyasCard.lean, 'card_holds'). Laid BY PROGRAM, IN A SANDBOX (cutbox-door.mjs). By AI agents, Wed Nov 11 2026. No macro, syntax, notation, axiom, sorry.
-/
import Derived.Test.YtakmoaimmdheeaaGreatDoorRows
import GoSem.ClaimSeven
namespace Go.Proofs.YtakmoaimmdheeaaGreatDoor
namespace Rows

/-- THE TIED CARD OF 'triglyphlaw08.ShowIs'. -/
def showIsCard : Claim7 := { stood := { row := showIsRow, standIns := [], harness := (true, "9bc323a791eb88f56390c375e463ab121981583d66de55f2c103bd748ed01efe"), looks := false }, kinds := [], alts := [], laidByText := true, laidKinds := [.data, .data, .data, .data, .listed, .data, .pinned], laidTests := true, laidLooks := .later }
def ShowIsCardSaid : Prop := Claim7.holds Tryz.pinned (.plain (OpenSpec.ofChange showIsSpec)) showIsCard

/-- THE TIED CARD OF 'triglyphlaw08.ShowDocs'. -/
def showDocsCard : Claim7 := { stood := { row := showDocsRow, standIns := [], harness := (true, "9bc323a791eb88f56390c375e463ab121981583d66de55f2c103bd748ed01efe"), looks := false }, kinds := [], alts := [], laidByText := true, laidKinds := [.data, .data, .data, .data, .listed, .data, .pinned], laidTests := true, laidLooks := .later }
def ShowDocsCardSaid : Prop := Claim7.holds Tryz.pinned (.plain (OpenSpec.ofChange showDocsSpec)) showDocsCard

/-- THE TIED CARD OF 'triglyphlaw08.ShowPats'. -/
def showPatsCard : Claim7 := { stood := { row := showPatsRow, standIns := [], harness := (true, "9bc323a791eb88f56390c375e463ab121981583d66de55f2c103bd748ed01efe"), looks := false }, kinds := [], alts := [], laidByText := true, laidKinds := [.data, .data, .data, .data, .listed, .data, .pinned], laidTests := true, laidLooks := .later }
def ShowPatsCardSaid : Prop := Claim7.holds Tryz.pinned (.plain (OpenSpec.ofChange showPatsSpec)) showPatsCard

/-- THE TIED CARD OF 'triglyphlaw08.ShowBack'. -/
def showBackCard : Claim7 := { stood := { row := showBackRow, standIns := [], harness := (true, "9bc323a791eb88f56390c375e463ab121981583d66de55f2c103bd748ed01efe"), looks := false }, kinds := [], alts := [], laidByText := true, laidKinds := [.data, .data, .data, .data, .listed, .data, .pinned], laidTests := true, laidLooks := .later }
def ShowBackCardSaid : Prop := Claim7.holds Tryz.pinned (.plain (OpenSpec.ofChange showBackSpec)) showBackCard

/-- THE TIED CARD OF 'triglyphlaw08.ShowAgain'. -/
def showAgainCard : Claim7 := { stood := { row := showAgainRow, standIns := [], harness := (true, "9bc323a791eb88f56390c375e463ab121981583d66de55f2c103bd748ed01efe"), looks := false }, kinds := [], alts := [], laidByText := true, laidKinds := [.data, .data, .data, .data, .listed, .data, .pinned], laidTests := true, laidLooks := .later }
def ShowAgainCardSaid : Prop := Claim7.holds Tryz.pinned (.plain (OpenSpec.ofChange showAgainSpec)) showAgainCard

/-- THE TIED CARD OF 'triglyphlaw08.ShowWidths'. -/
def showWidthsCard : Claim7 := { stood := { row := showWidthsRow, standIns := [], harness := (true, "9bc323a791eb88f56390c375e463ab121981583d66de55f2c103bd748ed01efe"), looks := false }, kinds := [], alts := [], laidByText := true, laidKinds := [.data, .data, .data, .data, .listed, .data, .pinned], laidTests := true, laidLooks := .later }
def ShowWidthsCardSaid : Prop := Claim7.holds Tryz.pinned (.plain (OpenSpec.ofChange showWidthsSpec)) showWidthsCard

/-- THE SECOND FORM's CARD OF 'triglyphlaw08.ShowIs'. -/
def showIsUptoCard : Claim7 := { stood := { row := showIsUptoRow, standIns := [], harness := (true, "9bc323a791eb88f56390c375e463ab121981583d66de55f2c103bd748ed01efe"), looks := false }, kinds := [], alts := [], laidByText := true, laidKinds := [.data, .data, .data, .data, .listed, .data, .pinned], laidTests := true, laidLooks := .later }
def ShowIsUptoCardSaid : Prop := Claim7.holds Tryz.pinned (.plain (OpenSpec.upto showIsSpec)) showIsUptoCard

/-- THE SECOND FORM's CARD OF 'triglyphlaw08.ShowDocs'. -/
def showDocsUptoCard : Claim7 := { stood := { row := showDocsUptoRow, standIns := [], harness := (true, "9bc323a791eb88f56390c375e463ab121981583d66de55f2c103bd748ed01efe"), looks := false }, kinds := [], alts := [], laidByText := true, laidKinds := [.data, .data, .data, .data, .listed, .data, .pinned], laidTests := true, laidLooks := .later }
def ShowDocsUptoCardSaid : Prop := Claim7.holds Tryz.pinned (.plain (OpenSpec.upto showDocsSpec)) showDocsUptoCard

/-- THE SECOND FORM's CARD OF 'triglyphlaw08.ShowPats'. -/
def showPatsUptoCard : Claim7 := { stood := { row := showPatsUptoRow, standIns := [], harness := (true, "9bc323a791eb88f56390c375e463ab121981583d66de55f2c103bd748ed01efe"), looks := false }, kinds := [], alts := [], laidByText := true, laidKinds := [.data, .data, .data, .data, .listed, .data, .pinned], laidTests := true, laidLooks := .later }
def ShowPatsUptoCardSaid : Prop := Claim7.holds Tryz.pinned (.plain (OpenSpec.upto showPatsSpec)) showPatsUptoCard

/-- THE SECOND FORM's CARD OF 'triglyphlaw08.ShowBack'. -/
def showBackUptoCard : Claim7 := { stood := { row := showBackUptoRow, standIns := [], harness := (true, "9bc323a791eb88f56390c375e463ab121981583d66de55f2c103bd748ed01efe"), looks := false }, kinds := [], alts := [], laidByText := true, laidKinds := [.data, .data, .data, .data, .listed, .data, .pinned], laidTests := true, laidLooks := .later }
def ShowBackUptoCardSaid : Prop := Claim7.holds Tryz.pinned (.plain (OpenSpec.upto showBackSpec)) showBackUptoCard

/-- THE SECOND FORM's CARD OF 'triglyphlaw08.ShowAgain'. -/
def showAgainUptoCard : Claim7 := { stood := { row := showAgainUptoRow, standIns := [], harness := (true, "9bc323a791eb88f56390c375e463ab121981583d66de55f2c103bd748ed01efe"), looks := false }, kinds := [], alts := [], laidByText := true, laidKinds := [.data, .data, .data, .data, .listed, .data, .pinned], laidTests := true, laidLooks := .later }
def ShowAgainUptoCardSaid : Prop := Claim7.holds Tryz.pinned (.plain (OpenSpec.upto showAgainSpec)) showAgainUptoCard

/-- THE SECOND FORM's CARD OF 'triglyphlaw08.ShowWidths'. -/
def showWidthsUptoCard : Claim7 := { stood := { row := showWidthsUptoRow, standIns := [], harness := (true, "9bc323a791eb88f56390c375e463ab121981583d66de55f2c103bd748ed01efe"), looks := false }, kinds := [], alts := [], laidByText := true, laidKinds := [.data, .data, .data, .data, .listed, .data, .pinned], laidTests := true, laidLooks := .later }
def ShowWidthsUptoCardSaid : Prop := Claim7.holds Tryz.pinned (.plain (OpenSpec.upto showWidthsSpec)) showWidthsUptoCard
end Rows
end Go.Proofs.YtakmoaimmdheeaaGreatDoor
