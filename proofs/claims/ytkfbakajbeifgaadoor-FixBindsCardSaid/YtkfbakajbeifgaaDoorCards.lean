/-
  DERIVED. GIVEN WITH THE SEED: THE CARDS: each row of YtkfbakajbeifgaaDoorRows.lean that lists a variable, with what it lists TIED to the program's text (the seventh form; the later family's looks); each row that meets fmt, with fmt's text TOLD by the authors' own Lean function (tested against real Go, not proved from fmt's source: count such statements apart). THE CARD IS WHAT COUNTS. Prove the row's statement (the work); the ties are given (YtkfbakajbeifgaaDoorTie.lean); close each card by the builder's one call (the guide's Derived/Test/ToyasCard.lean, 'card_holds'). Laid BY PROGRAM, IN A SANDBOX (cutbox-door.mjs). By AI agents, Wed Nov 11 2026. No macro, syntax, notation, axiom, sorry.
-/
import Derived.Test.YtkfbakajbeifgaaDoorRows
import GoSem.ClaimSeven
namespace Go.Proofs.YtkfbakajbeifgaaDoor
namespace Rows

/-- THE TIED CARD OF 'triglyphlaw04.FixSets'. -/
def fixSetsCard : Claim7 := { stood := { row := fixSetsRow, standIns := [], harness := (true, "cf16dd63b09adca821081b15ed81a6055f4aadac9237989d6c4b89fcd7397c87"), looks := false }, kinds := [], alts := [], laidByText := true, laidKinds := [.listed, .data], laidTests := true, laidLooks := .later }
def FixSetsCardSaid : Prop := Claim7.holds Tryd.pinned (.plain (OpenSpec.ofChange fixSetsSpec)) fixSetsCard

/-- THE TIED CARD OF 'triglyphlaw04.FixClimbs'. -/
def fixClimbsCard : Claim7 := { stood := { row := fixClimbsRow, standIns := [], harness := (true, "cf16dd63b09adca821081b15ed81a6055f4aadac9237989d6c4b89fcd7397c87"), looks := false }, kinds := [], alts := [], laidByText := true, laidKinds := [.listed, .data], laidTests := true, laidLooks := .later }
def FixClimbsCardSaid : Prop := Claim7.holds Tryd.pinned (.plain (OpenSpec.ofChange fixClimbsSpec)) fixClimbsCard

/-- THE TIED CARD OF 'triglyphlaw04.FixFlats'. -/
def fixFlatsCard : Claim7 := { stood := { row := fixFlatsRow, standIns := [], harness := (true, "cf16dd63b09adca821081b15ed81a6055f4aadac9237989d6c4b89fcd7397c87"), looks := false }, kinds := [], alts := [], laidByText := true, laidKinds := [.listed, .data], laidTests := true, laidLooks := .later }
def FixFlatsCardSaid : Prop := Claim7.holds Tryd.pinned (.plain (OpenSpec.ofChange fixFlatsSpec)) fixFlatsCard

/-- THE TIED CARD OF 'triglyphlaw04.FixRows'. -/
def fixRowsCard : Claim7 := { stood := { row := fixRowsRow, standIns := [], harness := (true, "cf16dd63b09adca821081b15ed81a6055f4aadac9237989d6c4b89fcd7397c87"), looks := false }, kinds := [], alts := [], laidByText := true, laidKinds := [.listed, .data], laidTests := true, laidLooks := .later }
def FixRowsCardSaid : Prop := Claim7.holds Tryd.pinned (.plain (OpenSpec.ofChange fixRowsSpec)) fixRowsCard

/-- THE TIED CARD OF 'triglyphlaw04.FixBinds'. -/
def fixBindsCard : Claim7 := { stood := { row := fixBindsRow, standIns := [], harness := (true, "cf16dd63b09adca821081b15ed81a6055f4aadac9237989d6c4b89fcd7397c87"), looks := false }, kinds := [], alts := [], laidByText := true, laidKinds := [.listed, .data], laidTests := true, laidLooks := .later }
def FixBindsCardSaid : Prop := Claim7.holds Tryd.pinned (.plain (OpenSpec.ofChange fixBindsSpec)) fixBindsCard

/-- THE TIED CARD OF 'triglyphlaw04.FixOne'. -/
def fixOneCard : Claim7 := { stood := { row := fixOneRow, standIns := [], harness := (true, "cf16dd63b09adca821081b15ed81a6055f4aadac9237989d6c4b89fcd7397c87"), looks := false }, kinds := [], alts := [], laidByText := true, laidKinds := [.listed, .data], laidTests := true, laidLooks := .later }
def FixOneCardSaid : Prop := Claim7.holds Tryd.pinned (.plain (OpenSpec.ofChange fixOneSpec)) fixOneCard

/-- THE TIED CARD OF 'triglyphlaw04.FixOrder'. -/
def fixOrderCard : Claim7 := { stood := { row := fixOrderRow, standIns := [], harness := (true, "cf16dd63b09adca821081b15ed81a6055f4aadac9237989d6c4b89fcd7397c87"), looks := false }, kinds := [], alts := [], laidByText := true, laidKinds := [.listed, .data], laidTests := true, laidLooks := .later }
def FixOrderCardSaid : Prop := Claim7.holds Tryd.pinned (.plain (OpenSpec.ofChange fixOrderSpec)) fixOrderCard

/-- THE SECOND FORM's CARD OF 'triglyphlaw04.FixSets'. -/
def fixSetsUptoCard : Claim7 := { stood := { row := fixSetsUptoRow, standIns := [], harness := (true, "cf16dd63b09adca821081b15ed81a6055f4aadac9237989d6c4b89fcd7397c87"), looks := false }, kinds := [], alts := [], laidByText := true, laidKinds := [.listed, .data], laidTests := true, laidLooks := .later }
def FixSetsUptoCardSaid : Prop := Claim7.holds Tryd.pinned (.plain (OpenSpec.upto fixSetsSpec)) fixSetsUptoCard

/-- THE SECOND FORM's CARD OF 'triglyphlaw04.FixClimbs'. -/
def fixClimbsUptoCard : Claim7 := { stood := { row := fixClimbsUptoRow, standIns := [], harness := (true, "cf16dd63b09adca821081b15ed81a6055f4aadac9237989d6c4b89fcd7397c87"), looks := false }, kinds := [], alts := [], laidByText := true, laidKinds := [.listed, .data], laidTests := true, laidLooks := .later }
def FixClimbsUptoCardSaid : Prop := Claim7.holds Tryd.pinned (.plain (OpenSpec.upto fixClimbsSpec)) fixClimbsUptoCard

/-- THE SECOND FORM's CARD OF 'triglyphlaw04.FixFlats'. -/
def fixFlatsUptoCard : Claim7 := { stood := { row := fixFlatsUptoRow, standIns := [], harness := (true, "cf16dd63b09adca821081b15ed81a6055f4aadac9237989d6c4b89fcd7397c87"), looks := false }, kinds := [], alts := [], laidByText := true, laidKinds := [.listed, .data], laidTests := true, laidLooks := .later }
def FixFlatsUptoCardSaid : Prop := Claim7.holds Tryd.pinned (.plain (OpenSpec.upto fixFlatsSpec)) fixFlatsUptoCard

/-- THE SECOND FORM's CARD OF 'triglyphlaw04.FixRows'. -/
def fixRowsUptoCard : Claim7 := { stood := { row := fixRowsUptoRow, standIns := [], harness := (true, "cf16dd63b09adca821081b15ed81a6055f4aadac9237989d6c4b89fcd7397c87"), looks := false }, kinds := [], alts := [], laidByText := true, laidKinds := [.listed, .data], laidTests := true, laidLooks := .later }
def FixRowsUptoCardSaid : Prop := Claim7.holds Tryd.pinned (.plain (OpenSpec.upto fixRowsSpec)) fixRowsUptoCard

/-- THE SECOND FORM's CARD OF 'triglyphlaw04.FixBinds'. -/
def fixBindsUptoCard : Claim7 := { stood := { row := fixBindsUptoRow, standIns := [], harness := (true, "cf16dd63b09adca821081b15ed81a6055f4aadac9237989d6c4b89fcd7397c87"), looks := false }, kinds := [], alts := [], laidByText := true, laidKinds := [.listed, .data], laidTests := true, laidLooks := .later }
def FixBindsUptoCardSaid : Prop := Claim7.holds Tryd.pinned (.plain (OpenSpec.upto fixBindsSpec)) fixBindsUptoCard

/-- THE SECOND FORM's CARD OF 'triglyphlaw04.FixOne'. -/
def fixOneUptoCard : Claim7 := { stood := { row := fixOneUptoRow, standIns := [], harness := (true, "cf16dd63b09adca821081b15ed81a6055f4aadac9237989d6c4b89fcd7397c87"), looks := false }, kinds := [], alts := [], laidByText := true, laidKinds := [.listed, .data], laidTests := true, laidLooks := .later }
def FixOneUptoCardSaid : Prop := Claim7.holds Tryd.pinned (.plain (OpenSpec.upto fixOneSpec)) fixOneUptoCard

/-- THE SECOND FORM's CARD OF 'triglyphlaw04.FixOrder'. -/
def fixOrderUptoCard : Claim7 := { stood := { row := fixOrderUptoRow, standIns := [], harness := (true, "cf16dd63b09adca821081b15ed81a6055f4aadac9237989d6c4b89fcd7397c87"), looks := false }, kinds := [], alts := [], laidByText := true, laidKinds := [.listed, .data], laidTests := true, laidLooks := .later }
def FixOrderUptoCardSaid : Prop := Claim7.holds Tryd.pinned (.plain (OpenSpec.upto fixOrderSpec)) fixOrderUptoCard
end Rows
end Go.Proofs.YtkfbakajbeifgaaDoor
