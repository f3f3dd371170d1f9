/-
  DERIVED. GIVEN WITH THE SEED: THE CARDS: each row of YthbmeiihbaggpaaDoorRows.lean that lists a variable, with what it lists TIED to the program's text (the seventh form; the later family's looks); each row that meets fmt, with fmt's text TOLD by the authors' own Lean function (tested against real Go, not proved from fmt's source: count such statements apart). THE CARD IS WHAT COUNTS. Prove the row's statement (the work); the ties are given (YthbmeiihbaggpaaDoorTie.lean); close each card by the builder's one call (the guide's Derived/Test/ToyasCard.lean, 'card_holds'). Laid BY PROGRAM, IN A SANDBOX (cutbox-door.mjs). By AI agents, Wed Nov 11 2026. No macro, syntax, notation, axiom, sorry.
-/
import Derived.Test.YthbmeiihbaggpaaDoorRows
import GoSem.ClaimSeven
namespace Go.Proofs.YthbmeiihbaggpaaDoor
namespace Rows

/-- THE TIED CARD OF 'triglyphlaw15.OpTells'. -/
def opTellsCard : Claim7 := { stood := { row := opTellsRow, standIns := [], harness := (true, "810735e6ad1bbc1bc2207a733d4d703691f21c837506fb38eae4d15be6556b33"), looks := false }, kinds := [], alts := [], laidByText := true, laidKinds := [.data, .data], laidTests := true, laidLooks := .later }
def OpTellsCardSaid : Prop := Claim7.holds Tryd.pinned (.plain (OpenSpec.ofChange opTellsSpec)) opTellsCard

/-- THE TIED CARD OF 'triglyphlaw15.OpPuts'. -/
def opPutsCard : Claim7 := { stood := { row := opPutsRow, standIns := [], harness := (true, "810735e6ad1bbc1bc2207a733d4d703691f21c837506fb38eae4d15be6556b33"), looks := false }, kinds := [], alts := [], laidByText := true, laidKinds := [.data, .data], laidTests := true, laidLooks := .later }
def OpPutsCardSaid : Prop := Claim7.holds Tryd.pinned (.plain (OpenSpec.ofChange opPutsSpec)) opPutsCard

/-- THE TIED CARD OF 'triglyphlaw15.OpGets'. -/
def opGetsCard : Claim7 := { stood := { row := opGetsRow, standIns := [], harness := (true, "810735e6ad1bbc1bc2207a733d4d703691f21c837506fb38eae4d15be6556b33"), looks := false }, kinds := [], alts := [], laidByText := true, laidKinds := [.data, .data], laidTests := true, laidLooks := .later }
def OpGetsCardSaid : Prop := Claim7.holds Tryd.pinned (.plain (OpenSpec.ofChange opGetsSpec)) opGetsCard

/-- THE TIED CARD OF 'triglyphlaw15.OpBack'. -/
def opBackCard : Claim7 := { stood := { row := opBackRow, standIns := [], harness := (true, "810735e6ad1bbc1bc2207a733d4d703691f21c837506fb38eae4d15be6556b33"), looks := false }, kinds := [], alts := [], laidByText := true, laidKinds := [.data, .data], laidTests := true, laidLooks := .later }
def OpBackCardSaid : Prop := Claim7.holds Tryd.pinned (.plain (OpenSpec.ofChange opBackSpec)) opBackCard

/-- THE TIED CARD OF 'triglyphlaw15.OpOnly'. -/
def opOnlyCard : Claim7 := { stood := { row := opOnlyRow, standIns := [], harness := (true, "810735e6ad1bbc1bc2207a733d4d703691f21c837506fb38eae4d15be6556b33"), looks := false }, kinds := [], alts := [], laidByText := true, laidKinds := [.data, .data], laidTests := true, laidLooks := .later }
def OpOnlyCardSaid : Prop := Claim7.holds Tryd.pinned (.plain (OpenSpec.ofChange opOnlySpec)) opOnlyCard

/-- THE TIED CARD OF 'triglyphlaw15.OpCuts'. -/
def opCutsCard : Claim7 := { stood := { row := opCutsRow, standIns := [], harness := (true, "810735e6ad1bbc1bc2207a733d4d703691f21c837506fb38eae4d15be6556b33"), looks := false }, kinds := [], alts := [], laidByText := true, laidKinds := [.data, .data], laidTests := true, laidLooks := .later }
def OpCutsCardSaid : Prop := Claim7.holds Tryd.pinned (.plain (OpenSpec.ofChange opCutsSpec)) opCutsCard

/-- THE TIED CARD OF 'triglyphlaw16.AsmPuts'. -/
def asmPutsCard : Claim7 := { stood := { row := asmPutsRow, standIns := [], harness := (true, "810735e6ad1bbc1bc2207a733d4d703691f21c837506fb38eae4d15be6556b33"), looks := false }, kinds := [], alts := [], laidByText := true, laidKinds := [.data], laidTests := true, laidLooks := .later }
def AsmPutsCardSaid : Prop := Claim7.holds Tryd.pinned (.plain (OpenSpec.ofChange asmPutsSpec)) asmPutsCard

/-- THE TIED CARD OF 'triglyphlaw16.AsmGets'. -/
def asmGetsCard : Claim7 := { stood := { row := asmGetsRow, standIns := [], harness := (true, "810735e6ad1bbc1bc2207a733d4d703691f21c837506fb38eae4d15be6556b33"), looks := false }, kinds := [], alts := [], laidByText := true, laidKinds := [.data], laidTests := true, laidLooks := .later }
def AsmGetsCardSaid : Prop := Claim7.holds Tryd.pinned (.plain (OpenSpec.ofChange asmGetsSpec)) asmGetsCard

/-- THE TIED CARD OF 'triglyphlaw16.AsmFits'. -/
def asmFitsCard : Claim7 := { stood := { row := asmFitsRow, standIns := [], harness := (true, "810735e6ad1bbc1bc2207a733d4d703691f21c837506fb38eae4d15be6556b33"), looks := false }, kinds := [], alts := [], laidByText := true, laidKinds := [.data], laidTests := true, laidLooks := .later }
def AsmFitsCardSaid : Prop := Claim7.holds Tryd.pinned (.plain (OpenSpec.ofChange asmFitsSpec)) asmFitsCard

/-- THE TIED CARD OF 'triglyphlaw16.AsmLeast'. -/
def asmLeastCard : Claim7 := { stood := { row := asmLeastRow, standIns := [], harness := (true, "810735e6ad1bbc1bc2207a733d4d703691f21c837506fb38eae4d15be6556b33"), looks := false }, kinds := [], alts := [], laidByText := true, laidKinds := [.data], laidTests := true, laidLooks := .later }
def AsmLeastCardSaid : Prop := Claim7.holds Tryd.pinned (.plain (OpenSpec.ofChange asmLeastSpec)) asmLeastCard

/-- THE TIED CARD OF 'triglyphlaw16.AsmBack'. -/
def asmBackCard : Claim7 := { stood := { row := asmBackRow, standIns := [], harness := (true, "810735e6ad1bbc1bc2207a733d4d703691f21c837506fb38eae4d15be6556b33"), looks := false }, kinds := [], alts := [], laidByText := true, laidKinds := [.data], laidTests := true, laidLooks := .later }
def AsmBackCardSaid : Prop := Claim7.holds Tryd.pinned (.plain (OpenSpec.ofChange asmBackSpec)) asmBackCard

/-- THE TIED CARD OF 'triglyphlaw16.AsmOnly'. -/
def asmOnlyCard : Claim7 := { stood := { row := asmOnlyRow, standIns := [], harness := (true, "810735e6ad1bbc1bc2207a733d4d703691f21c837506fb38eae4d15be6556b33"), looks := false }, kinds := [], alts := [], laidByText := true, laidKinds := [.data], laidTests := true, laidLooks := .later }
def AsmOnlyCardSaid : Prop := Claim7.holds Tryd.pinned (.plain (OpenSpec.ofChange asmOnlySpec)) asmOnlyCard

/-- THE TIED CARD OF 'triglyphlaw16.AsmJoins'. -/
def asmJoinsCard : Claim7 := { stood := { row := asmJoinsRow, standIns := [], harness := (true, "810735e6ad1bbc1bc2207a733d4d703691f21c837506fb38eae4d15be6556b33"), looks := false }, kinds := [], alts := [], laidByText := true, laidKinds := [.data], laidTests := true, laidLooks := .later }
def AsmJoinsCardSaid : Prop := Claim7.holds Tryd.pinned (.plain (OpenSpec.ofChange asmJoinsSpec)) asmJoinsCard

/-- THE SECOND FORM's CARD OF 'triglyphlaw15.OpTells'. -/
def opTellsUptoCard : Claim7 := { stood := { row := opTellsUptoRow, standIns := [], harness := (true, "810735e6ad1bbc1bc2207a733d4d703691f21c837506fb38eae4d15be6556b33"), looks := false }, kinds := [], alts := [], laidByText := true, laidKinds := [.data, .data], laidTests := true, laidLooks := .later }
def OpTellsUptoCardSaid : Prop := Claim7.holds Tryd.pinned (.plain (OpenSpec.upto opTellsSpec)) opTellsUptoCard

/-- THE SECOND FORM's CARD OF 'triglyphlaw15.OpPuts'. -/
def opPutsUptoCard : Claim7 := { stood := { row := opPutsUptoRow, standIns := [], harness := (true, "810735e6ad1bbc1bc2207a733d4d703691f21c837506fb38eae4d15be6556b33"), looks := false }, kinds := [], alts := [], laidByText := true, laidKinds := [.data, .data], laidTests := true, laidLooks := .later }
def OpPutsUptoCardSaid : Prop := Claim7.holds Tryd.pinned (.plain (OpenSpec.upto opPutsSpec)) opPutsUptoCard

/-- THE SECOND FORM's CARD OF 'triglyphlaw15.OpGets'. -/
def opGetsUptoCard : Claim7 := { stood := { row := opGetsUptoRow, standIns := [], harness := (true, "810735e6ad1bbc1bc2207a733d4d703691f21c837506fb38eae4d15be6556b33"), looks := false }, kinds := [], alts := [], laidByText := true, laidKinds := [.data, .data], laidTests := true, laidLooks := .later }
def OpGetsUptoCardSaid : Prop := Claim7.holds Tryd.pinned (.plain (OpenSpec.upto opGetsSpec)) opGetsUptoCard

/-- THE SECOND FORM's CARD OF 'triglyphlaw15.OpBack'. -/
def opBackUptoCard : Claim7 := { stood := { row := opBackUptoRow, standIns := [], harness := (true, "810735e6ad1bbc1bc2207a733d4d703691f21c837506fb38eae4d15be6556b33"), looks := false }, kinds := [], alts := [], laidByText := true, laidKinds := [.data, .data], laidTests := true, laidLooks := .later }
def OpBackUptoCardSaid : Prop := Claim7.holds Tryd.pinned (.plain (OpenSpec.upto opBackSpec)) opBackUptoCard

/-- THE SECOND FORM's CARD OF 'triglyphlaw15.OpOnly'. -/
def opOnlyUptoCard : Claim7 := { stood := { row := opOnlyUptoRow, standIns := [], harness := (true, "810735e6ad1bbc1bc2207a733d4d703691f21c837506fb38eae4d15be6556b33"), looks := false }, kinds := [], alts := [], laidByText := true, laidKinds := [.data, .data], laidTests := true, laidLooks := .later }
def OpOnlyUptoCardSaid : Prop := Claim7.holds Tryd.pinned (.plain (OpenSpec.upto opOnlySpec)) opOnlyUptoCard

/-- THE SECOND FORM's CARD OF 'triglyphlaw15.OpCuts'. -/
def opCutsUptoCard : Claim7 := { stood := { row := opCutsUptoRow, standIns := [], harness := (true, "810735e6ad1bbc1bc2207a733d4d703691f21c837506fb38eae4d15be6556b33"), looks := false }, kinds := [], alts := [], laidByText := true, laidKinds := [.data, .data], laidTests := true, laidLooks := .later }
def OpCutsUptoCardSaid : Prop := Claim7.holds Tryd.pinned (.plain (OpenSpec.upto opCutsSpec)) opCutsUptoCard

/-- THE SECOND FORM's CARD OF 'triglyphlaw16.AsmPuts'. -/
def asmPutsUptoCard : Claim7 := { stood := { row := asmPutsUptoRow, standIns := [], harness := (true, "810735e6ad1bbc1bc2207a733d4d703691f21c837506fb38eae4d15be6556b33"), looks := false }, kinds := [], alts := [], laidByText := true, laidKinds := [.data], laidTests := true, laidLooks := .later }
def AsmPutsUptoCardSaid : Prop := Claim7.holds Tryd.pinned (.plain (OpenSpec.upto asmPutsSpec)) asmPutsUptoCard

/-- THE SECOND FORM's CARD OF 'triglyphlaw16.AsmGets'. -/
def asmGetsUptoCard : Claim7 := { stood := { row := asmGetsUptoRow, standIns := [], harness := (true, "810735e6ad1bbc1bc2207a733d4d703691f21c837506fb38eae4d15be6556b33"), looks := false }, kinds := [], alts := [], laidByText := true, laidKinds := [.data], laidTests := true, laidLooks := .later }
def AsmGetsUptoCardSaid : Prop := Claim7.holds Tryd.pinned (.plain (OpenSpec.upto asmGetsSpec)) asmGetsUptoCard

/-- THE SECOND FORM's CARD OF 'triglyphlaw16.AsmFits'. -/
def asmFitsUptoCard : Claim7 := { stood := { row := asmFitsUptoRow, standIns := [], harness := (true, "810735e6ad1bbc1bc2207a733d4d703691f21c837506fb38eae4d15be6556b33"), looks := false }, kinds := [], alts := [], laidByText := true, laidKinds := [.data], laidTests := true, laidLooks := .later }
def AsmFitsUptoCardSaid : Prop := Claim7.holds Tryd.pinned (.plain (OpenSpec.upto asmFitsSpec)) asmFitsUptoCard

/-- THE SECOND FORM's CARD OF 'triglyphlaw16.AsmLeast'. -/
def asmLeastUptoCard : Claim7 := { stood := { row := asmLeastUptoRow, standIns := [], harness := (true, "810735e6ad1bbc1bc2207a733d4d703691f21c837506fb38eae4d15be6556b33"), looks := false }, kinds := [], alts := [], laidByText := true, laidKinds := [.data], laidTests := true, laidLooks := .later }
def AsmLeastUptoCardSaid : Prop := Claim7.holds Tryd.pinned (.plain (OpenSpec.upto asmLeastSpec)) asmLeastUptoCard

/-- THE SECOND FORM's CARD OF 'triglyphlaw16.AsmBack'. -/
def asmBackUptoCard : Claim7 := { stood := { row := asmBackUptoRow, standIns := [], harness := (true, "810735e6ad1bbc1bc2207a733d4d703691f21c837506fb38eae4d15be6556b33"), looks := false }, kinds := [], alts := [], laidByText := true, laidKinds := [.data], laidTests := true, laidLooks := .later }
def AsmBackUptoCardSaid : Prop := Claim7.holds Tryd.pinned (.plain (OpenSpec.upto asmBackSpec)) asmBackUptoCard

/-- THE SECOND FORM's CARD OF 'triglyphlaw16.AsmOnly'. -/
def asmOnlyUptoCard : Claim7 := { stood := { row := asmOnlyUptoRow, standIns := [], harness := (true, "810735e6ad1bbc1bc2207a733d4d703691f21c837506fb38eae4d15be6556b33"), looks := false }, kinds := [], alts := [], laidByText := true, laidKinds := [.data], laidTests := true, laidLooks := .later }
def AsmOnlyUptoCardSaid : Prop := Claim7.holds Tryd.pinned (.plain (OpenSpec.upto asmOnlySpec)) asmOnlyUptoCard

/-- THE SECOND FORM's CARD OF 'triglyphlaw16.AsmJoins'. -/
def asmJoinsUptoCard : Claim7 := { stood := { row := asmJoinsUptoRow, standIns := [], harness := (true, "810735e6ad1bbc1bc2207a733d4d703691f21c837506fb38eae4d15be6556b33"), looks := false }, kinds := [], alts := [], laidByText := true, laidKinds := [.data], laidTests := true, laidLooks := .later }
def AsmJoinsUptoCardSaid : Prop := Claim7.holds Tryd.pinned (.plain (OpenSpec.upto asmJoinsSpec)) asmJoinsUptoCard
end Rows
end Go.Proofs.YthbmeiihbaggpaaDoor
