/-
  DERIVED. GIVEN WITH THE SEED: THE CARDS: each row of YtndklpaccohbcaaDoorRows.lean that lists a variable, with what it lists TIED to the program's text (the seventh form; the later family's looks); each row that meets fmt, with fmt's text TOLD by the authors' own Lean function (tested against real Go, not proved from fmt's source: count such statements apart). THE CARD IS WHAT COUNTS. Prove the row's statement (the work); the ties are given (YtndklpaccohbcaaDoorTie.lean); close each card by the builder's one call (the guide's Derived/Test/ToyasCard.lean, 'card_holds'). Laid BY PROGRAM, IN A SANDBOX (cutbox-door.mjs). By AI agents, Wed Nov 11 2026. No macro, syntax, notation, axiom, sorry.
-/
import Derived.Test.YtndklpaccohbcaaDoorRows
import GoSem.ClaimSeven
namespace Go.Proofs.YtndklpaccohbcaaDoor
namespace Rows

/-- THE TIED CARD OF 'triglyphlaw06.SynChecks'. -/
def synChecksCard : Claim7 := { stood := { row := synChecksRow, standIns := [], harness := (true, "706ccb0e039f5cfc0fca74d068262268595cb046f460e0adde46080ac1bcf5ce"), looks := false }, kinds := [], alts := [], laidByText := true, laidKinds := [.listed, .data], laidTests := true, laidLooks := .later }
def SynChecksCardSaid : Prop := Claim7.holds Tryd.pinned (.plain (OpenSpec.ofChange synChecksSpec)) synChecksCard

/-- THE TIED CARD OF 'triglyphlaw06.SynFrees'. -/
def synFreesCard : Claim7 := { stood := { row := synFreesRow, standIns := [], harness := (true, "706ccb0e039f5cfc0fca74d068262268595cb046f460e0adde46080ac1bcf5ce"), looks := false }, kinds := [], alts := [], laidByText := true, laidKinds := [.listed, .data], laidTests := true, laidLooks := .later }
def SynFreesCardSaid : Prop := Claim7.holds Tryd.pinned (.plain (OpenSpec.ofChange synFreesSpec)) synFreesCard

/-- THE TIED CARD OF 'triglyphlaw06.SynParts'. -/
def synPartsCard : Claim7 := { stood := { row := synPartsRow, standIns := [], harness := (true, "706ccb0e039f5cfc0fca74d068262268595cb046f460e0adde46080ac1bcf5ce"), looks := false }, kinds := [], alts := [], laidByText := true, laidKinds := [.listed, .data], laidTests := true, laidLooks := .later }
def SynPartsCardSaid : Prop := Claim7.holds Tryd.pinned (.plain (OpenSpec.ofChange synPartsSpec)) synPartsCard

/-- THE TIED CARD OF 'triglyphlaw06.SynFuns'. -/
def synFunsCard : Claim7 := { stood := { row := synFunsRow, standIns := [], harness := (true, "706ccb0e039f5cfc0fca74d068262268595cb046f460e0adde46080ac1bcf5ce"), looks := false }, kinds := [], alts := [], laidByText := true, laidKinds := [.listed, .data], laidTests := true, laidLooks := .later }
def SynFunsCardSaid : Prop := Claim7.holds Tryd.pinned (.plain (OpenSpec.ofChange synFunsSpec)) synFunsCard

/-- THE TIED CARD OF 'triglyphlaw06.SynNames'. -/
def synNamesCard : Claim7 := { stood := { row := synNamesRow, standIns := [], harness := (true, "706ccb0e039f5cfc0fca74d068262268595cb046f460e0adde46080ac1bcf5ce"), looks := false }, kinds := [], alts := [], laidByText := true, laidKinds := [.listed, .data], laidTests := true, laidLooks := .later }
def SynNamesCardSaid : Prop := Claim7.holds Tryd.pinned (.plain (OpenSpec.ofChange synNamesSpec)) synNamesCard

/-- THE TIED CARD OF 'triglyphlaw06.SynPuts'. -/
def synPutsCard : Claim7 := { stood := { row := synPutsRow, standIns := [], harness := (true, "706ccb0e039f5cfc0fca74d068262268595cb046f460e0adde46080ac1bcf5ce"), looks := false }, kinds := [], alts := [], laidByText := true, laidKinds := [.listed, .data], laidTests := true, laidLooks := .later }
def SynPutsCardSaid : Prop := Claim7.holds Tryd.pinned (.plain (OpenSpec.ofChange synPutsSpec)) synPutsCard

/-- THE SECOND FORM's CARD OF 'triglyphlaw06.SynChecks'. -/
def synChecksUptoCard : Claim7 := { stood := { row := synChecksUptoRow, standIns := [], harness := (true, "706ccb0e039f5cfc0fca74d068262268595cb046f460e0adde46080ac1bcf5ce"), looks := false }, kinds := [], alts := [], laidByText := true, laidKinds := [.listed, .data], laidTests := true, laidLooks := .later }
def SynChecksUptoCardSaid : Prop := Claim7.holds Tryd.pinned (.plain (OpenSpec.upto synChecksSpec)) synChecksUptoCard

/-- THE SECOND FORM's CARD OF 'triglyphlaw06.SynFrees'. -/
def synFreesUptoCard : Claim7 := { stood := { row := synFreesUptoRow, standIns := [], harness := (true, "706ccb0e039f5cfc0fca74d068262268595cb046f460e0adde46080ac1bcf5ce"), looks := false }, kinds := [], alts := [], laidByText := true, laidKinds := [.listed, .data], laidTests := true, laidLooks := .later }
def SynFreesUptoCardSaid : Prop := Claim7.holds Tryd.pinned (.plain (OpenSpec.upto synFreesSpec)) synFreesUptoCard

/-- THE SECOND FORM's CARD OF 'triglyphlaw06.SynParts'. -/
def synPartsUptoCard : Claim7 := { stood := { row := synPartsUptoRow, standIns := [], harness := (true, "706ccb0e039f5cfc0fca74d068262268595cb046f460e0adde46080ac1bcf5ce"), looks := false }, kinds := [], alts := [], laidByText := true, laidKinds := [.listed, .data], laidTests := true, laidLooks := .later }
def SynPartsUptoCardSaid : Prop := Claim7.holds Tryd.pinned (.plain (OpenSpec.upto synPartsSpec)) synPartsUptoCard

/-- THE SECOND FORM's CARD OF 'triglyphlaw06.SynFuns'. -/
def synFunsUptoCard : Claim7 := { stood := { row := synFunsUptoRow, standIns := [], harness := (true, "706ccb0e039f5cfc0fca74d068262268595cb046f460e0adde46080ac1bcf5ce"), looks := false }, kinds := [], alts := [], laidByText := true, laidKinds := [.listed, .data], laidTests := true, laidLooks := .later }
def SynFunsUptoCardSaid : Prop := Claim7.holds Tryd.pinned (.plain (OpenSpec.upto synFunsSpec)) synFunsUptoCard

/-- THE SECOND FORM's CARD OF 'triglyphlaw06.SynNames'. -/
def synNamesUptoCard : Claim7 := { stood := { row := synNamesUptoRow, standIns := [], harness := (true, "706ccb0e039f5cfc0fca74d068262268595cb046f460e0adde46080ac1bcf5ce"), looks := false }, kinds := [], alts := [], laidByText := true, laidKinds := [.listed, .data], laidTests := true, laidLooks := .later }
def SynNamesUptoCardSaid : Prop := Claim7.holds Tryd.pinned (.plain (OpenSpec.upto synNamesSpec)) synNamesUptoCard

/-- THE SECOND FORM's CARD OF 'triglyphlaw06.SynPuts'. -/
def synPutsUptoCard : Claim7 := { stood := { row := synPutsUptoRow, standIns := [], harness := (true, "706ccb0e039f5cfc0fca74d068262268595cb046f460e0adde46080ac1bcf5ce"), looks := false }, kinds := [], alts := [], laidByText := true, laidKinds := [.listed, .data], laidTests := true, laidLooks := .later }
def SynPutsUptoCardSaid : Prop := Claim7.holds Tryd.pinned (.plain (OpenSpec.upto synPutsSpec)) synPutsUptoCard
end Rows
end Go.Proofs.YtndklpaccohbcaaDoor
