/-
  DERIVED. GIVEN WITH THE SEED: THE CARDS: each row of YtnihgcgcdjdhiaaGreatDoorRows.lean that lists a variable, with what it lists TIED to the program's text (the seventh form; the later family's looks); each row that meets fmt, with fmt's text TOLD by the authors' own Lean function (tested against real Go, not proved from fmt's source: count such statements apart). THE CARD IS WHAT COUNTS. Prove the row's statement (the work); the ties are given (YtnihgcgcdjdhiaaGreatDoorTie.lean); close each card by the builder's one call (the guide's Derived/Test/ToyasCard.lean, 'card_holds'). Laid BY PROGRAM, IN A SANDBOX (cutbox-door.mjs). By AI agents, Wed Nov 11 2026. No macro, syntax, notation, axiom, sorry.
-/
import Derived.Test.YtnihgcgcdjdhiaaGreatDoorRows
import GoSem.ClaimSeven
namespace Go.Proofs.YtnihgcgcdjdhiaaGreatDoor
namespace Rows

/-- THE TIED CARD OF 'triglyphlaw12.PatTells'. -/
def patTellsCard : Claim7 := { stood := { row := patTellsRow, standIns := [], harness := (true, "ecfe15b1ee6d66a8334981a13f51c9bf74ae3c1201f5c73d7d792934c8abc5fb"), looks := false }, kinds := [], alts := [], laidByText := true, laidKinds := [.listed, .data], laidTests := true, laidLooks := .later }
def PatTellsCardSaid : Prop := Claim7.holds Tryz.pinned (.plain (OpenSpec.ofChange patTellsSpec)) patTellsCard

/-- THE TIED CARD OF 'triglyphlaw12.PatMatches'. -/
def patMatchesCard : Claim7 := { stood := { row := patMatchesRow, standIns := [], harness := (true, "ecfe15b1ee6d66a8334981a13f51c9bf74ae3c1201f5c73d7d792934c8abc5fb"), looks := false }, kinds := [], alts := [], laidByText := true, laidKinds := [.listed, .data], laidTests := true, laidLooks := .later }
def PatMatchesCardSaid : Prop := Claim7.holds Tryz.pinned (.plain (OpenSpec.ofChange patMatchesSpec)) patMatchesCard

/-- THE TIED CARD OF 'triglyphlaw12.PatMissing'. -/
def patMissingCard : Claim7 := { stood := { row := patMissingRow, standIns := [], harness := (true, "ecfe15b1ee6d66a8334981a13f51c9bf74ae3c1201f5c73d7d792934c8abc5fb"), looks := false }, kinds := [], alts := [], laidByText := true, laidKinds := [.listed, .data], laidTests := true, laidLooks := .later }
def PatMissingCardSaid : Prop := Claim7.holds Tryz.pinned (.plain (OpenSpec.ofChange patMissingSpec)) patMissingCard

/-- THE TIED CARD OF 'triglyphlaw12.PatUseless'. -/
def patUselessCard : Claim7 := { stood := { row := patUselessRow, standIns := [], harness := (true, "ecfe15b1ee6d66a8334981a13f51c9bf74ae3c1201f5c73d7d792934c8abc5fb"), looks := false }, kinds := [], alts := [], laidByText := true, laidKinds := [.listed, .data], laidTests := true, laidLooks := .later }
def PatUselessCardSaid : Prop := Claim7.holds Tryz.pinned (.plain (OpenSpec.ofChange patUselessSpec)) patUselessCard

/-- THE TIED CARD OF 'triglyphlaw12.PatAll'. -/
def patAllCard : Claim7 := { stood := { row := patAllRow, standIns := [], harness := (true, "ecfe15b1ee6d66a8334981a13f51c9bf74ae3c1201f5c73d7d792934c8abc5fb"), looks := false }, kinds := [], alts := [], laidByText := true, laidKinds := [.listed, .data], laidTests := true, laidLooks := .later }
def PatAllCardSaid : Prop := Claim7.holds Tryz.pinned (.plain (OpenSpec.ofChange patAllSpec)) patAllCard

/-- THE TIED CARD OF 'triglyphlaw12.PatGives'. -/
def patGivesCard : Claim7 := { stood := { row := patGivesRow, standIns := [], harness := (true, "ecfe15b1ee6d66a8334981a13f51c9bf74ae3c1201f5c73d7d792934c8abc5fb"), looks := false }, kinds := [], alts := [], laidByText := true, laidKinds := [.listed, .data], laidTests := true, laidLooks := .later }
def PatGivesCardSaid : Prop := Claim7.holds Tryz.pinned (.plain (OpenSpec.ofChange patGivesSpec)) patGivesCard

/-- THE SECOND FORM's CARD OF 'triglyphlaw12.PatTells'. -/
def patTellsUptoCard : Claim7 := { stood := { row := patTellsUptoRow, standIns := [], harness := (true, "ecfe15b1ee6d66a8334981a13f51c9bf74ae3c1201f5c73d7d792934c8abc5fb"), looks := false }, kinds := [], alts := [], laidByText := true, laidKinds := [.listed, .data], laidTests := true, laidLooks := .later }
def PatTellsUptoCardSaid : Prop := Claim7.holds Tryz.pinned (.plain (OpenSpec.upto patTellsSpec)) patTellsUptoCard

/-- THE SECOND FORM's CARD OF 'triglyphlaw12.PatMatches'. -/
def patMatchesUptoCard : Claim7 := { stood := { row := patMatchesUptoRow, standIns := [], harness := (true, "ecfe15b1ee6d66a8334981a13f51c9bf74ae3c1201f5c73d7d792934c8abc5fb"), looks := false }, kinds := [], alts := [], laidByText := true, laidKinds := [.listed, .data], laidTests := true, laidLooks := .later }
def PatMatchesUptoCardSaid : Prop := Claim7.holds Tryz.pinned (.plain (OpenSpec.upto patMatchesSpec)) patMatchesUptoCard

/-- THE SECOND FORM's CARD OF 'triglyphlaw12.PatMissing'. -/
def patMissingUptoCard : Claim7 := { stood := { row := patMissingUptoRow, standIns := [], harness := (true, "ecfe15b1ee6d66a8334981a13f51c9bf74ae3c1201f5c73d7d792934c8abc5fb"), looks := false }, kinds := [], alts := [], laidByText := true, laidKinds := [.listed, .data], laidTests := true, laidLooks := .later }
def PatMissingUptoCardSaid : Prop := Claim7.holds Tryz.pinned (.plain (OpenSpec.upto patMissingSpec)) patMissingUptoCard

/-- THE SECOND FORM's CARD OF 'triglyphlaw12.PatUseless'. -/
def patUselessUptoCard : Claim7 := { stood := { row := patUselessUptoRow, standIns := [], harness := (true, "ecfe15b1ee6d66a8334981a13f51c9bf74ae3c1201f5c73d7d792934c8abc5fb"), looks := false }, kinds := [], alts := [], laidByText := true, laidKinds := [.listed, .data], laidTests := true, laidLooks := .later }
def PatUselessUptoCardSaid : Prop := Claim7.holds Tryz.pinned (.plain (OpenSpec.upto patUselessSpec)) patUselessUptoCard

/-- THE SECOND FORM's CARD OF 'triglyphlaw12.PatAll'. -/
def patAllUptoCard : Claim7 := { stood := { row := patAllUptoRow, standIns := [], harness := (true, "ecfe15b1ee6d66a8334981a13f51c9bf74ae3c1201f5c73d7d792934c8abc5fb"), looks := false }, kinds := [], alts := [], laidByText := true, laidKinds := [.listed, .data], laidTests := true, laidLooks := .later }
def PatAllUptoCardSaid : Prop := Claim7.holds Tryz.pinned (.plain (OpenSpec.upto patAllSpec)) patAllUptoCard

/-- THE SECOND FORM's CARD OF 'triglyphlaw12.PatGives'. -/
def patGivesUptoCard : Claim7 := { stood := { row := patGivesUptoRow, standIns := [], harness := (true, "ecfe15b1ee6d66a8334981a13f51c9bf74ae3c1201f5c73d7d792934c8abc5fb"), looks := false }, kinds := [], alts := [], laidByText := true, laidKinds := [.listed, .data], laidTests := true, laidLooks := .later }
def PatGivesUptoCardSaid : Prop := Claim7.holds Tryz.pinned (.plain (OpenSpec.upto patGivesSpec)) patGivesUptoCard
end Rows
end Go.Proofs.YtnihgcgcdjdhiaaGreatDoor
