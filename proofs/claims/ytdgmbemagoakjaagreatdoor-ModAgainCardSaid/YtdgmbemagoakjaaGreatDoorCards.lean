/-
  DERIVED. GIVEN WITH THE SEED: THE CARDS: each row of YtdgmbemagoakjaaGreatDoorRows.lean that lists a variable, with what it lists TIED to the program's text (the seventh form; the later family's looks); each row that meets fmt, with fmt's text TOLD by the authors' own Lean function (tested against real Go, not proved from fmt's source: count such statements apart). THE CARD IS WHAT COUNTS. Prove the row's statement (the work); the ties are given (YtdgmbemagoakjaaGreatDoorTie.lean); close each card by the builder's one call (the guide's Derived/Test/ToyasCard.lean, 'card_holds'). Laid BY PROGRAM, IN A SANDBOX (cutbox-door.mjs). By AI agents, Wed Nov 11 2026. No macro, syntax, notation, axiom, sorry.
-/
import Derived.Test.YtdgmbemagoakjaaGreatDoorRows
import GoSem.ClaimSeven
namespace Go.Proofs.YtdgmbemagoakjaaGreatDoor
namespace Rows

/-- THE TIED CARD OF 'triglyphlaw24.ModShows'. -/
def modShowsCard : Claim7 := { stood := { row := modShowsRow, standIns := [], harness := (true, "7677f3789f83933f683816e292bd69bb794e9915aec8687421c80d18f6d55c0e"), looks := false }, kinds := [], alts := [], laidByText := true, laidKinds := [.data, .data, .data, .data, .listed, .data, .pinned], laidTests := true, laidLooks := .later }
def ModShowsCardSaid : Prop := Claim7.holds Tryz.pinned (.plain (OpenSpec.ofChange modShowsSpec)) modShowsCard

/-- THE TIED CARD OF 'triglyphlaw24.ModAgain'. -/
def modAgainCard : Claim7 := { stood := { row := modAgainRow, standIns := [], harness := (true, "7677f3789f83933f683816e292bd69bb794e9915aec8687421c80d18f6d55c0e"), looks := false }, kinds := [], alts := [], laidByText := true, laidKinds := [.data, .data, .data, .data, .listed, .data, .pinned], laidTests := true, laidLooks := .later }
def ModAgainCardSaid : Prop := Claim7.holds Tryz.pinned (.plain (OpenSpec.ofChange modAgainSpec)) modAgainCard

/-- THE TIED CARD OF 'triglyphlaw24.ModJoins'. -/
def modJoinsCard : Claim7 := { stood := { row := modJoinsRow, standIns := [], harness := (true, "7677f3789f83933f683816e292bd69bb794e9915aec8687421c80d18f6d55c0e"), looks := false }, kinds := [], alts := [], laidByText := true, laidKinds := [.data, .data, .data, .data, .listed, .data, .pinned], laidTests := true, laidLooks := .later }
def ModJoinsCardSaid : Prop := Claim7.holds Tryz.pinned (.plain (OpenSpec.ofChange modJoinsSpec)) modJoinsCard

/-- THE SECOND FORM's CARD OF 'triglyphlaw24.ModShows'. -/
def modShowsUptoCard : Claim7 := { stood := { row := modShowsUptoRow, standIns := [], harness := (true, "7677f3789f83933f683816e292bd69bb794e9915aec8687421c80d18f6d55c0e"), looks := false }, kinds := [], alts := [], laidByText := true, laidKinds := [.data, .data, .data, .data, .listed, .data, .pinned], laidTests := true, laidLooks := .later }
def ModShowsUptoCardSaid : Prop := Claim7.holds Tryz.pinned (.plain (OpenSpec.upto modShowsSpec)) modShowsUptoCard

/-- THE SECOND FORM's CARD OF 'triglyphlaw24.ModAgain'. -/
def modAgainUptoCard : Claim7 := { stood := { row := modAgainUptoRow, standIns := [], harness := (true, "7677f3789f83933f683816e292bd69bb794e9915aec8687421c80d18f6d55c0e"), looks := false }, kinds := [], alts := [], laidByText := true, laidKinds := [.data, .data, .data, .data, .listed, .data, .pinned], laidTests := true, laidLooks := .later }
def ModAgainUptoCardSaid : Prop := Claim7.holds Tryz.pinned (.plain (OpenSpec.upto modAgainSpec)) modAgainUptoCard

/-- THE SECOND FORM's CARD OF 'triglyphlaw24.ModJoins'. -/
def modJoinsUptoCard : Claim7 := { stood := { row := modJoinsUptoRow, standIns := [], harness := (true, "7677f3789f83933f683816e292bd69bb794e9915aec8687421c80d18f6d55c0e"), looks := false }, kinds := [], alts := [], laidByText := true, laidKinds := [.data, .data, .data, .data, .listed, .data, .pinned], laidTests := true, laidLooks := .later }
def ModJoinsUptoCardSaid : Prop := Claim7.holds Tryz.pinned (.plain (OpenSpec.upto modJoinsSpec)) modJoinsUptoCard
end Rows
end Go.Proofs.YtdgmbemagoakjaaGreatDoor
