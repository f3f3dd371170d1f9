/-
  DERIVED. GIVEN WITH THE SEED: THE CARDS: each row of YtdekfefcpdejkaaDoorRows.lean that lists a variable, with what it lists TIED to the program's text (the seventh form; the later family's looks); each row that meets fmt, with fmt's text TOLD by the authors' own Lean function (tested against real Go, not proved from fmt's source: count such statements apart). THE CARD IS WHAT COUNTS. Prove the row's statement (the work); the ties are given (YtdekfefcpdejkaaDoorTie.lean); close each card by the builder's one call (the guide's Derived/Test/ToyasCard.lean, 'card_holds'). Laid BY PROGRAM, IN A SANDBOX (cutbox-door.mjs). By AI agents, Wed Nov 11 2026. No macro, syntax, notation, axiom, sorry.
-/
import Derived.Test.YtdekfefcpdejkaaDoorRows
import GoSem.ClaimSeven
namespace Go.Proofs.YtdekfefcpdejkaaDoor
namespace Rows

/-- THE TIED CARD OF 'triglyphlaw18.ImagePools'. -/
def imagePoolsCard : Claim7 := { stood := { row := imagePoolsRow, standIns := [], harness := (true, "a726a0c4bb43f7c3fd63a91c5df40cf618d1ff6db72a6cac4a719ee45a453dc4"), looks := false }, kinds := [], alts := [], laidByText := true, laidKinds := [.data], laidTests := true, laidLooks := .later }
def ImagePoolsCardSaid : Prop := Claim7.holds Tryd.pinned (.plain (OpenSpec.ofChange imagePoolsSpec)) imagePoolsCard

/-- THE TIED CARD OF 'triglyphlaw18.ImageBack'. -/
def imageBackCard : Claim7 := { stood := { row := imageBackRow, standIns := [], harness := (true, "a726a0c4bb43f7c3fd63a91c5df40cf618d1ff6db72a6cac4a719ee45a453dc4"), looks := false }, kinds := [], alts := [], laidByText := true, laidKinds := [.data], laidTests := true, laidLooks := .later }
def ImageBackCardSaid : Prop := Claim7.holds Tryd.pinned (.plain (OpenSpec.ofChange imageBackSpec)) imageBackCard

/-- THE TIED CARD OF 'triglyphlaw18.ImageOnly'. -/
def imageOnlyCard : Claim7 := { stood := { row := imageOnlyRow, standIns := [], harness := (true, "a726a0c4bb43f7c3fd63a91c5df40cf618d1ff6db72a6cac4a719ee45a453dc4"), looks := false }, kinds := [], alts := [], laidByText := true, laidKinds := [.data], laidTests := true, laidLooks := .later }
def ImageOnlyCardSaid : Prop := Claim7.holds Tryd.pinned (.plain (OpenSpec.ofChange imageOnlySpec)) imageOnlyCard

/-- THE TIED CARD OF 'triglyphlaw18.ImageTurned'. -/
def imageTurnedCard : Claim7 := { stood := { row := imageTurnedRow, standIns := [], harness := (true, "a726a0c4bb43f7c3fd63a91c5df40cf618d1ff6db72a6cac4a719ee45a453dc4"), looks := false }, kinds := [], alts := [], laidByText := true, laidKinds := [.data], laidTests := true, laidLooks := .later }
def ImageTurnedCardSaid : Prop := Claim7.holds Tryd.pinned (.plain (OpenSpec.ofChange imageTurnedSpec)) imageTurnedCard

/-- THE TIED CARD OF 'triglyphlaw18.ImageOrder'. -/
def imageOrderCard : Claim7 := { stood := { row := imageOrderRow, standIns := [], harness := (true, "a726a0c4bb43f7c3fd63a91c5df40cf618d1ff6db72a6cac4a719ee45a453dc4"), looks := false }, kinds := [], alts := [], laidByText := true, laidKinds := [.data], laidTests := true, laidLooks := .later }
def ImageOrderCardSaid : Prop := Claim7.holds Tryd.pinned (.plain (OpenSpec.ofChange imageOrderSpec)) imageOrderCard

/-- THE SECOND FORM's CARD OF 'triglyphlaw18.ImagePools'. -/
def imagePoolsUptoCard : Claim7 := { stood := { row := imagePoolsUptoRow, standIns := [], harness := (true, "a726a0c4bb43f7c3fd63a91c5df40cf618d1ff6db72a6cac4a719ee45a453dc4"), looks := false }, kinds := [], alts := [], laidByText := true, laidKinds := [.data], laidTests := true, laidLooks := .later }
def ImagePoolsUptoCardSaid : Prop := Claim7.holds Tryd.pinned (.plain (OpenSpec.upto imagePoolsSpec)) imagePoolsUptoCard

/-- THE SECOND FORM's CARD OF 'triglyphlaw18.ImageBack'. -/
def imageBackUptoCard : Claim7 := { stood := { row := imageBackUptoRow, standIns := [], harness := (true, "a726a0c4bb43f7c3fd63a91c5df40cf618d1ff6db72a6cac4a719ee45a453dc4"), looks := false }, kinds := [], alts := [], laidByText := true, laidKinds := [.data], laidTests := true, laidLooks := .later }
def ImageBackUptoCardSaid : Prop := Claim7.holds Tryd.pinned (.plain (OpenSpec.upto imageBackSpec)) imageBackUptoCard

/-- THE SECOND FORM's CARD OF 'triglyphlaw18.ImageOnly'. -/
def imageOnlyUptoCard : Claim7 := { stood := { row := imageOnlyUptoRow, standIns := [], harness := (true, "a726a0c4bb43f7c3fd63a91c5df40cf618d1ff6db72a6cac4a719ee45a453dc4"), looks := false }, kinds := [], alts := [], laidByText := true, laidKinds := [.data], laidTests := true, laidLooks := .later }
def ImageOnlyUptoCardSaid : Prop := Claim7.holds Tryd.pinned (.plain (OpenSpec.upto imageOnlySpec)) imageOnlyUptoCard

/-- THE SECOND FORM's CARD OF 'triglyphlaw18.ImageTurned'. -/
def imageTurnedUptoCard : Claim7 := { stood := { row := imageTurnedUptoRow, standIns := [], harness := (true, "a726a0c4bb43f7c3fd63a91c5df40cf618d1ff6db72a6cac4a719ee45a453dc4"), looks := false }, kinds := [], alts := [], laidByText := true, laidKinds := [.data], laidTests := true, laidLooks := .later }
def ImageTurnedUptoCardSaid : Prop := Claim7.holds Tryd.pinned (.plain (OpenSpec.upto imageTurnedSpec)) imageTurnedUptoCard

/-- THE SECOND FORM's CARD OF 'triglyphlaw18.ImageOrder'. -/
def imageOrderUptoCard : Claim7 := { stood := { row := imageOrderUptoRow, standIns := [], harness := (true, "a726a0c4bb43f7c3fd63a91c5df40cf618d1ff6db72a6cac4a719ee45a453dc4"), looks := false }, kinds := [], alts := [], laidByText := true, laidKinds := [.data], laidTests := true, laidLooks := .later }
def ImageOrderUptoCardSaid : Prop := Claim7.holds Tryd.pinned (.plain (OpenSpec.upto imageOrderSpec)) imageOrderUptoCard
end Rows
end Go.Proofs.YtdekfefcpdejkaaDoor
