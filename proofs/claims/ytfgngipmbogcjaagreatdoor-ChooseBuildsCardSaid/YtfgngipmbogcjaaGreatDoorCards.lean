/-
  DERIVED. GIVEN WITH THE SEED: THE CARDS: each row of YtfgngipmbogcjaaGreatDoorRows.lean that lists a variable, with what it lists TIED to the program's text (the seventh form; the later family's looks); each row that meets fmt, with fmt's text TOLD by the authors' own Lean function (tested against real Go, not proved from fmt's source: count such statements apart). THE CARD IS WHAT COUNTS. Prove the row's statement (the work); the ties are given (YtfgngipmbogcjaaGreatDoorTie.lean); close each card by the builder's one call (the guide's Derived/Test/ToyasCard.lean, 'card_holds'). Laid BY PROGRAM, IN A SANDBOX (cutbox-door.mjs). By AI agents, Wed Nov 11 2026. No macro, syntax, notation, axiom, sorry.
-/
import Derived.Test.YtfgngipmbogcjaaGreatDoorRows
import GoSem.ClaimSeven
namespace Go.Proofs.YtfgngipmbogcjaaGreatDoor
namespace Rows

/-- THE TIED CARD OF 'triglyphlaw13.ChooseBuilds'. -/
def chooseBuildsCard : Claim7 := { stood := { row := chooseBuildsRow, standIns := [], harness := (true, "95ff144c62ec98782305d66238d912db083f80979c52b3a4c72bbba9ca25a33e"), looks := false }, kinds := [], alts := [], laidByText := true, laidKinds := [.data, .data, .data, .data, .listed, .data, .pinned], laidTests := true, laidLooks := .later }
def ChooseBuildsCardSaid : Prop := Claim7.holds Tryz.pinned (.plain (OpenSpec.ofChange chooseBuildsSpec)) chooseBuildsCard

/-- THE TIED CARD OF 'triglyphlaw13.ChooseOnce'. -/
def chooseOnceCard : Claim7 := { stood := { row := chooseOnceRow, standIns := [], harness := (true, "95ff144c62ec98782305d66238d912db083f80979c52b3a4c72bbba9ca25a33e"), looks := false }, kinds := [], alts := [], laidByText := true, laidKinds := [.data, .data, .data, .data, .listed, .data, .pinned], laidTests := true, laidLooks := .later }
def ChooseOnceCardSaid : Prop := Claim7.holds Tryz.pinned (.plain (OpenSpec.ofChange chooseOnceSpec)) chooseOnceCard

/-- THE TIED CARD OF 'triglyphlaw13.ChooseSpots'. -/
def chooseSpotsCard : Claim7 := { stood := { row := chooseSpotsRow, standIns := [], harness := (true, "95ff144c62ec98782305d66238d912db083f80979c52b3a4c72bbba9ca25a33e"), looks := false }, kinds := [], alts := [], laidByText := true, laidKinds := [.data, .data, .data, .data, .listed, .data, .pinned], laidTests := true, laidLooks := .later }
def ChooseSpotsCardSaid : Prop := Claim7.holds Tryz.pinned (.plain (OpenSpec.ofChange chooseSpotsSpec)) chooseSpotsCard

/-- THE TIED CARD OF 'triglyphlaw13.ChooseFirst'. -/
def chooseFirstCard : Claim7 := { stood := { row := chooseFirstRow, standIns := [], harness := (true, "95ff144c62ec98782305d66238d912db083f80979c52b3a4c72bbba9ca25a33e"), looks := false }, kinds := [], alts := [], laidByText := true, laidKinds := [.data, .data, .data, .data, .listed, .data, .pinned], laidTests := true, laidLooks := .later }
def ChooseFirstCardSaid : Prop := Claim7.holds Tryz.pinned (.plain (OpenSpec.ofChange chooseFirstSpec)) chooseFirstCard

/-- THE SECOND FORM's CARD OF 'triglyphlaw13.ChooseBuilds'. -/
def chooseBuildsUptoCard : Claim7 := { stood := { row := chooseBuildsUptoRow, standIns := [], harness := (true, "95ff144c62ec98782305d66238d912db083f80979c52b3a4c72bbba9ca25a33e"), looks := false }, kinds := [], alts := [], laidByText := true, laidKinds := [.data, .data, .data, .data, .listed, .data, .pinned], laidTests := true, laidLooks := .later }
def ChooseBuildsUptoCardSaid : Prop := Claim7.holds Tryz.pinned (.plain (OpenSpec.upto chooseBuildsSpec)) chooseBuildsUptoCard

/-- THE SECOND FORM's CARD OF 'triglyphlaw13.ChooseOnce'. -/
def chooseOnceUptoCard : Claim7 := { stood := { row := chooseOnceUptoRow, standIns := [], harness := (true, "95ff144c62ec98782305d66238d912db083f80979c52b3a4c72bbba9ca25a33e"), looks := false }, kinds := [], alts := [], laidByText := true, laidKinds := [.data, .data, .data, .data, .listed, .data, .pinned], laidTests := true, laidLooks := .later }
def ChooseOnceUptoCardSaid : Prop := Claim7.holds Tryz.pinned (.plain (OpenSpec.upto chooseOnceSpec)) chooseOnceUptoCard

/-- THE SECOND FORM's CARD OF 'triglyphlaw13.ChooseSpots'. -/
def chooseSpotsUptoCard : Claim7 := { stood := { row := chooseSpotsUptoRow, standIns := [], harness := (true, "95ff144c62ec98782305d66238d912db083f80979c52b3a4c72bbba9ca25a33e"), looks := false }, kinds := [], alts := [], laidByText := true, laidKinds := [.data, .data, .data, .data, .listed, .data, .pinned], laidTests := true, laidLooks := .later }
def ChooseSpotsUptoCardSaid : Prop := Claim7.holds Tryz.pinned (.plain (OpenSpec.upto chooseSpotsSpec)) chooseSpotsUptoCard

/-- THE SECOND FORM's CARD OF 'triglyphlaw13.ChooseFirst'. -/
def chooseFirstUptoCard : Claim7 := { stood := { row := chooseFirstUptoRow, standIns := [], harness := (true, "95ff144c62ec98782305d66238d912db083f80979c52b3a4c72bbba9ca25a33e"), looks := false }, kinds := [], alts := [], laidByText := true, laidKinds := [.data, .data, .data, .data, .listed, .data, .pinned], laidTests := true, laidLooks := .later }
def ChooseFirstUptoCardSaid : Prop := Claim7.holds Tryz.pinned (.plain (OpenSpec.upto chooseFirstSpec)) chooseFirstUptoCard
end Rows
end Go.Proofs.YtfgngipmbogcjaaGreatDoor
