/-
  NARROWER THAN 'FOR EVERY INPUT', by the rows' own cells (each row's printed sentence says how): ImagePools: laid · ImageBack: laid · ImageOnly: laid · ImageTurned: laid · ImageOrder: laid.
  DERIVED. THE GIVEN ROWS OF THIS SEAT. 5 by the template 'for every input the law returns true; each argument reads behind the call as it read before'; 0 by the template 'total and deterministic' (their statements: YtdekfefcpdejkaaDoorTotals.lean).
  GIVEN WITH THE SEED: the statements are not yours to turn. If you find one false, say at which input.
  Laid BY PROGRAM, IN A SANDBOX (cutbox-rows.mjs): the forced cells as the released guide's own fill.sh prints them over the translation b9299bfb3e89d5a2… (all of the seat's roots in one cut). By AI agents, Wed Nov 11 2026. No macro, syntax, notation, axiom, sorry.
-/
import Derived.Test.YtdekfefcpdejkaaDoorChecked
import GoSem.Claim
import GoSem.ClaimJoined
import GoSem.ClaimMapViews
import Derived.JoinedTies
import Derived.KernelRfl
namespace Go.Proofs.YtdekfefcpdejkaaDoor
/- THE CELL 'sum', in the pinned program and in every row, IS THE sha256 OF THE DUMP (.gsa) THAT YtdekfefcpdejkaaDoorProg.lean LOADS. Nothing in Lean hashes anything: it is a label: what it is worth is what the hold of that sum in a sandbox is worth. -/
noncomputable def Tryd.pinned : Pinned := { name := "ytdekfefcpdejkaadoor", sum := "b9299bfb3e89d5a2f98bf64258bdfd5ce22f20611d3b3b648d54cac04a10a35d", checked := Tryd.checked }
namespace Rows
def none {H : Type} : Left H := { results := [], args := [] }

/- WHAT THE LISTED PACKAGE-LEVEL VARIABLES READ AS WHEN THE CALL BEGINS. Each datum BY PROGRAM (the guide's laid-datum.mjs) off the statement by which the dump's own 'gosem.cut.vars' lays the variable. In a bare row this is a premise. The card (YtdekfefcpdejkaaDoorCards.lean) ties it to the program's text. -/
def laid_triglyph_op_numbers {H : Type} : DataW H := .agg [.lit (.int .i64 0), .lit (.int .i64 1), .lit (.int .i64 1), .lit (.int .i64 1), .lit (.int .i64 0), .lit (.int .i64 1), .lit (.int .i64 1), .lit (.int .i64 0), .lit (.int .i64 0), .lit (.int .i64 0), .lit (.int .i64 2), .lit (.int .i64 1), .lit (.int .i64 1), .lit (.int .i64 0), .lit (.int .i64 0), .lit (.int .i64 0), .lit (.int .i64 0), .lit (.int .i64 0), .lit (.int .i64 1), .lit (.int .i64 1), .lit (.int .i64 1)]

/-- 'triglyphlaw18.ImagePools': WHATEVER THE INPUT: true; the input reads as it did. -/
def imagePoolsSpec : ChangeSpec := { name := "imagePools", fn := fun _ => fun
  | [d1, d2, d3] => { results := [.lit (.bool true)], args := [d1, d2, d3] }
  | _ => none }
def imagePoolsRow : OpenClaim := { program := "ytdekfefcpdejkaadoor", sum := "b9299bfb3e89d5a2f98bf64258bdfd5ce22f20611d3b3b648d54cac04a10a35d", func := "triglyph/triglyphlaw18.ImagePools", spec := "imagePools", inPlace := ["internal/abi.NoEscape"], unfollowed := true, recurses := true, named := ["triglyph/op.numbers"], apart := false, laid := [("triglyph/op.numbers", laid_triglyph_op_numbers)] }
def ImagePoolsSaid : Prop := imagePoolsRow.holds Tryd.pinned (OpenSpec.ofChange imagePoolsSpec)

/-- ITS FALSE NEIGHBOUR: 'it returns false'. Refute it at one input. -/
def imagePoolsWrong : ChangeSpec := { name := "imagePools", fn := fun _ => fun
  | [d1, d2, d3] => { results := [.lit (.bool false)], args := [d1, d2, d3] }
  | _ => none }
def ImagePoolsWrongFalsely : Prop := imagePoolsRow.holds Tryd.pinned (OpenSpec.ofChange imagePoolsWrong)

/-- 'triglyphlaw18.ImageBack': WHATEVER THE INPUT: true; the input reads as it did. -/
def imageBackSpec : ChangeSpec := { name := "imageBack", fn := fun _ => fun
  | [d] => { results := [.lit (.bool true)], args := [d] }
  | _ => none }
def imageBackRow : OpenClaim := { program := "ytdekfefcpdejkaadoor", sum := "b9299bfb3e89d5a2f98bf64258bdfd5ce22f20611d3b3b648d54cac04a10a35d", func := "triglyph/triglyphlaw18.ImageBack", spec := "imageBack", inPlace := ["internal/abi.NoEscape"], unfollowed := true, recurses := true, named := ["triglyph/op.numbers"], apart := false, laid := [("triglyph/op.numbers", laid_triglyph_op_numbers)] }
def ImageBackSaid : Prop := imageBackRow.holds Tryd.pinned (OpenSpec.ofChange imageBackSpec)

/-- ITS FALSE NEIGHBOUR: 'it returns false'. Refute it at one input. -/
def imageBackWrong : ChangeSpec := { name := "imageBack", fn := fun _ => fun
  | [d] => { results := [.lit (.bool false)], args := [d] }
  | _ => none }
def ImageBackWrongFalsely : Prop := imageBackRow.holds Tryd.pinned (OpenSpec.ofChange imageBackWrong)

/-- 'triglyphlaw18.ImageOnly': WHATEVER THE INPUT: true; the input reads as it did. -/
def imageOnlySpec : ChangeSpec := { name := "imageOnly", fn := fun _ => fun
  | [d] => { results := [.lit (.bool true)], args := [d] }
  | _ => none }
def imageOnlyRow : OpenClaim := { program := "ytdekfefcpdejkaadoor", sum := "b9299bfb3e89d5a2f98bf64258bdfd5ce22f20611d3b3b648d54cac04a10a35d", func := "triglyph/triglyphlaw18.ImageOnly", spec := "imageOnly", inPlace := ["internal/abi.NoEscape"], unfollowed := true, recurses := true, named := ["triglyph/op.numbers"], apart := false, laid := [("triglyph/op.numbers", laid_triglyph_op_numbers)] }
def ImageOnlySaid : Prop := imageOnlyRow.holds Tryd.pinned (OpenSpec.ofChange imageOnlySpec)

/-- ITS FALSE NEIGHBOUR: 'it returns false'. Refute it at one input. -/
def imageOnlyWrong : ChangeSpec := { name := "imageOnly", fn := fun _ => fun
  | [d] => { results := [.lit (.bool false)], args := [d] }
  | _ => none }
def ImageOnlyWrongFalsely : Prop := imageOnlyRow.holds Tryd.pinned (OpenSpec.ofChange imageOnlyWrong)

/-- 'triglyphlaw18.ImageTurned': WHATEVER THE INPUT: true; the input reads as it did. -/
def imageTurnedSpec : ChangeSpec := { name := "imageTurned", fn := fun _ => fun
  | [d1, d2, d3] => { results := [.lit (.bool true)], args := [d1, d2, d3] }
  | _ => none }
def imageTurnedRow : OpenClaim := { program := "ytdekfefcpdejkaadoor", sum := "b9299bfb3e89d5a2f98bf64258bdfd5ce22f20611d3b3b648d54cac04a10a35d", func := "triglyph/triglyphlaw18.ImageTurned", spec := "imageTurned", inPlace := ["internal/abi.NoEscape"], unfollowed := true, recurses := true, named := ["triglyph/op.numbers"], apart := false, laid := [("triglyph/op.numbers", laid_triglyph_op_numbers)] }
def ImageTurnedSaid : Prop := imageTurnedRow.holds Tryd.pinned (OpenSpec.ofChange imageTurnedSpec)

/-- ITS FALSE NEIGHBOUR: 'it returns false'. Refute it at one input. -/
def imageTurnedWrong : ChangeSpec := { name := "imageTurned", fn := fun _ => fun
  | [d1, d2, d3] => { results := [.lit (.bool false)], args := [d1, d2, d3] }
  | _ => none }
def ImageTurnedWrongFalsely : Prop := imageTurnedRow.holds Tryd.pinned (OpenSpec.ofChange imageTurnedWrong)

/-- 'triglyphlaw18.ImageOrder': WHATEVER THE INPUT: true; the input reads as it did. -/
def imageOrderSpec : ChangeSpec := { name := "imageOrder", fn := fun _ => fun
  | [d] => { results := [.lit (.bool true)], args := [d] }
  | _ => none }
def imageOrderRow : OpenClaim := { program := "ytdekfefcpdejkaadoor", sum := "b9299bfb3e89d5a2f98bf64258bdfd5ce22f20611d3b3b648d54cac04a10a35d", func := "triglyph/triglyphlaw18.ImageOrder", spec := "imageOrder", inPlace := ["internal/abi.NoEscape"], unfollowed := true, recurses := true, named := ["triglyph/op.numbers"], apart := false, laid := [("triglyph/op.numbers", laid_triglyph_op_numbers)] }
def ImageOrderSaid : Prop := imageOrderRow.holds Tryd.pinned (OpenSpec.ofChange imageOrderSpec)

/-- ITS FALSE NEIGHBOUR: 'it returns false'. Refute it at one input. -/
def imageOrderWrong : ChangeSpec := { name := "imageOrder", fn := fun _ => fun
  | [d] => { results := [.lit (.bool false)], args := [d] }
  | _ => none }
def ImageOrderWrongFalsely : Prop := imageOrderRow.holds Tryd.pinned (OpenSpec.ofChange imageOrderWrong)

/- THE SECOND FORM. 'bulk': how many values and letters a reading holds, each counted each time it is reached (what is shared counts as often as it is met; a slice's spare places count too). A statement '..UptoSaid' is the law's where the arguments, and the package variables that the reading takes, are together of bulk at most 1048576: NARROWER than '..Said'. Prove '..Said' where nothing that the law and all that it calls make is longer than what came in: it says more and counts as full. Else prove '..UptoSaid'. A law counts once. -/
mutual
def uptoBulk {H : Type} : DataW H → Nat
  | .lit (.string bytes) => bytes.length + 1
  | .lit _ => 1
  | .nil => 1
  | .ptr d => uptoBulk d + 1
  | .slice elems spare => uptoBulkAll elems + uptoBulkAll spare + 1
  | .agg parts => uptoBulkAll parts + 1
  | .iface _ d => uptoBulk d + 1
  | .map entries => uptoBulkEntries entries + 1
  | .held _ => 1
def uptoBulkAll {H : Type} : List (DataW H) → Nat
  | [] => 0
  | d :: r => uptoBulk d + uptoBulkAll r
def uptoBulkEntries {H : Type} : List (Lit × DataW H) → Nat
  | [] => 0
  | x :: r => uptoBulkEntry x + uptoBulkEntries r
def uptoBulkEntry {H : Type} : Lit × DataW H → Nat
  | (.string bytes, d) => bytes.length + uptoBulk d + 1
  | (_, d) => uptoBulk d + 1
 end
def uptoSmall : (H : Type) → List (DataW H) → Bool := fun _ ds => decide (uptoBulkAll ds ≤ 1048576)
def OpenSpec.upto (s : _root_.Go.ChangeSpec) : _root_.Go.OpenSpec := { _root_.Go.OpenSpec.ofChange s with cond := some uptoSmall }

/-- 'triglyphlaw18.ImagePools', WHERE WHAT IT READS IS OF BULK AT MOST 1048576: true; the input reads as it did. -/
def imagePoolsUptoRow : OpenClaim := { program := "ytdekfefcpdejkaadoor", sum := "b9299bfb3e89d5a2f98bf64258bdfd5ce22f20611d3b3b648d54cac04a10a35d", func := "triglyph/triglyphlaw18.ImagePools", spec := "imagePools", inPlace := ["internal/abi.NoEscape"], unfollowed := true, recurses := true, named := ["triglyph/op.numbers"], apart := false, laid := [("triglyph/op.numbers", laid_triglyph_op_numbers)], narrowed := true }
def ImagePoolsUptoSaid : Prop := imagePoolsUptoRow.holds Tryd.pinned (OpenSpec.upto imagePoolsSpec)

/-- 'triglyphlaw18.ImageBack', WHERE WHAT IT READS IS OF BULK AT MOST 1048576: true; the input reads as it did. -/
def imageBackUptoRow : OpenClaim := { program := "ytdekfefcpdejkaadoor", sum := "b9299bfb3e89d5a2f98bf64258bdfd5ce22f20611d3b3b648d54cac04a10a35d", func := "triglyph/triglyphlaw18.ImageBack", spec := "imageBack", inPlace := ["internal/abi.NoEscape"], unfollowed := true, recurses := true, named := ["triglyph/op.numbers"], apart := false, laid := [("triglyph/op.numbers", laid_triglyph_op_numbers)], narrowed := true }
def ImageBackUptoSaid : Prop := imageBackUptoRow.holds Tryd.pinned (OpenSpec.upto imageBackSpec)

/-- 'triglyphlaw18.ImageOnly', WHERE WHAT IT READS IS OF BULK AT MOST 1048576: true; the input reads as it did. -/
def imageOnlyUptoRow : OpenClaim := { program := "ytdekfefcpdejkaadoor", sum := "b9299bfb3e89d5a2f98bf64258bdfd5ce22f20611d3b3b648d54cac04a10a35d", func := "triglyph/triglyphlaw18.ImageOnly", spec := "imageOnly", inPlace := ["internal/abi.NoEscape"], unfollowed := true, recurses := true, named := ["triglyph/op.numbers"], apart := false, laid := [("triglyph/op.numbers", laid_triglyph_op_numbers)], narrowed := true }
def ImageOnlyUptoSaid : Prop := imageOnlyUptoRow.holds Tryd.pinned (OpenSpec.upto imageOnlySpec)

/-- 'triglyphlaw18.ImageTurned', WHERE WHAT IT READS IS OF BULK AT MOST 1048576: true; the input reads as it did. -/
def imageTurnedUptoRow : OpenClaim := { program := "ytdekfefcpdejkaadoor", sum := "b9299bfb3e89d5a2f98bf64258bdfd5ce22f20611d3b3b648d54cac04a10a35d", func := "triglyph/triglyphlaw18.ImageTurned", spec := "imageTurned", inPlace := ["internal/abi.NoEscape"], unfollowed := true, recurses := true, named := ["triglyph/op.numbers"], apart := false, laid := [("triglyph/op.numbers", laid_triglyph_op_numbers)], narrowed := true }
def ImageTurnedUptoSaid : Prop := imageTurnedUptoRow.holds Tryd.pinned (OpenSpec.upto imageTurnedSpec)

/-- 'triglyphlaw18.ImageOrder', WHERE WHAT IT READS IS OF BULK AT MOST 1048576: true; the input reads as it did. -/
def imageOrderUptoRow : OpenClaim := { program := "ytdekfefcpdejkaadoor", sum := "b9299bfb3e89d5a2f98bf64258bdfd5ce22f20611d3b3b648d54cac04a10a35d", func := "triglyph/triglyphlaw18.ImageOrder", spec := "imageOrder", inPlace := ["internal/abi.NoEscape"], unfollowed := true, recurses := true, named := ["triglyph/op.numbers"], apart := false, laid := [("triglyph/op.numbers", laid_triglyph_op_numbers)], narrowed := true }
def ImageOrderUptoSaid : Prop := imageOrderUptoRow.holds Tryd.pinned (OpenSpec.upto imageOrderSpec)

end Rows
end Go.Proofs.YtdekfefcpdejkaaDoor
