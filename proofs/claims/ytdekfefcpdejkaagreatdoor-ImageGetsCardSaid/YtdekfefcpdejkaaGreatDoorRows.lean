/-
  NARROWER THAN 'FOR EVERY INPUT', by the rows' own cells (each row's printed sentence says how): ImagePuts: laid · ImageGets: laid.
  DERIVED. THE GIVEN ROWS OF THIS SEAT. 2 by the template 'for every input the law returns true; each argument reads behind the call as it read before'; 0 by the template 'total and deterministic' (their statements: YtdekfefcpdejkaaGreatDoorTotals.lean).
  GIVEN WITH THE SEED: the statements are not yours to turn. If you find one false, say at which input.
  Laid BY PROGRAM, IN A SANDBOX (cutbox-rows.mjs): the forced cells as the released guide's own fill.sh prints them over the translation aa1f4ec3b30a28b2… (all of the seat's roots in one cut). By AI agents, Wed Nov 11 2026. No macro, syntax, notation, axiom, sorry.
-/
import Derived.Test.YtdekfefcpdejkaaGreatDoorChecked
import GoSem.Claim
import GoSem.ClaimJoined
import GoSem.ClaimMapViews
import Derived.JoinedTies
import Derived.KernelRfl
namespace Go.Proofs.YtdekfefcpdejkaaGreatDoor
/- THE CELL 'sum', in the pinned program and in every row, IS THE sha256 OF THE DUMP (.gsa) THAT YtdekfefcpdejkaaGreatDoorProg.lean LOADS. Nothing in Lean hashes anything: it is a label: what it is worth is what the hold of that sum in a sandbox is worth. -/
noncomputable def Tryz.pinned : Pinned := { name := "ytdekfefcpdejkaagreatdoor", sum := "aa1f4ec3b30a28b2c8b24cf2aaec52fc5710978c4a1dcd546edd9d8acbebfa26", checked := Tryz.checked }
namespace Rows
def none {H : Type} : Left H := { results := [], args := [] }

/- WHAT THE LISTED PACKAGE-LEVEL VARIABLES READ AS WHEN THE CALL BEGINS. Each datum BY PROGRAM (the guide's laid-datum.mjs) off the statement by which the dump's own 'gosem.cut.vars' lays the variable. In a bare row this is a premise. The card (YtdekfefcpdejkaaGreatDoorCards.lean) ties it to the program's text. -/
def laid_triglyph_op_numbers {H : Type} : DataW H := .agg [.lit (.int .i64 0), .lit (.int .i64 1), .lit (.int .i64 1), .lit (.int .i64 1), .lit (.int .i64 0), .lit (.int .i64 1), .lit (.int .i64 1), .lit (.int .i64 0), .lit (.int .i64 0), .lit (.int .i64 0), .lit (.int .i64 2), .lit (.int .i64 1), .lit (.int .i64 1), .lit (.int .i64 0), .lit (.int .i64 0), .lit (.int .i64 0), .lit (.int .i64 0), .lit (.int .i64 0), .lit (.int .i64 1), .lit (.int .i64 1), .lit (.int .i64 1)]

/-- 'triglyphlaw18.ImagePuts': WHATEVER THE INPUT: true; the input reads as it did. -/
def imagePutsSpec : ChangeSpec := { name := "imagePuts", fn := fun _ => fun
  | [d1, d2] => { results := [.lit (.bool true)], args := [d1, d2] }
  | _ => none }
def imagePutsRow : OpenClaim := { program := "ytdekfefcpdejkaagreatdoor", sum := "aa1f4ec3b30a28b2c8b24cf2aaec52fc5710978c4a1dcd546edd9d8acbebfa26", func := "triglyph/triglyphlaw18.ImagePuts", spec := "imagePuts", inPlace := ["internal/abi.NoEscape"], unfollowed := true, recurses := true, named := ["triglyph/op.numbers"], apart := false, laid := [("triglyph/op.numbers", laid_triglyph_op_numbers)] }
def ImagePutsSaid : Prop := imagePutsRow.holds Tryz.pinned (OpenSpec.ofChange imagePutsSpec)

/-- ITS FALSE NEIGHBOUR: 'it returns false'. Refute it at one input. -/
def imagePutsWrong : ChangeSpec := { name := "imagePuts", fn := fun _ => fun
  | [d1, d2] => { results := [.lit (.bool false)], args := [d1, d2] }
  | _ => none }
def ImagePutsWrongFalsely : Prop := imagePutsRow.holds Tryz.pinned (OpenSpec.ofChange imagePutsWrong)

/-- 'triglyphlaw18.ImageGets': WHATEVER THE INPUT: true; the input reads as it did. -/
def imageGetsSpec : ChangeSpec := { name := "imageGets", fn := fun _ => fun
  | [d] => { results := [.lit (.bool true)], args := [d] }
  | _ => none }
def imageGetsRow : OpenClaim := { program := "ytdekfefcpdejkaagreatdoor", sum := "aa1f4ec3b30a28b2c8b24cf2aaec52fc5710978c4a1dcd546edd9d8acbebfa26", func := "triglyph/triglyphlaw18.ImageGets", spec := "imageGets", inPlace := ["internal/abi.NoEscape"], unfollowed := true, recurses := true, named := ["triglyph/op.numbers"], apart := false, laid := [("triglyph/op.numbers", laid_triglyph_op_numbers)] }
def ImageGetsSaid : Prop := imageGetsRow.holds Tryz.pinned (OpenSpec.ofChange imageGetsSpec)

/-- ITS FALSE NEIGHBOUR: 'it returns false'. Refute it at one input. -/
def imageGetsWrong : ChangeSpec := { name := "imageGets", fn := fun _ => fun
  | [d] => { results := [.lit (.bool false)], args := [d] }
  | _ => none }
def ImageGetsWrongFalsely : Prop := imageGetsRow.holds Tryz.pinned (OpenSpec.ofChange imageGetsWrong)

/- THE SECOND FORM. 'bulk': how many values and letters a reading holds, each counted each time it is reached (what is shared counts as often as it is met; a slice's spare places count too). A statement '..UptoSaid' is the law's where the arguments, and the package variables that the reading takes, are together of bulk at most 1048576: NARROWER than '..Said'. Prove '..Said' where nothing that the law and all that it calls make is longer than what came in: it says more and counts as full. Else prove '..UptoSaid'. A law counts once. -/
mutual
def uptoBulk {H : Type} : DataW H → Nat
  | .lit (.string bytes) => bytes.length + 1
  | .lit _ => 1
  | .nil => 1
  | .ptr d => uptoBulk d + 1
  | .slice elems spare => uptoBulkAll elems + uptoBulkAll spare + 1
  | .agg parts => uptoBulkAll parts + 1
  | .iface _ d => uptoBulk d + 1
  | .map entries => uptoBulkEntries entries + 1
  | .held _ => 1
def uptoBulkAll {H : Type} : List (DataW H) → Nat
  | [] => 0
  | d :: r => uptoBulk d + uptoBulkAll r
def uptoBulkEntries {H : Type} : List (Lit × DataW H) → Nat
  | [] => 0
  | x :: r => uptoBulkEntry x + uptoBulkEntries r
def uptoBulkEntry {H : Type} : Lit × DataW H → Nat
  | (.string bytes, d) => bytes.length + uptoBulk d + 1
  | (_, d) => uptoBulk d + 1
 end
def uptoSmall : (H : Type) → List (DataW H) → Bool := fun _ ds => decide (uptoBulkAll ds ≤ 1048576)
def OpenSpec.upto (s : _root_.Go.ChangeSpec) : _root_.Go.OpenSpec := { _root_.Go.OpenSpec.ofChange s with cond := some uptoSmall }

/-- 'triglyphlaw18.ImagePuts', WHERE WHAT IT READS IS OF BULK AT MOST 1048576: true; the input reads as it did. -/
def imagePutsUptoRow : OpenClaim := { program := "ytdekfefcpdejkaagreatdoor", sum := "aa1f4ec3b30a28b2c8b24cf2aaec52fc5710978c4a1dcd546edd9d8acbebfa26", func := "triglyph/triglyphlaw18.ImagePuts", spec := "imagePuts", inPlace := ["internal/abi.NoEscape"], unfollowed := true, recurses := true, named := ["triglyph/op.numbers"], apart := false, laid := [("triglyph/op.numbers", laid_triglyph_op_numbers)], narrowed := true }
def ImagePutsUptoSaid : Prop := imagePutsUptoRow.holds Tryz.pinned (OpenSpec.upto imagePutsSpec)

/-- 'triglyphlaw18.ImageGets', WHERE WHAT IT READS IS OF BULK AT MOST 1048576: true; the input reads as it did. -/
def imageGetsUptoRow : OpenClaim := { program := "ytdekfefcpdejkaagreatdoor", sum := "aa1f4ec3b30a28b2c8b24cf2aaec52fc5710978c4a1dcd546edd9d8acbebfa26", func := "triglyph/triglyphlaw18.ImageGets", spec := "imageGets", inPlace := ["internal/abi.NoEscape"], unfollowed := true, recurses := true, named := ["triglyph/op.numbers"], apart := false, laid := [("triglyph/op.numbers", laid_triglyph_op_numbers)], narrowed := true }
def ImageGetsUptoSaid : Prop := imageGetsUptoRow.holds Tryz.pinned (OpenSpec.upto imageGetsSpec)

end Rows
end Go.Proofs.YtdekfefcpdejkaaGreatDoor
