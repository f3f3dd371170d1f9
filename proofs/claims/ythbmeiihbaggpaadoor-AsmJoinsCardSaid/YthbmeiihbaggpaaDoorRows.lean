/-
  NARROWER THAN 'FOR EVERY INPUT', by the rows' own cells (each row's printed sentence says how): OpTells: laid · OpPuts: laid · OpGets: laid · OpBack: laid · OpOnly: laid · OpCuts: laid · AsmPuts: laid · AsmGets: laid · AsmFits: laid · AsmLeast: laid · AsmBack: laid · AsmOnly: laid · AsmJoins: laid.
  DERIVED. THE GIVEN ROWS OF THIS SEAT. 13 by the template 'for every input the law returns true; each argument reads behind the call as it read before'; 0 by the template 'total and deterministic' (their statements: YthbmeiihbaggpaaDoorTotals.lean).
  GIVEN WITH THE SEED: the statements are not yours to turn. If you find one false, say at which input.
  Laid BY PROGRAM, IN A SANDBOX (cutbox-rows.mjs): the forced cells as the released guide's own fill.sh prints them over the translation c624ee3bec2756f7… (all of the seat's roots in one cut). By AI agents, Wed Nov 11 2026. No macro, syntax, notation, axiom, sorry.
-/
import Derived.Test.YthbmeiihbaggpaaDoorChecked
import GoSem.Claim
import GoSem.ClaimJoined
import GoSem.ClaimMapViews
import Derived.JoinedTies
import Derived.KernelRfl
namespace Go.Proofs.YthbmeiihbaggpaaDoor
/- THE CELL 'sum', in the pinned program and in every row, IS THE sha256 OF THE DUMP (.gsa) THAT YthbmeiihbaggpaaDoorProg.lean LOADS. Nothing in Lean hashes anything: it is a label: what it is worth is what the hold of that sum in a sandbox is worth. -/
noncomputable def Tryd.pinned : Pinned := { name := "ythbmeiihbaggpaadoor", sum := "c624ee3bec2756f711443569bbb0c94414f1de01365d84c915b941d00ae34a62", checked := Tryd.checked }
namespace Rows
def none {H : Type} : Left H := { results := [], args := [] }

/- WHAT THE LISTED PACKAGE-LEVEL VARIABLES READ AS WHEN THE CALL BEGINS. Each datum BY PROGRAM (the guide's laid-datum.mjs) off the statement by which the dump's own 'gosem.cut.vars' lays the variable. In a bare row this is a premise. The card (YthbmeiihbaggpaaDoorCards.lean) ties it to the program's text. -/
def laid_triglyph_op_names {H : Type} : DataW H := .agg [.lit (.string [104, 97, 108, 116]), .lit (.string [112, 111, 111, 108]), .lit (.string [97, 99, 99]), .lit (.string [101, 110, 118]), .lit (.string [115, 101, 108, 102]), .lit (.string [112, 111, 112]), .lit (.string [115, 108, 105, 100, 101]), .lit (.string [97, 112, 112]), .lit (.string [116, 97, 105, 108]), .lit (.string [114, 101, 116]), .lit (.string [98, 108, 111, 99, 107]), .lit (.string [102, 105, 101, 108, 100]), .lit (.string [112, 114, 105, 109]), .lit (.string [114, 97, 105, 115, 101]), .lit (.string [117, 110, 116, 114, 121]), .lit (.string [106, 117, 109, 112]), .lit (.string [122, 101, 114, 111]), .lit (.string [116, 114, 121]), .lit (.string [99, 108, 111, 115]), .lit (.string [116, 97, 103]), .lit (.string [115, 97, 109, 101])]
def laid_triglyph_op_numbers {H : Type} : DataW H := .agg [.lit (.int .i64 0), .lit (.int .i64 1), .lit (.int .i64 1), .lit (.int .i64 1), .lit (.int .i64 0), .lit (.int .i64 1), .lit (.int .i64 1), .lit (.int .i64 0), .lit (.int .i64 0), .lit (.int .i64 0), .lit (.int .i64 2), .lit (.int .i64 1), .lit (.int .i64 1), .lit (.int .i64 0), .lit (.int .i64 0), .lit (.int .i64 0), .lit (.int .i64 0), .lit (.int .i64 0), .lit (.int .i64 1), .lit (.int .i64 1), .lit (.int .i64 1)]

/-- 'triglyphlaw15.OpTells': WHATEVER THE INPUT: true; the input reads as it did. -/
def opTellsSpec : ChangeSpec := { name := "opTells", fn := fun _ => fun
  | [d1, d2] => { results := [.lit (.bool true)], args := [d1, d2] }
  | _ => none }
def opTellsRow : OpenClaim := { program := "ythbmeiihbaggpaadoor", sum := "c624ee3bec2756f711443569bbb0c94414f1de01365d84c915b941d00ae34a62", func := "triglyph/triglyphlaw15.OpTells", spec := "opTells", unfollowed := true, recurses := true, named := ["triglyph/op.numbers", "triglyph/op.names"], apart := false, laid := [("triglyph/op.names", laid_triglyph_op_names), ("triglyph/op.numbers", laid_triglyph_op_numbers)] }
def OpTellsSaid : Prop := opTellsRow.holds Tryd.pinned (OpenSpec.ofChange opTellsSpec)

/-- ITS FALSE NEIGHBOUR: 'it returns false'. Refute it at one input. -/
def opTellsWrong : ChangeSpec := { name := "opTells", fn := fun _ => fun
  | [d1, d2] => { results := [.lit (.bool false)], args := [d1, d2] }
  | _ => none }
def OpTellsWrongFalsely : Prop := opTellsRow.holds Tryd.pinned (OpenSpec.ofChange opTellsWrong)

/-- 'triglyphlaw15.OpPuts': WHATEVER THE INPUT: true; the input reads as it did. -/
def opPutsSpec : ChangeSpec := { name := "opPuts", fn := fun _ => fun
  | [d1, d2, d3] => { results := [.lit (.bool true)], args := [d1, d2, d3] }
  | _ => none }
def opPutsRow : OpenClaim := { program := "ythbmeiihbaggpaadoor", sum := "c624ee3bec2756f711443569bbb0c94414f1de01365d84c915b941d00ae34a62", func := "triglyph/triglyphlaw15.OpPuts", spec := "opPuts", unfollowed := true, recurses := true, named := ["triglyph/op.numbers", "triglyph/op.names"], apart := false, laid := [("triglyph/op.names", laid_triglyph_op_names), ("triglyph/op.numbers", laid_triglyph_op_numbers)] }
def OpPutsSaid : Prop := opPutsRow.holds Tryd.pinned (OpenSpec.ofChange opPutsSpec)

/-- ITS FALSE NEIGHBOUR: 'it returns false'. Refute it at one input. -/
def opPutsWrong : ChangeSpec := { name := "opPuts", fn := fun _ => fun
  | [d1, d2, d3] => { results := [.lit (.bool false)], args := [d1, d2, d3] }
  | _ => none }
def OpPutsWrongFalsely : Prop := opPutsRow.holds Tryd.pinned (OpenSpec.ofChange opPutsWrong)

/-- 'triglyphlaw15.OpGets': WHATEVER THE INPUT: true; the input reads as it did. -/
def opGetsSpec : ChangeSpec := { name := "opGets", fn := fun _ => fun
  | [d] => { results := [.lit (.bool true)], args := [d] }
  | _ => none }
def opGetsRow : OpenClaim := { program := "ythbmeiihbaggpaadoor", sum := "c624ee3bec2756f711443569bbb0c94414f1de01365d84c915b941d00ae34a62", func := "triglyph/triglyphlaw15.OpGets", spec := "opGets", unfollowed := true, recurses := true, named := ["triglyph/op.numbers", "triglyph/op.names"], apart := false, laid := [("triglyph/op.names", laid_triglyph_op_names), ("triglyph/op.numbers", laid_triglyph_op_numbers)] }
def OpGetsSaid : Prop := opGetsRow.holds Tryd.pinned (OpenSpec.ofChange opGetsSpec)

/-- ITS FALSE NEIGHBOUR: 'it returns false'. Refute it at one input. -/
def opGetsWrong : ChangeSpec := { name := "opGets", fn := fun _ => fun
  | [d] => { results := [.lit (.bool false)], args := [d] }
  | _ => none }
def OpGetsWrongFalsely : Prop := opGetsRow.holds Tryd.pinned (OpenSpec.ofChange opGetsWrong)

/-- 'triglyphlaw15.OpBack': WHATEVER THE INPUT: true; the input reads as it did. -/
def opBackSpec : ChangeSpec := { name := "opBack", fn := fun _ => fun
  | [d1, d2, d3, d4] => { results := [.lit (.bool true)], args := [d1, d2, d3, d4] }
  | _ => none }
def opBackRow : OpenClaim := { program := "ythbmeiihbaggpaadoor", sum := "c624ee3bec2756f711443569bbb0c94414f1de01365d84c915b941d00ae34a62", func := "triglyph/triglyphlaw15.OpBack", spec := "opBack", unfollowed := true, recurses := true, named := ["triglyph/op.numbers", "triglyph/op.names"], apart := false, laid := [("triglyph/op.names", laid_triglyph_op_names), ("triglyph/op.numbers", laid_triglyph_op_numbers)] }
def OpBackSaid : Prop := opBackRow.holds Tryd.pinned (OpenSpec.ofChange opBackSpec)

/-- ITS FALSE NEIGHBOUR: 'it returns false'. Refute it at one input. -/
def opBackWrong : ChangeSpec := { name := "opBack", fn := fun _ => fun
  | [d1, d2, d3, d4] => { results := [.lit (.bool false)], args := [d1, d2, d3, d4] }
  | _ => none }
def OpBackWrongFalsely : Prop := opBackRow.holds Tryd.pinned (OpenSpec.ofChange opBackWrong)

/-- 'triglyphlaw15.OpOnly': WHATEVER THE INPUT: true; the input reads as it did. -/
def opOnlySpec : ChangeSpec := { name := "opOnly", fn := fun _ => fun
  | [d] => { results := [.lit (.bool true)], args := [d] }
  | _ => none }
def opOnlyRow : OpenClaim := { program := "ythbmeiihbaggpaadoor", sum := "c624ee3bec2756f711443569bbb0c94414f1de01365d84c915b941d00ae34a62", func := "triglyph/triglyphlaw15.OpOnly", spec := "opOnly", unfollowed := true, recurses := true, named := ["triglyph/op.numbers", "triglyph/op.names"], apart := false, laid := [("triglyph/op.names", laid_triglyph_op_names), ("triglyph/op.numbers", laid_triglyph_op_numbers)] }
def OpOnlySaid : Prop := opOnlyRow.holds Tryd.pinned (OpenSpec.ofChange opOnlySpec)

/-- ITS FALSE NEIGHBOUR: 'it returns false'. Refute it at one input. -/
def opOnlyWrong : ChangeSpec := { name := "opOnly", fn := fun _ => fun
  | [d] => { results := [.lit (.bool false)], args := [d] }
  | _ => none }
def OpOnlyWrongFalsely : Prop := opOnlyRow.holds Tryd.pinned (OpenSpec.ofChange opOnlyWrong)

/-- 'triglyphlaw15.OpCuts': WHATEVER THE INPUT: true; the input reads as it did. -/
def opCutsSpec : ChangeSpec := { name := "opCuts", fn := fun _ => fun
  | [d1, d2, d3, d4] => { results := [.lit (.bool true)], args := [d1, d2, d3, d4] }
  | _ => none }
def opCutsRow : OpenClaim := { program := "ythbmeiihbaggpaadoor", sum := "c624ee3bec2756f711443569bbb0c94414f1de01365d84c915b941d00ae34a62", func := "triglyph/triglyphlaw15.OpCuts", spec := "opCuts", unfollowed := true, recurses := true, named := ["triglyph/op.numbers", "triglyph/op.names"], apart := false, laid := [("triglyph/op.names", laid_triglyph_op_names), ("triglyph/op.numbers", laid_triglyph_op_numbers)] }
def OpCutsSaid : Prop := opCutsRow.holds Tryd.pinned (OpenSpec.ofChange opCutsSpec)

/-- ITS FALSE NEIGHBOUR: 'it returns false'. Refute it at one input. -/
def opCutsWrong : ChangeSpec := { name := "opCuts", fn := fun _ => fun
  | [d1, d2, d3, d4] => { results := [.lit (.bool false)], args := [d1, d2, d3, d4] }
  | _ => none }
def OpCutsWrongFalsely : Prop := opCutsRow.holds Tryd.pinned (OpenSpec.ofChange opCutsWrong)

/-- 'triglyphlaw16.AsmPuts': WHATEVER THE INPUT: true; the input reads as it did. -/
def asmPutsSpec : ChangeSpec := { name := "asmPuts", fn := fun _ => fun
  | [d] => { results := [.lit (.bool true)], args := [d] }
  | _ => none }
def asmPutsRow : OpenClaim := { program := "ythbmeiihbaggpaadoor", sum := "c624ee3bec2756f711443569bbb0c94414f1de01365d84c915b941d00ae34a62", func := "triglyph/triglyphlaw16.AsmPuts", spec := "asmPuts", inPlace := ["internal/abi.NoEscape"], unfollowed := true, recurses := true, named := ["triglyph/op.numbers"], apart := false, laid := [("triglyph/op.numbers", laid_triglyph_op_numbers)] }
def AsmPutsSaid : Prop := asmPutsRow.holds Tryd.pinned (OpenSpec.ofChange asmPutsSpec)

/-- ITS FALSE NEIGHBOUR: 'it returns false'. Refute it at one input. -/
def asmPutsWrong : ChangeSpec := { name := "asmPuts", fn := fun _ => fun
  | [d] => { results := [.lit (.bool false)], args := [d] }
  | _ => none }
def AsmPutsWrongFalsely : Prop := asmPutsRow.holds Tryd.pinned (OpenSpec.ofChange asmPutsWrong)

/-- 'triglyphlaw16.AsmGets': WHATEVER THE INPUT: true; the input reads as it did. -/
def asmGetsSpec : ChangeSpec := { name := "asmGets", fn := fun _ => fun
  | [d] => { results := [.lit (.bool true)], args := [d] }
  | _ => none }
def asmGetsRow : OpenClaim := { program := "ythbmeiihbaggpaadoor", sum := "c624ee3bec2756f711443569bbb0c94414f1de01365d84c915b941d00ae34a62", func := "triglyph/triglyphlaw16.AsmGets", spec := "asmGets", inPlace := ["internal/abi.NoEscape"], unfollowed := true, recurses := true, named := ["triglyph/op.numbers"], apart := false, laid := [("triglyph/op.numbers", laid_triglyph_op_numbers)] }
def AsmGetsSaid : Prop := asmGetsRow.holds Tryd.pinned (OpenSpec.ofChange asmGetsSpec)

/-- ITS FALSE NEIGHBOUR: 'it returns false'. Refute it at one input. -/
def asmGetsWrong : ChangeSpec := { name := "asmGets", fn := fun _ => fun
  | [d] => { results := [.lit (.bool false)], args := [d] }
  | _ => none }
def AsmGetsWrongFalsely : Prop := asmGetsRow.holds Tryd.pinned (OpenSpec.ofChange asmGetsWrong)

/-- 'triglyphlaw16.AsmFits': WHATEVER THE INPUT: true; the input reads as it did. -/
def asmFitsSpec : ChangeSpec := { name := "asmFits", fn := fun _ => fun
  | [d1, d2] => { results := [.lit (.bool true)], args := [d1, d2] }
  | _ => none }
def asmFitsRow : OpenClaim := { program := "ythbmeiihbaggpaadoor", sum := "c624ee3bec2756f711443569bbb0c94414f1de01365d84c915b941d00ae34a62", func := "triglyph/triglyphlaw16.AsmFits", spec := "asmFits", inPlace := ["internal/abi.NoEscape"], unfollowed := true, recurses := true, named := ["triglyph/op.numbers"], apart := false, laid := [("triglyph/op.numbers", laid_triglyph_op_numbers)] }
def AsmFitsSaid : Prop := asmFitsRow.holds Tryd.pinned (OpenSpec.ofChange asmFitsSpec)

/-- ITS FALSE NEIGHBOUR: 'it returns false'. Refute it at one input. -/
def asmFitsWrong : ChangeSpec := { name := "asmFits", fn := fun _ => fun
  | [d1, d2] => { results := [.lit (.bool false)], args := [d1, d2] }
  | _ => none }
def AsmFitsWrongFalsely : Prop := asmFitsRow.holds Tryd.pinned (OpenSpec.ofChange asmFitsWrong)

/-- 'triglyphlaw16.AsmLeast': WHATEVER THE INPUT: true; the input reads as it did. -/
def asmLeastSpec : ChangeSpec := { name := "asmLeast", fn := fun _ => fun
  | [d1, d2] => { results := [.lit (.bool true)], args := [d1, d2] }
  | _ => none }
def asmLeastRow : OpenClaim := { program := "ythbmeiihbaggpaadoor", sum := "c624ee3bec2756f711443569bbb0c94414f1de01365d84c915b941d00ae34a62", func := "triglyph/triglyphlaw16.AsmLeast", spec := "asmLeast", inPlace := ["internal/abi.NoEscape"], unfollowed := true, recurses := true, named := ["triglyph/op.numbers"], apart := false, laid := [("triglyph/op.numbers", laid_triglyph_op_numbers)] }
def AsmLeastSaid : Prop := asmLeastRow.holds Tryd.pinned (OpenSpec.ofChange asmLeastSpec)

/-- ITS FALSE NEIGHBOUR: 'it returns false'. Refute it at one input. -/
def asmLeastWrong : ChangeSpec := { name := "asmLeast", fn := fun _ => fun
  | [d1, d2] => { results := [.lit (.bool false)], args := [d1, d2] }
  | _ => none }
def AsmLeastWrongFalsely : Prop := asmLeastRow.holds Tryd.pinned (OpenSpec.ofChange asmLeastWrong)

/-- 'triglyphlaw16.AsmBack': WHATEVER THE INPUT: true; the input reads as it did. -/
def asmBackSpec : ChangeSpec := { name := "asmBack", fn := fun _ => fun
  | [d] => { results := [.lit (.bool true)], args := [d] }
  | _ => none }
def asmBackRow : OpenClaim := { program := "ythbmeiihbaggpaadoor", sum := "c624ee3bec2756f711443569bbb0c94414f1de01365d84c915b941d00ae34a62", func := "triglyph/triglyphlaw16.AsmBack", spec := "asmBack", inPlace := ["internal/abi.NoEscape"], unfollowed := true, recurses := true, named := ["triglyph/op.numbers"], apart := false, laid := [("triglyph/op.numbers", laid_triglyph_op_numbers)] }
def AsmBackSaid : Prop := asmBackRow.holds Tryd.pinned (OpenSpec.ofChange asmBackSpec)

/-- ITS FALSE NEIGHBOUR: 'it returns false'. Refute it at one input. -/
def asmBackWrong : ChangeSpec := { name := "asmBack", fn := fun _ => fun
  | [d] => { results := [.lit (.bool false)], args := [d] }
  | _ => none }
def AsmBackWrongFalsely : Prop := asmBackRow.holds Tryd.pinned (OpenSpec.ofChange asmBackWrong)

/-- 'triglyphlaw16.AsmOnly': WHATEVER THE INPUT: true; the input reads as it did. -/
def asmOnlySpec : ChangeSpec := { name := "asmOnly", fn := fun _ => fun
  | [d] => { results := [.lit (.bool true)], args := [d] }
  | _ => none }
def asmOnlyRow : OpenClaim := { program := "ythbmeiihbaggpaadoor", sum := "c624ee3bec2756f711443569bbb0c94414f1de01365d84c915b941d00ae34a62", func := "triglyph/triglyphlaw16.AsmOnly", spec := "asmOnly", inPlace := ["internal/abi.NoEscape"], unfollowed := true, recurses := true, named := ["triglyph/op.numbers"], apart := false, laid := [("triglyph/op.numbers", laid_triglyph_op_numbers)] }
def AsmOnlySaid : Prop := asmOnlyRow.holds Tryd.pinned (OpenSpec.ofChange asmOnlySpec)

/-- ITS FALSE NEIGHBOUR: 'it returns false'. Refute it at one input. -/
def asmOnlyWrong : ChangeSpec := { name := "asmOnly", fn := fun _ => fun
  | [d] => { results := [.lit (.bool false)], args := [d] }
  | _ => none }
def AsmOnlyWrongFalsely : Prop := asmOnlyRow.holds Tryd.pinned (OpenSpec.ofChange asmOnlyWrong)

/-- 'triglyphlaw16.AsmJoins': WHATEVER THE INPUT: true; the input reads as it did. -/
def asmJoinsSpec : ChangeSpec := { name := "asmJoins", fn := fun _ => fun
  | [d1, d2] => { results := [.lit (.bool true)], args := [d1, d2] }
  | _ => none }
def asmJoinsRow : OpenClaim := { program := "ythbmeiihbaggpaadoor", sum := "c624ee3bec2756f711443569bbb0c94414f1de01365d84c915b941d00ae34a62", func := "triglyph/triglyphlaw16.AsmJoins", spec := "asmJoins", inPlace := ["internal/abi.NoEscape"], unfollowed := true, recurses := true, named := ["triglyph/op.numbers"], apart := false, laid := [("triglyph/op.numbers", laid_triglyph_op_numbers)] }
def AsmJoinsSaid : Prop := asmJoinsRow.holds Tryd.pinned (OpenSpec.ofChange asmJoinsSpec)

/-- ITS FALSE NEIGHBOUR: 'it returns false'. Refute it at one input. -/
def asmJoinsWrong : ChangeSpec := { name := "asmJoins", fn := fun _ => fun
  | [d1, d2] => { results := [.lit (.bool false)], args := [d1, d2] }
  | _ => none }
def AsmJoinsWrongFalsely : Prop := asmJoinsRow.holds Tryd.pinned (OpenSpec.ofChange asmJoinsWrong)

/- THE SECOND FORM. 'bulk': how many values and letters a reading holds, each counted each time it is reached (what is shared counts as often as it is met; a slice's spare places count too). A statement '..UptoSaid' is the law's where the arguments, and the package variables that the reading takes, are together of bulk at most 1048576: NARROWER than '..Said'. Prove '..Said' where nothing that the law and all that it calls make is longer than what came in: it says more and counts as full. Else prove '..UptoSaid'. A law counts once. -/
mutual
def uptoBulk {H : Type} : DataW H → Nat
  | .lit (.string bytes) => bytes.length + 1
  | .lit _ => 1
  | .nil => 1
  | .ptr d => uptoBulk d + 1
  | .slice elems spare => uptoBulkAll elems + uptoBulkAll spare + 1
  | .agg parts => uptoBulkAll parts + 1
  | .iface _ d => uptoBulk d + 1
  | .map entries => uptoBulkEntries entries + 1
  | .held _ => 1
def uptoBulkAll {H : Type} : List (DataW H) → Nat
  | [] => 0
  | d :: r => uptoBulk d + uptoBulkAll r
def uptoBulkEntries {H : Type} : List (Lit × DataW H) → Nat
  | [] => 0
  | x :: r => uptoBulkEntry x + uptoBulkEntries r
def uptoBulkEntry {H : Type} : Lit × DataW H → Nat
  | (.string bytes, d) => bytes.length + uptoBulk d + 1
  | (_, d) => uptoBulk d + 1
 end
def uptoSmall : (H : Type) → List (DataW H) → Bool := fun _ ds => decide (uptoBulkAll ds ≤ 1048576)
def OpenSpec.upto (s : _root_.Go.ChangeSpec) : _root_.Go.OpenSpec := { _root_.Go.OpenSpec.ofChange s with cond := some uptoSmall }

/-- 'triglyphlaw15.OpTells', WHERE WHAT IT READS IS OF BULK AT MOST 1048576: true; the input reads as it did. -/
def opTellsUptoRow : OpenClaim := { program := "ythbmeiihbaggpaadoor", sum := "c624ee3bec2756f711443569bbb0c94414f1de01365d84c915b941d00ae34a62", func := "triglyph/triglyphlaw15.OpTells", spec := "opTells", unfollowed := true, recurses := true, named := ["triglyph/op.numbers", "triglyph/op.names"], apart := false, laid := [("triglyph/op.names", laid_triglyph_op_names), ("triglyph/op.numbers", laid_triglyph_op_numbers)], narrowed := true }
def OpTellsUptoSaid : Prop := opTellsUptoRow.holds Tryd.pinned (OpenSpec.upto opTellsSpec)

/-- 'triglyphlaw15.OpPuts', WHERE WHAT IT READS IS OF BULK AT MOST 1048576: true; the input reads as it did. -/
def opPutsUptoRow : OpenClaim := { program := "ythbmeiihbaggpaadoor", sum := "c624ee3bec2756f711443569bbb0c94414f1de01365d84c915b941d00ae34a62", func := "triglyph/triglyphlaw15.OpPuts", spec := "opPuts", unfollowed := true, recurses := true, named := ["triglyph/op.numbers", "triglyph/op.names"], apart := false, laid := [("triglyph/op.names", laid_triglyph_op_names), ("triglyph/op.numbers", laid_triglyph_op_numbers)], narrowed := true }
def OpPutsUptoSaid : Prop := opPutsUptoRow.holds Tryd.pinned (OpenSpec.upto opPutsSpec)

/-- 'triglyphlaw15.OpGets', WHERE WHAT IT READS IS OF BULK AT MOST 1048576: true; the input reads as it did. -/
def opGetsUptoRow : OpenClaim := { program := "ythbmeiihbaggpaadoor", sum := "c624ee3bec2756f711443569bbb0c94414f1de01365d84c915b941d00ae34a62", func := "triglyph/triglyphlaw15.OpGets", spec := "opGets", unfollowed := true, recurses := true, named := ["triglyph/op.numbers", "triglyph/op.names"], apart := false, laid := [("triglyph/op.names", laid_triglyph_op_names), ("triglyph/op.numbers", laid_triglyph_op_numbers)], narrowed := true }
def OpGetsUptoSaid : Prop := opGetsUptoRow.holds Tryd.pinned (OpenSpec.upto opGetsSpec)

/-- 'triglyphlaw15.OpBack', WHERE WHAT IT READS IS OF BULK AT MOST 1048576: true; the input reads as it did. -/
def opBackUptoRow : OpenClaim := { program := "ythbmeiihbaggpaadoor", sum := "c624ee3bec2756f711443569bbb0c94414f1de01365d84c915b941d00ae34a62", func := "triglyph/triglyphlaw15.OpBack", spec := "opBack", unfollowed := true, recurses := true, named := ["triglyph/op.numbers", "triglyph/op.names"], apart := false, laid := [("triglyph/op.names", laid_triglyph_op_names), ("triglyph/op.numbers", laid_triglyph_op_numbers)], narrowed := true }
def OpBackUptoSaid : Prop := opBackUptoRow.holds Tryd.pinned (OpenSpec.upto opBackSpec)

/-- 'triglyphlaw15.OpOnly', WHERE WHAT IT READS IS OF BULK AT MOST 1048576: true; the input reads as it did. -/
def opOnlyUptoRow : OpenClaim := { program := "ythbmeiihbaggpaadoor", sum := "c624ee3bec2756f711443569bbb0c94414f1de01365d84c915b941d00ae34a62", func := "triglyph/triglyphlaw15.OpOnly", spec := "opOnly", unfollowed := true, recurses := true, named := ["triglyph/op.numbers", "triglyph/op.names"], apart := false, laid := [("triglyph/op.names", laid_triglyph_op_names), ("triglyph/op.numbers", laid_triglyph_op_numbers)], narrowed := true }
def OpOnlyUptoSaid : Prop := opOnlyUptoRow.holds Tryd.pinned (OpenSpec.upto opOnlySpec)

/-- 'triglyphlaw15.OpCuts', WHERE WHAT IT READS IS OF BULK AT MOST 1048576: true; the input reads as it did. -/
def opCutsUptoRow : OpenClaim := { program := "ythbmeiihbaggpaadoor", sum := "c624ee3bec2756f711443569bbb0c94414f1de01365d84c915b941d00ae34a62", func := "triglyph/triglyphlaw15.OpCuts", spec := "opCuts", unfollowed := true, recurses := true, named := ["triglyph/op.numbers", "triglyph/op.names"], apart := false, laid := [("triglyph/op.names", laid_triglyph_op_names), ("triglyph/op.numbers", laid_triglyph_op_numbers)], narrowed := true }
def OpCutsUptoSaid : Prop := opCutsUptoRow.holds Tryd.pinned (OpenSpec.upto opCutsSpec)

/-- 'triglyphlaw16.AsmPuts', WHERE WHAT IT READS IS OF BULK AT MOST 1048576: true; the input reads as it did. -/
def asmPutsUptoRow : OpenClaim := { program := "ythbmeiihbaggpaadoor", sum := "c624ee3bec2756f711443569bbb0c94414f1de01365d84c915b941d00ae34a62", func := "triglyph/triglyphlaw16.AsmPuts", spec := "asmPuts", inPlace := ["internal/abi.NoEscape"], unfollowed := true, recurses := true, named := ["triglyph/op.numbers"], apart := false, laid := [("triglyph/op.numbers", laid_triglyph_op_numbers)], narrowed := true }
def AsmPutsUptoSaid : Prop := asmPutsUptoRow.holds Tryd.pinned (OpenSpec.upto asmPutsSpec)

/-- 'triglyphlaw16.AsmGets', WHERE WHAT IT READS IS OF BULK AT MOST 1048576: true; the input reads as it did. -/
def asmGetsUptoRow : OpenClaim := { program := "ythbmeiihbaggpaadoor", sum := "c624ee3bec2756f711443569bbb0c94414f1de01365d84c915b941d00ae34a62", func := "triglyph/triglyphlaw16.AsmGets", spec := "asmGets", inPlace := ["internal/abi.NoEscape"], unfollowed := true, recurses := true, named := ["triglyph/op.numbers"], apart := false, laid := [("triglyph/op.numbers", laid_triglyph_op_numbers)], narrowed := true }
def AsmGetsUptoSaid : Prop := asmGetsUptoRow.holds Tryd.pinned (OpenSpec.upto asmGetsSpec)

/-- 'triglyphlaw16.AsmFits', WHERE WHAT IT READS IS OF BULK AT MOST 1048576: true; the input reads as it did. -/
def asmFitsUptoRow : OpenClaim := { program := "ythbmeiihbaggpaadoor", sum := "c624ee3bec2756f711443569bbb0c94414f1de01365d84c915b941d00ae34a62", func := "triglyph/triglyphlaw16.AsmFits", spec := "asmFits", inPlace := ["internal/abi.NoEscape"], unfollowed := true, recurses := true, named := ["triglyph/op.numbers"], apart := false, laid := [("triglyph/op.numbers", laid_triglyph_op_numbers)], narrowed := true }
def AsmFitsUptoSaid : Prop := asmFitsUptoRow.holds Tryd.pinned (OpenSpec.upto asmFitsSpec)

/-- 'triglyphlaw16.AsmLeast', WHERE WHAT IT READS IS OF BULK AT MOST 1048576: true; the input reads as it did. -/
def asmLeastUptoRow : OpenClaim := { program := "ythbmeiihbaggpaadoor", sum := "c624ee3bec2756f711443569bbb0c94414f1de01365d84c915b941d00ae34a62", func := "triglyph/triglyphlaw16.AsmLeast", spec := "asmLeast", inPlace := ["internal/abi.NoEscape"], unfollowed := true, recurses := true, named := ["triglyph/op.numbers"], apart := false, laid := [("triglyph/op.numbers", laid_triglyph_op_numbers)], narrowed := true }
def AsmLeastUptoSaid : Prop := asmLeastUptoRow.holds Tryd.pinned (OpenSpec.upto asmLeastSpec)

/-- 'triglyphlaw16.AsmBack', WHERE WHAT IT READS IS OF BULK AT MOST 1048576: true; the input reads as it did. -/
def asmBackUptoRow : OpenClaim := { program := "ythbmeiihbaggpaadoor", sum := "c624ee3bec2756f711443569bbb0c94414f1de01365d84c915b941d00ae34a62", func := "triglyph/triglyphlaw16.AsmBack", spec := "asmBack", inPlace := ["internal/abi.NoEscape"], unfollowed := true, recurses := true, named := ["triglyph/op.numbers"], apart := false, laid := [("triglyph/op.numbers", laid_triglyph_op_numbers)], narrowed := true }
def AsmBackUptoSaid : Prop := asmBackUptoRow.holds Tryd.pinned (OpenSpec.upto asmBackSpec)

/-- 'triglyphlaw16.AsmOnly', WHERE WHAT IT READS IS OF BULK AT MOST 1048576: true; the input reads as it did. -/
def asmOnlyUptoRow : OpenClaim := { program := "ythbmeiihbaggpaadoor", sum := "c624ee3bec2756f711443569bbb0c94414f1de01365d84c915b941d00ae34a62", func := "triglyph/triglyphlaw16.AsmOnly", spec := "asmOnly", inPlace := ["internal/abi.NoEscape"], unfollowed := true, recurses := true, named := ["triglyph/op.numbers"], apart := false, laid := [("triglyph/op.numbers", laid_triglyph_op_numbers)], narrowed := true }
def AsmOnlyUptoSaid : Prop := asmOnlyUptoRow.holds Tryd.pinned (OpenSpec.upto asmOnlySpec)

/-- 'triglyphlaw16.AsmJoins', WHERE WHAT IT READS IS OF BULK AT MOST 1048576: true; the input reads as it did. -/
def asmJoinsUptoRow : OpenClaim := { program := "ythbmeiihbaggpaadoor", sum := "c624ee3bec2756f711443569bbb0c94414f1de01365d84c915b941d00ae34a62", func := "triglyph/triglyphlaw16.AsmJoins", spec := "asmJoins", inPlace := ["internal/abi.NoEscape"], unfollowed := true, recurses := true, named := ["triglyph/op.numbers"], apart := false, laid := [("triglyph/op.numbers", laid_triglyph_op_numbers)], narrowed := true }
def AsmJoinsUptoSaid : Prop := asmJoinsUptoRow.holds Tryd.pinned (OpenSpec.upto asmJoinsSpec)

end Rows
end Go.Proofs.YthbmeiihbaggpaaDoor
