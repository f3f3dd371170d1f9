/- SynFrees: for every input the law returns true (what is free in any expression, and a pattern's names, are the document's), and each argument reads behind the call as it read before.
   The condition: as the card says, the listed package-level variables hold what the program's text lays. -/
import Derived.Test.YtndklpaccohbcaaDoorCards
import Derived.Test.YtndklpaccohbcaaDoorTie
import Derived.Test.YtndklpaccohbcaaDoorSt
import Derived.Test.YtndklpaccohbcaaDoorPlainF
import Derived.ProofKit
import Derived.OpenShut
import Derived.Deep.DeepHandedRow
import Derived.Deep.DeepWitnessRowRef
namespace Go.Proofs.YtndklpaccohbcaaDoor.synFrees
open Go Go.Proofs Ev Go.ChangeShapes Go.WideShapes Go.ChangeAt Go.RowKit

theorem own : ownKnob Tryd.prog.godebug = none := by kernel_rfl

/-- The law as data. -/
theorem data (x : denA [.sl (.st (.pair (.int .i64) (.pair .str (.pair (.int .i64) (.int .i64)))))]) (hx : goodA [.sl (.st (.pair (.int .i64) (.pair .str (.pair (.int .i64) (.int .i64)))))] x) : Ev.Fn.f_law06_SynFrees x = some (true, ()) := by
  obtain ⟨⟨n, l⟩, u⟩ := x
  exact Ev.Fn.law_Frees n l (fun y hy => Ev.Fn.good_gND (hx.1.2.2 y hy))

set_option maxRecDepth 100000 in
theorem contract (H : Type) (enc : TypeId × Value → H) (W : World) (base : Nat) (args : Array Value) (ds gs : List (DataW H)) (before : List MemPlace)
    (hval : ∀ (j : Nat) t v, Tryd.f4.params[j]? = some t → args[j]? = some v → Value.okWide Tryd.prog W .any base t v)
    (hW : DataW.Whole enc Tryd.prog Tryd.f4.params.toList Rows.synFreesSpec.vars false W args.toList ds gs before) (hL : laidMetH Tryd.prog Rows.synFreesRow.laid W) :
    Calls Tryd.prog 4 args W fun e W' => ∃ v, e = .returned v ∧ Rows.synFreesSpec.post enc Tryd.prog Tryd.f4 false true false false W args v W' :=
  law_contractB (C := Seat.C) (laid := Rows.synFreesRow.laid) Seat.seatOk [.sl (.st (.pair (.int .i64) (.pair .str (.pair (.int .i64) (.int .i64)))))] 4 (by kernel_rfl) (by kernel_rfl) (by kernel_rfl) Tryd.underlying4 (by kernel_rfl) rfl
    (fun ds h => by
      match ds, h with
      | [d0], _ => rfl) hval hW hL
    (fun x hx _ => (Seat.calls (Seat.c_law06_SynFrees x (true, ()) (data x hx))).s)

/-- A world for the witness: the settled one with two blocks more (the ranges of unicode.White_Space, and what leads to them), the two variables holding what their initialisers lay. -/
def ranges : Array Value := #[9, 13, 1, 32, 133, 101, 160, 5760, 5600, 8192, 8202, 1, 8232, 8233, 1, 8239, 8287, 48, 12288, 12288, 1].map fun n => .int .u16 n
def put (h : Array Go.Obj) (g : Nat) (cs : Array Value) : Array Go.Obj := h.modify g fun
  | .cells _ t frozen => .cells cs t frozen
  | o => o
noncomputable def laidWorld (os : Os) : World :=
  let N := (World.settled Tryd.prog os).heap.size
  let w0 := World.holding Tryd.prog os ⟨#[.cells ranges 129, .cells #[.slice (some ⟨N, 0, none⟩) 7 7, .slice none 0 0, .int .i64 2] 126], #[], []⟩
  { w0 with heap := put (put w0.heap 0 (Seat.spaces.map fun n => Value.int .u8 n).toArray) 1 #[.pointer (some ⟨N + 1, 0, none⟩)] }
theorem laid_met (os : Os) : laidMet Tryd.prog Rows.synFreesRow.laid ((laidWorld os).forCall (fun _ _ => 0) ⟨#[], #[.slice none 0 0], []⟩).memory :=
  laidMet_of_run' 8 (by kernel_rfl) (by kernel_rfl)
theorem reads (os : Os) {H : Type} (enc : TypeId × Value → H) : ∃ places, DataW.whole enc Tryd.prog ((laidWorld os).forCall (fun _ _ => 0) ⟨#[], #[.slice none 0 0], []⟩).memory Tryd.f4.params.toList Rows.synFreesSpec.vars false (#[.slice none 0 0] : Array Value).toList 8 = some ([.nil], [], places) :=
  ⟨[], by kernel_rfl⟩

set_option maxRecDepth 100000 in
theorem lifted (os : Os) (started : os.Started) (H : Type) (enc : TypeId × Value → H) (F : Stop.Interp) :
    ReturnsInHanded {} Tryd.checked os 4 .any ((OpenSpec.ofChange Rows.synFreesSpec).preRow enc Tryd.prog Tryd.f4 Rows.synFreesRow.domain false Rows.synFreesRow.laid) (((OpenSpec.ofChange Rows.synFreesSpec).at F).post enc Tryd.prog Tryd.f4 false true false false) := by
  obtain ⟨places, hx⟩ := reads os enc
  refine returnsInHanded_of_row (C := Tryd.checked) (s := OpenSpec.ofChange Rows.synFreesSpec) own started (by kernel_rfl) Tryd.func4
    (witness_row_atRef (enc := enc) (C := Tryd.checked) false (laidWorld os) #[.slice none 0 0] rfl (by kernel_rfl) (by kernel_rfl) (by kernel_rfl)
      (OpenSpec.preRow_of_cond 8 hx (by kernel_rfl) (fun k hk => by cases hk) (by kernel_rfl) (laid_met os))) ?_
  intro W base args ds gs before hval hW _ _ _ hL _ _
  exact contract H enc W base args ds gs before hval hW hL

theorem said : Rows.SynFreesSaid :=
  OpenClaim.holds_of_cond 4 Tryd.f4 rfl rfl rfl rfl rfl rfl rfl ⟨rfl, rfl, rfl, rfl, rfl⟩ rfl rfl rfl rfl rfl (by kernel_rfl) Tryd.func4 (by kernel_rfl)
    (of_decide_eq_true (by kernel_rfl)) (by unfold Func.isWrapper; first | (rw [if_pos (by decide +kernel)]; kernel_rfl) | (rw [if_neg (by decide +kernel)]; exact ⟨rfl, rfl⟩))
    (fun os started H enc _ F => by rw [OpenClaim.pre_eq_preRow]; exact lifted os started H enc F)

/-- No parameter wants a stand-in; the program's own looks are off. -/
theorem plain (f : FuncId) (fn : Func) (hf : Tryd.pinned.checked.prog.funcNamed Rows.synFreesRow.func = some f) (hfn : Tryd.pinned.checked.prog.funcs[f]? = some fn) :
    false = Tryd.pinned.checked.prog.looks [] ∧ ∀ (j : Nat) t, fn.params[j]? = some t → Tryd.pinned.checked.prog.wantsStandIn t = false := by
  obtain rfl : f = 4 := Option.some.inj ((show Tryd.prog.funcNamed Rows.synFreesRow.func = some 4 by kernel_rfl).symm.trans hf) |>.symm
  obtain rfl : fn = Tryd.f4 := (Option.some.inj (Tryd.func4.symm.trans hfn)).symm
  refine ⟨by kernel_rfl, fun j t ht => ?_⟩
  have hall : (Tryd.f4.params.toList.all fun t => !Tryd.prog.wantsStandIn t) = true := by kernel_rfl
  have hm : t ∈ Tryd.f4.params.toList := by
    rw [← Array.getElem?_toList] at ht
    exact List.mem_of_getElem? ht
  have h2 : Tryd.prog.wantsStandIn t = false := by simpa using List.all_eq_true.1 hall t hm
  exact h2

/-- The card. -/
theorem card : Rows.SynFreesCardSaid :=
  Claim7.holds_tied_plain_at .later [] _ _ _ _ said (fun _ h => by cases h) (by kernel_rfl) (fun _ h => by cases h) synFrees_row_tie rfl ⟨rfl, rfl⟩ (by kernel_rfl) rfl plain (by kernel_rfl)
end Go.Proofs.YtndklpaccohbcaaDoor.synFrees
