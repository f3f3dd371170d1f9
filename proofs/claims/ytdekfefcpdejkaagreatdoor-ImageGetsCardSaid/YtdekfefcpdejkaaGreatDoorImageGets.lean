/- ImageGets: for every input the law returns true (the image that any bytes are is the document's, or they are none), and each argument reads behind the call as it read before.
   The condition: as the card says, the listed package-level variables hold what the program's text lays. -/
import Derived.Test.YtdekfefcpdejkaaGreatDoorCards
import Derived.Test.YtdekfefcpdejkaaGreatDoorTie
import Derived.Test.YtdekfefcpdejkaaGreatDoorSt
import Derived.Test.YtdekfefcpdejkaaGreatDoorPlainJ
import Derived.ProofKit
import Derived.OpenShut
import Derived.Deep.DeepHandedRow
namespace Go.Proofs.YtdekfefcpdejkaaGreatDoor.imageGets
open Go Go.Proofs Ev Go.ChangeShapes Go.WideShapes Go.ChangeAt Go.RowKit

theorem own : ownKnob Tryz.prog.godebug = none := by kernel_rfl

/-- The law as data. -/
theorem data (x : denA [.str]) (hx : goodA [.str] x) : Ev.Fn.f_law18_ImageGets x = some (true, ()) := by
  obtain ⟨s, u⟩ := x
  exact Ev.Fn.law_gets18 s hx.1.2

set_option maxRecDepth 100000 in
theorem contract (H : Type) (enc : TypeId × Value → H) (W : World) (base : Nat) (args : Array Value) (ds gs : List (DataW H)) (before : List MemPlace)
    (hval : ∀ (j : Nat) t v, Tryz.f4.params[j]? = some t → args[j]? = some v → Value.okWide Tryz.prog W .any base t v)
    (hW : DataW.Whole enc Tryz.prog Tryz.f4.params.toList Rows.imageGetsSpec.vars false W args.toList ds gs before) (hL : laidMetH Tryz.prog Rows.imageGetsRow.laid W) :
    Calls Tryz.prog 4 args W fun e W' => ∃ v, e = .returned v ∧ Rows.imageGetsSpec.post enc Tryz.prog Tryz.f4 false true false false W args v W' :=
  law_contractB (C := Seat.C) (laid := Rows.imageGetsRow.laid) Seat.seatOk [.str] 4 (by kernel_rfl) (by kernel_rfl) (by kernel_rfl) Tryz.underlying4 (by kernel_rfl) rfl
    (fun ds h => by
      match ds, h with
      | [d0], _ => rfl) hval hW hL
    (fun x hx _ => (Seat.calls (Seat.c_law18_ImageGets x (true, ()) (data x hx))).s)

/-- A world for the witness: the settled one, the table holding what its initialiser lays. -/
def lay (cs : List Value) : Go.Obj → Go.Obj
  | .cells _ t frozen => .cells cs.toArray t frozen
  | o => o
noncomputable def laidWorld (os : Os) : World :=
  { World.holding Tryz.prog os ⟨#[], #[], []⟩ with heap := (World.holding Tryz.prog os ⟨#[], #[], []⟩).heap.modify 0 (lay (Seat.numbers.map fun n => Value.int .i64 n)) }
theorem laid_met (os : Os) : laidMet Tryz.prog Rows.imageGetsRow.laid ((laidWorld os).forCall (fun _ _ => 0) ⟨#[], #[.string (ByteArray.mk #[])], []⟩).memory :=
  laidMet_of_run' 8 (by kernel_rfl) (by kernel_rfl)
theorem reads (os : Os) {H : Type} (enc : TypeId × Value → H) : ∃ places, DataW.whole enc Tryz.prog ((laidWorld os).forCall (fun _ _ => 0) ⟨#[], #[.string (ByteArray.mk #[])], []⟩).memory Tryz.f4.params.toList Rows.imageGetsSpec.vars false (#[.string (ByteArray.mk #[])] : Array Value).toList 8 = some ([.lit (.string [])], [], places) :=
  ⟨[], by kernel_rfl⟩

set_option maxRecDepth 100000 in
theorem lifted (os : Os) (started : os.Started) (H : Type) (enc : TypeId × Value → H) (F : Stop.Interp) :
    ReturnsInHanded {} Tryz.checked os 4 .any ((OpenSpec.ofChange Rows.imageGetsSpec).preRow enc Tryz.prog Tryz.f4 Rows.imageGetsRow.domain false Rows.imageGetsRow.laid) (((OpenSpec.ofChange Rows.imageGetsSpec).at F).post enc Tryz.prog Tryz.f4 false true false false) := by
  obtain ⟨places, hx⟩ := reads os enc
  refine returnsInHanded_of_row (C := Tryz.checked) (s := OpenSpec.ofChange Rows.imageGetsSpec) own started (by kernel_rfl) Tryz.func4
    (witness_row_at (enc := enc) (C := Tryz.checked) false (laidWorld os) #[.string (ByteArray.mk #[])] rfl (by kernel_rfl) (by kernel_rfl) (by kernel_rfl)
      (OpenSpec.preRow_of_cond 8 hx (by kernel_rfl) (fun k hk => by cases hk) (by kernel_rfl) (laid_met os))) ?_
  intro W base args ds gs before hval hW _ _ _ hL _ _
  exact contract H enc W base args ds gs before hval hW hL

theorem said : Rows.ImageGetsSaid :=
  OpenClaim.holds_of_cond 4 Tryz.f4 rfl rfl rfl rfl rfl rfl rfl ⟨rfl, rfl, rfl, rfl, rfl⟩ rfl rfl rfl rfl rfl (by kernel_rfl) Tryz.func4 (by kernel_rfl)
    (of_decide_eq_true (by kernel_rfl)) (by unfold Func.isWrapper; first | (rw [if_pos (by decide +kernel)]; kernel_rfl) | (rw [if_neg (by decide +kernel)]; exact ⟨rfl, rfl⟩))
    (fun os started H enc _ F => by rw [OpenClaim.pre_eq_preRow]; exact lifted os started H enc F)

/-- No parameter wants a stand-in; the program's own looks are off. -/
theorem plain (f : FuncId) (fn : Func) (hf : Tryz.pinned.checked.prog.funcNamed Rows.imageGetsRow.func = some f) (hfn : Tryz.pinned.checked.prog.funcs[f]? = some fn) :
    false = Tryz.pinned.checked.prog.looks [] ∧ ∀ (j : Nat) t, fn.params[j]? = some t → Tryz.pinned.checked.prog.wantsStandIn t = false := by
  obtain rfl : f = 4 := Option.some.inj ((show Tryz.prog.funcNamed Rows.imageGetsRow.func = some 4 by kernel_rfl).symm.trans hf) |>.symm
  obtain rfl : fn = Tryz.f4 := (Option.some.inj (Tryz.func4.symm.trans hfn)).symm
  refine ⟨by kernel_rfl, fun j t ht => ?_⟩
  have hall : (Tryz.f4.params.toList.all fun t => !Tryz.prog.wantsStandIn t) = true := by kernel_rfl
  have hm : t ∈ Tryz.f4.params.toList := by
    rw [← Array.getElem?_toList] at ht
    exact List.mem_of_getElem? ht
  have h2 : Tryz.prog.wantsStandIn t = false := by simpa using List.all_eq_true.1 hall t hm
  exact h2

/-- The card. -/
theorem card : Rows.ImageGetsCardSaid :=
  Claim7.holds_tied_plain_at .later [] _ _ _ _ said (fun _ h => by cases h) (by kernel_rfl) (fun _ h => by cases h) imageGets_row_tie rfl ⟨rfl, rfl⟩ (by kernel_rfl) rfl plain (by kernel_rfl)
end Go.Proofs.YtdekfefcpdejkaaGreatDoor.imageGets
