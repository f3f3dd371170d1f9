/- ImageTurned: for every input the law returns true (bytes of which one is another one are none; cut ones neither), and each argument reads behind the call as it read before.
   The condition: as the card says, the listed package-level variables hold what the program's text lays. -/
import Derived.Test.YtdekfefcpdejkaaDoorCards
import Derived.Test.YtdekfefcpdejkaaDoorTie
import Derived.Test.YtdekfefcpdejkaaDoorSt
import Derived.Test.YtdekfefcpdejkaaDoorPlainJ
import Derived.ProofKit
import Derived.OpenShut
import Derived.Deep.DeepHandedRow
namespace Go.Proofs.YtdekfefcpdejkaaDoor.imageTurned
open Go Go.Proofs Ev Go.ChangeShapes Go.WideShapes Go.ChangeAt Go.RowKit

theorem own : ownKnob Tryd.prog.godebug = none := by kernel_rfl

/-- The law as data. -/
theorem data (x : denA [.st (.pair (.sl (.st (.pair .bool (.pair (.int .i64) .str)))) (.sl (.st (.pair (.int .i64) (.pair (.int .i64) (.int .i64)))))), .int .u16, .int .u8]) (hx : goodA [.st (.pair (.sl (.st (.pair .bool (.pair (.int .i64) .str)))) (.sl (.st (.pair (.int .i64) (.pair (.int .i64) (.int .i64)))))), .int .u16, .int .u8] x) : Ev.Fn.f_law18_ImageTurned x = some (true, ()) := by
  obtain ⟨⟨p, c⟩, a, v, u⟩ := x
  exact Ev.Fn.law_turned18 p c (fun y hy => Ev.Fn.good_gT (hx.1.1.2.2 y hy)) a v (inK_u16.1 hx.2.1) (inK_u8.1 hx.2.2.1)

set_option maxRecDepth 100000 in
theorem contract (H : Type) (enc : TypeId × Value → H) (W : World) (base : Nat) (args : Array Value) (ds gs : List (DataW H)) (before : List MemPlace)
    (hval : ∀ (j : Nat) t v, Tryd.f6.params[j]? = some t → args[j]? = some v → Value.okWide Tryd.prog W .any base t v)
    (hW : DataW.Whole enc Tryd.prog Tryd.f6.params.toList Rows.imageTurnedSpec.vars false W args.toList ds gs before) (hL : laidMetH Tryd.prog Rows.imageTurnedRow.laid W) :
    Calls Tryd.prog 6 args W fun e W' => ∃ v, e = .returned v ∧ Rows.imageTurnedSpec.post enc Tryd.prog Tryd.f6 false true false false W args v W' :=
  law_contractB (C := Seat.C) (laid := Rows.imageTurnedRow.laid) Seat.seatOk [.st (.pair (.sl (.st (.pair .bool (.pair (.int .i64) .str)))) (.sl (.st (.pair (.int .i64) (.pair (.int .i64) (.int .i64)))))), .int .u16, .int .u8] 4 (by kernel_rfl) (by kernel_rfl) (by kernel_rfl) Tryd.underlying4 (by kernel_rfl) rfl
    (fun ds h => by
      match ds, h with
      | [d0, d1, d2], _ => rfl) hval hW hL
    (fun x hx _ => (Seat.calls (Seat.c_law18_ImageTurned x (true, ()) (data x hx))).s)

/-- A world for the witness: the settled one, the table holding what its initialiser lays. -/
def lay (cs : List Value) : Go.Obj → Go.Obj
  | .cells _ t frozen => .cells cs.toArray t frozen
  | o => o
noncomputable def laidWorld (os : Os) : World :=
  { World.holding Tryd.prog os ⟨#[], #[], []⟩ with heap := (World.holding Tryd.prog os ⟨#[], #[], []⟩).heap.modify 0 (lay (Seat.numbers.map fun n => Value.int .i64 n)) }
theorem laid_met (os : Os) : laidMet Tryd.prog Rows.imageTurnedRow.laid ((laidWorld os).forCall (fun _ _ => 0) ⟨#[], #[.agg #[.slice none 0 0, .slice none 0 0], .int .u16 0, .int .u8 0], []⟩).memory :=
  laidMet_of_run' 8 (by kernel_rfl) (by kernel_rfl)
theorem reads (os : Os) {H : Type} (enc : TypeId × Value → H) : ∃ places, DataW.whole enc Tryd.prog ((laidWorld os).forCall (fun _ _ => 0) ⟨#[], #[.agg #[.slice none 0 0, .slice none 0 0], .int .u16 0, .int .u8 0], []⟩).memory Tryd.f6.params.toList Rows.imageTurnedSpec.vars false (#[.agg #[.slice none 0 0, .slice none 0 0], .int .u16 0, .int .u8 0] : Array Value).toList 8 = some ([.agg [.nil, .nil], .lit (.int .u16 0), .lit (.int .u8 0)], [], places) :=
  ⟨[], by kernel_rfl⟩

set_option maxRecDepth 100000 in
theorem lifted (os : Os) (started : os.Started) (H : Type) (enc : TypeId × Value → H) (F : Stop.Interp) :
    ReturnsInHanded {} Tryd.checked os 6 .any ((OpenSpec.ofChange Rows.imageTurnedSpec).preRow enc Tryd.prog Tryd.f6 Rows.imageTurnedRow.domain false Rows.imageTurnedRow.laid) (((OpenSpec.ofChange Rows.imageTurnedSpec).at F).post enc Tryd.prog Tryd.f6 false true false false) := by
  obtain ⟨places, hx⟩ := reads os enc
  refine returnsInHanded_of_row (C := Tryd.checked) (s := OpenSpec.ofChange Rows.imageTurnedSpec) own started (by kernel_rfl) Tryd.func6
    (witness_row_at (enc := enc) (C := Tryd.checked) false (laidWorld os) #[.agg #[.slice none 0 0, .slice none 0 0], .int .u16 0, .int .u8 0] rfl (by kernel_rfl) (by kernel_rfl) (by kernel_rfl)
      (OpenSpec.preRow_of_cond 8 hx (by kernel_rfl) (fun k hk => by cases hk) (by kernel_rfl) (laid_met os))) ?_
  intro W base args ds gs before hval hW _ _ _ hL _ _
  exact contract H enc W base args ds gs before hval hW hL

theorem said : Rows.ImageTurnedSaid :=
  OpenClaim.holds_of_cond 6 Tryd.f6 rfl rfl rfl rfl rfl rfl rfl ⟨rfl, rfl, rfl, rfl, rfl⟩ rfl rfl rfl rfl rfl (by kernel_rfl) Tryd.func6 (by kernel_rfl)
    (of_decide_eq_true (by kernel_rfl)) (by unfold Func.isWrapper; first | (rw [if_pos (by decide +kernel)]; kernel_rfl) | (rw [if_neg (by decide +kernel)]; exact ⟨rfl, rfl⟩))
    (fun os started H enc _ F => by rw [OpenClaim.pre_eq_preRow]; exact lifted os started H enc F)

/-- No parameter wants a stand-in; the program's own looks are off. -/
theorem plain (f : FuncId) (fn : Func) (hf : Tryd.pinned.checked.prog.funcNamed Rows.imageTurnedRow.func = some f) (hfn : Tryd.pinned.checked.prog.funcs[f]? = some fn) :
    false = Tryd.pinned.checked.prog.looks [] ∧ ∀ (j : Nat) t, fn.params[j]? = some t → Tryd.pinned.checked.prog.wantsStandIn t = false := by
  obtain rfl : f = 6 := Option.some.inj ((show Tryd.prog.funcNamed Rows.imageTurnedRow.func = some 6 by kernel_rfl).symm.trans hf) |>.symm
  obtain rfl : fn = Tryd.f6 := (Option.some.inj (Tryd.func6.symm.trans hfn)).symm
  refine ⟨by kernel_rfl, fun j t ht => ?_⟩
  have hall : (Tryd.f6.params.toList.all fun t => !Tryd.prog.wantsStandIn t) = true := by kernel_rfl
  have hm : t ∈ Tryd.f6.params.toList := by
    rw [← Array.getElem?_toList] at ht
    exact List.mem_of_getElem? ht
  have h2 : Tryd.prog.wantsStandIn t = false := by simpa using List.all_eq_true.1 hall t hm
  exact h2

/-- The card. -/
theorem card : Rows.ImageTurnedCardSaid :=
  Claim7.holds_tied_plain_at .later [] _ _ _ _ said (fun _ h => by cases h) (by kernel_rfl) (fun _ h => by cases h) imageTurned_row_tie rfl ⟨rfl, rfl⟩ (by kernel_rfl) rfl plain (by kernel_rfl)
end Go.Proofs.YtdekfefcpdejkaaDoor.imageTurned
