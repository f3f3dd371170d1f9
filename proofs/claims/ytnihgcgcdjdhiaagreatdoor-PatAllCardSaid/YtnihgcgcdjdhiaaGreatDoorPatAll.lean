/- PatAll: for every input the law returns true (if nothing is missing, any value of the type is matched), and each argument reads behind the call as it read before.
   The condition: as the card says, the listed package-level variables hold what the program's text lays. -/
import Derived.Test.YtnihgcgcdjdhiaaGreatDoorCards
import Derived.Test.YtnihgcgcdjdhiaaGreatDoorTie
import Derived.Test.YtnihgcgcdjdhiaaGreatDoorSt
import Derived.Test.YtnihgcgcdjdhiaaGreatDoorPlainB
import Derived.ProofKit
import Derived.OpenShut
import Derived.Deep.DeepHandedRow
import Derived.Deep.DeepWitnessRowRef
namespace Go.Proofs.YtnihgcgcdjdhiaaGreatDoor.patAll
open Go Go.Proofs Ev Go.ChangeShapes Go.WideShapes Go.ChangeAt Go.RowKit

theorem own : ownKnob Tryz.prog.godebug = none := by kernel_rfl

/-- The law as data. -/
theorem data (x : denA [.sl (.st (.pair .str (.pair (.int .i64) (.sl (.st (.pair .str (.sl (.sl (.st (.pair (.int .i64) (.pair .str (.pair (.int .i64) (.int .i64))))))))))))), .sl (.st (.pair (.int .i64) (.pair .str (.pair (.int .i64) (.int .i64))))), .sl (.sl (.st (.pair (.int .i64) (.pair .str (.pair (.int .i64) (.int .i64)))))), .sl (.st (.pair (.int .i64) (.pair .str (.pair (.int .i64) (.int .i64)))))]) (hx : goodA [.sl (.st (.pair .str (.pair (.int .i64) (.sl (.st (.pair .str (.sl (.sl (.st (.pair (.int .i64) (.pair .str (.pair (.int .i64) (.int .i64))))))))))))), .sl (.st (.pair (.int .i64) (.pair .str (.pair (.int .i64) (.int .i64))))), .sl (.sl (.st (.pair (.int .i64) (.pair .str (.pair (.int .i64) (.int .i64)))))), .sl (.st (.pair (.int .i64) (.pair .str (.pair (.int .i64) (.int .i64)))))] x) : Ev.Fn.f_law12_PatAll x = some (true, ()) := by
  obtain ⟨⟨b0, l⟩, ⟨b1, t⟩, ⟨b2, a⟩, ⟨b3, v⟩, u⟩ := x
  exact Ev.Fn.law_All b0 b1 b2 b3 l t a v (Ev.Fn.good_gD hx.1) (Ev.Fn.good_gL hx.2.1) (Ev.Fn.good_gR hx.2.2.1).1 (Ev.Fn.good_gR hx.2.2.1).2 (Ev.Fn.good_gL hx.2.2.2.1)

set_option maxRecDepth 100000 in
theorem contract (H : Type) (enc : TypeId × Value → H) (W : World) (base : Nat) (args : Array Value) (ds gs : List (DataW H)) (before : List MemPlace)
    (hval : ∀ (j : Nat) t v, Tryz.f7.params[j]? = some t → args[j]? = some v → Value.okWide Tryz.prog W .any base t v)
    (hW : DataW.Whole enc Tryz.prog Tryz.f7.params.toList Rows.patAllSpec.vars false W args.toList ds gs before) (hL : laidMetH Tryz.prog Rows.patAllRow.laid W) :
    Calls Tryz.prog 7 args W fun e W' => ∃ v, e = .returned v ∧ Rows.patAllSpec.post enc Tryz.prog Tryz.f7 false true false false W args v W' :=
  law_contractB (C := Seat.C) (laid := Rows.patAllRow.laid) Seat.seatOk [.sl (.st (.pair .str (.pair (.int .i64) (.sl (.st (.pair .str (.sl (.sl (.st (.pair (.int .i64) (.pair .str (.pair (.int .i64) (.int .i64))))))))))))), .sl (.st (.pair (.int .i64) (.pair .str (.pair (.int .i64) (.int .i64))))), .sl (.sl (.st (.pair (.int .i64) (.pair .str (.pair (.int .i64) (.int .i64)))))), .sl (.st (.pair (.int .i64) (.pair .str (.pair (.int .i64) (.int .i64)))))] 4 (by kernel_rfl) (by kernel_rfl) (by kernel_rfl) Tryz.underlying4 rfl
    (fun ds h => by
      match ds, h with
      | [d0, d1, d2, d3], _ => rfl) hval hW hL
    (fun x hx _ => (Seat.calls (Seat.c_law12_PatAll x (true, ()) (data x hx))).s)

/-- A world for the witness: the settled one with two blocks more (the ranges of unicode.White_Space, and what leads to them), the two variables holding what their initialisers lay. -/
def ranges : Array Value := #[9, 13, 1, 32, 133, 101, 160, 5760, 5600, 8192, 8202, 1, 8232, 8233, 1, 8239, 8287, 48, 12288, 12288, 1].map fun n => .int .u16 n
def put (h : Array Go.Obj) (g : Nat) (cs : Array Value) : Array Go.Obj := h.modify g fun
  | .cells _ t frozen => .cells cs t frozen
  | o => o
noncomputable def laidWorld (os : Os) : World :=
  let N := (World.settled Tryz.prog os).heap.size
  let w0 := World.holding Tryz.prog os ⟨#[.cells ranges 216, .cells #[.slice (some ⟨N, 0, none⟩) 7 7, .slice none 0 0, .int .i64 2] 213], #[], []⟩
  { w0 with heap := put (put w0.heap 0 (Seat.spaces.map fun n => Value.int .u8 n).toArray) 1 #[.pointer (some ⟨N + 1, 0, none⟩)] }
theorem laid_met (os : Os) : laidMet Tryz.prog Rows.patAllRow.laid ((laidWorld os).forCall (fun _ _ => 0) ⟨#[], #[.slice none 0 0, .slice none 0 0, .slice none 0 0, .slice none 0 0], []⟩).memory :=
  laidMet_of_run' 8 (by kernel_rfl) (by kernel_rfl)
theorem reads (os : Os) {H : Type} (enc : TypeId × Value → H) : ∃ places, DataW.whole enc Tryz.prog ((laidWorld os).forCall (fun _ _ => 0) ⟨#[], #[.slice none 0 0, .slice none 0 0, .slice none 0 0, .slice none 0 0], []⟩).memory Tryz.f7.params.toList Rows.patAllSpec.vars false (#[.slice none 0 0, .slice none 0 0, .slice none 0 0, .slice none 0 0] : Array Value).toList 8 = some ([.nil, .nil, .nil, .nil], [], places) :=
  ⟨[], by kernel_rfl⟩

set_option maxRecDepth 100000 in
theorem lifted (os : Os) (started : os.Started) (H : Type) (enc : TypeId × Value → H) (F : Stop.Interp) :
    ReturnsInHanded {} Tryz.checked os 7 .any ((OpenSpec.ofChange Rows.patAllSpec).preRow enc Tryz.prog Tryz.f7 Rows.patAllRow.domain false Rows.patAllRow.laid) (((OpenSpec.ofChange Rows.patAllSpec).at F).post enc Tryz.prog Tryz.f7 false true false false) := by
  obtain ⟨places, hx⟩ := reads os enc
  refine returnsInHanded_of_row (C := Tryz.checked) (s := OpenSpec.ofChange Rows.patAllSpec) own started (by kernel_rfl) Tryz.func7
    (witness_row_atRef (enc := enc) (C := Tryz.checked) false (laidWorld os) #[.slice none 0 0, .slice none 0 0, .slice none 0 0, .slice none 0 0] rfl (by kernel_rfl) (by kernel_rfl) (by kernel_rfl)
      (OpenSpec.preRow_of_cond 8 hx (by kernel_rfl) (fun k hk => by cases hk) (by kernel_rfl) (laid_met os))) ?_
  intro W base args ds gs before hval hW _ _ _ hL _ _
  exact contract H enc W base args ds gs before hval hW hL

theorem said : Rows.PatAllSaid :=
  OpenClaim.holds_of_cond 7 Tryz.f7 rfl rfl rfl rfl rfl rfl rfl ⟨rfl, rfl, rfl, rfl, rfl⟩ rfl rfl rfl rfl rfl (by kernel_rfl) Tryz.func7 (by kernel_rfl)
    (of_decide_eq_true (by kernel_rfl)) (by unfold Func.isWrapper; first | (rw [if_pos (by decide +kernel)]; kernel_rfl) | (rw [if_neg (by decide +kernel)]; exact ⟨rfl, rfl⟩))
    (fun os started H enc _ F => by rw [OpenClaim.pre_eq_preRow]; exact lifted os started H enc F)

/-- No parameter wants a stand-in; the program's own looks are off. -/
theorem plain (f : FuncId) (fn : Func) (hf : Tryz.pinned.checked.prog.funcNamed Rows.patAllRow.func = some f) (hfn : Tryz.pinned.checked.prog.funcs[f]? = some fn) :
    false = Tryz.pinned.checked.prog.looks [] ∧ ∀ (j : Nat) t, fn.params[j]? = some t → Tryz.pinned.checked.prog.wantsStandIn t = false := by
  obtain rfl : f = 7 := Option.some.inj ((show Tryz.prog.funcNamed Rows.patAllRow.func = some 7 by kernel_rfl).symm.trans hf) |>.symm
  obtain rfl : fn = Tryz.f7 := (Option.some.inj (Tryz.func7.symm.trans hfn)).symm
  refine ⟨by kernel_rfl, fun j t ht => ?_⟩
  have hall : (Tryz.f7.params.toList.all fun t => !Tryz.prog.wantsStandIn t) = true := by kernel_rfl
  have hm : t ∈ Tryz.f7.params.toList := by
    rw [← Array.getElem?_toList] at ht
    exact List.mem_of_getElem? ht
  have h2 : Tryz.prog.wantsStandIn t = false := by simpa using List.all_eq_true.1 hall t hm
  exact h2

/-- The card. -/
theorem card : Rows.PatAllCardSaid :=
  Claim7.holds_tied_plain_at .later [] _ _ _ _ said (fun _ h => by cases h) (by kernel_rfl) (fun _ h => by cases h) patAll_row_tie rfl ⟨rfl, rfl⟩ (by kernel_rfl) rfl plain (by kernel_rfl)
end Go.Proofs.YtnihgcgcdjdhiaaGreatDoor.patAll
