/- Walks through strings.Builder's two calls. No statement of its own about the program. -/
import Derived.Test.YthbmeiihbaggpaaDoorEvJ
import Derived.Test.YthbmeiihbaggpaaDoorProg
import Derived.KernelRfl
namespace Ev
open Go Go.Shelf Go.RowKit Go.Proofs
theorem u85 : Tryd.prog.underlying 85 = some (.pointer 87) := by kernel_rfl
theorem u103 : Tryd.prog.underlying 103 = some .unsafePointer := by kernel_rfl
theorem i87 : (Tryd.prog.info? 87).map (fun x => x.size) = some 2 := by kernel_rfl
theorem lies87 : liesAt Tryd.prog Tryd.prog.depth 87 (2 / Tryd.prog.cellsOf 87) 0 87 1 = true := by kernel_rfl
set_option maxHeartbeats 1000000 in
set_option maxRecDepth 100000 in
theorem cc_used (b : Nat) (w : World) (h0 : w.cell? ⟨b, 0, none⟩ = some (.pointer (some ⟨b, 0, none⟩))) :
    Calls Tryd.prog 72 #[.pointer (some ⟨b, 0, none⟩)] w fun e w' => e = .returned (.tuple #[]) ∧ w' = w := by
  obtain ⟨j, hj, _⟩ := Option.map_eq_some_iff.1 i87
  go_enter Tryd.func72, Tryd.ntmps72
  go_wp2
  rw [Lib.run_neq_ptr_same w _ u85 hj]
  go_wp2
  go_end0
  exact ⟨rfl, rfl⟩

set_option maxHeartbeats 1000000 in
set_option maxRecDepth 100000 in
theorem cc_fresh (b : Nat) (w : World) (h0 : w.cell? ⟨b, 0, none⟩ = some (.pointer none)) (hsh : w.shape? b = some (87, 2)) (hfz : w.frozen? ⟨b, 0, none⟩ = false) :
    Calls Tryd.prog 72 #[.pointer (some ⟨b, 0, none⟩)] w fun e w' => e = .returned (.tuple #[]) ∧ w' = w.setCell ⟨b, 0, none⟩ (.pointer (some ⟨b, 0, none⟩)) := by
  obtain ⟨j, hj, hjs⟩ := Option.map_eq_some_iff.1 i87
  go_enter Tryd.func72, Tryd.ntmps72
  go_wp2
  rw [Lib.run_to_unsafe w ⟨b, 0, none⟩ u85 u103 hj (by rw [hjs]; decide) hsh (Nat.zero_lt_succ 1)]
  simp only [Result.andThen]
  rw [Oper.upon_value]
  go_wp2
  rw [run_callFunc_extern Tryd.func74 (by kernel_rfl) (by kernel_rfl) (by kernel_rfl) (e := Extern.AbiNoEscape.same) (by kernel_rfl)]
  rw [Lib.run_noEscape]
  simp only [Result.andThen]
  rw [Oper.upon_value]
  go_wp2
  rw [Lib.run_from_unsafe w ⟨b, 0, none⟩ u103 u85 hj hsh lies87]
  simp only [Result.andThen]
  rw [Oper.upon_value]
  go_wp2
  go_end0
  exact ⟨rfl, rfl⟩
end Ev
namespace Ev
open Go Go.Shelf Go.RowKit Go.Proofs
theorem mixedT : Tryd.prog.follows .mixedOrders = true := by kernel_rfl
set_option maxHeartbeats 2000000 in
set_option maxRecDepth 100000 in
theorem strWalk : StrWalk Tryd.prog 62 73 100 3 9 5 where
  walk := by
    intro b base q n cap bs w w2 c1 hSD hUS
    have mixed := mixedT
    go_enter Tryd.func62, Tryd.ntmps62
    go_wp2
    go_region_o
    all_goals (go_wp2; go_ret; exact ⟨rfl, rfl⟩)
  walk0 := by
    intro b a cs el fz w hbk hcs sh hsh
    have hUS : ∀ (W : World) (q : Option Addr), (Builtin.unsafeString_ #[100, 3] 9 #[.pointer q, .int .i64 0]).run Tryd.prog W = .ok (.string .empty) W := fun W q => Lib.run_unsafeString_none W _ _ _ q
    have hlt : b < w.heap.size := (Array.getElem?_eq_some_iff.1 hbk).1
    have c1 : w.drew.cell? ⟨b, 1, none⟩ = some (.slice (some a) 0 0) := by
      have : w.drew.heap[b]? = some (.cells cs el fz) := hbk
      simp only [World.cell?, this]; exact hcs
    have hSD : (Builtin.unsafeSliceData_ #[73] 100 #[.slice (some a) 0 0]).run Tryd.prog w.drew = .ok (.pointer (some ⟨w.drew.heap.size, 0, none⟩)) (w.drew.alloc (.view a 5)) :=
      Lib.run_unsafeSliceData_zero w.drew _ _ 5 (by kernel_rfl) a 0 sh hsh
    have c2 : (w.drew.alloc (.view a 5)).cell? ⟨b, 1, none⟩ = some (.slice (some a) 0 0) := by
      have : (w.drew.alloc (.view a 5)).heap[b]? = _ := (Lib.alloc_old w.drew _ b hlt).trans hbk
      simp only [World.cell?, this]; exact hcs
    have c3 : (w.alloc (.view a 5)).drew.cell? ⟨b, 1, none⟩ = some (.slice (some a) 0 0) := c2
    have c0 : w.cell? ⟨b, 1, none⟩ = some (.slice (some a) 0 0) := c1
    have mixed := mixedT
    go_enter Tryd.func62, Tryd.ntmps62
    go_wp2
    go_region_o
    all_goals (go_wp2; go_ret; exact ⟨rfl, rfl⟩)
end Ev
