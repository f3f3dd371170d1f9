/- Walks through strings.Builder's two calls, and through what two constants are compared by; slices.SortFunc's contract. No statement of its own about the program. -/
import Derived.Test.YtdekfefcpdejkaaDoorEvJ
import Derived.Test.YtdekfefcpdejkaaDoorProg
import Derived.Test.YtdekfefcpdejkaaDoorSlp
import Derived.Sort.Grow
import Derived.KernelRfl
namespace Ev
open Go Go.Shelf Go.RowKit Go.Proofs
theorem u85 : Tryd.prog.underlying 87 = some (.pointer 89) := by kernel_rfl
theorem u103 : Tryd.prog.underlying 135 = some .unsafePointer := by kernel_rfl
theorem i87 : (Tryd.prog.info? 89).map (fun x => x.size) = some 2 := by kernel_rfl
theorem lies87 : liesAt Tryd.prog Tryd.prog.depth 89 (2 / Tryd.prog.cellsOf 89) 0 89 1 = true := by kernel_rfl
set_option maxHeartbeats 1000000 in
set_option maxRecDepth 100000 in
theorem cc_used (b : Nat) (w : World) (h0 : w.cell? ⟨b, 0, none⟩ = some (.pointer (some ⟨b, 0, none⟩))) :
    Calls Tryd.prog 81 #[.pointer (some ⟨b, 0, none⟩)] w fun e w' => e = .returned (.tuple #[]) ∧ w' = w := by
  obtain ⟨j, hj, _⟩ := Option.map_eq_some_iff.1 i87
  go_enter Tryd.func81, Tryd.ntmps81
  go_wp2
  rw [Lib.run_neq_ptr_same w _ u85 hj]
  go_wp2
  go_end0
  exact ⟨rfl, rfl⟩

set_option maxHeartbeats 1000000 in
set_option maxRecDepth 100000 in
theorem cc_fresh (b : Nat) (w : World) (h0 : w.cell? ⟨b, 0, none⟩ = some (.pointer none)) (hsh : w.shape? b = some (89, 2)) (hfz : w.frozen? ⟨b, 0, none⟩ = false) :
    Calls Tryd.prog 81 #[.pointer (some ⟨b, 0, none⟩)] w fun e w' => e = .returned (.tuple #[]) ∧ w' = w.setCell ⟨b, 0, none⟩ (.pointer (some ⟨b, 0, none⟩)) := by
  obtain ⟨j, hj, hjs⟩ := Option.map_eq_some_iff.1 i87
  go_enter Tryd.func81, Tryd.ntmps81
  go_wp2
  rw [Lib.run_to_unsafe w ⟨b, 0, none⟩ u85 u103 hj (by rw [hjs]; decide) hsh (Nat.zero_lt_succ 1)]
  simp only [Result.andThen]
  rw [Oper.upon_value]
  go_wp2
  rw [run_callFunc_extern Tryd.func94 (by kernel_rfl) (by kernel_rfl) (by kernel_rfl) (e := Extern.AbiNoEscape.same) (by kernel_rfl)]
  rw [Lib.run_noEscape]
  simp only [Result.andThen]
  rw [Oper.upon_value]
  go_wp2
  rw [Lib.run_from_unsafe w ⟨b, 0, none⟩ u103 u85 hj hsh lies87]
  simp only [Result.andThen]
  rw [Oper.upon_value]
  go_wp2
  go_end0
  exact ⟨rfl, rfl⟩
end Ev
namespace Ev
open Go Go.Shelf Go.RowKit Go.Proofs
theorem mixedT : Tryd.prog.follows .mixedOrders = true := by kernel_rfl
set_option maxHeartbeats 2000000 in
set_option maxRecDepth 100000 in
theorem strWalk : StrWalk Tryd.prog 57 51 119 3 9 5 where
  walk := by
    intro b base q n cap bs w w2 c1 hSD hUS
    have mixed := mixedT
    go_enter Tryd.func57, Tryd.ntmps57
    go_wp2
    go_region_o
    all_goals (go_wp2; go_ret; exact ⟨rfl, rfl⟩)
  walk0 := by
    intro b a cs el fz w hbk hcs sh hsh
    have hUS : ∀ (W : World) (q : Option Addr), (Builtin.unsafeString_ #[119, 3] 9 #[.pointer q, .int .i64 0]).run Tryd.prog W = .ok (.string .empty) W := fun W q => Lib.run_unsafeString_none W _ _ _ q
    have hlt : b < w.heap.size := (Array.getElem?_eq_some_iff.1 hbk).1
    have c1 : w.drew.cell? ⟨b, 1, none⟩ = some (.slice (some a) 0 0) := by
      have : w.drew.heap[b]? = some (.cells cs el fz) := hbk
      simp only [World.cell?, this]; exact hcs
    have hSD : (Builtin.unsafeSliceData_ #[51] 119 #[.slice (some a) 0 0]).run Tryd.prog w.drew = .ok (.pointer (some ⟨w.drew.heap.size, 0, none⟩)) (w.drew.alloc (.view a 5)) :=
      Lib.run_unsafeSliceData_zero w.drew _ _ 5 (by kernel_rfl) a 0 sh hsh
    have c2 : (w.drew.alloc (.view a 5)).cell? ⟨b, 1, none⟩ = some (.slice (some a) 0 0) := by
      have : (w.drew.alloc (.view a 5)).heap[b]? = _ := (Lib.alloc_old w.drew _ b hlt).trans hbk
      simp only [World.cell?, this]; exact hcs
    have c3 : (w.alloc (.view a 5)).drew.cell? ⟨b, 1, none⟩ = some (.slice (some a) 0 0) := c2
    have c0 : w.cell? ⟨b, 1, none⟩ = some (.slice (some a) 0 0) := c1
    have mixed := mixedT
    go_enter Tryd.func57, Tryd.ntmps57
    go_wp2
    go_region_o
    all_goals (go_wp2; go_ret; exact ⟨rfl, rfl⟩)
end Ev
namespace Ev
open Go Go.Shelf Go.RowKit Go.Proofs Go.Sort

/-- The order of two constants. -/
def lessV (a b : Bool) (n m : Int) (s t : ByteArray) : Bool := bif Bool.xor a b then b else bif a then Op.bytesLess s.toList t.toList else decide (n < m)

set_option maxHeartbeats 1000000 in
set_option maxRecDepth 100000 in
theorem less_at (a b : Bool) (n m : Int) (s t : ByteArray) (W : World) : Calls Tryd.prog 17 #[.agg #[.bool a, .int .i64 n, .string s], .agg #[.bool b, .int .i64 m, .string t]] W fun e w' => e = .returned (.bool (lessV a b n m s t)) ∧ w' = (W.alloc (.cells #[.bool a, .int .i64 n, .string s] 24)).alloc (.cells #[.bool b, .int .i64 m, .string t] 24) := by
  cases a <;> cases b <;>
  · go_enter Tryd.func17, Tryd.ntmps17
    go_wp2
    go_ret
    exact ⟨rfl, rfl⟩

theorem grow4 (W : World) (a b c d : Go.Obj) : (((W.alloc a).alloc b).alloc c).alloc d = grow (W.drewN 0) #[a, b, c, d] := by
  simp only [alloc_eq_grow, grow_grow]
  rfl
theorem grow6 (W : World) (a b c d e f : Go.Obj) : (((((W.alloc a).alloc b).alloc c).alloc d).alloc e).alloc f = grow (W.drewN 0) #[a, b, c, d, e, f] := by
  simp only [alloc_eq_grow, grow_grow]
  rfl

/-- How two constants compare. -/
def cmpV (a b : Bool) (n m : Int) (s t : ByteArray) : Int := bif lessV a b n m s t then -1 else bif lessV b a m n t s then 1 else 0

set_option maxHeartbeats 1000000 in
set_option maxRecDepth 100000 in
theorem compare_at (a b : Bool) (n m : Int) (s t : ByteArray) (W : World) : Calls Tryd.prog 31 #[.agg #[.bool a, .int .i64 n, .string s], .agg #[.bool b, .int .i64 m, .string t]] W fun e w' => e = .returned (.int .i64 (cmpV a b n m s t)) ∧ ∃ q os', w' = grow (W.drewN q) os' := by
  have h := less_at
  unfold cmpV
  generalize lessV = f at h ⊢
  go_enter Tryd.func31, Tryd.ntmps31
  go_wp2_with (go_at_call 17; refine (h _ _ _ _ _ _ _).mono ?_; rintro e w' ⟨rfl, rfl⟩)
  · go_ret
    rename_i e1
    exact ⟨by rw [e1]; rfl, 0, _, grow4 _ _ _ _ _⟩
  · go_ret
    rename_i e1 e2
    exact ⟨by rw [e1, e2]; rfl, 0, _, grow6 _ _ _ _ _ _ _⟩
  · go_ret
    rename_i e1 e2
    exact ⟨by rw [e1, e2]; rfl, 0, _, grow6 _ _ _ _ _ _ _⟩
end Ev
namespace Ev
open Go Go.Shelf Go.RowKit Go.Proofs Go.Sort
abbrev tyThing : Ty := .st (.pair .bool (.pair (.int .i64) .str))

abbrev GT := {x : Thing // goodT x = true}
instance : Inhabited GT := ⟨⟨(false, 0, []), rfl⟩⟩
def bytesOf (l : List Int) : ByteArray := ⟨(l.map fun b => UInt8.ofNat b.toNat).toArray⟩
def encT (x : GT) : List Value := [.bool x.1.1, .int .i64 x.1.2.1, .string (bytesOf x.1.2.2)]

theorem bytesOf_back (l : List Int) (h : ∀ b, b ∈ l → 0 ≤ b ∧ b ≤ 255) : (bytesOf l).data.toList.map (fun b => (b.toNat : Int)) = l := by
  show (l.map fun b => UInt8.ofNat b.toNat).map (fun b => (b.toNat : Int)) = l
  rw [List.map_map]
  induction l with
  | nil => rfl
  | cons a l ih =>
    rw [List.map_cons, ih fun b hb => h b (List.mem_cons_of_mem _ hb)]
    obtain ⟨h0, h1⟩ := h a (List.mem_cons_self ..)
    congr 1
    show ((UInt8.ofNat a.toNat).toNat : Int) = a
    rw [UInt8.toNat_ofNat', Nat.mod_eq_of_lt (by omega)]
    omega

theorem bytesOf_of (s : ByteArray) : bytesOf (s.data.toList.map fun b => (b.toNat : Int)) = s := by
  obtain ⟨⟨l⟩⟩ := s
  show ByteArray.mk ((l.map fun b => (b.toNat : Int)).map fun b => UInt8.ofNat b.toNat).toArray = ByteArray.mk ⟨l⟩
  rw [List.map_map]
  congr 2
  induction l with
  | nil => rfl
  | cons a l ih =>
    rw [List.map_cons, ih]
    congr 1
    show UInt8.ofNat ((a.toNat : Int)).toNat = a
    rw [Int.toNat_natCast]
    exact UInt8.ofNat_toNat

theorem relT (imm : Nat → Prop) (w : World) (x : GT) (cs : List Value) : relC imm w tyThing x.1 cs ↔ cs = encT x := by
  obtain ⟨⟨b, n, s⟩, hx⟩ := x
  obtain ⟨_, _, ⟨h3, h4⟩, h5, h6⟩ := good_iff _ hx
  constructor
  · rintro ⟨c1, d1, e1, h1, c2, d2, e2, h2, t, e3, h7, h8⟩
    have h1 : c1 = [.bool b] := h1
    obtain ⟨h2, _⟩ := h2
    have h2 : c2 = [.int .i64 n] := h2
    have h7 : t.data.toList.map (fun b => (b.toNat : Int)) = s := h7
    subst h1 h2 e1 e2 e3 h7
    show _ = [_, _, Value.string (bytesOf _)]
    rw [bytesOf_of]; rfl
  · intro e
    subst e
    refine ⟨[.bool b], _, rfl, rfl, [.int .i64 n], _, rfl, ⟨rfl, h3, h4⟩, bytesOf s, rfl, bytesOf_back s h5, ?_⟩
    show (s.map fun b => UInt8.ofNat b.toNat).toArray.size ≤ _
    simpa [maxL] using h6

theorem lessV_D (x y : GT) : lessV x.1.1 y.1.1 x.1.2.1 y.1.2.1 (bytesOf x.1.2.2) (bytesOf y.1.2.2) = lessD x.1 y.1 := by
  obtain ⟨⟨b, n, s⟩, hx⟩ := x
  obtain ⟨⟨c, m, t⟩, hy⟩ := y
  have hs := bytesOf_back s (good_iff _ hx).2.2.2.1
  have ht := bytesOf_back t (good_iff _ hy).2.2.2.1
  have h := strLt_map (bytesOf s).data.toList (bytesOf t).data.toList
  rw [hs, ht] at h
  show (bif Bool.xor b c then c else bif b then Op.bytesLess (bytesOf s).toList (bytesOf t).toList else decide (n < m)) = bif Bool.xor b c then c else bif b then strLt s t else decide (n < m)
  rw [ByteArray.toList_eq, ByteArray.toList_eq, ← h]

def cfT (x y : GT) : Int := cmpV x.1.1 y.1.1 x.1.2.1 y.1.2.1 (bytesOf x.1.2.2) (bytesOf y.1.2.2)
theorem ltOf_cf (x y : GT) : ltOf cfT x y = lessD x.1 y.1 := by
  unfold ltOf cfT cmpV
  rw [lessV_D, lessV_D]
  cases h1 : lessD x.1 y.1 <;> cases h2 : lessD y.1 x.1 <;> rfl

theorem swoT : Go.Sort.SWO (ltOf cfT) where
  irrefl x := by rw [ltOf_cf]; exact lessD_irrefl _
  trans x y z h1 h2 := by rw [ltOf_cf] at *; exact lessD_trans _ _ _ h1 h2
  ntrans x y z h1 h2 := by
    rw [ltOf_cf] at *
    cases h : lessD x.1 z.1 with
    | false => rfl
    | true =>
      exfalso
      cases h3 : lessD y.1 x.1 with
      | true => rw [lessD_trans _ _ _ h3 h] at h2; cases h2
      | false =>
        have e := lessD_total _ _ x.2 y.2 h1 h3
        rw [e] at h
        rw [h] at h2; cases h2
end Ev
