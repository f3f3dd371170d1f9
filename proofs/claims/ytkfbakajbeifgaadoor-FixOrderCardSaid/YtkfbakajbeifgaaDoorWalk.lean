/- Walks through what two fixities are compared by; the contracts of slices.SortFunc, slices.Grow, strings.IndexByte at this seat. No statement of its own about the program. -/
import Derived.Test.YtkfbakajbeifgaaDoorEvJ
import Derived.Test.YtkfbakajbeifgaaDoorProg
import Derived.Test.YtkfbakajbeifgaaDoorSlp
import Derived.Sort.Grow
import Derived.Shelf.Strings.Builder1
import Derived.KernelRfl
namespace Ev
open Go Go.Shelf Go.RowKit Go.Proofs Go.Sort

set_option maxHeartbeats 1000000 in
set_option maxRecDepth 100000 in
theorem isnan_at (s : ByteArray) (W : World) : Calls Tryd.prog 47 #[.string s] W fun e w' => e = .returned (.bool false) ∧ w' = W := by
  go_enter Tryd.func47, Tryd.ntmps47
  go_wp2
  go_ret
  exact ⟨rfl, rfl⟩

theorem run_gtrS {P : Program} (t : TypeId) (a b : ByteArray) (w : World) : (binOp .gtr t (.string a) (.string b)).run P w = .ok (.bool (!(Op.bytesLess a.toList b.toList || a.toList == b.toList))) w := by
  simp [binOp, Op.stringOp, pure]

/-- How two texts compare. -/
def cmpS (s t : ByteArray) : Int := bif Op.bytesLess s.toList t.toList then -1 else bif !(Op.bytesLess s.toList t.toList || s.toList == t.toList) then 1 else 0

set_option maxHeartbeats 1000000 in
set_option maxRecDepth 100000 in
theorem cmps_at (s t : ByteArray) (W : World) : Calls Tryd.prog 33 #[.string s, .string t] W fun e w' => e = .returned (.int .i64 (cmpS s t)) ∧ w' = W := by
  have h := isnan_at
  unfold cmpS
  go_enter Tryd.func33, Tryd.ntmps33
  go_wp2_with (go_at_call 47; refine (h _ _).mono ?_; rintro e w' ⟨rfl, rfl⟩)
  · go_ret
    rename_i e1
    exact ⟨by rw [e1]; rfl, rfl⟩
  · rename_i e1 _ _ _ _ _ _
    rw [run_gtrS]
    simp only [Result.andThen]
    rw [Oper.upon_value]
    generalize hg : (!(Op.bytesLess s.toList t.toList || s.toList == t.toList)) = g
    go_wp2
    · go_ret
      rename_i e2
      rw [e2, e1] at hg
      exact ⟨by rw [e1, hg]; rfl, rfl⟩
    · go_ret
      rename_i e2
      rw [e2, e1] at hg
      exact ⟨by rw [e1, hg]; rfl, rfl⟩

theorem growTwo (W : World) (a b : Go.Obj) : (W.alloc a).alloc b = grow (W.drewN 0) #[a, b] := by
  simp only [alloc_eq_grow, grow_grow]
  rfl

set_option maxHeartbeats 1000000 in
set_option maxRecDepth 100000 in
theorem compare_at (n m p q : Int) (s t : ByteArray) (W : World) : Calls Tryd.prog 32 #[.agg #[.string s, .int .i64 n, .int .i64 m], .agg #[.string t, .int .i64 p, .int .i64 q]] W fun e w' => e = .returned (.int .i64 (cmpS s t)) ∧ ∃ q os', w' = grow (W.drewN q) os' := by
  have h := cmps_at
  generalize cmpS = f at h ⊢
  go_enter Tryd.func32, Tryd.ntmps32
  go_wp2_with (go_at_call 33; refine (h _ _ _).mono ?_; rintro e w' ⟨rfl, rfl⟩)
  go_ret
  exact ⟨rfl, 0, _, growTwo _ _ _⟩
end Ev
namespace Ev
open Go Go.Shelf Go.RowKit Go.Proofs Go.Sort

abbrev tyFix : Ty := .st (.pair .str (.pair (.int .i64) (.int .i64)))
abbrev FT (m : List Fix1) := {x : Fix1 // x ∈ m}
def bytesOf (l : List Int) : ByteArray := ⟨(l.map fun b => UInt8.ofNat b.toNat).toArray⟩
def encF (x : Fix1) : List Value := [.string (bytesOf x.1), .int .i64 x.2.1, .int .i64 x.2.2]

theorem bytesOf_back (l : List Int) (h : ∀ b, b ∈ l → 0 ≤ b ∧ b ≤ 255) : (bytesOf l).data.toList.map (fun b => (b.toNat : Int)) = l := by
  show (l.map fun b => UInt8.ofNat b.toNat).map (fun b => (b.toNat : Int)) = l
  rw [List.map_map]
  induction l with
  | nil => rfl
  | cons a l ih =>
    rw [List.map_cons, ih fun b hb => h b (List.mem_cons_of_mem _ hb)]
    obtain ⟨h0, h1⟩ := h a (List.mem_cons_self ..)
    congr 1
    show ((UInt8.ofNat a.toNat).toNat : Int) = a
    rw [UInt8.toNat_ofNat', Nat.mod_eq_of_lt (by omega)]
    omega

theorem bytesOf_of (s : ByteArray) : bytesOf (s.data.toList.map fun b => (b.toNat : Int)) = s := bytesB_of s

theorem relF (imm : Nat → Prop) (w : World) (x : Fix1) (hx : goodF x = true) (cs : List Value) : relC imm w tyFix x cs ↔ cs = encF x := by
  obtain ⟨s, n, m⟩ := x
  obtain ⟨h5, h6, ⟨h3, h4⟩, h7, h8⟩ := goodF_iff hx
  constructor
  · rintro ⟨c1, d1, e1, ⟨t, e3, h1, h2⟩, c2, d2, e2, g2, g3⟩
    have h1 : t.data.toList.map (fun b => (b.toNat : Int)) = s := h1
    obtain ⟨g2, _⟩ := g2
    have g2 : c2 = [.int .i64 n] := g2
    obtain ⟨g3, _⟩ := g3
    have g3 : d2 = [.int .i64 m] := g3
    subst e1 e2 e3 h1 g2 g3
    show _ = [Value.string (bytesOf _), _, _]
    rw [bytesOf_of]; rfl
  · intro e
    subst e
    refine ⟨[.string (bytesOf s)], _, rfl, ⟨bytesOf s, rfl, bytesOf_back s h5, ?_⟩, [.int .i64 n], _, rfl, ⟨rfl, h3, h4⟩, rfl, h7, h8⟩
    show (s.map fun b => UInt8.ofNat b.toNat).toArray.size ≤ _
    simpa [maxL] using h6

def cfF (m : List Fix1) (x y : FT m) : Int := cmpS (bytesOf x.1.1) (bytesOf y.1.1)
theorem ltOf_cf {m : List Fix1} (hm : ∀ x, x ∈ m → goodF x = true) (x y : FT m) : ltOf (cfF m) x y = lessF x.1 y.1 := by
  have hs := bytesOf_back x.1.1 (goodF_iff (hm _ x.2)).1
  have ht := bytesOf_back y.1.1 (goodF_iff (hm _ y.2)).1
  have h := strLt_map (bytesOf x.1.1).data.toList (bytesOf y.1.1).data.toList
  rw [hs, ht] at h
  unfold ltOf cfF cmpS lessF
  rw [h, ByteArray.toList_eq, ByteArray.toList_eq]
  cases Op.bytesLess (bytesOf x.1.1).data.toList (bytesOf y.1.1).data.toList <;> cases ((bytesOf x.1.1).data.toList == (bytesOf y.1.1).data.toList) <;> rfl

theorem swoF {m : List Fix1} (hm : ∀ x, x ∈ m → goodF x = true) : Go.Sort.SWO (ltOf (cfF m)) where
  irrefl x := by rw [ltOf_cf hm]; exact strLt_irrefl _
  trans x y z h1 h2 := by rw [ltOf_cf hm] at *; exact strLt_trans _ _ _ h1 h2
  ntrans x y z h1 h2 := by
    rw [ltOf_cf hm] at *
    unfold lessF at *
    cases h : strLt x.1.1 z.1.1 with
    | false => rfl
    | true =>
      exfalso
      cases h3 : strLt y.1.1 x.1.1 with
      | true => rw [strLt_trans _ _ _ h3 h] at h2; cases h2
      | false =>
        have e := strLt_total _ _ h1 h3
        rw [e] at h
        rw [h] at h2; cases h2
end Ev
