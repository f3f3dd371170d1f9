/- Layer 4 in plain words: one more fixity; the laws of Set, Climb, Flat, of rows, of order. No statement of its own about the program. -/
import Derived.Test.YtkfbakajbeifgaaDoorPlainB
namespace Ev
open Go
namespace Fn

/-! Rows, fixities that are the same, and few of them. -/
theorem eqS_iff {a b : List Int} : eqS a b = true ↔ a = b := by simp [eqS]
theorem eqB_self (a : Bool) : eqB a a = true := by cases a <;> rfl
theorem eqS_self (a : List Int) : eqS a a = true := eqS_iff.2 rfl

theorem row_loop (b1 b2 : Bool) (l : List Int) (hl : l.length ≤ 1000000) : ∀ (m k : Nat), k + m = l.length → loopR l1_ref02_Row (⟨b1, l⟩, ⟨b2, l⟩, (k : Int), ()) = some (true, ()) := by
  intro m
  induction m with
  | zero =>
    intro k hk
    refine loopR_inr ?_
    unfold l1_ref02_Row
    simp only
    rw [cnd_lt, if_neg (by unfold lenI; omega)]
  | succ m ih =>
    intro k hk
    have hlt : k < l.length := by omega
    have step : l1_ref02_Row (⟨b1, l⟩, ⟨b2, l⟩, (k : Int), ()) = some (.inl (⟨b1, l⟩, ⟨b2, l⟩, ((k + 1 : Nat) : Int), ())) := by
      unfold l1_ref02_Row
      simp only
      rw [cnd_lt, if_pos (by unfold lenI; omega), at?_nat (List.getElem?_eq_getElem hlt), bnd_some_eq, bnd_some_eq, eqI_self, add1 (by omega)]
      rfl
    rw [loopR_inl step, ih (k + 1) (by omega)]
theorem row_same (b1 b2 : Bool) (l : List Int) (hl : l.length ≤ 1000000) : f_ref02_Row (⟨b1, l⟩, ⟨b2, l⟩, ()) = some (true, ()) := by
  rw [u_ref02_Row, eqI_self]
  exact row_loop b1 b2 l hl l.length 0 (by omega)

theorem same_loop (b1 b2 : Bool) (l : List Fix1) (hl : l.length ≤ 1000000) : ∀ (m k : Nat), k + m = l.length → loopR l1_ref04_Same (⟨b1, l⟩, ⟨b2, l⟩, (k : Int), ()) = some (true, ()) := by
  intro m
  induction m with
  | zero =>
    intro k hk
    refine loopR_inr ?_
    unfold l1_ref04_Same
    simp only
    rw [cnd_lt, if_neg (by unfold lenI; omega)]
  | succ m ih =>
    intro k hk
    have hlt : k < l.length := by omega
    have step : l1_ref04_Same (⟨b1, l⟩, ⟨b2, l⟩, (k : Int), ()) = some (.inl (⟨b1, l⟩, ⟨b2, l⟩, ((k + 1 : Nat) : Int), ())) := by
      unfold l1_ref04_Same
      simp only
      rw [cnd_lt, if_pos (by unfold lenI; omega), at?_nat (List.getElem?_eq_getElem hlt), bnd_some_eq, bnd_some_eq, eqI_self, eqI_self, eqS_self, add1 (by omega)]
      rfl
    rw [loopR_inl step, ih (k + 1) (by omega)]
theorem same_spec (b1 b2 : Bool) (l : List Fix1) (hl : l.length ≤ 1000000) : f_ref04_Same (⟨b1, l⟩, ⟨b2, l⟩, ()) = some (true, ()) := by
  rw [u_ref04_Same, eqI_self]
  exact same_loop b1 b2 l hl l.length 0 (by omega)


theorem few1_loop (n1 n2 : Bool) (l : List Fix1) (ops : List (List Int)) : ∀ (m k : Nat), k + m = ops.length → ∃ r,
    loopR l1_law04_few (⟨n1, l⟩, ⟨n2, ops⟩, (k : Int), ()) = some (.inr (r, ())) ∧ (r = true → (∀ s, s ∈ ops.drop k → k ≤ 420 → s.length ≤ 100) ∧ l.length ≤ 420 ∧ ops.length ≤ 420) := by
  intro m
  induction m with
  | zero =>
    intro k hk
    have c0 : ltI (k : Int) (lenI ops) = false := decide_eq_false (by unfold lenI; omega)
    refine ⟨_, loopR_inr (by unfold l1_law04_few; simp only; rw [c0]; simp only [cnd_false, bnd_some_eq]; rw [show ∀ x y : Bool, cnd x (some y) (some false) = some (x && y) from fun x y => by cases x <;> rfl, bnd_some_eq]), fun h => ?_⟩
    simp only [Bool.and_eq_true] at h
    have h1 : (l.length : Int) ≤ 420 := of_decide_eq_true h.1
    have h2 : (ops.length : Int) ≤ 420 := of_decide_eq_true h.2
    exact ⟨(fun s hs => by rw [List.drop_eq_nil_of_le (by omega)] at hs; cases hs), by omega, by omega⟩
  | succ m ih =>
    intro k hk
    have hlt : k < ops.length := by omega
    have c0 : ltI (k : Int) (lenI ops) = true := decide_eq_true (by unfold lenI; omega)
    by_cases hk4 : k < 420
    · have c1 : ltI (k : Int) 420 = true := decide_eq_true (by omega)
      by_cases hb : 100 < ops[k].length
      · refine ⟨false, loopR_inr ?_, fun h => by cases h⟩
        unfold l1_law04_few
        simp only
        rw [c0]
        simp only [cnd_true, bnd_some_eq, c1, at?_nat (List.getElem?_eq_getElem hlt)]
        rw [cnd_lt, if_pos (by unfold lenI; omega)]
      · have step : l1_law04_few (⟨n1, l⟩, ⟨n2, ops⟩, (k : Int), ()) = some (.inl (⟨n1, l⟩, ⟨n2, ops⟩, ((k + 1 : Nat) : Int), ())) := by
          unfold l1_law04_few
          simp only
          rw [c0]
          simp only [cnd_true, bnd_some_eq, c1, at?_nat (List.getElem?_eq_getElem hlt)]
          rw [cnd_lt, if_neg (by unfold lenI; omega), add1 (by omega)]
        obtain ⟨r, h1, h2⟩ := ih (k + 1) (by omega)
        refine ⟨r, by rw [loopR_inl step, h1], fun h => ?_⟩
        obtain ⟨h3, h4, h5⟩ := h2 h
        refine ⟨fun s hs hk => ?_, h4, h5⟩
        rw [drop_cons hlt] at hs
        rcases List.mem_cons.1 hs with rfl | hs
        · omega
        · exact h3 s hs (by omega)
    · have c1 : ltI (k : Int) 420 = false := decide_eq_false (by omega)
      refine ⟨_, loopR_inr (by unfold l1_law04_few; simp only; rw [c0]; simp only [cnd_true, c1, cnd_false, bnd_some_eq]; rw [show ∀ x y : Bool, cnd x (some y) (some false) = some (x && y) from fun x y => by cases x <;> rfl, bnd_some_eq]), fun h => ?_⟩
      simp only [Bool.and_eq_true] at h
      have h1 : (l.length : Int) ≤ 420 := of_decide_eq_true h.1
      have h2 : (ops.length : Int) ≤ 420 := of_decide_eq_true h.2
      omega

theorem few2_loop (n1 n2 : Bool) (l : List Fix1) (ops : List (List Int)) : ∀ (m k : Nat), k + m = l.length → ∃ r,
    loopR l2_law04_few (⟨n1, l⟩, ⟨n2, ops⟩, (k : Int), ()) = some (r, ()) ∧ (r = true → (∀ x, x ∈ l.drop k → k ≤ 420 → x.1.length ≤ 100) ∧ (∀ s, s ∈ ops → s.length ≤ 100) ∧ l.length ≤ 420 ∧ ops.length ≤ 420) := by
  intro m
  obtain ⟨r0, g1, g2⟩ := few1_loop n1 n2 l ops ops.length 0 (by omega)
  have g1 : loopR l1_law04_few (⟨n1, l⟩, ⟨n2, ops⟩, 0, ()) = _ := g1
  induction m with
  | zero =>
    intro k hk
    have c0 : ltI (k : Int) (lenI l) = false := decide_eq_false (by unfold lenI; omega)
    refine ⟨r0, loopR_inr (by unfold l2_law04_few; simp only; rw [c0]; simp only [cnd_false, bnd_some_eq]; exact g1), fun h => ?_⟩
    obtain ⟨h1, h2, h3⟩ := g2 h
    exact ⟨(fun s hs => by rw [List.drop_eq_nil_of_le (by omega)] at hs; cases hs), fun s hs => h1 s hs (Nat.zero_le _), h2, h3⟩
  | succ m ih =>
    intro k hk
    have hlt : k < l.length := by omega
    have c0 : ltI (k : Int) (lenI l) = true := decide_eq_true (by unfold lenI; omega)
    by_cases hk4 : k < 420
    · have c1 : ltI (k : Int) 420 = true := decide_eq_true (by omega)
      by_cases hb : 100 < l[k].1.length
      · refine ⟨false, loopR_inr ?_, fun h => by cases h⟩
        unfold l2_law04_few
        simp only
        rw [c0]
        simp only [cnd_true, bnd_some_eq, c1, at?_nat (List.getElem?_eq_getElem hlt)]
        rw [cnd_lt, if_pos (by unfold lenI; omega)]
      · have step : l2_law04_few (⟨n1, l⟩, ⟨n2, ops⟩, (k : Int), ()) = some (.inl (⟨n1, l⟩, ⟨n2, ops⟩, ((k + 1 : Nat) : Int), ())) := by
          unfold l2_law04_few
          simp only
          rw [c0]
          simp only [cnd_true, bnd_some_eq, c1, at?_nat (List.getElem?_eq_getElem hlt)]
          rw [cnd_lt, if_neg (by unfold lenI; omega), add1 (by omega)]
        obtain ⟨r, h1, h2⟩ := ih (k + 1) (by omega)
        refine ⟨r, by rw [loopR_inl step, h1], fun h => ?_⟩
        obtain ⟨h3, h4, h5⟩ := h2 h
        refine ⟨fun s hs hk => ?_, h4, h5⟩
        rw [drop_cons hlt] at hs
        rcases List.mem_cons.1 hs with rfl | hs
        · omega
        · exact h3 s hs (by omega)
    · have c1 : ltI (k : Int) 420 = false := decide_eq_false (by omega)
      refine ⟨r0, loopR_inr (by unfold l2_law04_few; simp only; rw [c0]; simp only [cnd_true, c1, cnd_false, bnd_some_eq]; exact g1), fun h => ?_⟩
      obtain ⟨h1, h2, h3⟩ := g2 h
      omega

theorem few_spec (n1 n2 : Bool) (l : List Fix1) (ops : List (List Int)) : ∃ r, f_law04_few (⟨n1, l⟩, ⟨n2, ops⟩, ()) = some (r, ()) ∧
    (r = true → (∀ x, x ∈ l → x.1.length ≤ 100) ∧ (∀ s, s ∈ ops → s.length ≤ 100) ∧ l.length ≤ 420 ∧ ops.length ≤ 420) := by
  obtain ⟨r, h1, h2⟩ := few2_loop n1 n2 l ops l.length 0 (by omega)
  refine ⟨r, by rw [u_law04_few]; exact h1, fun h => ?_⟩
  obtain ⟨h3, h4, h5⟩ := h2 h
  exact ⟨fun x hx => h3 x hx (Nat.zero_le _), h4, h5⟩

theorem own_spec (n : Bool) {l : List Fix1} (h : l.length ≤ 1000000) : f_law04_own (⟨n, l⟩, ()) = some (⟨false, l⟩, ()) := by
  rw [u_law04_own, fit_ok (by simp only [sumI, lenI, List.length_nil]; omega), bnd_some_eq]
  rfl

theorem gL_of {l : List Fix1} (hg : ∀ x, x ∈ l → gF x) (h1 : ∀ x, x ∈ l → x.1.length ≤ 100) (h2 : l.length ≤ 420) : gL l :=
  ⟨hg, fun x hx => by have := h1 x hx; omega, by omega⟩
end Fn
end Ev
namespace Ev
open Go
namespace Fn

/-! One more fixity. -/
def delF (l : List Fix1) (op : List Int) : List Fix1 := l.filter fun x => !eqS x.1 op
def leF (a b : Fix1) : Bool := !lessF b a
def sortF (l : List Fix1) : List Fix1 := l.mergeSort fun a b => !lessF b a
def setF (l : List Fix1) (f : Fix1) : List Fix1 × Int :=
  if checkF l ≠ 0 then ([], checkF l) else if rightF f = false ∨ (delF l f.1).length = 400 then ([], 40) else (sortF (delF l f.1 ++ [f]), 0)

theorem set1 (x f : Fix1) : f_fix_Set_1 (x, f, ()) = some (eqS x.1 f.1, ()) := u_fix_Set_1 x.1 x.2.1 x.2.2 f.1 f.2.1 f.2.2

theorem idx3_loop (n : Bool) (l : List Fix1) (f : Fix1) (hl : l.length ≤ 1000000) : ∀ (m k : Nat), k + m = l.length → (∀ x, x ∈ l.take k → eqS x.1 f.1 = false) →
    ∃ r, loopR l1_slices_IndexFunc_v3 (⟨n, l⟩, f, (l.length : Int), (k : Int), ()) = some (r, ()) ∧ ((r = -1 ∧ ∀ x, x ∈ l → eqS x.1 f.1 = false) ∨ ∃ (j : Nat) (x : Fix1), r = (j : Int) ∧ l[j]? = some x ∧ eqS x.1 f.1 = true ∧ ∀ x, x ∈ l.take j → eqS x.1 f.1 = false) := by
  intro m
  induction m with
  | zero =>
    intro k hk ha
    refine ⟨-1, loopR_inr ?_, .inl ⟨rfl, fun x hx => ha x (by rw [List.take_of_length_le (by omega)]; exact hx)⟩⟩
    unfold l1_slices_IndexFunc_v3
    simp only
    rw [cnd_lt, if_neg (by omega)]
  | succ m ih =>
    intro k hk ha
    have hlt : k < l.length := by omega
    have step : l1_slices_IndexFunc_v3 (⟨n, l⟩, f, (l.length : Int), (k : Int), ()) = cnd (eqS l[k].1 f.1) (some (.inr ((k : Int), ()))) (some (.inl (⟨n, l⟩, f, (l.length : Int), ((k + 1 : Nat) : Int), ()))) := by
      unfold l1_slices_IndexFunc_v3
      simp only
      rw [cnd_lt, if_pos (by omega), at?_nat (List.getElem?_eq_getElem hlt), bnd_some_eq, set1, bnd_some_eq, add1 (by omega)]
    cases h : eqS l[k].1 f.1 with
    | true =>
      rw [h, cnd_true] at step
      exact ⟨k, loopR_inr step, .inr ⟨k, l[k], rfl, List.getElem?_eq_getElem hlt, h, ha⟩⟩
    | false =>
      rw [h, cnd_false] at step
      obtain ⟨r, h1, h2⟩ := ih (k + 1) (by omega) (fun x hx => by
        rw [List.take_add_one, List.getElem?_eq_getElem hlt] at hx
        rcases List.mem_append.1 hx with hx | hx
        · exact ha x hx
        · have : x = l[k] := by simpa using hx
          rw [this]; exact h)
      exact ⟨r, by rw [loopR_inl step, h1], h2⟩

theorem delF_none {l : List Fix1} {op : List Int} (h : ∀ x, x ∈ l → eqS x.1 op = false) : delF l op = l := by
  unfold delF
  rw [List.filter_eq_self]
  intro x hx
  rw [h x hx]
  rfl
theorem delF_take {l : List Fix1} {op : List Int} {j : Nat} {x : Fix1} (h : l[j]? = some x) : delF (l.take (j + 1)) op = delF (l.take j) op ++ (if eqS x.1 op = true then [] else [x]) := by
  unfold delF
  rw [List.take_add_one, h, List.filter_append]
  congr 1
  cases hx : eqS x.1 op <;> simp [hx]

theorem del_loop (f : Fix1) (b : Bool) (l : List Fix1) (hl : l.length ≤ 1000000) : ∀ (m j i : Nat) (a : List Fix1), j + m = l.length → a.length = l.length → i ≤ j → a.take i = delF (l.take j) f.1 → a.drop j = l.drop j →
    loopR l1_slices_DeleteFunc (f, (i : Int), (j : Int), ⟨b, a⟩, ()) = some (⟨b, delF l f.1⟩, ()) := by
  intro m
  induction m with
  | zero =>
    intro j i a hj ha hi h1 h2
    refine loopR_inr ?_
    unfold l1_slices_DeleteFunc
    simp only
    have c1 : cutN (lenI a) (i : Int) = some i := by
      unfold cutN lenI
      rw [if_pos (by omega)]
      simp
    have lz : (zerL a (i : Int) (([] : List Int), (0 : Int), (0 : Int))).length = a.length := by
      unfold zerL
      rw [List.length_append, List.length_take, List.length_replicate, Int.toNat_natCast]
      omega
    have c2 : cutN (lenI (zerL a (i : Int) (([] : List Int), (0 : Int), (0 : Int)))) (i : Int) = some i := by
      unfold cutN lenI
      rw [lz, if_pos (by omega)]
      simp
    have tz : takeL (zerL a (i : Int) (([] : List Int), (0 : Int), (0 : Int))) i = a.take i := by
      unfold takeL zerL
      rw [Int.toNat_natCast, List.take_append_of_le_length (by rw [List.length_take]; omega), List.take_take, Nat.min_self]
    rw [cnd_lt, if_neg (by unfold lenI; omega), c1, bnd_some_eq, c2, bnd_some_eq, tz, h1, List.take_of_length_le (by omega)]
  | succ m ih =>
    intro j i a hj ha hi h1 h2
    have hlt : j < l.length := by omega
    have hx : a[j]? = some l[j] := by
      have := congrArg (fun z : List Fix1 => z[0]?) h2
      simp only [List.getElem?_drop, Nat.add_zero] at this
      rw [this, List.getElem?_eq_getElem hlt]
    have hd : a.drop (j + 1) = l.drop (j + 1) := by
      rw [← List.drop_drop, ← List.drop_drop, h2]
    have dt := delF_take (op := f.1) (List.getElem?_eq_getElem hlt)
    have step : l1_slices_DeleteFunc (f, (i : Int), (j : Int), ⟨b, a⟩, ()) = if eqS l[j].1 f.1 = true then some (.inl (f, (i : Int), ((j + 1 : Nat) : Int), ⟨b, a⟩, ())) else some (.inl (f, ((i + 1 : Nat) : Int), ((j + 1 : Nat) : Int), ⟨b, a.set i l[j]⟩, ())) := by
      unfold l1_slices_DeleteFunc
      simp only
      have g : f_fix_Set_1 ((l[j].1, l[j].2.1, l[j].2.2), f, ()) = some (eqS l[j].1 f.1, ()) := set1 _ _
      have oi : okAt a (i : Int) = some i := okAt_nat (by omega)
      have ni : nth a i = some (a[i]'(by omega)) := nth_of (List.getElem?_eq_getElem (by omega))
      rw [cnd_lt, if_pos (by unfold lenI; omega), okAt_nat (by omega : j < a.length), bnd_some_eq, nth_of hx, bnd_some_eq, g, bnd_some_eq, oi, bnd_some_eq, ni, bnd_some_eq, bnd_some_eq]
      cases eqS l[j].1 f.1 with
      | true =>
        rw [if_pos rfl]
        show bnd (cnd (notB true) _ _) _ = _
        simp only [notB, Bool.not_true, cnd_false, bnd_some_eq]
        rw [add1 (by omega)]
      | false =>
        rw [if_neg (by decide)]
        show bnd (cnd (notB false) _ _) _ = _
        simp only [notB, Bool.not_false, cnd_true, bnd_some_eq]
        rw [add1 (by omega), add1 (by omega)]
        rfl
    cases he : eqS l[j].1 f.1 with
    | true =>
      rw [he, if_pos rfl] at step dt
      rw [loopR_inl step]
      exact ih (j + 1) i a (by omega) ha (by omega) (by rw [h1, dt, List.append_nil]) hd
    | false =>
      rw [he, if_neg (by decide)] at step dt
      rw [loopR_inl step]
      refine ih (j + 1) (i + 1) _ (by omega) (by rw [List.length_set]; exact ha) (by omega) ?_ ?_
      · rw [dt, ← h1, List.take_add_one, List.getElem?_set_self (by omega), List.take_set_of_le (by omega)]
        rfl
      · rw [List.drop_set_of_lt (by omega)]
        exact hd

theorem del_spec (n : Bool) (f : Fix1) (l : List Fix1) (hl : l.length ≤ 1000000) : f_slices_DeleteFunc (f, ⟨n, l⟩, ()) = some (⟨n, delF l f.1⟩, ()) := by
  obtain ⟨r, h1, h2⟩ := idx3_loop n l f hl l.length 0 (by omega) (fun x hx => by rw [List.take_zero] at hx; cases hx)
  have h1 : loopR l1_slices_IndexFunc_v3 (⟨n, l⟩, f, lenI l, 0, ()) = some (r, ()) := h1
  have e : f_slices_DeleteFunc (f, ⟨n, l⟩, ()) = _ := u_slices_DeleteFunc f.1 f.2.1 f.2.2 ⟨n, l⟩
  have e2 : f_slices_IndexFunc_v3 (⟨n, l⟩, f, ()) = _ := u_slices_IndexFunc_v3 ⟨n, l⟩ f.1 f.2.1 f.2.2
  rw [e, e2, h1, bnd_some_eq]
  rcases h2 with ⟨rfl, h2⟩ | ⟨j, x, rfl, h3, h4, h5⟩
  · rw [eqI_self, cnd_true, delF_none h2]
  · have hj : j < l.length := by
      rcases Nat.lt_or_ge j l.length with h | h
      · exact h
      · rw [List.getElem?_eq_none h] at h3; cases h3
    rw [eqI_ne (by omega), cnd_false, add1 (by omega)]
    refine del_loop f n l hl (l.length - (j + 1)) (j + 1) j l (by omega) rfl (by omega) ?_ rfl
    rw [delF_take h3, if_pos h4, List.append_nil, delF_none h5]

theorem delF_len (l : List Fix1) (op : List Int) : (delF l op).length ≤ l.length := List.length_filter_le ..
theorem delF_mem {l : List Fix1} {op : List Int} {x : Fix1} : x ∈ delF l op ↔ x ∈ l ∧ x.1 ≠ op := by
  unfold delF
  rw [List.mem_filter]
  have : (!eqS x.1 op) = true ↔ x.1 ≠ op := by
    rw [Bool.not_eq_true', ← Bool.not_eq_true, eqS_iff]
  rw [this]

theorem gF_good {x : Fix1} (h : gF x) : goodF x = true := by
  unfold goodF
  simp only [Bool.and_eq_true, decide_eq_true_eq, List.all_eq_true]
  exact ⟨⟨⟨h.1, h.2.1⟩, h.2.2.1⟩, h.2.2.2⟩

/-- Operators that are all different, and one more. -/
theorem new_pair {l : List Fix1} (hp : l.Pairwise fun x y => x.1 ≠ y.1) (f : Fix1) : (delF l f.1 ++ [f]).Pairwise fun x y => x.1 ≠ y.1 := by
  rw [List.pairwise_append]
  refine ⟨hp.sublist List.filter_sublist, List.pairwise_singleton .., fun x hx y hy => ?_⟩
  rw [List.mem_singleton.1 hy]
  exact (delF_mem.1 hx).2

theorem pair_uniq {l : List Fix1} (hp : l.Pairwise fun x y => x.1 ≠ y.1) {x y : Fix1} (hx : x ∈ l) (hy : y ∈ l) (e : x.1 = y.1) : x = y := by
  induction hp with
  | nil => cases hx
  | cons h1 _ ih =>
    rcases List.mem_cons.1 hx with ex | hx
    · rcases List.mem_cons.1 hy with ey | hy
      · rw [ex, ey]
      · rw [ex] at e; exact absurd e (h1 _ hy)
    · rcases List.mem_cons.1 hy with ey | hy
      · rw [ey] at e; exact absurd e.symm (h1 _ hx)
      · exact ih hx hy

theorem uniqF_of {l : List Fix1} (hp : l.Pairwise fun x y => x.1 ≠ y.1) : uniqF l = true := by
  unfold uniqF
  rw [List.all_eq_true]
  intro x hx
  rw [List.all_eq_true]
  intro y hy
  by_cases e : x.1 = y.1
  · rw [pair_uniq hp hx hy e]; simp
  · simp [e]

theorem set_spec (n : Bool) {l : List Fix1} (h : gL l) (hn : n = true → l = []) (f : Fix1) (hf : gF f) (hl : f.1.length ≤ 1000000) :
    ∃ q, f_fix_Set (⟨n, l⟩, f, ()) = some (⟨q, (setF l f).1⟩, (setF l f).2, ()) ∧ (q = true → (setF l f).1 = []) := by
  have e : f_fix_Set (⟨n, l⟩, f, ()) = _ := u_fix_Set ⟨n, l⟩ f.1 f.2.1 f.2.2
  rw [e, check_spec n h, bnd_some_eq]
  unfold setF
  by_cases hc : checkF l = 0
  · have e0 : notB (eqI (checkF l) 0) = false := by rw [hc]; rfl
    simp only [e0, cnd_false]
    rw [if_neg (by simpa using hc)]
    obtain ⟨k1, k2, k3⟩ := check_ok hc
    have hcl : ∃ q, f_slices_Clone (⟨n, l⟩, ()) = some (⟨q, l⟩, ()) := by
      rw [u_slices_Clone]
      cases hnl : n with
      | true => rw [cnd_true, hn hnl]; exact ⟨_, rfl⟩
      | false => rw [cnd_false, fit_ok (by simp only [sumI, lenI, List.length_nil]; omega), bnd_some_eq]; exact ⟨_, rfl⟩
    obtain ⟨q, hcl⟩ := hcl
    have hr : f_fix_Right ((f.1, f.2.1, f.2.2), ()) = some (rightF f, ()) := right_spec f hf hl
    have hd : f_slices_DeleteFunc ((f.1, f.2.1, f.2.2), ⟨q, l⟩, ()) = some (⟨q, delF l f.1⟩, ()) := del_spec q f l (by omega)
    have dl := delF_len l f.1
    rw [hcl, bnd_some_eq, hd, bnd_some_eq, hr, bnd_some_eq]
    by_cases hrf : rightF f = false ∨ (delF l f.1).length = 400
    · rw [if_pos hrf]
      refine ⟨true, ?_, fun _ => rfl⟩
      have : bnd (cnd (notB (rightF f)) (some true) (some (eqI (lenI (delF l f.1)) 400))) = fun g : Bool → Option (Sl Fix1 × Int × Unit) => g true := by
        funext g
        cases hrt : rightF f with
        | false => rfl
        | true =>
          rcases hrf with hrf | hrf
          · rw [hrt] at hrf; cases hrf
          · simp only [notB, Bool.not_true, cnd_false, bnd_some_eq]
            rw [show eqI (lenI (delF l f.1)) 400 = true by unfold lenI; rw [hrf]; rfl]
      rw [this]
      rfl
    · rw [if_neg hrf]
      have h1 : rightF f = true := by
        cases hh : rightF f with
        | true => rfl
        | false => exact absurd (.inl hh) hrf
      have h2 : (delF l f.1).length ≠ 400 := fun hh => hrf (.inr hh)
      have h3 : eqI (lenI (delF l f.1)) 400 = false := eqI_ne (by unfold lenI; omega)
      have np := new_pair (dup_pair.1 k3) f
      have hs : f_slices_SortFunc (⟨andB q (isE [(f.1, f.2.1, f.2.2)]), app (delF l f.1) [(f.1, f.2.1, f.2.2)]⟩, ()) = some (⟨andB q false, sortF (delF l f.1 ++ [f])⟩, ()) := by
        unfold f_slices_SortFunc
        have g1 : (app (delF l f.1) [(f.1, f.2.1, f.2.2)]).all goodF = true := by
          rw [List.all_eq_true]
          intro x hx
          rcases List.mem_append.1 hx with hx | hx
          · exact gF_good (h.1 x (delF_mem.1 hx).1)
          · rw [List.mem_singleton.1 hx]; exact gF_good hf
        have g2 : uniqF (app (delF l f.1) [(f.1, f.2.1, f.2.2)]) = true := uniqF_of np
        have g3 : decide ((app (delF l f.1) [(f.1, f.2.1, f.2.2)]).length < 4611686018427387904) = true := decide_eq_true (by
          show (delF l f.1 ++ [_]).length < _
          rw [List.length_append, List.length_singleton]; omega)
        simp only [g1, g2, g3]
        rfl
      refine ⟨andB q false, ?_, fun hh => by cases q <;> cases hh⟩
      rw [h1]
      simp only [notB, Bool.not_true, cnd_false, bnd_some_eq, h3]
      rw [fit_ok (by unfold sumI lenI; simp only [List.length_singleton]; omega), bnd_some_eq, hs]
      rfl
  · have e0 : notB (eqI (checkF l) 0) = true := by rw [eqI_ne hc]; rfl
    simp only [e0, cnd_true]
    rw [if_pos hc]
    exact ⟨true, rfl, fun _ => rfl⟩
end Fn
end Ev
namespace Ev
open Go
namespace Fn

/-! One more fixity, by the document. -/
theorem lessF_asymm {a b : Fix1} (h : lessF a b = true) : lessF b a = false := by
  cases h2 : lessF b a with
  | false => rfl
  | true =>
    have := strLt_trans _ _ _ h h2
    rw [strLt_irrefl] at this
    cases this
theorem lessF_ntrans (a b c : Fix1) (h1 : lessF a b = false) (h2 : lessF b c = false) : lessF a c = false := by
  cases h : lessF a c with
  | false => rfl
  | true =>
    exfalso
    have h3 : lessF c a = false := lessF_asymm h
    unfold lessF at h1 h2 h h3
    have h4 : strLt b.1 a.1 = false ∨ strLt b.1 a.1 = true := by cases strLt b.1 a.1 <;> simp
    rcases h4 with h4 | h4
    · rw [strLt_total _ _ h1 h4] at h
      rw [h2] at h; cases h
    · have := strLt_trans _ _ _ h4 h
      rw [h2] at this; cases this
def strictF (l : List Fix1) : Prop := l.Pairwise fun a b => lessF a b = true
theorem strictF_unique : ∀ (l m : List Fix1), strictF l → strictF m → (∀ x, x ∈ l ↔ x ∈ m) → l = m
  | [], [], _, _, _ => rfl
  | [], y :: m, _, _, h => by have := (h y).2 (List.mem_cons_self ..); cases this
  | x :: l, [], _, _, h => by have := (h x).1 (List.mem_cons_self ..); cases this
  | x :: l, y :: m, h1, h2, h => by
    obtain ⟨a1, a2⟩ := List.pairwise_cons.1 h1
    obtain ⟨b1, b2⟩ := List.pairwise_cons.1 h2
    have e : x = y := by
      have hx := (h x).1 (List.mem_cons_self ..)
      have hy := (h y).2 (List.mem_cons_self ..)
      rcases List.mem_cons.1 hx with hx | hx
      · exact hx
      · rcases List.mem_cons.1 hy with hy | hy
        · exact hy.symm
        · have c1 := b1 x hx
          have c2 := a1 y hy
          rw [lessF_asymm c1] at c2; cases c2
    subst e
    congr 1
    refine strictF_unique l m a2 b2 fun z => ⟨fun hz => ?_, fun hz => ?_⟩
    · rcases List.mem_cons.1 ((h z).1 (List.mem_cons_of_mem _ hz)) with e | e
      · have h3 := a1 z hz; unfold lessF at h3; rw [e, strLt_irrefl] at h3; cases h3
      · exact e
    · rcases List.mem_cons.1 ((h z).2 (List.mem_cons_of_mem _ hz)) with e | e
      · have h3 := b1 z hz; unfold lessF at h3; rw [e, strLt_irrefl] at h3; cases h3
      · exact e

theorem sortF_mem (l : List Fix1) (x : Fix1) : x ∈ sortF l ↔ x ∈ l := (List.mergeSort_perm l _).mem_iff
theorem sortF_len (l : List Fix1) : (sortF l).length = l.length := List.length_mergeSort l
theorem sortF_strict {l : List Fix1} (hp : l.Pairwise fun x y => x.1 ≠ y.1) : strictF (sortF l) := by
  have h1 : (sortF l).Pairwise fun x y => x.1 ≠ y.1 := ((List.mergeSort_perm l _).pairwise_iff (fun h => Ne.symm h)).2 hp
  have h2 : (sortF l).Pairwise fun a b => (!lessF b a) = true := by
    refine List.pairwise_mergeSort (le := fun a b => !lessF b a) (fun a b c h1 h2 => ?_) (fun a b => ?_) l
    · have h1 : lessF b a = false := by simpa using h1
      have h2 : lessF c b = false := by simpa using h2
      simp only [lessF_ntrans c b a h2 h1]; rfl
    · cases h : lessF b a with
      | false => rfl
      | true => simp only [lessF_asymm h]; rfl
  refine (h1.and h2).imp ?_
  rintro a b ⟨g1, g2⟩
  have g2 : lessF b a = false := by simpa using g2
  cases h : lessF a b with
  | true => rfl
  | false => exact absurd (strLt_total _ _ h g2) g1

/-- Into its place. -/
def insF (c : Fix1) : List Fix1 → List Fix1
  | [] => [c]
  | y :: r => if lessF y c = true then y :: insF c r else c :: y :: r
theorem insF_mem (c : Fix1) : ∀ (o : List Fix1) (x : Fix1), x ∈ insF c o ↔ x = c ∨ x ∈ o
  | [], x => by simp [insF]
  | y :: r, x => by
    unfold insF
    by_cases h : lessF y c = true
    · rw [if_pos h, List.mem_cons, insF_mem c r x, List.mem_cons]
      constructor
      · rintro (h | h | h)
        · exact .inr (.inl h)
        · exact .inl h
        · exact .inr (.inr h)
      · rintro (h | h | h)
        · exact .inr (.inl h)
        · exact .inl h
        · exact .inr (.inr h)
    · rw [if_neg h, List.mem_cons]
theorem insF_len (c : Fix1) : ∀ o : List Fix1, (insF c o).length = o.length + 1
  | [] => rfl
  | y :: r => by
    unfold insF
    by_cases h : lessF y c = true
    · rw [if_pos h, List.length_cons, insF_len c r, List.length_cons]
    · rw [if_neg h, List.length_cons]
theorem insF_strict (c : Fix1) : ∀ o : List Fix1, (∀ x, x ∈ o → x.1 ≠ c.1) → strictF o → strictF (insF c o)
  | [], _, _ => List.pairwise_singleton ..
  | y :: r, hne, hs => by
    obtain ⟨h1, h2⟩ := List.pairwise_cons.1 hs
    unfold insF
    by_cases h : lessF y c = true
    · rw [if_pos h]
      refine List.pairwise_cons.2 ⟨fun z hz => ?_, insF_strict c r (fun x hx => hne x (List.mem_cons_of_mem _ hx)) h2⟩
      rcases (insF_mem c r z).1 hz with rfl | hz
      · exact h
      · exact h1 z hz
    · rw [if_neg h]
      have hcy : lessF c y = true := by
        cases hl : lessF c y with
        | true => rfl
        | false =>
          have h' : lessF y c = false := by simpa using h
          exact absurd (strLt_total _ _ h' hl) (hne y (List.mem_cons_self ..))
      refine List.pairwise_cons.2 ⟨fun z hz => ?_, hs⟩
      rcases List.mem_cons.1 hz with rfl | hz
      · exact hcy
      · exact strLt_trans _ _ _ hcy (h1 z hz)

theorem rset_step (A O : Sl Fix1) (i k : Nat) (c : Fix1) (hi : A.l[i]? = some c) (hO : O.l.length ≤ 1000000) (hi2 : i ≤ 1000000) (hk : k ≤ O.l.length) : ∃ n,
    l1_ref04_Set ((i : Int), (k : Int), A, O, ()) = match O.l[k]? with
      | some y => if lessF y c = true then some (.inl ((i : Int), ((k + 1 : Nat) : Int), A, O, ())) else some (.inr (.inl (((i + 1 : Nat) : Int), A, ⟨n, O.l.take k ++ [c] ++ O.l.drop k⟩, ())))
      | none => some (.inr (.inl (((i + 1 : Nat) : Int), A, ⟨n, O.l.take k ++ [c] ++ O.l.drop k⟩, ()))) := by
  have hil : i < A.l.length := by
    rcases Nat.lt_or_ge i A.l.length with h | h
    · exact h
    · rw [List.getElem?_eq_none h] at hi; cases hi
  have oi : okAt A.l (i : Int) = some i := okAt_nat hil
  have ni : nth A.l i = some c := hi
  have c1 : cutN (lenI O.l) (k : Int) = some k := by
    unfold cutN lenI
    rw [if_pos (by omega)]
    simp
  have d1 : dropL O.l (k : Int) = O.l.drop k := by unfold dropL; simp
  have f1 : ∀ a b : List Fix1, a.length ≤ 2000000 → b.length ≤ 2000000 → fit (sumI (lenI a) (lenI b)) = some () := fun a b ha hb => fit_ok (by unfold sumI lenI; omega)
  have t1 : (takeL O.l k).length ≤ 1000000 := by unfold takeL; rw [List.length_take]; omega
  have t2 : (app ([] : List Fix1) (takeL O.l k)).length ≤ 1000000 := t1
  have t3 : ∀ x : Fix1, (app (app ([] : List Fix1) (takeL O.l k)) [x]).length ≤ 1000001 := fun x => by
    show (takeL O.l k ++ [x]).length ≤ _
    rw [List.length_append]; simp; omega
  have t4 : (dropL O.l (k : Int)).length ≤ 1000000 := by rw [d1, List.length_drop]; omega
  have aok : addI .i64 (k : Int) 1 = ((k + 1 : Nat) : Int) := add1 (by omega)
  have aoi : addI .i64 (i : Int) 1 = ((i + 1 : Nat) : Int) := add1 (by omega)
  cases hy : O.l[k]? with
  | some y =>
    have hlt : k < O.l.length := by
      rcases Nat.lt_or_ge k O.l.length with h | h
      · exact h
      · rw [List.getElem?_eq_none h] at hy; cases hy
    have ok : okAt O.l (k : Int) = some k := okAt_nat hlt
    have ny : nth O.l k = some y := hy
    have lt1 : ltI (k : Int) (lenI O.l) = true := decide_eq_true (by unfold lenI; omega)
    refine ⟨false, ?_⟩
    unfold l1_ref04_Set
    simp only
    rw [lt1, cnd_true, ok, bnd_some_eq, ny, bnd_some_eq, oi, bnd_some_eq, ni, bnd_some_eq]
    have hq : strLt y.1 c.1 = lessF y c := rfl
    rw [hq]
    cases hl : lessF y c with
    | true => rw [aok]; rfl
    | false =>
      simp only [cnd_false, bnd_some_eq, c1, f1 _ _ (by show 0 ≤ _; omega : ([] : List Fix1).length ≤ 2000000) (Nat.le_trans t1 (by omega)),
        f1 _ [c] (Nat.le_trans t2 (by omega)) (by simp), f1 _ _ (Nat.le_trans (t3 c) (by omega)) (Nat.le_trans t4 (by omega)), Bool.false_eq_true, if_false, ni, aoi]
      simp only [app, takeL, d1, List.nil_append]
      rfl
  | none =>
    have hge : O.l.length ≤ k := List.getElem?_eq_none_iff.1 hy
    have lt1 : ltI (k : Int) (lenI O.l) = false := decide_eq_false (by unfold lenI; omega)
    refine ⟨false, ?_⟩
    unfold l1_ref04_Set
    simp only
    rw [lt1]
    simp only [cnd_false, bnd_some_eq, c1, f1 _ _ (by show 0 ≤ _; omega : ([] : List Fix1).length ≤ 2000000) (Nat.le_trans t1 (by omega)),
        f1 _ [c] (Nat.le_trans t2 (by omega)) (by simp), f1 _ _ (Nat.le_trans (t3 c) (by omega)) (Nat.le_trans t4 (by omega)), ni, oi, aoi]
    simp only [app, takeL, d1, List.nil_append]
    rfl

theorem rset1_loop (A O : Sl Fix1) (i : Nat) (c : Fix1) (hi : A.l[i]? = some c) (hO : O.l.length ≤ 1000000) (hi2 : i ≤ 1000000) : ∀ (m k : Nat), k + m = O.l.length → ∃ n,
    loopR l1_ref04_Set ((i : Int), (k : Int), A, O, ()) = some (.inl (((i + 1 : Nat) : Int), A, ⟨n, O.l.take k ++ insF c (O.l.drop k)⟩, ())) := by
  intro m
  induction m with
  | zero =>
    intro k hk
    obtain ⟨n, hs⟩ := rset_step A O i k c hi hO hi2 (by omega)
    rw [List.getElem?_eq_none (by omega)] at hs
    refine ⟨n, loopR_inr ?_⟩
    rw [hs, List.drop_eq_nil_of_le (by omega), List.append_nil]
    rfl
  | succ m ih =>
    intro k hk
    have hlt : k < O.l.length := by omega
    obtain ⟨n, hs⟩ := rset_step A O i k c hi hO hi2 (by omega)
    rw [List.getElem?_eq_getElem hlt] at hs
    simp only at hs
    rw [drop_cons hlt] at hs ⊢
    unfold insF
    by_cases h : lessF O.l[k] c = true
    · rw [if_pos h] at hs ⊢
      obtain ⟨n', hn⟩ := ih (k + 1) (by omega)
      refine ⟨n', ?_⟩
      rw [loopR_inl hs, hn, List.take_add_one, List.getElem?_eq_getElem hlt, Option.toList_some, List.append_assoc, List.singleton_append]
    · rw [if_neg h] at hs ⊢
      refine ⟨n, loopR_inr ?_⟩
      rw [hs, List.append_assoc, List.singleton_append]

theorem rset2_loop (A : Sl Fix1) (hA : A.l.length ≤ 1000) : ∀ (m i : Nat) (O : Sl Fix1), i + m = A.l.length → O.l.length = i → ∃ n,
    loopR l2_ref04_Set ((i : Int), A, O, ()) = some (.inr (⟨n, (A.l.drop i).foldl (fun o c => insF c o) O.l⟩, 0, ())) := by
  intro m
  induction m with
  | zero =>
    intro i O hk hO
    refine ⟨O.nil, loopR_inr ?_⟩
    unfold l2_ref04_Set
    simp only
    rw [cnd_lt, if_neg (by show ¬ (i : Int) < (A.l.length : Int); omega), List.drop_eq_nil_of_le (by omega)]
    rfl
  | succ m ih =>
    intro i O hk hO
    have hlt : i < A.l.length := by omega
    obtain ⟨n, hn⟩ := rset1_loop A O i A.l[i] (List.getElem?_eq_getElem hlt) (by omega) (by omega) O.l.length 0 (by omega)
    rw [List.take_zero, List.nil_append, List.drop_zero] at hn
    have step : l2_ref04_Set ((i : Int), A, O, ()) = some (.inl (((i + 1 : Nat) : Int), A, ⟨n, insF A.l[i] O.l⟩, ())) := by
      unfold l2_ref04_Set
      simp only
      rw [cnd_lt, if_pos (by show (i : Int) < (A.l.length : Int); omega)]
      exact hn
    obtain ⟨n', hn'⟩ := ih (i + 1) ⟨n, insF A.l[i] O.l⟩ (by omega) (by show (insF A.l[i] O.l).length = _; rw [insF_len, hO])
    refine ⟨n', ?_⟩
    rw [loopR_inl step, hn', drop_cons hlt, List.foldl_cons]

theorem foldF_mem : ∀ (l o : List Fix1) (x : Fix1), x ∈ l.foldl (fun o c => insF c o) o ↔ x ∈ l ∨ x ∈ o
  | [], o, x => by simp
  | c :: l, o, x => by
    rw [List.foldl_cons, foldF_mem l (insF c o) x, insF_mem, List.mem_cons]
    constructor
    · rintro (h | h | h)
      · exact .inl (.inr h)
      · exact .inl (.inl h)
      · exact .inr h
    · rintro ((h | h) | h)
      · exact .inr (.inl h)
      · exact .inl h
      · exact .inr (.inr h)

theorem foldF_strict : ∀ (l o : List Fix1), l.Pairwise (fun x y => x.1 ≠ y.1) → (∀ x, x ∈ l → ∀ y, y ∈ o → y.1 ≠ x.1) → strictF o → strictF (l.foldl (fun o c => insF c o) o)
  | [], o, _, _, h => h
  | c :: l, o, hp, hne, h => by
    obtain ⟨p1, p2⟩ := List.pairwise_cons.1 hp
    rw [List.foldl_cons]
    refine foldF_strict l (insF c o) p2 (fun x hx y hy => ?_) (insF_strict c o (hne c (List.mem_cons_self ..)) h)
    rcases (insF_mem c o y).1 hy with rfl | hy
    · exact p1 x hx
    · exact hne x (List.mem_cons_of_mem _ hx) y hy

theorem rset3_loop (n : Bool) (l : List Fix1) (f : Fix1) (hl : l.length ≤ 400) : ∀ (m k : Nat) (b : Bool) (acc : List Fix1), k + m = l.length → acc.length ≤ k + 1 → ∃ q,
    loopR l3_ref04_Set (⟨n, l⟩, (k : Int), f.1, f.2.1, f.2.2, ⟨b, acc⟩, ()) = some (if 400 < (acc ++ delF (l.drop k) f.1).length then (⟨true, []⟩, 40, ()) else (⟨q, (acc ++ delF (l.drop k) f.1).foldl (fun o c => insF c o) []⟩, 0, ())) := by
  intro m
  induction m with
  | zero =>
    intro k b acc hk ha
    have e : delF (l.drop k) f.1 = [] := by rw [List.drop_eq_nil_of_le (by omega)]; rfl
    rw [e, List.append_nil]
    obtain ⟨q, hq⟩ := rset2_loop ⟨b, acc⟩ (by show acc.length ≤ 1000; omega) acc.length 0 ⟨false, []⟩ (by show 0 + acc.length = acc.length; omega) rfl
    rw [List.drop_zero] at hq
    refine ⟨q, ?_⟩
    have step : l3_ref04_Set (⟨n, l⟩, (k : Int), f.1, f.2.1, f.2.2, ⟨b, acc⟩, ()) = cnd (ltI 400 (lenI acc)) (some (.inr (⟨true, []⟩, 40, ()))) (loopR l2_ref04_Set (0, ⟨b, acc⟩, ⟨false, []⟩, ())) := by
      unfold l3_ref04_Set
      simp only
      rw [cnd_lt, if_neg (by show ¬ (k : Int) < (l.length : Int); omega)]
    have hq : loopR l2_ref04_Set (0, ⟨b, acc⟩, ⟨false, []⟩, ()) = _ := hq
    rw [hq, cnd_lt] at step
    by_cases h4 : 400 < acc.length
    · rw [if_pos (by unfold lenI; omega)] at step
      rw [if_pos h4]
      exact loopR_inr step
    · rw [if_neg (by unfold lenI; omega)] at step
      rw [if_neg h4]
      exact loopR_inr step
  | succ m ih =>
    intro k b acc hk ha
    have hlt : k < l.length := by omega
    have hx := List.getElem?_eq_getElem hlt
    have e : delF (l.drop k) f.1 = (if eqS l[k].1 f.1 = true then [] else [l[k]]) ++ delF (l.drop (k + 1)) f.1 := by
      rw [drop_cons hlt]
      unfold delF
      rw [List.filter_cons]
      cases eqS l[k].1 f.1 <;> rfl
    have step : l3_ref04_Set (⟨n, l⟩, (k : Int), f.1, f.2.1, f.2.2, ⟨b, acc⟩, ()) = if eqS l[k].1 f.1 = true then some (.inl (⟨n, l⟩, ((k + 1 : Nat) : Int), f.1, f.2.1, f.2.2, ⟨b, acc⟩, ())) else some (.inl (⟨n, l⟩, ((k + 1 : Nat) : Int), f.1, f.2.1, f.2.2, ⟨andB b false, acc ++ [l[k]]⟩, ())) := by
      unfold l3_ref04_Set
      simp only
      rw [cnd_lt, if_pos (by show (k : Int) < (l.length : Int); omega), at?_nat hx, bnd_some_eq]
      cases eqS l[k].1 f.1 with
      | true =>
        rw [if_pos rfl]
        show bnd (cnd (notB true) _ _) _ = _
        simp only [notB, Bool.not_true, cnd_false, bnd_some_eq]
        rw [add1 (by omega)]
      | false =>
        rw [if_neg (by decide)]
        show bnd (cnd (notB false) _ _) _ = _
        simp only [notB, Bool.not_false, cnd_true, bnd_some_eq]
        rw [fit_ok (by unfold sumI lenI; simp only [List.length_singleton]; omega), bnd_some_eq, bnd_some_eq, add1 (by omega)]
        rfl
    rw [e]
    cases he : eqS l[k].1 f.1 with
    | true =>
      rw [he, if_pos rfl] at step
      obtain ⟨q, h1⟩ := ih (k + 1) b acc (by omega) (by omega)
      exact ⟨q, by rw [loopR_inl step, h1, if_pos rfl, List.nil_append]⟩
    | false =>
      rw [he, if_neg (by decide)] at step
      obtain ⟨q, h1⟩ := ih (k + 1) (andB b false) (acc ++ [l[k]]) (by omega) (by rw [List.length_append, List.length_singleton]; omega)
      refine ⟨q, ?_⟩
      have e2 : (if false = true then ([] : List Fix1) else [l[k]]) = [l[k]] := if_neg (by decide)
      rw [loopR_inl step, h1, e2, List.append_assoc]

theorem rset_spec (n : Bool) {l : List Fix1} (h : gL l) (f : Fix1) (_hf : gF f) (hl : f.1.length ≤ 1000000) :
    ∃ q, f_ref04_Set (⟨n, l⟩, f, ()) = some (⟨q, (setF l f).1⟩, (setF l f).2, ()) := by
  have e : f_ref04_Set (⟨n, l⟩, f, ()) = _ := u_ref04_Set ⟨n, l⟩ f.1 f.2.1 f.2.2
  rw [e, rcheck_spec n h, bnd_some_eq]
  unfold setF
  by_cases hc : checkF l = 0
  · have e0 : notB (eqI (checkF l) 0) = false := by rw [hc]; rfl
    simp only [e0, cnd_false]
    rw [if_neg (by simpa using hc)]
    obtain ⟨k1, k2, k3⟩ := check_ok hc
    have hr : f_ref04_Right ((f.1, f.2.1, f.2.2), ()) = some (rightF f, ()) := rright_spec f hl
    have dl := delF_len l f.1
    rw [hr, bnd_some_eq]
    cases hrt : rightF f with
    | false =>
      rw [if_pos (.inl rfl)]
      exact ⟨true, rfl⟩
    | true =>
      simp only [notB, Bool.not_true, cnd_false]
      obtain ⟨q, h1⟩ := rset3_loop n l f k1 l.length 0 false [f] (by omega) (by simp)
      rw [List.drop_zero] at h1
      have h1 : loopR l3_ref04_Set (⟨n, l⟩, 0, f.1, f.2.1, f.2.2, ⟨false, [(f.1, f.2.1, f.2.2)]⟩, ()) = _ := h1
      rw [h1]
      have hlen : ([f] ++ delF l f.1).length = (delF l f.1).length + 1 := by rw [List.length_append, List.length_singleton, Nat.add_comm]
      rw [hlen]
      by_cases h4 : (delF l f.1).length = 400
      · rw [if_pos (by omega), if_pos (.inr h4)]
        exact ⟨true, rfl⟩
      · rw [if_neg (by omega), if_neg (by rintro (h | h); cases h; exact h4 h)]
        refine ⟨q, ?_⟩
        have np := new_pair (dup_pair.1 k3) f
        have np2 : ([f] ++ delF l f.1).Pairwise fun x y => x.1 ≠ y.1 := by
          have := (List.perm_append_comm (l₁ := delF l f.1) (l₂ := [f]))
          exact (this.pairwise_iff (fun h => Ne.symm h)).1 np
        have : ([f] ++ delF l f.1).foldl (fun o c => insF c o) [] = sortF (delF l f.1 ++ [f]) := by
          refine strictF_unique _ _ (foldF_strict _ _ np2 (fun x _ y hy => by cases hy) List.Pairwise.nil) (sortF_strict np) fun x => ?_
          rw [foldF_mem, sortF_mem]
          simp only [List.mem_append, List.not_mem_nil, or_false]
          exact Or.comm
        rw [this]
  · have e0 : notB (eqI (checkF l) 0) = true := by rw [eqI_ne hc]; rfl
    simp only [e0, cnd_true]
    rw [if_pos hc]
    exact ⟨true, rfl⟩
end Fn
end Ev
namespace Ev
open Go
namespace Fn

/-! The chapter's example; the laws of what is set, of the bind, of the row. -/
theorem setF_gL {l : List Fix1} (h : gL l) {f : Fix1} (hf : gF f) (hl : f.1.length ≤ 1000000) : gL (setF l f).1 := by
  unfold setF
  by_cases hc : checkF l = 0
  · rw [if_neg (by simpa using hc)]
    by_cases hrf : rightF f = false ∨ (delF l f.1).length = 400
    · rw [if_pos hrf]
      exact ⟨(fun x hx => by cases hx), (fun x hx => by cases hx), Nat.zero_le _⟩
    · rw [if_neg hrf]
      have dl := delF_len l f.1
      have := (check_ok hc).1
      have hm : ∀ x, x ∈ sortF (delF l f.1 ++ [f]) → x ∈ l ∨ x = f := fun x hx => by
        rcases List.mem_append.1 ((sortF_mem _ x).1 hx) with hx | hx
        · exact .inl (delF_mem.1 hx).1
        · exact .inr (List.mem_singleton.1 hx)
      refine ⟨fun x hx => ?_, fun x hx => ?_, ?_⟩
      · rcases hm x hx with hx | rfl
        · exact h.1 x hx
        · exact hf
      · rcases hm x hx with hx | rfl
        · exact h.2.1 x hx
        · exact hl
      · show (sortF (delF l f.1 ++ [f])).length ≤ _
        rw [sortF_len, List.length_append, List.length_singleton]
        omega
  · rw [if_pos hc]
    exact ⟨(fun x hx => by cases hx), (fun x hx => by cases hx), Nat.zero_le _⟩

theorem sortF_id {l : List Fix1} (hs : strictF l) : sortF l = l := by
  have hp : l.Pairwise fun x y => x.1 ≠ y.1 := hs.imp fun {a b} h e => by
    unfold lessF at h
    rw [e, strLt_irrefl] at h
    cases h
  exact strictF_unique _ _ (sortF_strict hp) hs fun x => sortF_mem l x

def exL : List Fix1 := [([42], 7, -1), ([43], 6, -1)]
theorem ex_gL : gL exL := by
  refine ⟨fun x hx => ?_, fun x hx => ?_, by decide⟩
  · rcases List.mem_cons.1 hx with rfl | hx
    · exact ⟨fun b hb => by rw [List.mem_singleton.1 hb]; omega, by decide, by decide, by decide⟩
    · rw [List.mem_singleton.1 hx]
      exact ⟨fun b hb => by rw [List.mem_singleton.1 hb]; omega, by decide, by decide, by decide⟩
  · rcases List.mem_cons.1 hx with rfl | hx
    · decide
    · rw [List.mem_singleton.1 hx]; decide
theorem ex_check : checkF exL = 0 := by decide
theorem ex_climb (q : Bool) : resC q exL [[43], [42], [43]] = (⟨q, [2, 0, -1, 1, -2, -3, -4]⟩, 0, ()) := by
  unfold resC
  rw [if_neg (by rw [ex_check]; decide), if_neg (by decide)]
  have h1 : findAll exL [[43], [42], [43]] = some [([43], 6, -1), ([42], 7, -1), ([43], 6, -1)] := by decide
  have h2 : climbF [([43], 6, -1), ([42], 7, -1), ([43], 6, -1)] = some [2, 0, -1, 1, -2, -3, -4] := by decide
  simp only [h1, h2]
theorem ex_flat : flatF [2, 0, -1, 1, -2, -3, -4] = some [-1, 0, -2, 1, -3, 2, -4] := by decide
theorem ex_set : setF exL ([43], 1, 0) = ([([42], 7, -1), ([43], 1, 0)], 0) := by
  unfold setF
  have h1 : rightF ([43], 1, 0) = true := by decide
  have h2 : delF exL [43] = [([42], 7, -1)] := by decide
  rw [if_neg (by rw [ex_check]; decide)]
  show (if rightF ([43], 1, 0) = false ∨ (delF exL [43]).length = 400 then _ else _) = _
  rw [h1, h2, if_neg (by decide)]
  show (sortF ([([42], 7, -1)] ++ [([43], 1, 0)]), (0 : Int)) = _
  rw [sortF_id]
  · rfl
  · exact List.pairwise_cons.2 ⟨fun z hz => by rw [List.mem_singleton.1 hz]; decide, List.pairwise_singleton ..⟩

theorem awake_spec : f_law04_awake () = some (true, ()) := by
  obtain ⟨q1, h1⟩ := climb_spec false false ex_gL [[43], [42], [43]]
  rw [ex_climb] at h1
  obtain ⟨⟨q2, h2⟩, _⟩ := flat_spec q1 (l := [2, 0, -1, 1, -2, -3, -4]) (by decide)
  rw [ex_flat] at h2
  have gf : gF (([43], 1, 0) : Fix1) := ⟨fun b hb => by rw [List.mem_singleton.1 hb]; omega, by decide, by decide, by decide⟩
  obtain ⟨q3, h3, _⟩ := set_spec false ex_gL (fun h => by cases h) ([43], 1, 0) gf (by decide)
  have gs := setF_gL ex_gL gf (by decide)
  rw [ex_set] at h3 gs
  have h4 := find_spec q3 [([42], 7, -1), ([43], 1, 0)] [43] gs.2.2
  have h5 : findF [([42], 7, -1), ([43], 1, 0)] [43] = some ([43], 1, 0) := by decide
  rw [h5] at h4
  have h6 := row_same q1 false [2, 0, -1, 1, -2, -3, -4] (by decide)
  have h7 := row_same q2 false [-1, 0, -2, 1, -3, 2, -4] (by decide)
  have h8 := check_spec false ex_gL
  rw [ex_check] at h8
  have h9 := right_spec ([42], 7, -1) (ex_gL.1 _ (List.mem_cons_self ..)) (by decide)
  have h10 : rightF ([42], 7, -1) = true := by decide
  rw [h10] at h9
  rw [u_law04_awake]
  show bnd (f_fix_Climb (⟨false, exL⟩, _, ())) _ = _
  rw [h1]
  simp only [bnd_some_eq]
  rw [h2]
  simp only [bnd_some_eq, resF]
  show bnd (f_fix_Set (⟨false, exL⟩, _, ())) _ = _
  rw [h3]
  simp only [bnd_some_eq]
  rw [h4]
  simp only [bnd_some_eq]
  rw [h6, eqI_self, cnd_true]
  simp only [bnd_some_eq, cnd_true]
  rw [h7]
  simp only [bnd_some_eq, eqI_self, cnd_true]
  have h11 : eqI (lenI ([([42], 7, -1), ([43], 1, 0)] : List Fix1)) 2 = true := rfl
  rw [h11]
  simp only [bnd_some_eq, cnd_true]
  show bnd (bnd (f_fix_Check (⟨false, exL⟩, ())) _) _ = _
  rw [h8]
  simp only [bnd_some_eq, cnd_true, eqI_self]
  have h12 : okAt ([([42], 7, -1), ([43], 6, -1)] : List Fix1) 0 = some 0 := rfl
  rw [h12]
  simp only [bnd_some_eq]
  have h13 : nth ([([42], 7, -1), ([43], 6, -1)] : List Fix1) 0 = some ([42], 7, -1) := rfl
  rw [h13]
  simp only [bnd_some_eq]
  rw [h9]
  rfl

theorem guard (r : Bool) : bnd (cnd (notB true) (some true) (some (notB r))) = fun g : Bool → Option (Bool × Unit) => g (!r) := by
  funext g
  cases r <;> rfl

theorem law_sets (n : Bool) (l : List Fix1) (f : Fix1) (op : List Int) (hg : ∀ x, x ∈ l → gF x) (hf : gF f) : f_law04_FixSets (⟨n, l⟩, f, op, ()) = some (true, ()) := by
  have e : f_law04_FixSets (⟨n, l⟩, f, op, ()) = _ := u_law04_FixSets ⟨n, l⟩ f.1 f.2.1 f.2.2 op
  obtain ⟨r, h1, h2⟩ := few_spec n false l [f.1, op]
  rw [e, awake_spec, bnd_some_eq, h1]
  simp only [bnd_some_eq]
  rw [guard]
  cases r with
  | false => rfl
  | true =>
    obtain ⟨k1, k2, k3, _⟩ := h2 rfl
    have hl := gL_of hg k1 k3
    have fl : f.1.length ≤ 1000000 := by have := k2 f.1 (List.mem_cons_self ..); omega
    obtain ⟨q1, s1, _⟩ := set_spec false hl (fun h => by cases h) f hf fl
    obtain ⟨q2, s2⟩ := rset_spec n hl f hf fl
    have s1 : f_fix_Set (⟨false, l⟩, (f.1, f.2.1, f.2.2), ()) = _ := s1
    have s2 : f_ref04_Set (⟨n, l⟩, (f.1, f.2.1, f.2.2), ()) = _ := s2
    have s3 : f_fix_Right ((f.1, f.2.1, f.2.2), ()) = _ := right_spec f hf fl
    have s4 : f_ref04_Right ((f.1, f.2.1, f.2.2), ()) = _ := rright_spec f fl
    simp only [Bool.not_true, cnd_false]
    rw [own_spec n hl.2.2, bnd_some_eq, s1, bnd_some_eq, s2, bnd_some_eq, bnd_some_eq, find_spec false l op hl.2.2, bnd_some_eq, rfind_spec n l op hl.2.2, bnd_some_eq, s3, bnd_some_eq, s4, bnd_some_eq, eqB_self, cnd_true]
    rw [bnd_some_eq, check_spec false hl, bnd_some_eq, rcheck_spec n hl, bnd_some_eq, eqI_self, cnd_true, same_spec _ _ _ (setF_gL hl hf fl).2.2, bnd_some_eq, cnd_true, eqI_self, cnd_true]
    rw [eqS_self, eqI_self, eqI_self, eqB_self]
    rfl

theorem resC_of {l : List Fix1} {ops : List (List Int)} {fs : List Fix1} {x : List Int} (h1 : checkF l = 0) (h2 : ops.length ≤ 400) (h3 : findAll l ops = some fs) (h4 : Fx.B (lvF fs) (sdF fs) 0 fs.length x) (q : Bool) : resC q l ops = (⟨q, x⟩, 0, ()) := by
  have hm := (findAll_spec h3).2
  have hc := char_unique (climbF_char (sides_ok (check_ok h1).2.1 hm)) (r' := some x) h4
  unfold resC
  rw [if_neg (by rw [h1]; decide), if_neg (by omega)]
  simp only [h3, hc]
theorem resC_no {l : List Fix1} {ops : List (List Int)} {fs : List Fix1} (h1 : checkF l = 0) (h2 : ops.length ≤ 400) (h3 : findAll l ops = some fs) (h4 : ∀ x, ¬ Fx.B (lvF fs) (sdF fs) 0 fs.length x) (q : Bool) : resC q l ops = (⟨true, []⟩, 43, ()) := by
  have hm := (findAll_spec h3).2
  have hc := char_unique (climbF_char (sides_ok (check_ok h1).2.1 hm)) (r' := none) h4
  unfold resC
  rw [if_neg (by rw [h1]; decide), if_neg (by omega)]
  simp only [h3, hc]
theorem resC_cases (l : List Fix1) (ops : List (List Int)) : (∃ c, c ≠ 0 ∧ ∀ q, resC q l ops = (⟨true, []⟩, c, ())) ∨
    (∃ fs x, checkF l = 0 ∧ ops.length ≤ 400 ∧ findAll l ops = some fs ∧ Fx.B (lvF fs) (sdF fs) 0 fs.length x ∧ ∀ q, resC q l ops = (⟨q, x⟩, 0, ())) := by
  by_cases h1 : checkF l = 0
  · by_cases h2 : 400 < ops.length
    · exact .inl ⟨40, by decide, fun q => by unfold resC; rw [if_neg (by rw [h1]; decide), if_pos h2]⟩
    · cases h3 : findAll l ops with
      | none => exact .inl ⟨42, by decide, fun q => by unfold resC; rw [if_neg (by rw [h1]; decide), if_neg h2]; simp only [h3]⟩
      | some fs =>
        obtain ⟨r, hr⟩ := char_ex fs 0 fs.length
        cases r with
        | none => exact .inl ⟨43, by decide, fun q => resC_no h1 (by omega) h3 hr q⟩
        | some x => exact .inr ⟨fs, x, h1, by omega, rfl, hr, fun q => resC_of h1 (by omega) h3 hr q⟩
  · exact .inl ⟨checkF l, h1, fun q => by unfold resC; rw [if_pos h1]⟩

theorem flatB_len : ∀ (f : Nat) (l a r : List Int), Fx.flatB l f = some (a, r) → a.length + r.length ≤ l.length
  | 0, _, _, _, h => by cases h
  | _ + 1, [], _, _, h => by cases h
  | f + 1, n :: l, a, r, h => by
    unfold Fx.flatB at h
    by_cases hn : n < 0
    · rw [if_pos hn] at h
      injection h with h
      injection h with h1 h2
      subst h1 h2
      simp only [List.length_cons, List.length_nil]
      omega
    · rw [if_neg hn] at h
      cases h1 : Fx.flatB l f with
      | none => rw [h1] at h; cases h
      | some p =>
        obtain ⟨a1, r1⟩ := p
        rw [h1] at h
        simp only at h
        cases h2 : Fx.flatB r1 f with
        | none => rw [h2] at h; cases h
        | some p2 =>
          obtain ⟨a2, r2⟩ := p2
          rw [h2] at h
          injection h with h
          injection h with h3 h4
          subst h3 h4
          have := flatB_len f l a1 r1 h1
          have := flatB_len f r1 a2 r2 h2
          simp only [List.length_append, List.length_cons]
          omega
theorem flatF_len {l a : List Int} (h : flatF l = some a) : a.length ≤ l.length := by
  unfold flatF at h
  cases h1 : Fx.flatB l (l.length + 1) with
  | none => rw [h1] at h; cases h
  | some p =>
    obtain ⟨a1, r1⟩ := p
    rw [h1] at h
    have := flatB_len _ _ _ _ h1
    cases r1 with
    | nil => injection h with h; subst h; simpa using this
    | cons => cases h

theorem law_climbs (n1 n2 : Bool) (l : List Fix1) (ops : List (List Int)) (hg : ∀ x, x ∈ l → gF x) : f_law04_FixClimbs (⟨n1, l⟩, ⟨n2, ops⟩, ()) = some (true, ()) := by
  obtain ⟨r, h1, h2⟩ := few_spec n1 n2 l ops
  rw [u_law04_FixClimbs, awake_spec, bnd_some_eq, h1]
  simp only [bnd_some_eq]
  rw [guard]
  cases r with
  | false => rfl
  | true =>
    obtain ⟨k1, k2, k3, k4⟩ := h2 rfl
    have hl := gL_of hg k1 k3
    obtain ⟨q1, s1⟩ := climb_spec false (andB false (isE ops)) hl ops
    have s1 : f_fix_Climb (⟨false, l⟩, ⟨andB false (isE ops), app ([] : List (List Int)) ops⟩, ()) = _ := s1
    simp only [Bool.not_true, cnd_false]
    rw [own_spec n1 hl.2.2, bnd_some_eq, fit_ok (by simp only [sumI, lenI, List.length_nil]; omega), bnd_some_eq, s1, bnd_some_eq, rclimb_spec n1 n2 hl ops, bnd_some_eq]
    rcases resC_cases l ops with ⟨c, _, hc⟩ | ⟨fs, x, _, _, h3, h4, hc⟩
    · rw [hc, hc, row_same _ _ _ (Nat.zero_le _), bnd_some_eq, eqI_self]
      rfl
    · have e1 := (findAll_spec h3).1
      have e2 := h4.len
      rw [hc, hc, row_same _ _ _ (by omega), bnd_some_eq, eqI_self]
      rfl

theorem law_flats (n : Bool) (l : List Int) : f_law04_FixFlats (⟨n, l⟩, ()) = some (true, ()) := by
  rw [u_law04_FixFlats, awake_spec, bnd_some_eq]
  by_cases h6 : 60 < l.length
  · have : ltI 60 (lenI l) = true := decide_eq_true (by unfold lenI; omega)
    rw [this]
    rfl
  · have : ltI 60 (lenI l) = false := decide_eq_false (by unfold lenI; omega)
    rw [this]
    obtain ⟨⟨q1, h1⟩, q2, h2⟩ := flat_spec n (l := l) (by omega)
    obtain ⟨⟨q3, h3⟩, _⟩ := flat_spec (andB false (isE l)) (l := l) (by omega)
    have h3 : f_fix_Flat (⟨andB false (isE l), app ([] : List Int) l⟩, ()) = _ := h3
    simp only [notB, Bool.not_true, cnd_false, bnd_some_eq]
    rw [fit_ok (by simp only [sumI, lenI, List.length_nil]; omega), bnd_some_eq, h3, bnd_some_eq, h2, bnd_some_eq]
    cases hf : flatF l with
    | none =>
      rw [show f_ref02_Row ((resF q3 none).1, (resF q2 none).1, ()) = some (true, ()) from row_same true true [] (Nat.zero_le _)]
      rfl
    | some a =>
      rw [show f_ref02_Row ((resF q3 (some a)).1, (resF q2 (some a)).1, ()) = some (true, ()) from row_same q3 q2 a (by have := flatF_len hf; omega)]
      rfl
end Fn
end Ev
namespace Ev
open Go
namespace Fn

/-! In the row in which they stood; in either order. -/
theorem rowOf_len : ∀ (m a : Nat), (Fx.rowOf a m).length = 2 * m + 1
  | 0, _ => rfl
  | m + 1, a => by
    show (Fx.rowOf (a + 1) m).length + 1 + 1 = _
    rw [rowOf_len m]; omega
theorem rowOf_even : ∀ (m a k : Nat), k ≤ m → (Fx.rowOf a m)[2 * k]? = some (-1 - ((a + k : Nat) : Int))
  | 0, a, k, h => by
    obtain rfl : k = 0 := by omega
    rfl
  | m + 1, a, k, h => by
    cases k with
    | zero => rfl
    | succ k =>
      have := rowOf_even m (a + 1) k (by omega)
      rw [show 2 * (k + 1) = 2 * k + 1 + 1 by omega, show a + (k + 1) = a + 1 + k by omega]
      exact this
theorem rowOf_odd : ∀ (m a k : Nat), k < m → (Fx.rowOf a m)[2 * k + 1]? = some ((a + k : Nat) : Int)
  | 0, a, k, h => by omega
  | m + 1, a, k, h => by
    cases k with
    | zero => rfl
    | succ k =>
      have := rowOf_odd m (a + 1) k (by omega)
      rw [show 2 * (k + 1) + 1 = 2 * k + 1 + 1 + 1 by omega, show a + (k + 1) = a + 1 + k by omega]
      exact this

theorem rem2 (k : Nat) : remI (k : Int) 2 = some ((k % 2 : Nat) : Int) := by
  unfold remI; rw [if_neg (by decide)]; rfl
theorem quo2 {k : Nat} (h : k ≤ 1000000) : quoI .i64 (k : Int) 2 = some ((k / 2 : Nat) : Int) := by
  unfold quoI
  rw [if_neg (by decide)]
  have : (k : Int).tdiv 2 = ((k / 2 : Nat) : Int) := rfl
  rw [this]
  have := addI_i64 (a := ((k / 2 : Nat) : Int)) (b := 0) (by omega) (by omega)
  unfold addI at this
  rw [Int.add_zero] at this
  rw [this]
theorem neg1 {k : Nat} (h : k ≤ 1000000) : subI .i64 (-1) (k : Int) = -1 - (k : Int) := subI_i64 (by omega) (by omega)

theorem rows_loop (b : Bool) (n : Nat) (hn : n ≤ 1000) : ∀ (m k : Nat), k + m = 2 * n + 1 → loopR l1_law04_FixRows (⟨b, Fx.rowOf 0 n⟩, (k : Int), ()) = some (true, ()) := by
  have hlen := rowOf_len n 0
  intro m
  induction m with
  | zero =>
    intro k hk
    refine loopR_inr ?_
    unfold l1_law04_FixRows
    simp only
    rw [cnd_lt, if_neg (by unfold lenI; omega)]
  | succ m ih =>
    intro k hk
    have hlt : k < 2 * n + 1 := by omega
    have step : l1_law04_FixRows (⟨b, Fx.rowOf 0 n⟩, (k : Int), ()) = some (.inl (⟨b, Fx.rowOf 0 n⟩, ((k + 1 : Nat) : Int), ())) := by
      unfold l1_law04_FixRows
      simp only
      rw [cnd_lt, if_pos (by unfold lenI; omega), rem2, bnd_some_eq, bnd_some_eq]
      rcases Nat.mod_two_eq_zero_or_one k with h2 | h2
      · have hx := rowOf_even n 0 (k / 2) (by omega)
        rw [show 2 * (k / 2) = k by omega, Nat.zero_add] at hx
        rw [h2, at?_nat hx, bnd_some_eq, quo2 (by omega), bnd_some_eq, neg1 (by omega)]
        have z0 : eqI ((0 : Nat) : Int) 0 = true := rfl
        have z1 : eqI ((0 : Nat) : Int) 1 = false := rfl
        simp only [eqI_self, z0, z1, cnd_true, cnd_false, bnd_some_eq, notB, Bool.not_true]
        rw [add1 (by omega)]
      · have hx := rowOf_odd n 0 (k / 2) (by omega)
        rw [show 2 * (k / 2) + 1 = k by omega, Nat.zero_add] at hx
        rw [h2, at?_nat hx, bnd_some_eq, quo2 (by omega), bnd_some_eq]
        have z0 : eqI ((1 : Nat) : Int) 0 = false := rfl
        have z1 : eqI ((1 : Nat) : Int) 1 = true := rfl
        simp only [eqI_self, z0, z1, cnd_true, cnd_false, bnd_some_eq, notB, Bool.not_true]
        rw [add1 (by omega)]
    rw [loopR_inl step, ih (k + 1) (by omega)]

theorem law_rows (n1 n2 : Bool) (l : List Fix1) (ops : List (List Int)) (hg : ∀ x, x ∈ l → gF x) : f_law04_FixRows (⟨n1, l⟩, ⟨n2, ops⟩, ()) = some (true, ()) := by
  obtain ⟨r, h1, h2⟩ := few_spec n1 n2 l ops
  rw [u_law04_FixRows, awake_spec, bnd_some_eq, h1]
  simp only [bnd_some_eq]
  rw [guard]
  cases r with
  | false => rfl
  | true =>
    obtain ⟨k1, k2, k3, k4⟩ := h2 rfl
    have hl := gL_of hg k1 k3
    obtain ⟨q1, s1⟩ := climb_spec false (andB false (isE ops)) hl ops
    have s1 : f_fix_Climb (⟨false, l⟩, ⟨andB false (isE ops), app ([] : List (List Int)) ops⟩, ()) = _ := s1
    simp only [Bool.not_true, cnd_false]
    rw [own_spec n1 hl.2.2, bnd_some_eq, fit_ok (by simp only [sumI, lenI, List.length_nil]; omega), bnd_some_eq, s1, bnd_some_eq]
    rcases resC_cases l ops with ⟨c, hc0, hc⟩ | ⟨fs, x, _, _, h3, h4, hc⟩
    · rw [hc]
      have : notB (eqI c 0) = true := by rw [eqI_ne hc0]; rfl
      simp only [this, cnd_true]
      rfl
    · have e1 := (findAll_spec h3).1
      have e2 := h4.len
      have e3 := rowOf_len fs.length 0
      obtain ⟨⟨q3, g3⟩, _⟩ := flat_spec (andB false (isE x)) (l := x) (by omega)
      have g3 : f_fix_Flat (⟨andB false (isE x), app ([] : List Int) x⟩, ()) = _ := g3
      rw [flat_of h4] at g3
      rw [hc]
      simp only [eqI_self, notB, Bool.not_true, cnd_false]
      rw [fit_ok (by simp only [sumI, lenI, List.length_nil]; omega), bnd_some_eq, g3]
      simp only [bnd_some_eq, resF, Bool.not_true, cnd_false]
      have m2 : mulI .i64 2 (lenI ops) = 2 * (ops.length : Int) := by
        have := mulI_i64 (a := 2) (b := lenI ops) (by unfold lenI; omega) (by unfold lenI; omega)
        exact this
      have a2 : addI .i64 (2 * (ops.length : Int)) 1 = 2 * (ops.length : Int) + 1 := addI_i64 (by omega) (by omega)
      have c1 : eqI (lenI (Fx.rowOf 0 fs.length)) (2 * (ops.length : Int) + 1) = true := eqI_eq.2 (by unfold lenI; omega)
      have c2 : eqI (lenI x) (lenI (Fx.rowOf 0 fs.length)) = true := eqI_eq.2 (by unfold lenI; omega)
      rw [m2, a2, c1]
      simp only [Bool.not_true, cnd_false]
      rw [c2]
      simp only [Bool.not_true, bnd_some_eq, cnd_false]
      exact rows_loop q3 fs.length (by omega) (2 * fs.length + 1) 0 (by omega)

theorem setF_ok {l : List Fix1} (hl : l.length < 400) (f : Fix1) : ((setF l f).2 = 0 ↔ checkF l = 0 ∧ rightF f = true) ∧ ((setF l f).2 = 0 → setF l f = (sortF (delF l f.1 ++ [f]), 0) ∧ checkF (setF l f).1 = 0 ∧ (setF l f).1.length ≤ l.length + 1) := by
  have dl := delF_len l f.1
  unfold setF
  by_cases hc : checkF l = 0
  · rw [if_neg (by simpa using hc)]
    cases hr : rightF f with
    | false =>
      rw [if_pos (.inl rfl)]
      exact ⟨⟨(fun h => by cases h), (fun h => by cases h.2)⟩, (fun h => by cases h)⟩
    | true =>
      rw [if_neg (by rintro (h | h); cases h; omega)]
      obtain ⟨k1, k2, k3⟩ := check_ok hc
      have np := new_pair (dup_pair.1 k3) f
      have hlen : (sortF (delF l f.1 ++ [f])).length = (delF l f.1).length + 1 := by rw [sortF_len, List.length_append, List.length_singleton]
      refine ⟨⟨fun _ => ⟨hc, rfl⟩, fun _ => rfl⟩, fun _ => ⟨rfl, check_of (by show (sortF _).length ≤ 400; omega) (fun x hx => ?_) ?_, by show (sortF _).length ≤ _; omega⟩⟩
      · rcases List.mem_append.1 ((sortF_mem _ x).1 hx) with hx | hx
        · exact k2 x (delF_mem.1 hx).1
        · rw [List.mem_singleton.1 hx]; exact hr
      · exact ((List.mergeSort_perm _ _).pairwise_iff (fun h => Ne.symm h)).2 np
  · rw [if_pos hc]
    exact ⟨⟨fun h => absurd h hc, fun h => absurd h.1 hc⟩, fun h => absurd h hc⟩

theorem two_mem {l : List Fix1} {f g x : Fix1} (hne : f.1 ≠ g.1) : x ∈ sortF (delF (sortF (delF l f.1 ++ [f])) g.1 ++ [g]) ↔ (x ∈ l ∧ x.1 ≠ f.1 ∧ x.1 ≠ g.1) ∨ x = f ∨ x = g := by
  rw [sortF_mem, List.mem_append, delF_mem, sortF_mem, List.mem_append, delF_mem, List.mem_singleton, List.mem_singleton]
  constructor
  · rintro (⟨⟨h1, h2⟩ | h1, h3⟩ | h)
    · exact .inl ⟨h1, h2, h3⟩
    · exact .inr (.inl h1)
    · exact .inr (.inr h)
  · rintro (⟨h1, h2, h3⟩ | h | h)
    · exact .inl ⟨.inl ⟨h1, h2⟩, h3⟩
    · exact .inl ⟨.inr h, by rw [h]; exact hne⟩
    · exact .inr h

theorem set_twice {l : List Fix1} (hl : l.length ≤ 100) (f g : Fix1) : ((setF l f).2 = 0 ∧ (setF (setF l f).1 g).2 = 0 ↔ checkF l = 0 ∧ rightF f = true ∧ rightF g = true) ∧
    ((setF l f).2 = 0 ∧ (setF (setF l f).1 g).2 = 0 → checkF (setF (setF l f).1 g).1 = 0 ∧ strictF (setF (setF l f).1 g).1 ∧ (setF (setF l f).1 g).1 = sortF (delF (sortF (delF l f.1 ++ [f])) g.1 ++ [g])) := by
  obtain ⟨a1, a2⟩ := setF_ok (by omega : l.length < 400) f
  constructor
  · constructor
    · rintro ⟨h1, h2⟩
      obtain ⟨_, _, h3⟩ := a2 h1
      obtain ⟨b1, _⟩ := setF_ok (by omega : (setF l f).1.length < 400) g
      exact ⟨(a1.1 h1).1, (a1.1 h1).2, (b1.1 h2).2⟩
    · rintro ⟨h1, h2, h3⟩
      have h4 := a1.2 ⟨h1, h2⟩
      obtain ⟨_, h5, h6⟩ := a2 h4
      obtain ⟨b1, _⟩ := setF_ok (by omega : (setF l f).1.length < 400) g
      exact ⟨h4, b1.2 ⟨h5, h3⟩⟩
  · rintro ⟨h1, h2⟩
    obtain ⟨h3, h4, h5⟩ := a2 h1
    obtain ⟨_, b2⟩ := setF_ok (by omega : (setF l f).1.length < 400) g
    obtain ⟨h6, h7, h8⟩ := b2 h2
    refine ⟨h7, ?_, ?_⟩
    · rw [h6]
      exact sortF_strict (new_pair (dup_pair.1 (check_ok h4).2.2) g)
    · rw [h6, h3]

theorem eqI_dec (z : Int) : eqI z 0 = decide (z = 0) := by
  by_cases h : z = 0
  · rw [h]; rfl
  · rw [eqI_ne h]; exact (decide_eq_false h).symm
theorem cond4 {α : Type} (a b c d : Int) (k : Bool → Option α) : bnd (cnd (notB (eqI a 0)) (some true) (some (notB (eqI b 0)))) (fun x12 => bnd (cnd x12 (some true) (some (notB (eqI c 0)))) (fun x13 => bnd (cnd x13 (some true) (some (notB (eqI d 0)))) k)) =
    k (!(decide (a = 0 ∧ b = 0) && decide (c = 0 ∧ d = 0))) := by
  rw [eqI_dec a, eqI_dec b, eqI_dec c, eqI_dec d]
  by_cases h1 : a = 0 <;> by_cases h2 : b = 0 <;> by_cases h3 : c = 0 <;> by_cases h4 : d = 0 <;> simp [h1, h2, h3, h4, notB, cnd_true, cnd_false, bnd_some_eq]
theorem cond2 (a b : Int) : cnd (eqI a 0) (some (eqI b 0)) (some false) = some (decide (a = 0 ∧ b = 0)) := by
  rw [eqI_dec a, eqI_dec b]
  by_cases h1 : a = 0 <;> by_cases h2 : b = 0 <;> simp [h1, h2, cnd_true, cnd_false]

theorem law_order (n : Bool) (l : List Fix1) (f g : Fix1) (hg : ∀ x, x ∈ l → gF x) (hf : gF f) (hh : gF g) : f_law04_FixOrder (⟨n, l⟩, f, g, ()) = some (true, ()) := by
  have e : f_law04_FixOrder (⟨n, l⟩, f, g, ()) = _ := u_law04_FixOrder ⟨n, l⟩ f.1 f.2.1 f.2.2 g.1 g.2.1 g.2.2
  obtain ⟨r, h1, h2⟩ := few_spec n false l [f.1, g.1]
  rw [e, awake_spec, bnd_some_eq, h1]
  simp only [bnd_some_eq]
  rw [guard]
  cases r with
  | false => rfl
  | true =>
    simp only [Bool.not_true, cnd_false, bnd_some_eq]
    by_cases h6 : 100 < l.length
    · have : ltI 100 (lenI l) = true := decide_eq_true (by unfold lenI; omega)
      rw [this]
      simp only [cnd_true, bnd_some_eq]
    · have c1 : ltI 100 (lenI l) = false := decide_eq_false (by unfold lenI; omega)
      rw [c1]
      simp only [cnd_false, bnd_some_eq]
      by_cases h7 : f.1 = g.1
      · rw [h7, eqS_self]
        simp only [cnd_true]
      · have c2 : eqS f.1 g.1 = false := by
          rw [← Bool.not_eq_true, eqS_iff]; exact h7
        rw [c2]
        simp only [cnd_false]
        obtain ⟨k1, k2, k3, _⟩ := h2 rfl
        have hl := gL_of hg k1 k3
        have fl : f.1.length ≤ 1000000 := by have := k2 f.1 (List.mem_cons_self ..); omega
        have gl : g.1.length ≤ 1000000 := by have := k2 g.1 (List.mem_cons_of_mem _ (List.mem_cons_self ..)); omega
        have t1 := setF_gL hl hf fl
        have t2 := setF_gL hl hh gl
        obtain ⟨q1, s1, n1⟩ := set_spec false hl (fun h => by cases h) f hf fl
        obtain ⟨q2, s2, _⟩ := set_spec q1 t1 n1 g hh gl
        obtain ⟨q3, s3, n3⟩ := set_spec false hl (fun h => by cases h) g hh gl
        obtain ⟨q4, s4, _⟩ := set_spec q3 t2 n3 f hf fl
        have s1 : f_fix_Set (⟨false, l⟩, (f.1, f.2.1, f.2.2), ()) = _ := s1
        have s2 : f_fix_Set (⟨q1, (setF l f).1⟩, (g.1, g.2.1, g.2.2), ()) = _ := s2
        have s3 : f_fix_Set (⟨false, l⟩, (g.1, g.2.1, g.2.2), ()) = _ := s3
        have s4 : f_fix_Set (⟨q3, (setF l g).1⟩, (f.1, f.2.1, f.2.2), ()) = _ := s4
        obtain ⟨w1, w2⟩ := set_twice (by omega : l.length ≤ 100) f g
        obtain ⟨w3, w4⟩ := set_twice (by omega : l.length ≤ 100) g f
        have hiff : ((setF l f).2 = 0 ∧ (setF (setF l f).1 g).2 = 0) ↔ ((setF l g).2 = 0 ∧ (setF (setF l g).1 f).2 = 0) := by
          rw [w1, w3]
          constructor
          · rintro ⟨a, b, c⟩; exact ⟨a, c, b⟩
          · rintro ⟨a, b, c⟩; exact ⟨a, c, b⟩
        rw [own_spec n hl.2.2]
        simp only [bnd_some_eq]
        rw [s1]
        simp only [bnd_some_eq]
        rw [s2]
        simp only [bnd_some_eq]
        rw [s3]
        simp only [bnd_some_eq]
        rw [s4]
        simp only [bnd_some_eq]
        rw [cond4, cond2, cond2, bnd_some_eq, bnd_some_eq, decide_eq_decide.2 hiff]
        by_cases hok : (setF l g).2 = 0 ∧ (setF (setF l g).1 f).2 = 0
        · rw [decide_eq_true hok]
          simp only [Bool.and_self, Bool.not_true, cnd_false]
          obtain ⟨x1, x2, x3⟩ := w2 (hiff.2 hok)
          obtain ⟨x4, x5, x6⟩ := w4 hok
          have same : (setF (setF l g).1 f).1 = (setF (setF l f).1 g).1 := by
            refine strictF_unique _ _ x5 x2 fun z => ?_
            rw [x6, x3, two_mem h7, two_mem (fun h => h7 h.symm)]
            constructor
            · rintro (⟨a, b, c⟩ | a | a)
              · exact .inl ⟨a, c, b⟩
              · exact .inr (.inr a)
              · exact .inr (.inl a)
            · rintro (⟨a, b, c⟩ | a | a)
              · exact .inl ⟨a, c, b⟩
              · exact .inr (.inr a)
              · exact .inr (.inl a)
          have t3 := setF_gL t1 hh gl
          rw [same, same_spec _ _ _ t3.2.2, bnd_some_eq, cnd_true, check_spec q2 t3, bnd_some_eq, x1]
          rfl
        · rw [decide_eq_false hok]
          rfl
end Fn
end Ev
