/- Layer 18 in plain words: constants, pools. No statement of its own about the program. -/
import Derived.Test.YtdekfefcpdejkaaGreatDoorPlainF
namespace Ev
open Go
namespace Fn

/-! Layer 18: constants. -/
def gT (x : Thing) : Prop := (-9223372036854775808 ≤ x.2.1 ∧ x.2.1 ≤ 9223372036854775807) ∧ (∀ b, b ∈ x.2.2 → 0 ≤ b ∧ b ≤ 255) ∧ x.2.2.length ≤ 9223372036854775807

def rightT (x : Thing) : Bool := bif x.1 then decide (x.2.1 = 0) && decide (x.2.2.length ≤ 200) else x.2.2.isEmpty && decide (-4611686018427387904 ≤ x.2.1 ∧ x.2.1 ≤ 4611686018427387903)

theorem wrap_u64' (n : Int) : IntKind.u64.wrap n = n % 18446744073709551616 := by
  simp only [IntKind.wrap, IntKind.bits, IntKind.signed]
  simp
theorem wrap_i64' (n : Int) : IntKind.i64.wrap n = if n % 18446744073709551616 < 9223372036854775808 then n % 18446744073709551616 else n % 18446744073709551616 - 18446744073709551616 := by
  simp only [IntKind.wrap, IntKind.bits, IntKind.signed]
  simp
  split <;> split <;> omega

theorem wrap63_spec {n : Int} (h : -9223372036854775808 ≤ n ∧ n ≤ 9223372036854775807) : ∃ m, f_word_Wrap (n, ()) = some (m, ()) ∧ (m = n ↔ -4611686018427387904 ≤ n ∧ n ≤ 4611686018427387903) := by
  rw [u_word_Wrap]
  have e1 : shlI .u64 (cvI .u64 n) 1 = some (n % 18446744073709551616 * 2 % 18446744073709551616) := by
    unfold shlI cvI
    rw [if_neg (by omega), wrap_u64', wrap_u64']
    rfl
  rw [e1, bnd_some_eq]
  have e2 : ∀ a : Int, shrI .i64 a 1 = some (a / 2) := fun a => shrI_i64 (a := a) 1 (by omega)
  rw [e2, bnd_some_eq]
  refine ⟨_, rfl, ?_⟩
  unfold cvI
  rw [wrap_i64']
  split <;> omega

theorem rwrap63_spec {n : Int} (h : -9223372036854775808 ≤ n ∧ n ≤ 9223372036854775807) : ∃ m, f_ref01_Wrap (n, ()) = some (m, ()) ∧ (m = n ↔ -4611686018427387904 ≤ n ∧ n ≤ 4611686018427387903) := by
  rw [u_ref01_Wrap, u_ref01_back]
  have e0 : cvI .u64 n = n % 18446744073709551616 := wrap_u64' n
  rw [e0, remI_pos (by omega) (by omega), bnd_some_eq, cnd_le]
  by_cases hc : 4611686018427387904 ≤ n % 18446744073709551616 % 9223372036854775808
  · rw [if_pos hc, bnd_some_eq]
    refine ⟨_, rfl, ?_⟩
    have e1 : subI .u64 (n % 18446744073709551616 % 9223372036854775808) 4611686018427387904 = n % 18446744073709551616 % 9223372036854775808 - 4611686018427387904 := wrap_u64 (by omega) (by omega)
    show subI .i64 (cvI .i64 (subI .u64 _ _)) _ = n ↔ _
    rw [e1, cvI_i64 (by omega) (by omega), subI_i64 (by omega) (by omega)]
    omega
  · rw [if_neg hc, bnd_some_eq]
    refine ⟨_, rfl, ?_⟩
    show cvI .i64 _ = n ↔ _
    rw [cvI_i64 (by omega) (by omega)]
    omega

theorem eqS_nil (s : List Int) : eqS s [] = s.isEmpty := by cases s <;> rfl

theorem im_right (x : Thing) (h : gT x) : f_image_right (x, ()) = some (rightT x, ()) := by
  obtain ⟨b, n, s⟩ := x
  obtain ⟨m, h1, h2⟩ := wrap63_spec h.1
  rw [u_image_right, eqS_nil, h1]
  unfold rightT
  cases b with
  | true =>
    simp only [cnd_true, cond_true, cnd_eq]
    by_cases hn : n = 0
    · rw [if_pos hn, bnd_some_eq]
      simp only [hn, decide_true, Bool.true_and]
      congr 2
      unfold leI lenI
      exact decide_eq_decide.2 (by omega)
    · rw [if_neg hn, bnd_some_eq]
      simp [hn]
  | false =>
    simp only [cnd_false, cond_false]
    cases hs : s.isEmpty with
    | true =>
      rw [cnd_true, bnd_some_eq, Bool.true_and]
      congr 2
      cases hd : decide (-4611686018427387904 ≤ n ∧ n ≤ 4611686018427387903) with
      | true => rw [eqI_eq]; exact h2.2 (of_decide_eq_true hd)
      | false => exact eqI_ne fun e => of_decide_eq_false hd (h2.1 e)
    | false => rw [cnd_false, Bool.false_and]

theorem rf_right (x : Thing) (h : gT x) : f_ref18_right (x, ()) = some (rightT x, ()) := by
  obtain ⟨b, n, s⟩ := x
  obtain ⟨m, h1, h2⟩ := rwrap63_spec h.1
  rw [u_ref18_right, eqS_nil, h1]
  unfold rightT
  cases b with
  | true =>
    simp only [cnd_true, cond_true, cnd_eq]
    by_cases hn : n = 0
    · rw [if_pos hn, bnd_some_eq]
      simp only [hn, decide_true, Bool.true_and]
      congr 2
      unfold leI lenI
      exact decide_eq_decide.2 (by omega)
    · rw [if_neg hn, bnd_some_eq]
      simp [hn]
  | false =>
    simp only [cnd_false, cond_false]
    cases hs : s.isEmpty with
    | true =>
      rw [cnd_true, bnd_some_eq, Bool.true_and]
      congr 2
      cases hd : decide (-4611686018427387904 ≤ n ∧ n ≤ 4611686018427387903) with
      | true => rw [eqI_eq]; exact h2.2 (of_decide_eq_true hd)
      | false => exact eqI_ne fun e => of_decide_eq_false hd (h2.1 e)
    | false => rw [cnd_false, Bool.false_and]

theorem im_good {x : Thing} (h : gT x) (hr : rightT x = true) : goodT x = true := by
  obtain ⟨b, n, s⟩ := x
  obtain ⟨⟨h1, h2⟩, h3, h4⟩ := h
  unfold rightT at hr
  unfold goodT
  have hb : s.all (fun b => decide (0 ≤ b) && decide (b ≤ 255)) = true := List.all_eq_true.2 fun b hb => by
    have := h3 b hb
    simp [this.1, this.2]
  simp only at hr h1 h2 h4 ⊢
  rw [hb]
  cases b with
  | true =>
    simp only [cond_true, Bool.and_eq_true, decide_eq_true_eq] at hr
    simp [hr.1, h4]
  | false =>
    simp only [cond_false, Bool.and_eq_true, decide_eq_true_eq] at hr
    simp [hr.1, h1, h2, h4]

theorem im_less (x y : Thing) : f_image_Less (x, y, ()) = some (lessD x y, ()) := by
  obtain ⟨a, n, s⟩ := x
  obtain ⟨b, m, t⟩ := y
  rw [u_image_Less]
  cases a <;> cases b <;> rfl

theorem rf_less (x y : Thing) : f_ref18_Less (x, y, ()) = some (lessD x y, ()) := by
  obtain ⟨a, n, s⟩ := x
  obtain ⟨b, m, t⟩ := y
  rw [u_ref18_Less]
  cases a <;> cases b <;> simp [lessD, cnd, bnd, notB]
  · cases hh : decide (n < m) <;> simp [ltI, hh]
  · cases Ev.strLt s t <;> simp

/-- The same constant. -/
theorem eqT_spec (x y : Thing) : andB (eqB x.1 y.1) (andB (eqI x.2.1 y.2.1) (eqS x.2.2 y.2.2)) = decide (x = y) := by
  obtain ⟨a, n, s⟩ := x
  obtain ⟨b, m, t⟩ := y
  show ((a == b) && ((n == m) && (s == t))) = _
  rw [Bool.eq_iff_iff]
  simp [Prod.ext_iff]
end Fn
end Ev
namespace Ev
open Go
namespace Fn

theorem drop_cons {α : Type} {l : List α} {k : Nat} (h : k < l.length) : l.drop k = l[k] :: l.drop (k + 1) := List.drop_eq_getElem_cons h

/-! Few things, things of one's own memory. -/
def fewB (l : List Thing) : Bool := decide (l.length ≤ 100) && l.all fun x => decide (x.2.2.length ≤ 300)

theorem le100 (l : List Thing) : leI (lenI l) 100 = decide (l.length ≤ 100) := decide_eq_decide.2 (by unfold lenI; omega)

theorem fewB_len {l : List Thing} (h : fewB l = true) : l.length ≤ 100 ∧ ∀ x, x ∈ l → x.2.2.length ≤ 300 := by
  unfold fewB at h
  rw [Bool.and_eq_true, decide_eq_true_eq, List.all_eq_true] at h
  exact ⟨h.1, fun x hx => of_decide_eq_true (h.2 x hx)⟩

theorem im_own (L : Sl Thing) (h : L.l.length ≤ 1000000) : ∃ n, f_law18_own (L, ()) = some (⟨n, L.l⟩, ()) := by
  rw [u_law18_own, fit_ok (by simp only [sumI, lenI, List.length_nil]; omega), bnd_some_eq]
  exact ⟨_, rfl⟩

/-! One that may not be. -/
theorem bad1_spec (x : Thing) (h : gT x) : f_image_Pool_1 (x, ()) = some (!rightT x, ()) := by
  obtain ⟨b, n, s⟩ := x
  rw [u_image_Pool_1, im_right _ h, bnd_some_eq]
  rfl

theorem badC_loop (L : Sl Thing) (hL : L.l.length ≤ 1000000) (hg : ∀ x, x ∈ L.l → gT x) : ∀ (m k : Nat), k + m = L.l.length → ∃ r, loopR l1_slices_IndexFuncC (L, (L.l.length : Int), (k : Int), ()) = some (r, ()) ∧ leI 0 r = (L.l.drop k).any fun x => !rightT x := by
  intro m
  induction m with
  | zero =>
    intro k hk
    refine ⟨-1, loopR_inr ?_, ?_⟩
    · unfold l1_slices_IndexFuncC
      simp only
      rw [cnd_lt, if_neg (by omega)]
    · rw [List.drop_eq_nil_of_le (by omega)]; rfl
  | succ m ih =>
    intro k hk
    have hlt : k < L.l.length := by omega
    rw [drop_cons hlt, List.any_cons]
    have step : l1_slices_IndexFuncC (L, (L.l.length : Int), (k : Int), ()) = cnd (!rightT L.l[k]) (some (.inr ((k : Int), ()))) (some (.inl (L, (L.l.length : Int), ((k + 1 : Nat) : Int), ()))) := by
      unfold l1_slices_IndexFuncC
      simp only
      rw [cnd_lt, if_pos (by omega), at?_nat (List.getElem?_eq_getElem hlt), bnd_some_eq, bad1_spec _ (hg _ (List.getElem_mem hlt)), bnd_some_eq, addI_i64 (by omega) (by omega)]
      rfl
    cases hb : rightT L.l[k] with
    | false =>
      rw [hb] at step
      exact ⟨k, loopR_inr step, by simp [leI]⟩
    | true =>
      rw [hb] at step
      obtain ⟨r, h1, h2⟩ := ih (k + 1) (by omega)
      exact ⟨r, by rw [loopR_inl step, h1], by simpa using h2⟩

theorem anyBad_spec (L : Sl Thing) (hL : L.l.length ≤ 1000000) (hg : ∀ x, x ∈ L.l → gT x) : f_slices_ContainsFuncC (L, ()) = some (L.l.any (fun x => !rightT x), ()) := by
  obtain ⟨r, h1, h2⟩ := badC_loop L hL hg L.l.length 0 (by omega)
  rw [u_slices_ContainsFuncC, u_slices_IndexFuncC]
  show bnd (loopR l1_slices_IndexFuncC (L, (L.l.length : Int), ((0 : Nat) : Int), ())) _ = _
  rw [h1, bnd_some_eq]
  simp only [h2, List.drop_zero]

/-! Where one stands. -/
def idxF (c : Thing) : List Thing → Nat → Int
  | [], _ => -1
  | x :: r, i => if x = c then (i : Int) else idxF c r (i + 1)
def idxT (l : List Thing) (c : Thing) : Int := idxF c l 0

theorem eq1_spec (x c : Thing) : f_image_Index_1 (x, c, ()) = some (decide (x = c), ()) := by
  obtain ⟨a, n, s⟩ := x
  obtain ⟨b, m, t⟩ := c
  rw [u_image_Index_1, ← eqT_spec]

theorem index_loopC (L : Sl Thing) (c : Thing) (hL : L.l.length ≤ 1000000) : ∀ (m k : Nat), k + m = L.l.length → loopR l1_slices_IndexFuncC_v2 (L, c, (L.l.length : Int), (k : Int), ()) = some (idxF c (L.l.drop k) k, ()) := by
  intro m
  induction m with
  | zero =>
    intro k hk
    refine loopR_inr ?_
    unfold l1_slices_IndexFuncC_v2
    simp only
    rw [cnd_lt, if_neg (by omega), List.drop_eq_nil_of_le (by omega)]
    rfl
  | succ m ih =>
    intro k hk
    have hlt : k < L.l.length := by omega
    rw [drop_cons hlt]
    have step : l1_slices_IndexFuncC_v2 (L, c, (L.l.length : Int), (k : Int), ()) = cnd (decide (L.l[k] = c)) (some (.inr ((k : Int), ()))) (some (.inl (L, c, (L.l.length : Int), ((k + 1 : Nat) : Int), ()))) := by
      unfold l1_slices_IndexFuncC_v2
      simp only
      rw [cnd_lt, if_pos (by omega), at?_nat (List.getElem?_eq_getElem hlt), bnd_some_eq, eq1_spec, bnd_some_eq, addI_i64 (by omega) (by omega)]
      rfl
    show _ = some ((if L.l[k] = c then (k : Int) else idxF c (L.l.drop (k + 1)) (k + 1)), ())
    by_cases hb : L.l[k] = c
    · rw [if_pos hb]
      rw [decide_eq_true hb] at step
      exact loopR_inr step
    · rw [if_neg hb]
      rw [decide_eq_false hb] at step
      rw [loopR_inl step, ih (k + 1) (by omega)]

theorem im_index (L : Sl Thing) (c : Thing) (hL : L.l.length ≤ 1000000) : f_image_Index (L, c, ()) = some (idxT L.l c, ()) := by
  obtain ⟨b, n, s⟩ := c
  rw [u_image_Index, u_slices_IndexFuncC_v2]
  show bnd (loopR l1_slices_IndexFuncC_v2 (L, (b, n, s), (L.l.length : Int), ((0 : Nat) : Int), ())) _ = _
  rw [index_loopC L _ hL L.l.length 0 (by omega), bnd_some_eq]
  rfl

theorem idxF_none (c : Thing) : ∀ (l : List Thing) (i : Nat), c ∉ l → idxF c l i = -1
  | [], _, _ => rfl
  | x :: r, i, h => by
    unfold idxF
    rw [if_neg (fun e => h (by rw [e]; exact List.mem_cons_self ..))]
    exact idxF_none c r (i + 1) fun hm => h (List.mem_cons_of_mem _ hm)
theorem idxF_some (c : Thing) : ∀ (l : List Thing) (i : Nat), c ∈ l → ∃ j : Nat, idxF c l i = ((i + j : Nat) : Int) ∧ l[j]? = some c ∧ ∀ q, q < j → l[q]? ≠ some c
  | [], _, h => by cases h
  | x :: r, i, h => by
    unfold idxF
    by_cases hx : x = c
    · rw [if_pos hx]; exact ⟨0, rfl, by rw [hx]; rfl, fun q hq => by omega⟩
    · rw [if_neg hx]
      have hm : c ∈ r := by
        rcases List.mem_cons.1 h with h | h
        · exact absurd h.symm hx
        · exact h
      obtain ⟨j, h1, h2, h3⟩ := idxF_some c r (i + 1) hm
      refine ⟨j + 1, by rw [h1]; congr 1; omega, by simpa using h2, fun q hq => ?_⟩
      cases q with
      | zero => simpa using hx
      | succ q => simpa using h3 q (by omega)

/-! The sum of bytes. -/
def sumT (n c : Int) : Int := mulI .u32 (xorI .u32 n (cvI .u32 c)) 16777619
def sumB (s : List Int) : Int := s.foldl sumT 2166136261

theorem sum_loop (s : List Int) (hs : s.length ≤ 1000000000) : ∀ (m k : Nat) (n : Int), k + m = s.length → loopR l1_image_Sum (s, n, (s.length : Int), (k : Int), ()) = some ((s.drop k).foldl sumT n, ()) := by
  intro m
  induction m with
  | zero =>
    intro k n hk
    refine loopR_inr ?_
    unfold l1_image_Sum
    simp only
    rw [cnd_lt, if_neg (by omega), List.drop_eq_nil_of_le (by omega)]
    rfl
  | succ m ih =>
    intro k n hk
    have hlt : k < s.length := by omega
    rw [drop_cons hlt, List.foldl_cons]
    have step : l1_image_Sum (s, n, (s.length : Int), (k : Int), ()) = some (.inl (s, sumT n s[k], (s.length : Int), ((k + 1 : Nat) : Int), ())) := by
      unfold l1_image_Sum
      simp only
      rw [cnd_lt, if_pos (by omega), at?_nat (List.getElem?_eq_getElem hlt), bnd_some_eq, addI_i64 (by omega) (by omega)]
      rfl
    rw [loopR_inl step, ih (k + 1) _ (by omega)]

theorem im_sum (s : List Int) (hs : s.length ≤ 1000000000) : f_image_Sum (s, ()) = some (sumB s, ()) := by
  rw [u_image_Sum]
  exact sum_loop s hs s.length 0 _ (by omega)

theorem rsum_loop (s : List Int) (hs : s.length ≤ 1000000000) : ∀ (m k : Nat) (n : Int), k + m = s.length → loopR l1_ref18_Sum (s, n, (k : Int), ()) = some ((s.drop k).foldl sumT n, ()) := by
  intro m
  induction m with
  | zero =>
    intro k n hk
    refine loopR_inr ?_
    unfold l1_ref18_Sum
    simp only
    rw [cnd_lt, if_neg (by show ¬ (k : Int) < (s.length : Int); omega), List.drop_eq_nil_of_le (by omega)]
    rfl
  | succ m ih =>
    intro k n hk
    have hlt : k < s.length := by omega
    rw [drop_cons hlt, List.foldl_cons]
    have step : l1_ref18_Sum (s, n, (k : Int), ()) = some (.inl (s, sumT n s[k], ((k + 1 : Nat) : Int), ())) := by
      unfold l1_ref18_Sum
      simp only
      rw [cnd_lt, if_pos (by show (k : Int) < (s.length : Int); omega), at?_nat (List.getElem?_eq_getElem hlt), bnd_some_eq, addI_i64 (by omega) (by omega)]
      rfl
    rw [loopR_inl step, ih (k + 1) _ (by omega)]

theorem rf_sum (s : List Int) (hs : s.length ≤ 1000000000) : f_ref18_Sum (s, ()) = some (sumB s, ()) := by
  rw [u_ref18_Sum]
  exact rsum_loop s hs s.length 0 _ (by omega)
end Fn
end Ev
namespace Ev
open Go
namespace Fn

/-! Each once. -/
def compF (a : Thing) : List Thing → List Thing
  | [] => []
  | x :: r => if x = a then compF a r else x :: compF x r
def compL : List Thing → List Thing
  | [] => []
  | x :: r => x :: compF x r

theorem sumI_nat (a b : Nat) : sumI (a : Int) (b : Int) = ((a + b : Nat) : Int) := by unfold sumI; omega

theorem comp_loop (n : Bool) (K0 : Nat) : ∀ (m k2 k : Nat) (T : List Thing) (x : Thing), T.length ≤ 1000000 → K0 + k2 + m = T.length → 1 ≤ k2 → k ≤ K0 + k2 - 1 → T[K0 + k2 - 1]? = some x →
    ∃ n', loopR l1_slices_CompactC ((k : Int), (K0 : Int), (k2 : Int), ⟨n, T⟩, ()) = some (.inr (⟨n', T.take k ++ compF x (T.drop (K0 + k2))⟩, ())) := by
  intro m
  induction m with
  | zero =>
    intro k2 k T x hT hk h1 h2 hx
    refine ⟨n, loopR_inr ?_⟩
    unfold l1_slices_CompactC
    simp only
    have e1 : lenI (dropL T (K0 : Int)) = ((T.length - K0 : Nat) : Int) := by unfold lenI dropL; simp
    rw [e1, cnd_lt, if_neg (by omega)]
    have e2 : ∀ (l : List Thing), l.length = T.length → cutN (lenI l) (k : Int) = some k := by
      intro l hl
      unfold cutN lenI
      rw [if_pos (by omega)]
      simp
    have e3 : (zerL T (k : Int) ((false, 0, []) : Thing)).length = T.length := by unfold zerL; simp; omega
    rw [e2 T rfl, bnd_some_eq, e2 _ e3, bnd_some_eq]
    have e4 : takeL (zerL T (k : Int) ((false, 0, []) : Thing)) k = T.take k := by
      unfold takeL zerL
      simp only [Int.toNat_natCast]
      rw [List.take_append_of_le_length (by simp; omega), List.take_take, Nat.min_self]
    rw [e4, List.drop_eq_nil_of_le (by omega)]
    simp only [compF, List.append_nil]
  | succ m ih =>
    intro k2 k T x hT hk h1 h2 hx
    have hlt : K0 + k2 < T.length := by omega
    have hl1 : K0 + k2 - 1 < T.length := by omega
    have hx' : T[K0 + k2 - 1] = x := by rw [List.getElem?_eq_getElem hl1] at hx; injection hx
    have hkT : k < T.length := by omega
    have e1 : lenI (dropL T (K0 : Int)) = ((T.length - K0 : Nat) : Int) := by unfold lenI dropL; simp
    have a1 : (cnd (leI 0 (k2 : Int)) (okAt T (sumI (K0 : Int) (k2 : Int))) none) = some (K0 + k2) := by
      rw [cnd_le, if_pos (by omega), sumI_nat]; exact okAt_nat hlt
    have s1 : subI .i64 (k2 : Int) 1 = ((k2 - 1 : Nat) : Int) := by rw [subI_i64 (by omega) (by omega)]; omega
    have a2 : (cnd (leI 0 (subI .i64 (k2 : Int) 1)) (okAt T (sumI (K0 : Int) (subI .i64 (k2 : Int) 1))) none) = some (K0 + k2 - 1) := by
      rw [s1, cnd_le, if_pos (by omega), sumI_nat]
      have : K0 + (k2 - 1) = K0 + k2 - 1 := by omega
      rw [this]; exact okAt_nat hl1
    have g1 : nth T (K0 + k2) = some T[K0 + k2] := List.getElem?_eq_getElem hlt
    have g2 : nth T (K0 + k2 - 1) = some x := hx
    have ak : addI .i64 (k : Int) 1 = ((k + 1 : Nat) : Int) := add1 (by omega)
    have ak2 : addI .i64 (k2 : Int) 1 = ((k2 + 1 : Nat) : Int) := add1 (by omega)
    have step : l1_slices_CompactC ((k : Int), (K0 : Int), (k2 : Int), ⟨n, T⟩, ()) = if T[K0 + k2] = x then some (.inl ((k : Int), (K0 : Int), ((k2 + 1 : Nat) : Int), ⟨n, T⟩, ())) else
        some (.inl (((k + 1 : Nat) : Int), (K0 : Int), ((k2 + 1 : Nat) : Int), ⟨n, T.set k T[K0 + k2]⟩, ())) := by
      unfold l1_slices_CompactC
      simp only
      rw [e1, cnd_lt, if_pos (by omega), a1, bnd_some_eq, g1, bnd_some_eq, a2, bnd_some_eq, g2, bnd_some_eq, eqT_spec, cnd_not, cnd_dec]
      by_cases he : T[K0 + k2] = x
      · rw [if_pos he, if_pos he, bnd_some_eq]
        simp only [ak2]
      · rw [if_neg he, if_neg he, bnd_some_eq, g1, bnd_some_eq, okAt_nat hkT, bnd_some_eq]
        have : nth T k = some T[k] := List.getElem?_eq_getElem hkT
        rw [this, bnd_some_eq, bnd_some_eq, bnd_some_eq]
        simp only [ak, ak2]
        rfl
    rw [drop_cons hlt]
    by_cases he : T[K0 + k2] = x
    · rw [if_pos he] at step
      obtain ⟨n', hn⟩ := ih (k2 + 1) k T x hT (by omega) (by omega) (by omega) (by show T[K0 + k2]? = _; rw [List.getElem?_eq_getElem hlt, he])
      refine ⟨n', ?_⟩
      rw [loopR_inl step, hn]
      have : compF x (T[K0 + k2] :: T.drop (K0 + k2 + 1)) = compF x (T.drop (K0 + k2 + 1)) := by
        rw [compF, if_pos he]
      rw [this]
      rfl
    · rw [if_neg he] at step
      obtain ⟨n', hn⟩ := ih (k2 + 1) (k + 1) (T.set k T[K0 + k2]) T[K0 + k2] (by simpa using hT) (by rw [List.length_set]; omega) (by omega) (by omega)
        (by show (T.set k T[K0 + k2])[K0 + k2]? = _; rw [List.getElem?_set_ne (by omega), List.getElem?_eq_getElem hlt])
      refine ⟨n', ?_⟩
      rw [loopR_inl step, hn]
      have e5 : (T.set k T[K0 + k2]).take (k + 1) = T.take k ++ [T[K0 + k2]] := by
        rw [List.take_add_one, List.take_set_of_le (by omega)]
        congr 1
        rw [List.getElem?_set_self (by omega)]; rfl
      have e6 : (T.set k T[K0 + k2]).drop (K0 + (k2 + 1)) = T.drop (K0 + k2 + 1) := by
        rw [List.drop_set_of_lt (by omega)]; rfl
      have : compF x (T[K0 + k2] :: T.drop (K0 + k2 + 1)) = T[K0 + k2] :: compF T[K0 + k2] (T.drop (K0 + k2 + 1)) := by
        rw [compF, if_neg he]
      rw [e5, e6, this]
      simp

theorem comp2_loop (S : Sl Thing) (hS : S.l.length ≤ 1000000) : ∀ (m k : Nat) (x : Thing), k + m = S.l.length → 1 ≤ k → S.l[k - 1]? = some x →
    ∃ n', loopR l2_slices_CompactC ((k : Int), S, ()) = some (⟨n', S.l.take k ++ compF x (S.l.drop k)⟩, ()) := by
  intro m
  induction m with
  | zero =>
    intro k x hk h1 hx
    refine ⟨S.nil, loopR_inr ?_⟩
    unfold l2_slices_CompactC
    simp only
    rw [cnd_lt, if_neg (by show ¬ (k : Int) < (S.l.length : Int); omega), List.drop_eq_nil_of_le (by omega), List.take_of_length_le (by omega)]
    simp only [compF, List.append_nil]
  | succ m ih =>
    intro k x hk h1 hx
    have hlt : k < S.l.length := by omega
    have s1 : subI .i64 (k : Int) 1 = ((k - 1 : Nat) : Int) := by rw [subI_i64 (by omega) (by omega)]; omega
    have g1 : nth S.l k = some S.l[k] := List.getElem?_eq_getElem hlt
    have g2 : nth S.l (k - 1) = some x := hx
    have step : l2_slices_CompactC ((k : Int), S, ()) = if S.l[k] = x then bnd (loopR l1_slices_CompactC ((k : Int), (k : Int), ((1 : Nat) : Int), S, ())) some else some (.inl (((k + 1 : Nat) : Int), S, ())) := by
      unfold l2_slices_CompactC
      simp only
      rw [cnd_lt, if_pos (by show (k : Int) < (S.l.length : Int); omega), okAt_nat hlt, bnd_some_eq, g1, bnd_some_eq, s1, okAt_nat (by omega), bnd_some_eq, g2, bnd_some_eq, eqT_spec, cnd_dec]
      by_cases he : S.l[k] = x
      · rw [if_pos he, if_pos he]
        have : cutN (lenI S.l) (k : Int) = some k := by
          unfold cutN lenI
          rw [if_pos (by omega)]
          simp
        rw [this, bnd_some_eq]
        show loopR _ _ = _
        cases loopR l1_slices_CompactC ((k : Int), (k : Int), ((1 : Nat) : Int), S, ()) <;> rfl
      · rw [if_neg he, if_neg he, addI_i64 (by omega) (by omega)]
        rfl
    rw [drop_cons hlt]
    by_cases he : S.l[k] = x
    · rw [if_pos he] at step
      obtain ⟨n', hn⟩ := comp_loop S.nil k m 1 k S.l S.l[k] hS (by omega) (by omega) (by omega) (by show S.l[k + 1 - 1]? = _; rw [Nat.add_sub_cancel, List.getElem?_eq_getElem hlt])
      refine ⟨n', loopR_inr ?_⟩
      rw [step]
      show bnd (loopR l1_slices_CompactC ((k : Int), (k : Int), ((1 : Nat) : Int), ⟨S.nil, S.l⟩, ())) some = _
      rw [hn, bnd_some_eq]
      have : compF x (S.l[k] :: S.l.drop (k + 1)) = compF S.l[k] (S.l.drop (k + 1)) := by
        rw [compF, if_pos he, he]
      rw [this]
    · rw [if_neg he] at step
      obtain ⟨n', hn⟩ := ih (k + 1) S.l[k] (by omega) (by omega) (by rw [Nat.add_sub_cancel, List.getElem?_eq_getElem hlt])
      refine ⟨n', ?_⟩
      rw [loopR_inl step, hn]
      have : compF x (S.l[k] :: S.l.drop (k + 1)) = S.l[k] :: compF S.l[k] (S.l.drop (k + 1)) := by
        rw [compF, if_neg he]
      rw [this, List.take_add_one, List.getElem?_eq_getElem hlt, Option.toList_some, List.append_assoc, List.singleton_append]

theorem im_compact (S : Sl Thing) (hS : S.l.length ≤ 1000000) : ∃ n, f_slices_CompactC (S, ()) = some (⟨n, compL S.l⟩, ()) := by
  rw [u_slices_CompactC, cnd_lt]
  by_cases h : S.l.length < 2
  · rw [if_pos (by show (S.l.length : Int) < 2; omega)]
    refine ⟨S.nil, ?_⟩
    have : compL S.l = S.l := by
      rcases S with ⟨n, l⟩
      match l, h with
      | [], _ => rfl
      | [x], _ => rfl
    rw [this]
  · rw [if_neg (by show ¬ (S.l.length : Int) < 2; omega)]
    obtain ⟨x, r, hl⟩ : ∃ x r, S.l = x :: r := by
      cases hl : S.l with
      | nil => rw [hl] at h; simp at h
      | cons x r => exact ⟨x, r, rfl⟩
    obtain ⟨n', hn⟩ := comp2_loop S hS (S.l.length - 1) 1 x (by omega) (by omega) (by rw [hl]; rfl)
    refine ⟨n', ?_⟩
    show loopR l2_slices_CompactC (((1 : Nat) : Int), S, ()) = _
    rw [hn, hl]
    rfl

/-! What is strictly in order. -/
def leD (a b : Thing) : Bool := !lessD b a
def strictL (l : List Thing) : Prop := l.Pairwise fun a b => lessD a b = true

theorem lessD_asymm {a b : Thing} (h : lessD a b = true) : lessD b a = false := by
  cases h2 : lessD b a with
  | false => rfl
  | true => have := lessD_trans a b a h h2; rw [lessD_irrefl] at this; cases this

theorem lessD_ntrans (a b c : Thing) (h1 : lessD a b = false) (h2 : lessD b c = false) : lessD a c = false := by
  cases h : lessD a c with
  | false => rfl
  | true =>
    exfalso
    obtain ⟨x, n, s⟩ := a
    obtain ⟨y, m, t⟩ := b
    obtain ⟨z, k, u⟩ := c
    cases x <;> cases y <;> cases z <;> simp [lessD] at h h1 h2
    · omega
    · have h3 : strLt t s = false ∨ strLt t s = true := by cases strLt t s <;> simp
      rcases h3 with h3 | h3
      · have := strLt_total s t h1 h3; subst this; rw [h] at h2; cases h2
      · have := strLt_trans t s u h3 h; rw [this] at h2; cases h2

theorem strict_unique : ∀ (l m : List Thing), strictL l → strictL m → (∀ x, x ∈ l ↔ x ∈ m) → l = m
  | [], [], _, _, _ => rfl
  | [], y :: m, _, _, h => by have := (h y).2 (List.mem_cons_self ..); cases this
  | x :: l, [], _, _, h => by have := (h x).1 (List.mem_cons_self ..); cases this
  | x :: l, y :: m, h1, h2, h => by
    obtain ⟨a1, a2⟩ := List.pairwise_cons.1 h1
    obtain ⟨b1, b2⟩ := List.pairwise_cons.1 h2
    have e : x = y := by
      have hx := (h x).1 (List.mem_cons_self ..)
      have hy := (h y).2 (List.mem_cons_self ..)
      rcases List.mem_cons.1 hx with hx | hx
      · exact hx
      · rcases List.mem_cons.1 hy with hy | hy
        · exact hy.symm
        · have c1 := b1 x hx
          have c2 := a1 y hy
          rw [lessD_asymm c1] at c2; cases c2
    subst e
    congr 1
    refine strict_unique l m a2 b2 fun z => ⟨fun hz => ?_, fun hz => ?_⟩
    · rcases List.mem_cons.1 ((h z).1 (List.mem_cons_of_mem _ hz)) with e | e
      · have := a1 z hz; rw [e, lessD_irrefl] at this; cases this
      · exact e
    · rcases List.mem_cons.1 ((h z).2 (List.mem_cons_of_mem _ hz)) with e | e
      · have := b1 z hz; rw [e, lessD_irrefl] at this; cases this
      · exact e

theorem compF_mem : ∀ (r : List Thing) (a x : Thing), x ∈ a :: compF a r ↔ x ∈ a :: r
  | [], a, x => Iff.rfl
  | y :: r, a, x => by
    unfold compF
    by_cases h : y = a
    · rw [if_pos h, compF_mem r a x]
      subst h
      simp
    · rw [if_neg h, List.mem_cons, compF_mem r y x]
      simp

theorem compF_strict : ∀ (r : List Thing) (a : Thing), (∀ x, x ∈ a :: r → goodT x = true) → (a :: r).Pairwise (fun x y => leD x y = true) → strictL (a :: compF a r)
  | [], a, _, _ => by unfold strictL compF; exact List.pairwise_singleton ..
  | y :: r, a, hg, hp => by
    obtain ⟨p1, p2⟩ := List.pairwise_cons.1 hp
    unfold compF
    by_cases h : y = a
    · rw [if_pos h]
      subst h
      exact compF_strict r y (fun x hx => hg x (List.mem_cons_of_mem _ hx)) p2
    · rw [if_neg h]
      have ih := compF_strict r y (fun x hx => hg x (List.mem_cons_of_mem _ hx)) p2
      have hay : lessD a y = true := by
        cases hl : lessD a y with
        | true => rfl
        | false =>
          have h1 := p1 y (List.mem_cons_self ..)
          unfold leD at h1
          have h2 : lessD y a = false := by simpa using h1
          exact absurd (lessD_total a y (hg a (List.mem_cons_self ..)) (hg y (List.mem_cons_of_mem _ (List.mem_cons_self ..))) hl h2).symm h
      refine List.pairwise_cons.2 ⟨fun z hz => ?_, ih⟩
      rcases List.mem_cons.1 hz with rfl | hz
      · exact hay
      · exact lessD_trans a y z hay ((List.pairwise_cons.1 ih).1 z hz)

theorem compL_mem (l : List Thing) (x : Thing) : x ∈ compL l ↔ x ∈ l := by
  cases l with
  | nil => exact Iff.rfl
  | cons a r => exact compF_mem r a x

theorem compL_strict {l : List Thing} (hg : ∀ x, x ∈ l → goodT x = true) (hp : l.Pairwise fun x y => leD x y = true) : strictL (compL l) := by
  cases l with
  | nil => exact List.Pairwise.nil
  | cons a r => exact compF_strict r a hg hp

/-- The pool of things. -/
def poolL (l : List Thing) : List Thing := compL (l.mergeSort leD)

theorem poolL_mem (l : List Thing) (x : Thing) : x ∈ poolL l ↔ x ∈ l := by
  unfold poolL
  rw [compL_mem]
  exact (List.mergeSort_perm l leD).mem_iff

theorem poolL_strict {l : List Thing} (hg : ∀ x, x ∈ l → goodT x = true) : strictL (poolL l) := by
  refine compL_strict (fun x hx => hg x ((List.mergeSort_perm l leD).mem_iff.1 hx)) ?_
  refine List.pairwise_mergeSort (le := leD) (fun a b c h1 h2 => ?_) (fun a b => ?_) l
  · unfold leD at h1 h2 ⊢
    have h1 : lessD b a = false := by simpa using h1
    have h2 : lessD c b = false := by simpa using h2
    rw [lessD_ntrans c b a h2 h1]; rfl
  · unfold leD
    cases h : lessD b a with
    | false => rfl
    | true => rw [lessD_asymm h]; rfl

theorem compF_len : ∀ (r : List Thing) (a : Thing), (compF a r).length ≤ r.length
  | [], _ => Nat.le_refl _
  | y :: r, a => by
    unfold compF
    by_cases h : y = a
    · rw [if_pos h]; have := compF_len r a; simp; omega
    · rw [if_neg h]; have := compF_len r y; simp; omega
theorem poolL_len (l : List Thing) : (poolL l).length ≤ l.length := by
  unfold poolL
  have : ∀ m : List Thing, (compL m).length ≤ m.length := fun m => by
    cases m with
    | nil => exact Nat.le_refl _
    | cons a r => have := compF_len r a; simp [compL]; omega
  exact Nat.le_trans (this _) (Nat.le_of_eq (List.length_mergeSort l))

theorem im_pool (L : Sl Thing) (hL : L.l.length ≤ 4000) (hn : L.nil = true → L.l = []) (hg : ∀ x, x ∈ L.l → gT x) :
    ∃ n, f_image_Pool (L, ()) = some (if L.l.any (fun x => !rightT x) = true then (⟨true, []⟩, 180, ()) else (⟨n, poolL L.l⟩, 0, ())) := by
  rw [u_image_Pool, anyBad_spec L (by omega) hg, bnd_some_eq]
  cases hb : L.l.any (fun x => !rightT x) with
  | true => exact ⟨true, by rw [cnd_true, if_pos rfl]⟩
  | false =>
    simp only [cnd_false, Bool.false_eq_true, if_false]
    have hcl : ∃ n1, f_slices_CloneC (L, ()) = some (⟨n1, L.l⟩, ()) := by
      rw [u_slices_CloneC]
      cases hnl : L.nil with
      | true => rw [cnd_true, hn hnl]; exact ⟨_, rfl⟩
      | false => rw [cnd_false, fit_ok (by simp only [sumI, lenI, List.length_nil]; omega), bnd_some_eq]; exact ⟨_, rfl⟩
    obtain ⟨n1, h1⟩ := hcl
    have hgood : ∀ x, x ∈ L.l → goodT x = true := fun x hx => im_good (hg x hx) (by
      have := List.any_eq_false.1 hb x hx
      simpa using this)
    have hsort : f_slices_SortFuncC (⟨n1, L.l⟩, ()) = some (⟨n1, L.l.mergeSort leD⟩, ()) := by
      unfold f_slices_SortFuncC
      rw [List.all_eq_true.2 hgood, decide_eq_true (by show L.l.length < 4611686018427387904; omega)]
      rfl
    obtain ⟨n2, h2⟩ := im_compact ⟨n1, L.l.mergeSort leD⟩ (by show (L.l.mergeSort leD).length ≤ _; rw [List.length_mergeSort]; omega)
    refine ⟨n2, ?_⟩
    rw [h1, bnd_some_eq, hsort, bnd_some_eq, h2, bnd_some_eq, cnd_lt, if_neg]
    · rfl
    · show ¬ 4000 < ((poolL L.l).length : Int)
      have := poolL_len L.l
      omega
end Fn
end Ev
