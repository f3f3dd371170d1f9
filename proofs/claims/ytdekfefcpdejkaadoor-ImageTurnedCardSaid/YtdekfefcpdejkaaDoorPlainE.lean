/- Layer 16: what the functions give. No statement of its own about the program. -/
import Derived.Test.YtdekfefcpdejkaaDoorPlainD
namespace Ev
open Go
namespace Fn

/-! The walks: where each begins, what is tight. -/
theorem okAt_nat {α : Type} {l : List α} {i : Nat} (h : i < l.length) : okAt l (i : Int) = some i := by
  unfold okAt
  rw [if_pos (by omega)]
  rfl
theorem okAt_int {α : Type} {l : List α} {i : Int} (h0 : 0 ≤ i) (h : i < l.length) : okAt l i = some i.toNat := by
  unfold okAt
  rw [if_pos ⟨h0, h⟩]
theorem nth_of {α : Type} {l : List α} {i : Nat} {x : α} (h : l[i]? = some x) : nth l i = some x := h
theorem at?_int {α : Type} {l : List α} {i : Int} {x : α} (h0 : 0 ≤ i) (h : l[i.toNat]? = some x) : at? l i = some x := by
  unfold at?
  rw [if_pos h0]; exact h
theorem add1 {k : Nat} (h : k ≤ 1000000000) : addI .i64 (k : Int) 1 = ((k + 1 : Nat) : Int) := by
  rw [addI_i64 (by omega) (by omega)]; rfl

theorem getB_of {S : List Bool} {k : Nat} (h : k < S.length) : ∃ b, S[k]? = some b := ⟨S[k], List.getElem?_eq_getElem h⟩
theorem getI_of {l : List Ins} {k : Nat} (h : k < l.length) : ∃ i, l[k]? = some i := ⟨l[k], List.getElem?_eq_getElem h⟩

def stOut (l : List Ins) (lg : List Bool) : List Int := (List.range (l.length + 1)).map fun j => (pos l lg j : Int)
theorem stOut_len (l : List Ins) (lg : List Bool) : (stOut l lg).length = l.length + 1 := by simp [stOut]
theorem stOut_get (l : List Ins) (lg : List Bool) {j : Nat} (h : j ≤ l.length) : (stOut l lg)[j]? = some (pos l lg j : Int) := by
  unfold stOut
  rw [List.getElem?_map, List.getElem?_range (by omega)]; rfl
theorem stOut_of {l : List Ins} {lg : List Bool} {a : List Int} (h1 : a.length = l.length + 1) (h2 : ∀ j, j ≤ l.length → a[j]? = some (pos l lg j : Int)) : a = stOut l lg := by
  apply List.ext_getElem?
  intro j
  rcases Nat.lt_or_ge l.length j with h | h
  · rw [List.getElem?_eq_none (by omega), List.getElem?_eq_none (by rw [stOut_len]; omega)]
  · rw [h2 j h, stOut_get l lg h]

/-- Sizes are told. -/
structure Lay (l : List Ins) (lg : List Bool) : Prop where
  len : lg.length = l.length
  few : l.length ≤ 20000
  ok : ∀ (k : Nat) (i : Ins), l[k]? = some i → okI i = true
  only : onlyG l lg

theorem Lay.right {l : List Ins} {lg : List Bool} (h : Lay l lg) {k : Nat} {i : Ins} {b : Bool} (hi : l[k]? = some i) (hb : lg[k]? = some b) : rightB i.1 i.2.1 i.2.2 b = true := by
  unfold rightB
  have := h.ok k i hi
  unfold okI at this
  rw [this]
  cases b with
  | false => rfl
  | true => rw [h.only k i hi hb]; rfl

theorem Lay.size {l : List Ins} {lg : List Bool} (h : Lay l lg) {k : Nat} {i : Ins} {b : Bool} (hi : l[k]? = some i) (hb : lg[k]? = some b) : f_op_Size ((i.1, i.2.1, i.2.2), b, ()) = some ((szN i b : Int), ()) := by
  rw [size_spec, if_pos (h.right hi hb)]
  unfold szN
  congr 2
  cases goesB i.1 <;> cases b <;> simp

theorem starts_loop {l : List Ins} {lg : List Bool} (h : Lay l lg) (n1 n2 n3 : Bool) : ∀ (m k : Nat) (a : List Int), k + m = l.length → a.length = l.length + 1 → (∀ j, j ≤ k → a[j]? = some (pos l lg j : Int)) →
    loopR l1_asm_starts (⟨n1, lg⟩, ⟨n2, l⟩, (l.length : Int), (k : Int), ⟨n3, a⟩, ()) = some (⟨n3, stOut l lg⟩, ()) := by
  intro m
  have hf := h.few
  induction m with
  | zero =>
    intro k a hk ha hj
    refine loopR_inr ?_
    unfold l1_asm_starts
    simp only
    rw [cnd_lt, if_neg (by omega), stOut_of ha fun j h => hj j (by omega)]
  | succ m ih =>
    intro k a hk ha hj
    obtain ⟨i, hi⟩ := getI_of (l := l) (k := k) (by omega)
    obtain ⟨b, hb⟩ := getB_of (S := lg) (k := k) (by have := h.len; omega)
    have hp := (pos_bound h.len (k := k) (by omega)).2
    have hz := szN_pos i b
    have e : l1_asm_starts (⟨n1, lg⟩, ⟨n2, l⟩, (l.length : Int), (k : Int), ⟨n3, a⟩, ()) = some (.inl (⟨n1, lg⟩, ⟨n2, l⟩, (l.length : Int), ((k + 1 : Nat) : Int), ⟨n3, a.set (k + 1) (pos l lg (k + 1) : Int)⟩, ())) := by
      unfold l1_asm_starts
      simp only
      rw [cnd_lt, if_pos (by omega), at?_nat hi, bnd_some_eq, okAt_nat (by omega), bnd_some_eq, nth_of (hj k (Nat.le_refl _)), bnd_some_eq, at?_nat hb, bnd_some_eq, h.size hi hb, bnd_some_eq, add1 (by omega), okAt_nat (by omega), bnd_some_eq,
        nth_of (List.getElem?_eq_getElem (by omega : k + 1 < a.length)), bnd_some_eq, bnd_some_eq, addI_i64 (by omega) (by omega), pos_succ hi hb]
      rfl
    rw [loopR_inl e]
    refine ih (k + 1) _ (by omega) (by rw [List.length_set]; exact ha) fun j hj2 => ?_
    rw [List.getElem?_set]
    by_cases hjk : k + 1 = j
    · subst hjk
      rw [if_pos rfl, if_pos (by omega)]
    · rw [if_neg hjk]
      exact hj j (by omega)

theorem starts_spec {L : Sl Ins} {S : Sl Bool} (h : Lay L.l S.l) : f_asm_starts (L, S, ()) = some (⟨false, stOut L.l S.l⟩, ()) := by
  obtain ⟨n2, l⟩ := L
  obtain ⟨n1, lg⟩ := S
  have hf := h.few
  simp only at h hf ⊢
  rw [u_asm_starts]
  simp only [lenI]
  rw [add1 (by omega)]
  unfold mkN
  rw [if_pos (by omega), bnd_some_eq]
  simp only [Int.toNat_natCast, rep]
  refine starts_loop h n1 n2 false l.length 0 _ (by omega) (by simp) fun j hj => ?_
  obtain rfl : j = 0 := by omega
  rw [List.getElem?_replicate, if_pos (by omega)]
  rfl

/-- The first one that is bad. -/
def tightF (l : List Ins) (lg : List Bool) : Nat → Nat → Int
  | 0, _ => -1
  | m + 1, k => if badB l lg k = true then (k : Int) else tightF l lg m (k + 1)
def tightB (l : List Ins) (lg : List Bool) : Int := tightF l lg l.length 0

theorem tightF_neg {l : List Ins} {lg : List Bool} : ∀ (m k : Nat), tightF l lg m k < 0 → ∀ j, k ≤ j → j < k + m → badB l lg j = false
  | 0, k, _, j, h1, h2 => by omega
  | m + 1, k, h, j, h1, h2 => by
    unfold tightF at h
    split at h
    · omega
    · rename_i hb
      rcases Nat.lt_or_ge k j with h3 | h3
      · exact tightF_neg m (k + 1) h j (by omega) (by omega)
      · obtain rfl : j = k := by omega
        simpa using hb
theorem tightF_nonneg {l : List Ins} {lg : List Bool} : ∀ (m k : Nat), ¬ tightF l lg m k < 0 → ∃ t : Nat, tightF l lg m k = t ∧ k ≤ t ∧ t < k + m ∧ badB l lg t = true ∧ ∀ j, k ≤ j → j < t → badB l lg j = false
  | 0, k, h => absurd (show (-1 : Int) < 0 by decide) h
  | m + 1, k, h => by
    unfold tightF at h ⊢
    split
    · rename_i hb
      exact ⟨k, rfl, Nat.le_refl _, by omega, hb, fun j h1 h2 => by omega⟩
    · rename_i hb
      rw [if_neg hb] at h
      obtain ⟨t, h1, h2, h3, h4, h5⟩ := tightF_nonneg m (k + 1) h
      refine ⟨t, h1, by omega, by omega, h4, fun j h6 h7 => ?_⟩
      rcases Nat.lt_or_ge k j with h8 | h8
      · exact h5 j (by omega) h7
      · obtain rfl : j = k := by omega
        simpa using hb

theorem tightB_neg {l : List Ins} {lg : List Bool} (h : tightB l lg < 0) : fitL l lg := by
  intro k
  rcases Nat.lt_or_ge k l.length with h1 | h1
  · exact tightF_neg l.length 0 h k (by omega) (by omega)
  · unfold badB; rw [List.getElem?_eq_none h1]
theorem tightB_fit {l : List Ins} {lg : List Bool} (h : fitL l lg) : tightB l lg < 0 := by
  rcases Int.lt_or_le (tightB l lg) 0 with h1 | h1
  · exact h1
  · obtain ⟨t, _, _, _, h5, _⟩ := tightF_nonneg (l := l) (lg := lg) l.length 0 (by show ¬ tightB l lg < 0; omega)
    rw [h t] at h5; cases h5

theorem bad_of {l : List Ins} {lg : List Bool} {k : Nat} {i : Ins} {b : Bool} (hi : l[k]? = some i) (hb : lg[k]? = some b) : badB l lg k = badI l lg k i b := by
  unfold badB; rw [hi, hb]

theorem far_test2 {l : List Ins} {lg : List Bool} (h : Lay l lg) {k : Nat} (hk : k < l.length) {i : Ins} (hi : 0 ≤ i.2.1 ∧ i.2.1 < l.length) :
    subI .i64 (pos l lg i.2.1.toNat : Int) (pos l lg (k + 1) : Int) = farP l lg k i := by
  have h1 := far_bound h.len h.few hk hi
  unfold farP at h1 ⊢
  rw [subI_i64 (by omega) (by omega)]

theorem fits_test (far : Int) : (cnd (ltI far (-128)) (some true) (some (ltI 127 far)) : Option Bool) = some (!fitsB far false) := by
  rw [cnd_lt, fitsB_short]
  unfold ltI
  by_cases h1 : far < -128
  · rw [if_pos h1, decide_eq_false (by omega)]; rfl
  · rw [if_neg h1]
    by_cases h2 : 127 < far
    · rw [decide_eq_true h2, decide_eq_false (by omega)]; rfl
    · rw [decide_eq_false h2, decide_eq_true (by omega)]; rfl

theorem tight_loop {l : List Ins} {lg : List Bool} (h : Lay l lg) (ht : inT l) (n1 n2 n3 : Bool) : ∀ (m k : Nat), k + m = l.length →
    loopR l1_asm_tight (⟨n1, lg⟩, ⟨n2, stOut l lg⟩, ⟨n3, l⟩, (l.length : Int), (k : Int), ()) = some (tightF l lg m k, ()) := by
  intro m
  have hf := h.few
  induction m with
  | zero =>
    intro k hk
    refine loopR_inr ?_
    unfold l1_asm_tight
    simp only
    rw [cnd_lt, if_neg (by omega)]
    rfl
  | succ m ih =>
    intro k hk
    obtain ⟨i, hi⟩ := getI_of (l := l) (k := k) (by omega)
    obtain ⟨b, hb⟩ := getB_of (S := lg) (k := k) (by have := h.len; omega)
    have e : l1_asm_tight (⟨n1, lg⟩, ⟨n2, stOut l lg⟩, ⟨n3, l⟩, (l.length : Int), (k : Int), ()) = some (if badB l lg k = true then .inr ((k : Int), ()) else .inl (⟨n1, lg⟩, ⟨n2, stOut l lg⟩, ⟨n3, l⟩, (l.length : Int), ((k + 1 : Nat) : Int), ())) := by
      unfold l1_asm_tight
      simp only
      rw [cnd_lt, if_pos (by omega), at?_nat hi, bnd_some_eq, goes_spec, bnd_some_eq, cnd_not, bad_of hi hb]
      unfold badI
      have e1 := add1 (k := k) (by omega)
      cases hg : goesB i.1 with
      | false => simp only [cnd_false, cnd_true, bnd_some_eq, sumE, e1]; rfl
      | true =>
        obtain ⟨t1, t2⟩ := ht k i hi hg
        rw [cnd_true, at?_nat hb, bnd_some_eq, bnd_some_eq]
        cases b with
        | true => simp only [cnd_true, bnd_some_eq, sumE, e1]; rfl
        | false =>
          rw [cnd_false, at?_int t1 (stOut_get l lg (by omega)), bnd_some_eq, e1, at?_nat (stOut_get l lg (by omega)), bnd_some_eq, far_test2 h (by omega) ⟨t1, t2⟩, fits_test, bnd_some_eq]
          cases fitsB (farP l lg k i) false <;> simp only [Bool.not_true, Bool.not_false, cnd_false, cnd_true, bnd_some_eq, sumE, e1] <;> rfl
    unfold tightF
    cases hbad : badB l lg k with
    | true =>
      rw [hbad] at e
      rw [loopR_inr e]; rfl
    | false =>
      rw [hbad] at e
      rw [loopR_inl e, ih (k + 1) (by omega)]; rfl

theorem tight_spec {L : Sl Ins} {S : Sl Bool} (h : Lay L.l S.l) (ht : inT L.l) (n : Bool) : f_asm_tight (L, S, ⟨n, stOut L.l S.l⟩, ()) = some (tightB L.l S.l, ()) := by
  rw [u_asm_tight]
  exact tight_loop h ht S.nil n L.nil L.l.length 0 (by omega)
end Fn
end Ev
namespace Ev
open Go
namespace Fn

/-! The walks: what has to be long, where each begins, whether it is enough. -/
theorem relax_inner {l : List Ins} {S : List Bool} (h : Lay l S) (ht : inT l) (n1 n2 n3 : Bool) : ∀ (m k : Nat) (a : List Bool), k + m = l.length → a.length = l.length → (∀ j, j < k → a[j]? = (stepL l S)[j]?) → (∀ j, k ≤ j → a[j]? = S[j]?) →
    loopR l1_asm_Relax (⟨n1, l⟩, (k : Int), ⟨n2, a⟩, ⟨n3, stOut l S⟩, ()) = some (.inl (⟨n1, l⟩, ⟨n2, stepL l S⟩, ())) := by
  intro m
  have hf := h.few
  induction m with
  | zero =>
    intro k a hk ha h1 h2
    have : a = stepL l S := by
      apply List.ext_getElem?
      intro j
      rcases Nat.lt_or_ge j k with hj | hj
      · exact h1 j hj
      · rw [List.getElem?_eq_none (by omega), List.getElem?_eq_none (by rw [stepL_len]; omega)]
    refine loopR_inr ?_
    unfold l1_asm_Relax
    simp only [lenI]
    rw [cnd_lt, if_neg (by omega), this]
  | succ m ih =>
    intro k a hk ha h1 h2
    obtain ⟨i, hi⟩ := getI_of (l := l) (k := k) (by omega)
    obtain ⟨b, hb⟩ := getB_of (S := S) (k := k) (by have := h.len; omega)
    have hab : a[k]? = some b := by rw [h2 k (Nat.le_refl _), hb]
    have hst : (stepL l S)[k]? = some (b || badI l S k i b) := by
      rw [stepL_get (by omega), List.getD_eq_getElem?_getD, hb, bad_of hi hb]; rfl
    have e1 := add1 (k := k) (by omega)
    have e : ∃ a', l1_asm_Relax (⟨n1, l⟩, (k : Int), ⟨n2, a⟩, ⟨n3, stOut l S⟩, ()) = some (.inl (⟨n1, l⟩, ((k + 1 : Nat) : Int), ⟨n2, a'⟩, ⟨n3, stOut l S⟩, ())) ∧ a'.length = l.length ∧ (∀ j, j < k + 1 → a'[j]? = (stepL l S)[j]?) ∧ (∀ j, k + 1 ≤ j → a'[j]? = S[j]?) := by
      have keep : b = (b || badI l S k i b) → (∀ j, j < k + 1 → a[j]? = (stepL l S)[j]?) ∧ (∀ j, k + 1 ≤ j → a[j]? = S[j]?) := fun hx => by
        refine ⟨fun j hj => ?_, fun j hj => h2 j (by omega)⟩
        rcases Nat.lt_or_ge j k with hj2 | hj2
        · exact h1 j hj2
        · obtain rfl : j = k := by omega
          rw [hab, hst, ← hx]
      unfold l1_asm_Relax
      simp only [lenI]
      rw [cnd_lt, if_pos (by omega), at?_nat hi, bnd_some_eq, goes_spec, bnd_some_eq]
      unfold badI at hst keep
      cases hg : goesB i.1 with
      | false =>
        rw [hg] at keep
        refine ⟨a, ?_, ha, keep (by cases b <;> rfl)⟩
        simp only [cnd_false, bnd_some_eq, e1]
      | true =>
        obtain ⟨t1, t2⟩ := ht k i hi hg
        rw [hg] at keep hst
        rw [cnd_true, okAt_nat (by omega), bnd_some_eq, nth_of hab, bnd_some_eq, bnd_some_eq]
        cases b with
        | true =>
          refine ⟨a, ?_, ha, keep rfl⟩
          simp only [notB, Bool.not_true, cnd_false, bnd_some_eq, e1]
        | false =>
          refine ⟨a.set k (!fitsB (farP l S k i) false), ?_, by rw [List.length_set]; exact ha, fun j hj => ?_, fun j hj => ?_⟩
          · simp only [notB, Bool.not_false, cnd_true]
            rw [bnd_some_eq, okAt_int t1 (by rw [stOut_len]; omega), bnd_some_eq, nth_of (stOut_get l S (by omega)), bnd_some_eq, e1, okAt_nat (by rw [stOut_len]; omega), bnd_some_eq, nth_of (stOut_get l S (by omega)), bnd_some_eq, far_test2 h (by omega) ⟨t1, t2⟩, fits_test, bnd_some_eq]
            simp only [bnd_some_eq, nth_of hab, e1, setL]
          · rw [List.getElem?_set]
            by_cases hjk : k = j
            · subst hjk
              rw [if_pos rfl, if_pos (by omega), hst]; simp
            · rw [if_neg hjk, h1 j (by omega)]
          · rw [List.getElem?_set, if_neg (by omega), h2 j (by omega)]
    obtain ⟨a', e2, e3, e4, e5⟩ := e
    rw [loopR_inl e2]
    exact ih (k + 1) a' (by omega) e3 e4 e5

theorem stepL_only {l : List Ins} {S : List Bool} (h : Lay l S) : onlyG l (stepL l S) := by
  intro k i hi hk
  have hl := get_lt hi
  rw [stepL_get hl] at hk
  cases hb : badB l S k with
  | true =>
    have hb2 := hb
    unfold badB at hb2
    rw [hi, (badB_lt hb).2] at hb2
    simp only at hb2
    unfold badI at hb2
    rw [Bool.and_eq_true, Bool.and_eq_true] at hb2
    exact hb2.1.1
  | false =>
    rw [hb, Bool.or_false, List.getD_eq_getElem?_getD] at hk
    refine h.only k i hi ?_
    rw [List.getElem?_eq_getElem (by have := h.len; omega)] at hk ⊢
    exact hk

theorem lay_step {l : List Ins} {S : List Bool} (h : Lay l S) : Lay l (stepL l S) := ⟨stepL_len l S, h.few, h.ok, stepL_only h⟩

theorem relax_step {l : List Ins} {S : List Bool} (h : Lay l S) (ht : inT l) (n1 n2 : Bool) : l2_asm_Relax (⟨n1, l⟩, ⟨n2, S⟩, ()) = if tightB l S < 0 then some (.inr (⟨n2, S⟩, 0, ())) else some (.inl (⟨n1, l⟩, ⟨n2, stepL l S⟩, ())) := by
  unfold l2_asm_Relax
  simp only
  rw [starts_spec (L := ⟨n1, l⟩) (S := ⟨n2, S⟩) h, bnd_some_eq, tight_spec (L := ⟨n1, l⟩) (S := ⟨n2, S⟩) h ht, bnd_some_eq, cnd_lt]
  split
  · rfl
  · rename_i hx
    obtain ⟨t, h1, _, h3, h4, h5⟩ := tightF_nonneg (l := l) (lg := S) l.length 0 hx
    have hx2 : tightB l S = (t : Int) := h1
    simp only [hx2]
    refine relax_inner h ht n1 n2 false (l.length - t) t S (by omega) h.len (fun j hj => ?_) fun j _ => rfl
    have hl := h.len
    rw [stepL_get (by omega), h5 j (by omega) hj, Bool.or_false, List.getD_eq_getElem?_getD, List.getElem?_eq_getElem (by omega)]
    rfl

theorem relax_loop {l : List Ins} (hc : chkL l = 0) (n1 n2 : Bool) (S : List Bool) (h : Lay l S) (hs : sub S (rlx l)) : loopR l2_asm_Relax (⟨n1, l⟩, ⟨n2, S⟩, ()) = some (⟨n2, rlx l⟩, 0, ()) := by
  have ht := (chkL_ok hc).2.2
  obtain ⟨r1, r2, r3⟩ := rlx_least ht
  obtain ⟨r, h1, h2⟩ := loopR_inv (f := l2_asm_Relax) (I := fun s => ∃ S, s = (⟨n1, l⟩, ⟨n2, S⟩, ()) ∧ Lay l S ∧ sub S (rlx l)) (Q := fun r => r = (⟨n2, rlx l⟩, 0, ())) (fun s => s.2.1.l.count false) (fun s hs => by
    obtain ⟨S, rfl, hL, hb⟩ := hs
    rw [relax_step hL ht]
    by_cases hx : tightB l S < 0
    · rw [if_pos hx]
      refine .inr ⟨_, rfl, ?_⟩
      rw [sub_antisymm (by rw [hL.len, r1]) hb (r3 S hL.len (tightB_neg hx))]
    · rw [if_neg hx]
      obtain ⟨t, _, _, h3, h4, _⟩ := tightF_nonneg (l := l) (lg := S) l.length 0 hx
      obtain ⟨hk1, hk2⟩ := badB_lt h4
      exact .inl ⟨_, rfl, ⟨_, rfl, lay_step hL, stepL_below ht hL.len r1 hb r2⟩, (count_lt S (stepL l S) (by rw [hL.len, stepL_len]) (stepL_sub hL.len)).2 ⟨t, hk2, by rw [stepL_get hk1, h4, Bool.or_true]⟩⟩) (⟨n1, l⟩, ⟨n2, S⟩, ()) ⟨S, rfl, h, hs⟩
  rw [h1, h2]

theorem lay_none {l : List Ins} (hc : chkL l = 0) : Lay l (List.replicate l.length false) := by
  obtain ⟨h1, h2, _⟩ := chkL_ok hc
  refine ⟨by simp, h1, h2, fun k i _ hk => ?_⟩
  rw [List.getElem?_replicate] at hk
  split at hk <;> simp at hk

theorem relax_spec (L : Sl Ins) (hL : L.l.length ≤ 1000000) : f_asm_Relax (L, ()) = some (if chkL L.l = 0 then (⟨false, rlx L.l⟩, 0, ()) else (⟨true, []⟩, chkL L.l, ())) := by
  obtain ⟨n, l⟩ := L
  rw [u_asm_Relax, acheck_spec _ hL, bnd_some_eq, cnd_not, cnd_eq]
  split
  · rename_i hc
    simp only at hc hL
    unfold mkN lenI rep
    rw [if_pos (by simp only; omega), bnd_some_eq]
    simp only [Int.toNat_natCast]
    refine relax_loop hc n false _ (lay_none hc) fun k hk => ?_
    rw [List.getElem?_replicate] at hk
    split at hk <;> simp at hk
  · rfl

/-- May these be long? -/
def toldB (l : List Ins) (lg : List Bool) : Bool := decide (chkL l = 0) && decide (l.length = lg.length) && !((List.range l.length).any fun k => lg.getD k false && !goesB (l.getD k (0, 0, 0)).1)

theorem told_lay {l : List Ins} {lg : List Bool} (h : toldB l lg = true) : chkL l = 0 ∧ Lay l lg := by
  unfold toldB at h
  rw [Bool.and_eq_true, Bool.and_eq_true] at h
  obtain ⟨⟨h1, h2⟩, h3⟩ := h
  have h1 := of_decide_eq_true h1
  have h2 := of_decide_eq_true h2
  obtain ⟨c1, c2, _⟩ := chkL_ok h1
  refine ⟨h1, h2.symm, c1, c2, fun k i hi hk => ?_⟩
  have hl := get_lt hi
  cases hg : goesB i.1 with
  | true => rfl
  | false =>
    rw [Bool.not_eq_true'] at h3
    have := List.any_eq_false.1 h3 k (List.mem_range.2 hl)
    rw [List.getD_eq_getElem?_getD, List.getD_eq_getElem?_getD, hk, hi] at this
    simp [hg] at this

theorem told_of {l : List Ins} {lg : List Bool} (hc : chkL l = 0) (hn : lg.length = l.length) (ho : onlyG l lg) : toldB l lg = true := by
  unfold toldB
  rw [decide_eq_true hc, decide_eq_true hn.symm, Bool.true_and, Bool.true_and, Bool.not_eq_true']
  refine List.any_eq_false.2 fun k hk => ?_
  have hk := List.mem_range.1 hk
  obtain ⟨i, hi⟩ := getI_of hk
  obtain ⟨b, hb⟩ := getB_of (S := lg) (k := k) (by omega)
  rw [List.getD_eq_getElem?_getD, List.getD_eq_getElem?_getD, hi, hb]
  cases b with
  | false => simp
  | true => simp [ho k i hi hb]

end Fn
end Ev
namespace Ev
open Go
namespace Fn

/-! The walks: bytes. -/
theorem lay_good {l : List Ins} {lg : List Bool} (h : Good l lg) : Lay l lg := ⟨h.len, (chkL_ok h.chk).1, (chkL_ok h.chk).2.1, h.only⟩

theorem asm_loop {l : List Ins} {lg : List Bool} (h : Good l lg) (n1 n2 n3 : Bool) : ∀ (m k : Nat) (sb n4 : Bool) (buf : List Int), k + m = l.length → buf.length = pos l lg k →
    loopR l1_asm_Assemble (⟨n1, lg⟩, ⟨n2, l⟩, (l.length : Int), (k : Int), ⟨n3, stOut l lg⟩, sb, ⟨n4, buf⟩, ()) = some (buf ++ asmF l lg m k, 0, ()) := by
  intro m
  obtain ⟨hf, hok, ht⟩ := chkL_ok h.chk
  induction m with
  | zero =>
    intro k sb n4 buf hk hbuf
    refine loopR_inr ?_
    unfold l1_asm_Assemble
    simp only
    rw [cnd_lt, if_neg (by omega), u_strings_Builder_String, bnd_some_eq]
    simp [asmF]
  | succ m ih =>
    intro k sb n4 buf hk hbuf
    obtain ⟨i, hi⟩ := getI_of (l := l) (k := k) (by omega)
    obtain ⟨b, hb⟩ := getB_of (S := lg) (k := k) (by have := h.len; omega)
    have e1 := add1 (k := k) (by omega)
    have hp := (pos_bound h.len (k := k) (by omega)).2
    have hz := szN_pos i b
    have hone := oneB_len i (outI l lg k i) b
    have e : ∃ sb' n4', l1_asm_Assemble (⟨n1, lg⟩, ⟨n2, l⟩, (l.length : Int), (k : Int), ⟨n3, stOut l lg⟩, sb, ⟨n4, buf⟩, ()) = some (.inl (⟨n1, lg⟩, ⟨n2, l⟩, (l.length : Int), ((k + 1 : Nat) : Int), ⟨n3, stOut l lg⟩, sb', ⟨n4', buf ++ oneB i (outI l lg k i) b⟩, ())) := by
      have hput := put_one h hi hb
      have hw : fit (sumI (lenI buf) (lenI (oneB i (outI l lg k i) b))) = some () := fit_ok (by simp only [sumI, lenI]; omega)
      unfold l1_asm_Assemble
      simp only
      rw [cnd_lt, if_pos (by omega), at?_nat hi, bnd_some_eq, goes_spec, bnd_some_eq]
      unfold outI at hput hw ⊢
      cases hg : goesB i.1 with
      | false =>
        rw [hg] at hput hw
        simp only [cnd_false, bnd_some_eq, at?_nat hb, put_spec]
        simp only [Bool.false_eq_true, if_false] at hput hw ⊢
        rw [hput]
        simp only [eqI_self, notB, Bool.not_true, cnd_false, u_strings_Builder_WriteString, u_strings_Builder_copyCheck, bnd_some_eq, hw, e1, app]
        exact ⟨_, _, rfl⟩
      | true =>
        obtain ⟨t1, t2⟩ := ht k i hi hg
        rw [hg] at hput hw
        simp only [if_true] at hput hw ⊢
        rw [cnd_true, okAt_int t1 (by rw [stOut_len]; omega), bnd_some_eq, nth_of (stOut_get l lg (by omega)), bnd_some_eq, e1, okAt_nat (by rw [stOut_len]; omega), bnd_some_eq, nth_of (stOut_get l lg (by omega)), bnd_some_eq, far_test2 (lay_good h) (by omega) ⟨t1, t2⟩, bnd_some_eq]
        simp only [bnd_some_eq, at?_nat hb, put_spec]
        rw [hput]
        simp only [eqI_self, notB, Bool.not_true, cnd_false, u_strings_Builder_WriteString, u_strings_Builder_copyCheck, bnd_some_eq, hw, e1, app]
        exact ⟨_, _, rfl⟩
    obtain ⟨sb', n4', e⟩ := e
    rw [loopR_inl e, ih (k + 1) sb' n4' _ (by omega) (by rw [List.length_append, hone, hbuf, pos_succ hi hb])]
    simp only [asmF]
    rw [putK_one h hi hb, List.append_assoc]

theorem assemble_spec (L : Sl Ins) (hL : L.l.length ≤ 1000000) : f_asm_Assemble (L, ()) = some (if chkL L.l = 0 then (asmB L.l (rlx L.l), 0, ()) else ([], chkL L.l, ())) := by
  obtain ⟨n, l⟩ := L
  rw [u_asm_Assemble, relax_spec _ hL, bnd_some_eq]
  simp only at hL ⊢
  by_cases hc : chkL l = 0
  · rw [if_pos hc, if_pos hc]
    have h := good_rlx hc
    simp only [eqI_self, notB, Bool.not_true, cnd_false]
    rw [starts_spec (L := ⟨n, l⟩) (S := ⟨false, rlx l⟩) (lay_good h), bnd_some_eq]
    exact asm_loop h false n false l.length 0 false true [] (by omega) rfl
  · rw [if_neg hc, if_neg hc]
    simp only
    rw [eqI_ne hc]
    rfl
end Fn
end Ev
namespace Ev
open Go
namespace Fn

/-! The walks: bytes back. -/
theorem mget_mset (t k v : Int) : ∀ (m : List (Int × Int)), mget (fun a b => eqI a b) t (mset (fun a b => eqI a b) k v m) = if t = k then some v else mget (fun a b => eqI a b) t m
  | [] => by
    simp only [mset, mget]
    by_cases h : t = k
    · rw [if_pos h, h, eqI_self]; rfl
    · rw [if_neg h, eqI_ne h]; rfl
  | (k', v') :: m => by
    simp only [mset]
    by_cases hk : k = k'
    · subst hk
      rw [eqI_self]
      simp only [cond_true, mget]
      by_cases h : t = k
      · rw [if_pos h, h, eqI_self]; rfl
      · rw [if_neg h, eqI_ne h]; rfl
    · rw [eqI_ne hk]
      simp only [cond_false, mget]
      rw [mget_mset t k v m]
      by_cases h : t = k'
      · subst h
        rw [eqI_self, if_neg (show ¬ t = k from fun h => hk h.symm), if_neg (show ¬ t = k from fun h => hk h.symm)]
      · rw [eqI_ne h]; rfl

theorem mgetD_mset (t k v : Int) (m : List (Int × Int)) : mgetD (fun a b => eqI a b) t (mset (fun a b => eqI a b) k v m) 0 = if t = k then v else mgetD (fun a b => eqI a b) t m 0 := by
  unfold mgetD
  rw [mget_mset]
  split <;> rfl

theorem get_cases {s : List Int} (hs : bytesOk s) : (∃ e, getB s = failG e ∧ e ≠ 0) ∨
    ∃ i far long n, getB s = (i, far, long, ((n : Nat) : Int), 0) ∧ 1 ≤ n ∧ n ≤ s.length ∧ okI i = true ∧ -2147483648 ≤ far ∧ far ≤ 2147483647 := by
  rcases get_inv hs with h | ⟨o, a, b, far, long, n, h1, h2, h3, h4⟩
  · exact .inl h
  · refine .inr ⟨(o, a, b), far, long, n, h1, ?_, h3, h4, ?_⟩
    · rcases put_cases o a b far long with ⟨e, h5, h6⟩ | ⟨h5, h6⟩
      · rw [h5] at h2
        injection h2 with _ h2
        exact absurd h2 h6
      · rw [h5] at h2
        injection h2 with h2 _
        have := put_len (o := o) (a := a) (b := b) (far := far) (long := long)
        rw [h2, List.length_take] at this
        omega
    · rcases put_cases o a b far long with ⟨e, h5, h6⟩ | ⟨h5, h6, h7, h8⟩
      · rw [h5] at h2
        injection h2 with _ h2
        exact absurd h2 h6
      · rcases h7 with h7 | h7
        · exact fits_in (h8 h7)
        · omega

theorem parse_nil (f : Nat) : parse f [] = .inr [] := by cases f <;> rfl

theorem parse_step {s : List Int} (hs : bytesOk s) (hne : s ≠ []) (f : Nat) : (∃ e, getB s = failG e ∧ e ≠ 0 ∧ parse (f + 1) s = .inl e) ∨
    ∃ i far long n, getB s = (i, far, long, ((n : Nat) : Int), 0) ∧ 1 ≤ n ∧ n ≤ s.length ∧ okI i = true ∧ (-2147483648 ≤ far ∧ far ≤ 2147483647) ∧ parse (f + 1) s = match parse f (s.drop n) with
      | .inl e => .inl e
      | .inr t => .inr ((i, far, n) :: t) := by
  match s, hne with
  | c :: r, _ =>
    rcases get_cases hs with ⟨e, h1, h2⟩ | ⟨i, far, long, n, h1, h2, h3, h4, h5⟩
    · refine .inl ⟨e, h1, h2, ?_⟩
      simp only [parse]
      rw [h1]
      exact if_pos h2
    · refine .inr ⟨i, far, long, n, h1, h2, h3, h4, h5, ?_⟩
      simp only [parse]
      rw [h1]
      simp only [ne_eq, not_true_eq_false, if_false, Int.toNat_natCast]
      cases parse f (List.drop n (c :: r)) <;> rfl

theorem bytes_drop {s : List Int} (hs : bytesOk s) (n : Nat) : bytesOk (s.drop n) := ⟨by rw [List.length_drop]; have := hs.1; omega, fun b hb => hs.2 b (List.mem_of_mem_drop hb)⟩

theorem posI_app (its r : List It) {k : Nat} (h : k ≤ its.length) : posI (its ++ r) k = posI its k := by
  unfold posI
  rw [List.map_append, List.take_append_of_le_length (by rw [List.length_map]; exact h)]

theorem placeF_app (its r : List It) (t : Int) : ∀ (m k : Nat), k + m ≤ its.length + 1 → placeF (its ++ r) t m k = placeF its t m k
  | 0, _, _ => rfl
  | m + 1, k, h => by
    unfold placeF
    rw [posI_app its r (by omega), placeF_app its r t m (k + 1) (by omega)]

theorem placeF_ge (its : List It) (t : Int) : ∀ (m k : Nat), placeF its t m k = -1 ∨ (0 ≤ placeF its t m k ∧ placeF its t m k < k + m)
  | 0, _ => .inl rfl
  | m + 1, k => by
    unfold placeF
    split
    · exact .inr (by omega)
    · rcases placeF_ge its t m (k + 1) with h | h
      · exact .inl h
      · exact .inr (by omega)

theorem placeF_snoc (its : List It) (t : Int) : ∀ (m k : Nat), placeF its t (m + 1) k = if placeF its t m k < 0 then (if (posI its (k + m) : Int) = t then ((k + m : Nat) : Int) else -1) else placeF its t m k
  | 0, k => by
    simp only [placeF, Nat.add_zero]
    rw [if_pos (show (-1 : Int) < 0 by decide)]
  | m + 1, k => by
    have ih := placeF_snoc its t m (k + 1)
    have e : k + 1 + m = k + (m + 1) := by omega
    rw [e] at ih
    unfold placeF
    split
    · rw [if_neg (by omega)]
    · exact ih

theorem placeF_none (its : List It) (t : Int) : ∀ (m k : Nat), (∀ j, k ≤ j → j < k + m → (posI its j : Int) ≠ t) → placeF its t m k = -1
  | 0, _, _ => rfl
  | m + 1, k, h => by
    unfold placeF
    rw [if_neg (h k (by omega) (by omega)), placeF_none its t m (k + 1) fun j h1 h2 => h j (by omega) (by omega)]

def pos1 (its : List It) : Prop := ∀ (k : Nat) (x : It), its[k]? = some x → 1 ≤ x.2.2

theorem posI_lt {its : List It} (h : pos1 its) : ∀ (d j : Nat), j + d ≤ its.length → posI its j + d ≤ posI its (j + d)
  | 0, j, _ => Nat.le_refl _
  | d + 1, j, hj => by
    have ih := posI_lt h d j (by omega)
    have hx := List.getElem?_eq_getElem (by omega : j + d < its.length)
    have := h _ _ hx
    have e := posI_succ hx
    have e2 : j + (d + 1) = j + d + 1 := by omega
    rw [e2, e]
    omega

/-- What the table of places holds. -/
def tabF (its : List It) (m : List (Int × Int)) : Prop := ∀ t : Int, mgetD (fun a b => eqI a b) t m 0 = placeF its t its.length 0 + 1

theorem tab_nil : tabF [] [] := fun _t => rfl
theorem tab_snoc {its : List It} {m : List (Int × Int)} (h : tabF its m) (h1 : pos1 its) (x : It) : tabF (its ++ [x]) (mset (fun a b => eqI a b) (posI its its.length : Int) ((its.length : Int) + 1) m) := by
  intro t
  rw [mgetD_mset, List.length_append, List.length_singleton, placeF_snoc, placeF_app its [x] t its.length 0 (by omega), Nat.zero_add, posI_app its [x] (Nat.le_refl _)]
  by_cases ht : t = (posI its its.length : Int)
  · rw [if_pos ht, placeF_none its t its.length 0, if_pos (by decide), if_pos ht.symm]
    intro j _ hj he
    have := posI_lt h1 (its.length - j) j (by omega)
    rw [Nat.add_sub_cancel' (by omega)] at this
    omega
  · rw [if_neg ht, h t, if_neg (show ¬ (posI its its.length : Int) = t from fun e => ht e.symm)]
    rcases placeF_ge its t its.length 0 with h2 | h2
    · rw [h2]; rfl
    · rw [if_neg (show ¬ placeF its t its.length 0 < 0 by omega)]

/-- Where one goes. -/
def endV (its : List It) (k : Nat) (x : It) : Int := if goesB x.1.1 = true then x.2.1 + (posI its (k + 1) : Int) else x.2.1
structure Held (its : List It) (l : List Ins) (e : List Int) (m : List (Int × Int)) : Prop where
  l : l = its.map fun x => x.1
  len : e.length = its.length
  ends : ∀ (k : Nat) (x : It), its[k]? = some x → e[k]? = some (endV its k x)
  tab : tabF its m
  one : pos1 its
  far : ∀ (k : Nat) (x : It), its[k]? = some x → okI x.1 = true

theorem held_snoc {its : List It} {l : List Ins} {e : List Int} {m : List (Int × Int)} (h : Held its l e m) {x : It} (h1 : 1 ≤ x.2.2) (h2 : okI x.1 = true) (v : Int) (hv : v = endV (its ++ [x]) its.length x) :
    Held (its ++ [x]) (l ++ [x.1]) (e ++ [v]) (mset (fun a b => eqI a b) (posI its its.length : Int) ((its.length : Int) + 1) m) := by
  have hg : ∀ (k : Nat) (y : It), (its ++ [x])[k]? = some y → (k < its.length ∧ its[k]? = some y) ∨ (k = its.length ∧ y = x) := by
    intro k y hy
    rcases Nat.lt_or_ge k its.length with hk | hk
    · rw [List.getElem?_append_left hk] at hy
      exact .inl ⟨hk, hy⟩
    · rw [List.getElem?_append_right hk] at hy
      have := get_lt hy
      rw [List.length_singleton] at this
      have hk2 : k = its.length := by omega
      subst hk2
      rw [Nat.sub_self] at hy
      exact .inr ⟨rfl, (Option.some.inj hy).symm⟩
  refine ⟨by rw [h.l, List.map_append]; rfl, by simp [h.len], fun k y hy => ?_, tab_snoc h.tab h.one x, fun k y hy => ?_, fun k y hy => ?_⟩
  · rcases hg k y hy with ⟨hk, hy2⟩ | ⟨hk, hy2⟩
    · rw [List.getElem?_append_left (by rw [h.len]; exact hk), h.ends k y hy2]
      unfold endV
      rw [posI_app its [x] (by omega)]
    · subst hk
      subst hy2
      rw [List.getElem?_append_right (by rw [h.len]; exact Nat.le_refl _), h.len, Nat.sub_self, hv]; rfl
  · rcases hg k y hy with ⟨hk, hy2⟩ | ⟨hk, hy2⟩
    · exact h.one k y hy2
    · subst hy2; exact h1
  · rcases hg k y hy with ⟨hk, hy2⟩ | ⟨hk, hy2⟩
    · exact h.far k y hy2
    · subst hy2; exact h2

theorem held_nil : Held [] [] [] [] := ⟨rfl, rfl, fun k x h => by simp at h, tab_nil, fun k x h => by simp at h, fun k x h => by simp at h⟩

theorem cut_drop {s : List Int} {p : Nat} (h : p ≤ s.length) : cutL s (p : Int) (lenI s) = some (s.drop p) := by
  unfold cutL lenI
  rw [if_pos (by omega)]
  simp

/-- The first loop: what the bytes are. -/
theorem dis_loop {s : List Int} (hs : bytesOk s) : ∀ (f : Nat) (its : List It) (n1 n2 : Bool) (l : List Ins) (e : List Int) (m : List (Int × Int)), Held its l e m → posI its its.length ≤ s.length → s.length - posI its its.length ≤ f →
    (∃ x, parse f (s.drop (posI its its.length)) = .inl x ∧ loopR l2_asm_Disassemble (s, (posI its its.length : Int), ⟨n1, l⟩, ⟨n2, e⟩, m, ()) = some (⟨true, []⟩, x, ())) ∨
    (∃ r n1' n2' l' e' m', parse f (s.drop (posI its its.length)) = .inr r ∧ Held (its ++ r) l' e' m' ∧ posI (its ++ r) (its ++ r).length = s.length ∧ loopR l2_asm_Disassemble (s, (posI its its.length : Int), ⟨n1, l⟩, ⟨n2, e⟩, m, ()) = loopR l2_asm_Disassemble (s, (s.length : Int), ⟨n1', l'⟩, ⟨n2', e'⟩, m', ())) := by
  intro f
  have hlen := hs.1
  induction f with
  | zero =>
    intro its n1 n2 l e m h hp hf
    have hpe : posI its its.length = s.length := by omega
    refine .inr ⟨[], n1, n2, l, e, m, rfl, ?_, ?_, ?_⟩
    · rw [List.append_nil]; exact h
    · rw [List.append_nil]; exact hpe
    · rw [hpe]
  | succ f ih =>
    intro its n1 n2 l e m h hp hf
    rcases Nat.lt_or_ge (posI its its.length) s.length with hlt | hge
    · have hd := bytes_drop hs (posI its its.length)
      have hcount := posI_lt h.one its.length 0 (by omega)
      rw [Nat.zero_add] at hcount
      have hll : l.length = its.length := by rw [h.l, List.length_map]
      have hne : s.drop (posI its its.length) ≠ [] := by
        intro hx
        have : (s.drop (posI its its.length)).length = 0 := by rw [hx]; rfl
        rw [List.length_drop] at this
        omega
      rcases parse_step hd hne f with ⟨x, h1, h2, h3⟩ | ⟨i, far, long, n, h1, h2, h3, h4, h5, h6⟩
      · refine .inl ⟨x, h3, loopR_inr ?_⟩
        unfold l2_asm_Disassemble
        simp only
        rw [show ltI (posI its its.length : Int) (lenI s) = true from decide_eq_true (by unfold lenI; omega), cnd_true, cut_drop hp, bnd_some_eq, get_spec hd, bnd_some_eq, h1]
        simp only [out5, failG]
        rw [eqI_ne h2]
        rfl
      · rw [List.length_drop] at h3
        have hx : posI (its ++ [(i, far, n)]) (its ++ [(i, far, n)]).length = posI its its.length + n := by
          rw [List.length_append, List.length_singleton, posI_succ (x := (i, far, n)) (by rw [List.getElem?_append_right (Nat.le_refl _), Nat.sub_self]; rfl), posI_app its _ (Nat.le_refl _)]
        have hH := held_snoc h (x := (i, far, n)) h2 h4 _ rfl
        have hcast : addI .i64 (posI its its.length : Int) (n : Int) = ((posI its its.length + n : Nat) : Int) := by
          rw [addI_i64 (by omega) (by omega)]; rfl
        have hcast2 : addI .i64 (lenI l) 1 = (its.length : Int) + 1 := by
          unfold lenI; rw [hll, addI_i64 (by omega) (by omega)]
        have hfit1 : fit (sumI (lenI l) (lenI [i])) = some () := fit_ok (by simp only [sumI, lenI, List.length_singleton]; omega)
        have hfit2 : ∀ v : Int, fit (sumI (lenI e) (lenI [v])) = some () := fun v => fit_ok (by simp only [sumI, lenI, List.length_singleton]; have := h.len; omega)
        have hend : ∃ n1' n2', l2_asm_Disassemble (s, (posI its its.length : Int), ⟨n1, l⟩, ⟨n2, e⟩, m, ()) = some (.inl (s, ((posI its its.length + n : Nat) : Int), ⟨n1', l ++ [i]⟩, ⟨n2', e ++ [endV (its ++ [(i, far, n)]) its.length (i, far, n)]⟩, mset (fun a b => eqI a b) (posI its its.length : Int) ((its.length : Int) + 1) m, ())) := by
          unfold l2_asm_Disassemble
          simp only
          rw [show ltI (posI its its.length : Int) (lenI s) = true from decide_eq_true (by unfold lenI; omega), cnd_true, cut_drop hp, bnd_some_eq, get_spec hd, bnd_some_eq, h1]
          simp only [out5, eqI_self, notB, Bool.not_true, cnd_false, goes_spec, bnd_some_eq, hcast, hcast2]
          rw [show endV (its ++ [(i, far, n)]) its.length (i, far, n) = if goesB i.1 = true then far + ((posI its its.length + n : Nat) : Int) else far by
            unfold endV; rw [← hx, List.length_append, List.length_singleton]]
          cases hg : goesB i.1 with
          | false =>
            simp only [cnd_false, bnd_some_eq, hfit1, hfit2, app, Bool.false_eq_true, if_false]
            exact ⟨_, _, rfl⟩
          | true =>
            rw [addI_i64 (by omega) (by omega)]
            simp only [cnd_true, bnd_some_eq, hfit1, hfit2, app, if_true]
            exact ⟨_, _, rfl⟩
        obtain ⟨n1', n2', hend⟩ := hend
        rw [loopR_inl hend, h6]
        have hr := ih (its ++ [(i, far, n)]) n1' n2' _ _ _ hH (by rw [hx]; omega) (by rw [hx]; omega)
        rw [hx] at hr
        rw [List.drop_drop]
        rcases hr with ⟨x, r1, r2⟩ | ⟨r, b1, b2, l', e', m', r1, r2, r3, r4⟩
        · exact .inl ⟨x, by rw [r1], r2⟩
        · refine .inr ⟨(i, far, n) :: r, b1, b2, l', e', m', by rw [r1], ?_, ?_, r4⟩
          · rw [List.append_assoc] at r2; exact r2
          · rw [List.append_assoc] at r3; exact r3
    · have hpe : posI its its.length = s.length := by omega
      refine .inr ⟨[], n1, n2, l, e, m, ?_, ?_, ?_, ?_⟩
      · rw [hpe, List.drop_length]; rfl
      · rw [List.append_nil]; exact h
      · rw [List.append_nil]; exact hpe
      · rw [hpe]
end Fn
end Ev
namespace Ev
open Go
namespace Fn

/-! The walks: where they go. -/
theorem fixL_len (its : List It) : (fixL its).length = its.length := by simp [fixL]
theorem fixL_get {its : List It} {k : Nat} {x : It} (h : its[k]? = some x) : (fixL its)[k]? = some (fixI its k x) := by
  unfold fixL
  rw [List.getElem?_mapIdx, h]; rfl
theorem mapL_get {its : List It} {k : Nat} {x : It} (h : its[k]? = some x) : (its.map fun x => x.1)[k]? = some x.1 := by
  rw [List.getElem?_map, h]; rfl

def finA (s : List Int) (its : List It) (n : Bool) : Sl Ins × Int × Unit := if chkL (fixL its) = 0 ∧ asmB (fixL its) (rlx (fixL its)) = s then (⟨n, fixL its⟩, 0, ()) else (⟨true, []⟩, 161, ())

theorem off_of {its : List It} {k : Nat} {x : It} (h : its[k]? = some x) : offI its k = (goesB x.1.1 && decide (goI its k x < 0)) := by
  unfold offI; rw [h]

theorem fix_loop {s : List Int} {its : List It} {e : List Int} {m : List (Int × Int)} {l : List Ins} (h : Held its l e m) (hn : its.length ≤ 20000) (n1 n2 : Bool) : ∀ (mm k : Nat) (a : List Ins), k + mm = its.length → a.length = its.length → (∀ j, j < k → a[j]? = (fixL its)[j]?) → (∀ j, k ≤ j → a[j]? = (its.map fun x => x.1)[j]?) →
    loopR l1_asm_Disassemble (s, (its.length : Int), (k : Int), ⟨n1, a⟩, ⟨n2, e⟩, m, ()) = if (List.range' k mm).any (offI its) = true then some (.inr (⟨true, []⟩, 160, ())) else some (.inr (finA s its n1)) := by
  intro mm
  induction mm with
  | zero =>
    intro k a hk ha h1 h2
    have hfx := fixL_len its
    have : a = fixL its := by
      apply List.ext_getElem?
      intro j
      rcases Nat.lt_or_ge j k with hj | hj
      · exact h1 j hj
      · rw [List.getElem?_eq_none (by omega), List.getElem?_eq_none (by omega)]
    subst this
    simp only [List.range'_zero, List.any_nil, Bool.false_eq_true, if_false]
    refine loopR_inr ?_
    unfold l1_asm_Disassemble
    simp only
    rw [cnd_lt, if_neg (by omega), assemble_spec _ (by simp only; omega), bnd_some_eq]
    unfold finA
    simp only
    by_cases hc : chkL (fixL its) = 0
    · rw [if_pos hc]
      simp only [eqI_self, notB, Bool.not_true, cnd_false, bnd_some_eq]
      by_cases hs : asmB (fixL its) (rlx (fixL its)) = s
      · rw [if_pos ⟨hc, hs⟩, hs, eqS_self]; rfl
      · rw [if_neg fun hx => hs hx.2]
        have : eqS (asmB (fixL its) (rlx (fixL its))) s = false := by unfold eqS; exact beq_false_of_ne hs
        rw [this]; rfl
    · rw [if_neg hc, if_neg fun hx => hc hx.1]
      simp only [eqI_ne hc, notB, Bool.not_false, cnd_true, bnd_some_eq]
  | succ mm ih =>
    intro k a hk ha h1 h2
    have hx := List.getElem?_eq_getElem (by omega : k < its.length)
    generalize its[k] = x at hx
    have hax : a[k]? = some x.1 := by rw [h2 k (Nat.le_refl _), mapL_get hx]
    have hel := h.len
    have hex := h.ends k x hx
    have e1 := add1 (k := k) (by omega)
    have hfx := fixL_len its
    have keep : ∀ v : Ins, v = fixI its k x → (a.set k v).length = its.length ∧ (∀ j, j < k + 1 → (a.set k v)[j]? = (fixL its)[j]?) ∧ (∀ j, k + 1 ≤ j → (a.set k v)[j]? = (its.map fun x => x.1)[j]?) := by
      intro v hv
      refine ⟨by rw [List.length_set]; exact ha, fun j hj => ?_, fun j hj => ?_⟩
      · rw [List.getElem?_set]
        by_cases hjk : k = j
        · subst hjk
          rw [if_pos rfl, if_pos (by omega), hv, fixL_get hx]
        · rw [if_neg hjk, h1 j (by omega)]
      · rw [List.getElem?_set, if_neg (by omega), h2 j (by omega)]
    have hoff := off_of hx
    simp only [List.range'_succ, List.any_cons]
    have step : l1_asm_Disassemble (s, (its.length : Int), (k : Int), ⟨n1, a⟩, ⟨n2, e⟩, m, ()) = some (if offI its k = true then .inr (.inr (⟨true, []⟩, 160, ())) else .inl (s, (its.length : Int), ((k + 1 : Nat) : Int), ⟨n1, a.set k (fixI its k x)⟩, ⟨n2, e⟩, m, ())) := by
      unfold l1_asm_Disassemble
      simp only
      rw [cnd_lt, if_pos (by omega), okAt_nat (by omega), bnd_some_eq, nth_of hax, bnd_some_eq, goes_spec, bnd_some_eq, hoff]
      unfold fixI
      cases hg : goesB x.1.1 with
      | false =>
        simp only [notB, Bool.not_false, cnd_true, bnd_some_eq, sumE, e1, Bool.false_and, Bool.false_eq_true, if_false]
        have : a.set k x.1 = a := by
          apply List.ext_getElem?
          intro j
          rw [List.getElem?_set]
          by_cases hjk : k = j
          · subst hjk; rw [if_pos rfl, if_pos (by omega), hax]
          · rw [if_neg hjk]
        rw [this]
      | true =>
        simp only [notB, Bool.not_true, cnd_false, Bool.true_and, if_true]
        rw [okAt_nat (by omega), bnd_some_eq, nth_of hex, bnd_some_eq, h.tab (endV its k x)]
        have hgo : goI its k x = placeF its (endV its k x) its.length 0 := by
          unfold goI placeI endV
          rw [if_pos hg, Int.add_comm]
        rcases placeF_ge its (endV its k x) its.length 0 with h3 | h3
        · rw [hgo, h3]
          simp only [show ((-1 : Int) + 1) = 0 from rfl, eqI_self, cnd_true, bnd_some_eq, sumE, show (-1 : Int) < 0 from by decide, decide_true, if_true]
        · rw [← hgo] at h3 ⊢
          have hnn : decide (goI its k x < 0) = false := decide_eq_false (by omega)
          simp only [eqI_ne (show goI its k x + 1 ≠ 0 by omega), cnd_false, hnn, Bool.false_eq_true, if_false]
          rw [bnd_some_eq, nth_of hax, bnd_some_eq, bnd_some_eq, bnd_some_eq, subI_i64 (by omega) (by omega), show goI its k x + 1 - 1 = goI its k x by omega]
          simp only [sumE, e1, setL]
    cases ho : offI its k with
    | true =>
      rw [ho] at step
      rw [loopR_inr step]; rfl
    | false =>
      rw [ho] at step
      rw [loopR_inl step, Bool.false_or]
      obtain ⟨k1, k2, k3⟩ := keep _ rfl
      exact ih (k + 1) _ (by omega) k1 k2 k3

theorem dis_spec {s : List Int} (hs : bytesOk s) : ∃ n, f_asm_Disassemble (s, ()) = some (⟨n, (disB s).1⟩, (disB s).2, ()) := by
  rw [u_asm_Disassemble]
  have h0 := dis_loop hs s.length [] true true [] [] [] held_nil (Nat.zero_le _) (by omega)
  have e0 : posI ([] : List It) ([] : List It).length = 0 := rfl
  rw [e0, List.drop_zero] at h0
  unfold disB
  rcases h0 with ⟨x, h1, h2⟩ | ⟨r, n1, n2, l, e, m, h1, h2, h3, h4⟩
  · rw [h1]
    exact ⟨true, h2⟩
  · rw [h1]
    rw [List.nil_append] at h2 h3
    simp only
    rw [show (0 : Int) = ((0 : Nat) : Int) from rfl, h4]
    have hll : l.length = r.length := by rw [h2.l, List.length_map]
    unfold endB
    by_cases hbig : 20000 < r.length
    · rw [if_pos hbig]
      refine ⟨true, loopR_inr ?_⟩
      unfold l2_asm_Disassemble
      simp only [lenI]
      rw [cnd_lt, if_neg (by omega), cnd_lt, if_pos (by omega)]
    · rw [if_neg hbig]
      have hf := fix_loop (s := s) h2 (by omega) n1 n2 r.length 0 l (by omega) hll (fun j hj => by omega) (fun j _ => by rw [h2.l])
      have hstep : l2_asm_Disassemble (s, (s.length : Int), ⟨n1, l⟩, ⟨n2, e⟩, m, ()) = loopR l1_asm_Disassemble (s, (r.length : Int), ((0 : Nat) : Int), ⟨n1, l⟩, ⟨n2, e⟩, m, ()) := by
        unfold l2_asm_Disassemble
        simp only [lenI]
        rw [cnd_lt, if_neg (by omega), cnd_lt, if_neg (by omega), hll]
        rfl
      rw [loopR_step, hstep, hf, ← List.range_eq_range']
      by_cases hoff : (List.range r.length).any (offI r) = true
      · rw [if_pos hoff, if_pos hoff]
        exact ⟨true, rfl⟩
      · rw [if_neg hoff, if_neg hoff]
        unfold finA
        by_cases hx : chkL (fixL r) = 0 ∧ asmB (fixL r) (rlx (fixL r)) = s
        · rw [if_pos hx, if_pos hx]; exact ⟨n1, rfl⟩
        · rw [if_neg hx, if_neg hx]; exact ⟨true, rfl⟩
end Fn
end Ev
