/- Layer 6 in plain words: names, signs; nodes as trees. No statement of its own about the program. -/
import Derived.Test.YtndklpaccohbcaaDoorFn
import Derived.Laws.RangeAny
namespace Ev
open Go
namespace Fn
/-- As much, or more. -/
def lq {α : Type} (a b : Option α) : Prop := ∀ v, a = some v → b = some v
theorem lq_refl {α : Type} (a : Option α) : lq a a := fun _ h => h
theorem lq_bnd {α β : Type} {x y : Option α} {f g : α → Option β} (h : lq x y) (h2 : ∀ a, lq (f a) (g a)) : lq (bnd x f) (bnd y g) := by
  intro v e
  cases hx : x with
  | none => rw [hx] at e; cases e
  | some a =>
    rw [hx] at e
    rw [h a hx]
    exact h2 a v e
theorem lq_cnd {α : Type} {c : Bool} {x y x' y' : Option α} (h : lq x x') (h2 : lq y y') : lq (cnd c x y) (cnd c x' y') := by
  cases c with
  | true => exact h
  | false => exact h2
theorem lq_sumE {α β : Type} {f g : α → Option β} (h : ∀ a, lq (f a) (g a)) (y : α ⊕ β) : lq (sumE f y) (sumE g y) := by
  cases y with
  | inl a => exact h a
  | inr b => exact lq_refl _
theorem lq_loop {σ ρ : Type} {f g : σ → Option (σ ⊕ ρ)} (h : ∀ s, lq (f s) (g s)) : ∀ (n : Nat) (s : σ) (r : ρ), loopN f n s = some r → loopN g n s = some r
  | 0, _, _, e => by cases e
  | n + 1, s, r, e => by
    unfold loopN at e ⊢
    cases hf : f s with
    | none => rw [hf] at e; cases e
    | some q =>
      rw [hf] at e
      rw [h s q hf]
      cases q with
      | inl s' => exact lq_loop h n s' r e
      | inr r' => exact e
theorem lq_loopR {σ ρ : Type} {f g : σ → Option (σ ⊕ ρ)} (h : ∀ s, lq (f s) (g s)) (n : Nat) (s : σ) : lq (loopN f n s) (loopR g s) := fun r e => loopR_of n (lq_loop h n s r e)
def k2_Fields (K : ((List Int) × Int × Int × (Sl (List Int)) × Unit) → Option ((((List Int) × Int × Int × Int × (Sl (List Int)) × Unit) ⊕ (((List Int) × Int × Int × Int × (Sl (List Int)) × Unit) ⊕ (((List Int) × Int × Int × (Sl (List Int)) × Unit) ⊕ (((List Int) × Int × Int × Int × Int × Unit) ⊕ ((Sl (List Int)) × Unit))))))) (x8 : (List Int) × Int × Int × Int × (Sl (List Int)) × Unit) : Option (((List Int) × Int × Int × Int × (Sl (List Int)) × Unit) ⊕ ((((List Int) × Int × Int × (Sl (List Int)) × Unit) ⊕ (((List Int) × Int × Int × Int × Int × Unit) ⊕ ((Sl (List Int)) × Unit))))) := cnd (ltI x8.2.2.2.1 (lenI x8.1)) (bnd (bnd (at? x8.1 x8.2.2.2.1) (fun x9 => bnd (at? ([0, 0, 0, 0, 0, 0, 0, 0, 0, 1, 1, 1, 1, 1, 0, 0, 0, 0, 0, 0, 0, 0, 0, 0, 0, 0, 0, 0, 0, 0, 0, 0, 1, 0, 0, 0, 0, 0, 0, 0, 0, 0, 0, 0, 0, 0, 0, 0, 0, 0, 0, 0, 0, 0, 0, 0, 0, 0, 0, 0, 0, 0, 0, 0, 0, 0, 0, 0, 0, 0, 0, 0, 0, 0, 0, 0, 0, 0, 0, 0, 0, 0, 0, 0, 0, 0, 0, 0, 0, 0, 0, 0, 0, 0, 0, 0, 0, 0, 0, 0, 0, 0, 0, 0, 0, 0, 0, 0, 0, 0, 0, 0, 0, 0, 0, 0, 0, 0, 0, 0, 0, 0, 0, 0, 0, 0, 0, 0, 0, 0, 0, 0, 0, 0, 0, 0, 0, 0, 0, 0, 0, 0, 0, 0, 0, 0, 0, 0, 0, 0, 0, 0, 0, 0, 0, 0, 0, 0, 0, 0, 0, 0, 0, 0, 0, 0, 0, 0, 0, 0, 0, 0, 0, 0, 0, 0, 0, 0, 0, 0, 0, 0, 0, 0, 0, 0, 0, 0, 0, 0, 0, 0, 0, 0, 0, 0, 0, 0, 0, 0, 0, 0, 0, 0, 0, 0, 0, 0, 0, 0, 0, 0, 0, 0, 0, 0, 0, 0, 0, 0, 0, 0, 0, 0, 0, 0, 0, 0, 0, 0, 0, 0, 0, 0, 0, 0, 0, 0, 0, 0, 0, 0, 0, 0, 0, 0, 0, 0, 0, 0, 0, 0, 0, 0, 0, 0] : List Int) x9) (fun x10 => cnd (eqI x10 0) (some (Sum.inl (x8.1, x8.2.1, x8.2.2.1, addI IntKind.i64 x8.2.2.2.1 1, x8.2.2.2.2.1, ()))) (bnd (cutL x8.1 x8.2.2.1 x8.2.2.2.1) (fun x11 => bnd (okAt x8.2.2.2.2.1.l x8.2.1) (fun x12 => bnd (bnd (nth x8.2.2.2.2.1.l x12) (fun _ => some x11)) (fun x14 => K (x8.1, addI IntKind.i64 x8.2.1 1, addI IntKind.i64 x8.2.2.2.1 1, ⟨x8.2.2.2.2.1.nil, setL x8.2.2.2.2.1.l x12 x14⟩, ())))))))) (sumE (fun x19 => some (Sum.inl (x19.1, x19.2.1, x19.2.2.1, x19.2.2.2.1, x19.2.2.2.2.1, ()))))) (bnd (cnd (ltI x8.2.2.1 (lenI x8.1)) (bnd (cutL x8.1 x8.2.2.1 (lenI x8.1)) (fun x20 => bnd (okAt x8.2.2.2.2.1.l x8.2.1) (fun x21 => bnd (bnd (nth x8.2.2.2.2.1.l x21) (fun _ => some x20)) (fun x23 => some (⟨x8.2.2.2.2.1.nil, setL x8.2.2.2.2.1.l x21 x23⟩, ()))))) (some (x8.2.2.2.2.1, ()))) (fun x24 => some (Sum.inr (Sum.inr (Sum.inr (x24.1, ()))))))
theorem k2_eq : l2_strings_Fields = k2_Fields (loopR l1_strings_Fields) := rfl
theorem k2_mono {K K' : ((List Int) × Int × Int × (Sl (List Int)) × Unit) → Option ((((List Int) × Int × Int × Int × (Sl (List Int)) × Unit) ⊕ (((List Int) × Int × Int × Int × (Sl (List Int)) × Unit) ⊕ (((List Int) × Int × Int × (Sl (List Int)) × Unit) ⊕ (((List Int) × Int × Int × Int × Int × Unit) ⊕ ((Sl (List Int)) × Unit))))))} (h : ∀ s, lq (K s) (K' s)) (s : (List Int) × Int × Int × Int × (Sl (List Int)) × Unit) : lq (k2_Fields K s) (k2_Fields K' s) := by
  unfold k2_Fields
  repeat' first | exact h _ | exact lq_refl _ | apply lq_bnd | apply lq_cnd | (intro _) | apply lq_sumE
def k3_Fields (K : ((List Int) × Int × Int × Int × (Sl (List Int)) × Unit) → Option ((((List Int) × Int × Int × (Sl (List Int)) × Unit) ⊕ (((List Int) × Int × Int × Int × Int × Unit) ⊕ ((Sl (List Int)) × Unit))))) (x4 : (List Int) × Int × Int × (Sl (List Int)) × Unit) : Option (((List Int) × Int × Int × (Sl (List Int)) × Unit) ⊕ ((((List Int) × Int × Int × Int × Int × Unit) ⊕ ((Sl (List Int)) × Unit)))) := bnd (cnd (ltI x4.2.2.1 (lenI x4.1)) (bnd (at? x4.1 x4.2.2.1) (fun x5 => bnd (at? ([0, 0, 0, 0, 0, 0, 0, 0, 0, 1, 1, 1, 1, 1, 0, 0, 0, 0, 0, 0, 0, 0, 0, 0, 0, 0, 0, 0, 0, 0, 0, 0, 1, 0, 0, 0, 0, 0, 0, 0, 0, 0, 0, 0, 0, 0, 0, 0, 0, 0, 0, 0, 0, 0, 0, 0, 0, 0, 0, 0, 0, 0, 0, 0, 0, 0, 0, 0, 0, 0, 0, 0, 0, 0, 0, 0, 0, 0, 0, 0, 0, 0, 0, 0, 0, 0, 0, 0, 0, 0, 0, 0, 0, 0, 0, 0, 0, 0, 0, 0, 0, 0, 0, 0, 0, 0, 0, 0, 0, 0, 0, 0, 0, 0, 0, 0, 0, 0, 0, 0, 0, 0, 0, 0, 0, 0, 0, 0, 0, 0, 0, 0, 0, 0, 0, 0, 0, 0, 0, 0, 0, 0, 0, 0, 0, 0, 0, 0, 0, 0, 0, 0, 0, 0, 0, 0, 0, 0, 0, 0, 0, 0, 0, 0, 0, 0, 0, 0, 0, 0, 0, 0, 0, 0, 0, 0, 0, 0, 0, 0, 0, 0, 0, 0, 0, 0, 0, 0, 0, 0, 0, 0, 0, 0, 0, 0, 0, 0, 0, 0, 0, 0, 0, 0, 0, 0, 0, 0, 0, 0, 0, 0, 0, 0, 0, 0, 0, 0, 0, 0, 0, 0, 0, 0, 0, 0, 0, 0, 0, 0, 0, 0, 0, 0, 0, 0, 0, 0, 0, 0, 0, 0, 0, 0, 0, 0, 0, 0, 0, 0, 0, 0, 0, 0, 0, 0] : List Int) x5) (fun x6 => some (notB (eqI x6 0))))) (some false)) (fun x7 => cnd x7 (some (Sum.inl (x4.1, x4.2.1, addI IntKind.i64 x4.2.2.1 1, x4.2.2.2.1, ()))) (K (x4.1, x4.2.1, x4.2.2.1, x4.2.2.1, x4.2.2.2.1, ())))
theorem k3_eq : l3_strings_Fields = k3_Fields (loopR l2_strings_Fields) := rfl
theorem k3_mono {K K' : ((List Int) × Int × Int × Int × (Sl (List Int)) × Unit) → Option ((((List Int) × Int × Int × (Sl (List Int)) × Unit) ⊕ (((List Int) × Int × Int × Int × Int × Unit) ⊕ ((Sl (List Int)) × Unit))))} (h : ∀ s, lq (K s) (K' s)) (s : (List Int) × Int × Int × (Sl (List Int)) × Unit) : lq (k3_Fields K s) (k3_Fields K' s) := by
  unfold k3_Fields
  repeat' first | exact h _ | exact lq_refl _ | apply lq_bnd | apply lq_cnd | (intro _) | apply lq_sumE
def k4_Fields (K : ((List Int) × Int × Int × (Sl (List Int)) × Unit) → Option ((((List Int) × Int × Int × Int × Int × Unit) ⊕ ((Sl (List Int)) × Unit)))) (x0 : (List Int) × Int × Int × Int × Int × Unit) : Option (((List Int) × Int × Int × Int × Int × Unit) ⊕ ((Sl (List Int)) × Unit)) := cnd (ltI x0.2.2.2.2.1 (lenI x0.1)) (bnd (at? x0.1 x0.2.2.2.2.1) (fun x1 => bnd (at? ([0, 0, 0, 0, 0, 0, 0, 0, 0, 1, 1, 1, 1, 1, 0, 0, 0, 0, 0, 0, 0, 0, 0, 0, 0, 0, 0, 0, 0, 0, 0, 0, 1, 0, 0, 0, 0, 0, 0, 0, 0, 0, 0, 0, 0, 0, 0, 0, 0, 0, 0, 0, 0, 0, 0, 0, 0, 0, 0, 0, 0, 0, 0, 0, 0, 0, 0, 0, 0, 0, 0, 0, 0, 0, 0, 0, 0, 0, 0, 0, 0, 0, 0, 0, 0, 0, 0, 0, 0, 0, 0, 0, 0, 0, 0, 0, 0, 0, 0, 0, 0, 0, 0, 0, 0, 0, 0, 0, 0, 0, 0, 0, 0, 0, 0, 0, 0, 0, 0, 0, 0, 0, 0, 0, 0, 0, 0, 0, 0, 0, 0, 0, 0, 0, 0, 0, 0, 0, 0, 0, 0, 0, 0, 0, 0, 0, 0, 0, 0, 0, 0, 0, 0, 0, 0, 0, 0, 0, 0, 0, 0, 0, 0, 0, 0, 0, 0, 0, 0, 0, 0, 0, 0, 0, 0, 0, 0, 0, 0, 0, 0, 0, 0, 0, 0, 0, 0, 0, 0, 0, 0, 0, 0, 0, 0, 0, 0, 0, 0, 0, 0, 0, 0, 0, 0, 0, 0, 0, 0, 0, 0, 0, 0, 0, 0, 0, 0, 0, 0, 0, 0, 0, 0, 0, 0, 0, 0, 0, 0, 0, 0, 0, 0, 0, 0, 0, 0, 0, 0, 0, 0, 0, 0, 0, 0, 0, 0, 0, 0, 0, 0, 0, 0, 0, 0, 0] : List Int) x1) (fun x2 => some (Sum.inl (x0.1, addI IntKind.i64 x0.2.1 (andI IntKind.i64 x0.2.2.1 (xorI IntKind.i64 (-1) (cvI IntKind.i64 x2))), cvI IntKind.i64 x2, orI IntKind.u8 x0.2.2.2.1 x1, addI IntKind.i64 x0.2.2.2.2.1 1, ()))))) (cnd (leI 128 x0.2.2.2.1) none (bnd (mkN x0.2.1 x0.2.1) (fun x3 => K (x0.1, 0, 0, ⟨false, rep x3 ([] : List Int)⟩, ()))))
theorem k4_eq : l4_strings_Fields = k4_Fields (loopR l3_strings_Fields) := rfl
theorem k4_mono {K K' : ((List Int) × Int × Int × (Sl (List Int)) × Unit) → Option ((((List Int) × Int × Int × Int × Int × Unit) ⊕ ((Sl (List Int)) × Unit)))} (h : ∀ s, lq (K s) (K' s)) (s : (List Int) × Int × Int × Int × Int × Unit) : lq (k4_Fields K s) (k4_Fields K' s) := by
  unfold k4_Fields
  repeat' first | exact h _ | exact lq_refl _ | apply lq_bnd | apply lq_cnd | (intro _) | apply lq_sumE
def wordsT : List Int := [108, 101, 116, 32, 114, 101, 99, 32, 105, 110, 32, 102, 117, 110, 32, 105, 102, 32, 116, 104, 101, 110, 32, 101, 108, 115, 101, 32, 109, 97, 116, 99, 104, 32, 119, 105, 116, 104, 32, 101, 110, 100, 32, 114, 97, 105, 115, 101, 32, 116, 114, 121, 32, 111, 112, 101, 110, 32, 116, 121, 112, 101, 32, 111, 102, 32, 105, 110, 102, 105, 120, 108, 32, 105, 110, 102, 105, 120, 114, 32, 105, 110, 102, 105, 120, 32, 45, 62, 32, 61, 32, 124, 32, 40, 32, 41, 32, 95, 32, 59, 59]
def wordsL : List (List Int) := [[108, 101, 116], [114, 101, 99], [105, 110], [102, 117, 110], [105, 102], [116, 104, 101, 110], [101, 108, 115, 101], [109, 97, 116, 99, 104], [119, 105, 116, 104], [101, 110, 100], [114, 97, 105, 115, 101], [116, 114, 121], [111, 112, 101, 110], [116, 121, 112, 101], [111, 102], [105, 110, 102, 105, 120, 108], [105, 110, 102, 105, 120, 114], [105, 110, 102, 105, 120], [45, 62], [61], [124], [40], [41], [95], [59, 59]]
noncomputable def n1 := fun s => loopN l1_strings_Fields 200 s
noncomputable def n2 := fun s => loopN (k2_Fields n1) 200 s
noncomputable def n3 := fun s => loopN (k3_Fields n2) 200 s
noncomputable def n4 := fun s => loopN (k4_Fields n3) 200 s
theorem n1_le (s) : lq (n1 s) (loopR l1_strings_Fields s) := fun _r e => loopR_of 200 e
theorem n2_le (s) : lq (n2 s) (loopR l2_strings_Fields s) := lq_loopR (fun s => k2_mono n1_le s) 200 s
theorem n3_le (s) : lq (n3 s) (loopR l3_strings_Fields s) := lq_loopR (fun s => k3_mono n2_le s) 200 s
theorem n4_le (s) : lq (n4 s) (loopR l4_strings_Fields s) := lq_loopR (fun s => k4_mono n3_le s) 200 s
theorem n4_words : n4 (wordsT, 0, 1, 0, 0, ()) = some (⟨false, wordsL⟩, ()) := by kernel_rfl
theorem words_spec : f_lex_words () = some (⟨false, wordsL⟩, ()) := by
  rw [u_lex_words]
  have h : f_strings_Fields (wordsT, ()) = some (⟨false, wordsL⟩, ()) := by
    rw [u_strings_Fields]
    exact n4_le _ _ n4_words
  show bnd (f_strings_Fields (wordsT, ())) _ = _
  rw [h]
  rfl
theorem rwords_spec : f_ref03_words () = some (⟨false, wordsL⟩, ()) := u_ref03_words
end Fn
end Ev
namespace Ev
open Go
namespace Fn

theorem add1 {k : Nat} (h : k ≤ 1000000000) : addI .i64 (k : Int) 1 = ((k + 1 : Nat) : Int) := by
  rw [addI_i64 (by omega) (by omega)]; omega
theorem drop_cons {α : Type} {l : List α} {k : Nat} (h : k < l.length) : l.drop k = l[k] :: l.drop (k + 1) := List.drop_eq_getElem_cons h
theorem okAt_nat {α : Type} {l : List α} {i : Nat} (h : i < l.length) : okAt l (i : Int) = some i := by
  unfold okAt; rw [if_pos (by omega)]; rfl
theorem nth_of {α : Type} {l : List α} {i : Nat} {x : α} (h : l[i]? = some x) : nth l i = some x := h
theorem cut_pre {α : Type} {l : List α} {k : Nat} (h : k ≤ l.length) : cutL l 0 (k : Int) = some (l.take k) := by
  unfold cutL; rw [if_pos (by omega)]; rfl

/-! Words. -/
theorem index_loop (s : List Int) (n : Bool) (l : List (List Int)) (hl : l.length ≤ 1000000) : ∀ (m k : Nat), k + m = l.length →
    ∃ r, loopR l1_slices_Index_v2 (⟨n, l⟩, s, (l.length : Int), (k : Int), ()) = some (r, ()) ∧ (0 ≤ r ↔ s ∈ l.drop k) := by
  intro m
  induction m with
  | zero =>
    intro k hk
    refine ⟨-1, loopR_inr ?_, by rw [List.drop_eq_nil_of_le (by omega)]; simp⟩
    unfold l1_slices_Index_v2
    simp only
    rw [cnd_lt, if_neg (by omega)]
  | succ m ih =>
    intro k hk
    have hlt : k < l.length := by omega
    rw [drop_cons hlt]
    have step : l1_slices_Index_v2 (⟨n, l⟩, s, (l.length : Int), (k : Int), ()) = if s = l[k] then some (.inr ((k : Int), ())) else some (.inl (⟨n, l⟩, s, (l.length : Int), ((k + 1 : Nat) : Int), ())) := by
      unfold l1_slices_Index_v2
      simp only
      rw [cnd_lt, if_pos (by omega), at?_nat (List.getElem?_eq_getElem hlt), bnd_some_eq, cnd_eqS, add1 (by omega)]
    by_cases h : s = l[k]
    · rw [if_pos h] at step
      exact ⟨k, loopR_inr step, by simp [h, -List.getElem_cons_drop]⟩
    · rw [if_neg h] at step
      obtain ⟨r, h1, h2⟩ := ih (k + 1) (by omega)
      exact ⟨r, by rw [loopR_inl step, h1], by rw [h2]; simp [h, -List.getElem_cons_drop]⟩

theorem key_spec (s : List Int) : f_lex_Key (s, ()) = some (decide (s ∈ wordsL), ()) := by
  obtain ⟨r, h1, h2⟩ := index_loop s false wordsL (by decide) 25 0 (by decide)
  rw [u_lex_Key, words_spec, bnd_some_eq, u_slices_Contains_v2, u_slices_Index_v2]
  have h1 : loopR l1_slices_Index_v2 (⟨false, wordsL⟩, s, lenI wordsL, 0, ()) = some (r, ()) := h1
  simp only [h1, bnd_some_eq]
  have : leI 0 r = decide (s ∈ wordsL) := decide_eq_decide.2 (by rw [h2]; rfl)
  rw [this]

theorem rkey_loop (s : List Int) (n : Bool) (l : List (List Int)) (hl : l.length ≤ 1000000) : ∀ (m k : Nat), k + m = l.length →
    loopR l1_ref03_Key (s, ⟨n, l⟩, (k : Int), ()) = some (decide (s ∈ l.drop k), ()) := by
  intro m
  induction m with
  | zero =>
    intro k hk
    refine loopR_inr ?_
    unfold l1_ref03_Key
    simp only
    rw [cnd_lt, if_neg (by unfold lenI; omega), List.drop_eq_nil_of_le (by omega)]
    simp
  | succ m ih =>
    intro k hk
    have hlt : k < l.length := by omega
    rw [drop_cons hlt]
    have step : l1_ref03_Key (s, ⟨n, l⟩, (k : Int), ()) = if l[k] = s then some (.inr (true, ())) else some (.inl (s, ⟨n, l⟩, ((k + 1 : Nat) : Int), ())) := by
      unfold l1_ref03_Key
      simp only
      rw [cnd_lt, if_pos (by unfold lenI; omega), at?_nat (List.getElem?_eq_getElem hlt), bnd_some_eq, cnd_eqS, add1 (by omega)]
    by_cases h : l[k] = s
    · rw [if_pos h] at step
      rw [loopR_inr step]
      simp [h, -List.getElem_cons_drop]
    · rw [if_neg h] at step
      rw [loopR_inl step, ih (k + 1) (by omega)]
      have : s ≠ l[k] := fun e => h e.symm
      simp [this, -List.getElem_cons_drop]

theorem rkey_spec (s : List Int) : f_ref03_Key (s, ()) = some (decide (s ∈ wordsL), ()) := by
  rw [u_ref03_Key, rwords_spec, bnd_some_eq]
  exact rkey_loop s false wordsL (by decide) 25 0 (by decide)

/-! Signs. -/
def signsL : List Int := [33, 36, 37, 38, 42, 43, 45, 47, 58, 60, 61, 62, 63, 64, 94, 124]
theorem ixB_mem (c : Int) : ∀ l : List Int, (0 ≤ ixB c l ↔ c ∈ l)
  | [] => by simp [ixB]
  | b :: r => by
    have ih := ixB_mem c r
    unfold ixB
    by_cases h : b = c
    · rw [if_pos h]; simp [h]
    · rw [if_neg h]
      have : c ≠ b := fun e => h e.symm
      simp only [List.mem_cons, this, false_or]
      rw [← ih]
      split <;> omega

theorem sign_spec (c : Int) : f_lex_sign (c, ()) = some (decide (c ∈ signsL), ()) := by
  rw [u_lex_sign, u_strings_IndexByte, bnd_some_eq]
  have : leI 0 (ixB c signsL) = decide (c ∈ signsL) := decide_eq_decide.2 (ixB_mem c signsL)
  show some (leI 0 (ixB c signsL), ()) = _
  rw [this]

theorem is_loop (c : Int) : ∀ (m k : Nat), k + m = 16 → ∃ r, loopR l1_ref03_is (c, signsL, (k : Int), ()) = some (r, ()) ∧ r ≤ 5 ∧ (r = 5 ↔ c ∈ signsL.drop k) := by
  have h16 : signsL.length = 16 := rfl
  intro m
  induction m with
  | zero =>
    intro k hk
    rw [List.drop_eq_nil_of_le (by omega)]
    have last : ∀ (b1 b2 b3 b4 : Bool), ∃ r : Int, (cnd b1 (some (Sum.inr (1, ()))) (cnd b2 (some (Sum.inr (2, ()))) (cnd b3 (some (Sum.inr (3, ()))) (cnd b4 (some (Sum.inr (4, ()))) (some (Sum.inr (0, ())))))) : Option ((Int × (List Int) × Int × Unit) ⊕ (Int × Unit))) = some (.inr (r, ())) ∧ r ≤ 5 ∧ r ≠ 5 := by
      intro b1 b2 b3 b4
      cases b1 <;> cases b2 <;> cases b3 <;> cases b4 <;> exact ⟨_, rfl, by decide, by decide⟩
    have two : ∀ (a b : Int) (b2 : Bool), (cnd (leI a c) (some b2) (some false) : Option Bool) = some (leI a c && b2) := fun a b b2 => by cases leI a c <;> rfl
    have or2 : ∀ (b1 b2 : Bool), (cnd b1 (some true) (some b2) : Option Bool) = some (b1 || b2) := fun b1 b2 => by cases b1 <;> rfl
    obtain ⟨r, h1, h2, h3⟩ := last (leI 97 c && leI c 122) (leI 65 c && leI c 90) (leI 48 c && leI c 57) (eqI c 95 || eqI c 39)
    refine ⟨r, loopR_inr ?_, h2, by simp [h3]⟩
    unfold l1_ref03_is
    simp only
    rw [cnd_lt, if_neg (by unfold lenI; omega), two 97 0, two 65 0, two 48 0, or2]
    simp only [bnd_some_eq]
    exact h1
  | succ m ih =>
    intro k hk
    have hlt : k < signsL.length := by omega
    rw [drop_cons hlt]
    have step : l1_ref03_is (c, signsL, (k : Int), ()) = if signsL[k] = c then some (.inr (5, ())) else some (.inl (c, signsL, ((k + 1 : Nat) : Int), ())) := by
      unfold l1_ref03_is
      simp only
      rw [cnd_lt, if_pos (by unfold lenI; omega), at?_nat (List.getElem?_eq_getElem hlt), bnd_some_eq, cnd_eq, add1 (by omega)]
    by_cases h : signsL[k] = c
    · rw [if_pos h] at step
      exact ⟨5, loopR_inr step, by omega, by simp [h, -List.getElem_cons_drop]⟩
    · rw [if_neg h] at step
      obtain ⟨r, h1, h2, h3⟩ := ih (k + 1) (by omega)
      have hn : c ≠ signsL[k] := fun e => h e.symm
      exact ⟨r, by rw [loopR_inl step, h1], h2, by rw [h3]; simp [hn, -List.getElem_cons_drop]⟩

theorem is_spec (c : Int) : ∃ r, f_ref03_is (c, ()) = some (r, ()) ∧ r ≤ 5 ∧ (r = 5 ↔ c ∈ signsL) := by
  obtain ⟨r, h1, h2, h3⟩ := is_loop c 16 0 rfl
  exact ⟨r, by rw [u_ref03_is]; exact h1, h2, h3⟩

/-- What an operator may be. -/
def allS (s : List Int) : Bool := !s.isEmpty && s.all fun b => decide (b ∈ signsL)
def opOk (s : List Int) : Bool := allS s && !decide (s ∈ wordsL)

theorem signs_low {b : Int} (h : b ∈ signsL) : 0 ≤ b ∧ b ≤ 126 := by
  unfold signsL at h
  simp only [List.mem_cons, List.not_mem_nil, or_false] at h
  omega

/-- The sign at a place: the byte, or none that an operator may have. -/
theorem rune_at {s : List Int} (hs : ∀ b, b ∈ s → 0 ≤ b ∧ b ≤ 255) {k : Nat} (hk : k < s.length) : (s[k] ≤ 127 → runeI s (k : Int) = s[k] ∧ nextI s (k : Int) = ((k + 1 : Nat) : Int)) ∧ (127 < s[k] → 126 < runeI s (k : Int)) := by
  have hb := hs _ (List.getElem_mem hk)
  have hsz : (bytesB s).size = s.length := by show (s.map _).toArray.size = _; simp
  have hk' : k < (bytesB s).size := by omega
  have hg : (((bytesB s)[k]'hk').toNat : Int) = s[k] := by
    have : (bytesB s)[k]'hk' = UInt8.ofNat s[k].toNat := by
      have h1 : (bytesB s)[k]'hk' = ((s.map fun b => UInt8.ofNat b.toNat).toArray)[k]'(by simpa using hk) := rfl
      rw [h1, List.getElem_toArray, List.getElem_map]
    rw [this, UInt8.toNat_ofNat', Nat.mod_eq_of_lt (by omega)]
    omega
  unfold runeI nextI
  rw [Int.toNat_natCast, if_pos (by omega)]
  constructor
  · intro h
    have := decode_ascii (bytesB s) k hk' (by omega)
    rw [this]
    exact ⟨hg, by simp⟩
  · intro h
    have := (decode_high (bytesB s) k hk' (by omega)).1
    omega

theorem all_loop {s : List Int} (hs : ∀ b, b ∈ s → 0 ≤ b ∧ b ≤ 255) : ∀ (m k : Nat), k + m = s.length →
    loopR l1_lex_all_v2 (s, s, (k : Int), ()) = some ((s.drop k).all (fun b => decide (b ∈ signsL)) && !s.isEmpty, ()) := by
  intro m
  induction m with
  | zero =>
    intro k hk
    refine loopR_inr ?_
    unfold l1_lex_all_v2
    simp only
    rw [cnd_lt, if_neg (by unfold lenI; omega), List.drop_eq_nil_of_le (by omega)]
    cases s <;> rfl
  | succ m ih =>
    intro k hk
    have hlt : k < s.length := by omega
    rw [drop_cons hlt]
    obtain ⟨h1, h2⟩ := rune_at hs hlt
    have c0 : ltI (k : Int) (lenI s) = true := decide_eq_true (by unfold lenI; omega)
    have hb := hs _ (List.getElem_mem hlt)
    have step : l1_lex_all_v2 (s, s, (k : Int), ()) = if s[k] ∈ signsL then some (.inl (s, s, ((k + 1 : Nat) : Int), ())) else some (.inr (false, ())) := by
      unfold l1_lex_all_v2
      simp only [c0, cnd_true, bnd_some_eq]
      by_cases h : s[k] ≤ 126
      · obtain ⟨e1, e2⟩ := h1 (by omega)
        rw [e1, e2]
        have c1 : ltI 126 s[k] = false := decide_eq_false (by omega)
        have c2 : cvI .u8 s[k] = s[k] := by rw [cvI_u8]; omega
        simp only [c1, cnd_false, c2, sign_spec, bnd_some_eq, notB]
        by_cases hm : s[k] ∈ signsL
        · rw [if_pos hm]; simp [hm, cnd_false]
        · rw [if_neg hm]; simp [hm, cnd_true]
      · have hm : s[k] ∉ signsL := fun e => by have := signs_low e; omega
        rw [if_neg hm]
        have c1 : ltI 126 (runeI s (k : Int)) = true := by
          refine decide_eq_true ?_
          by_cases h127 : s[k] ≤ 127
          · rw [(h1 h127).1]; omega
          · exact h2 (by omega)
        simp only [c1, cnd_true, bnd_some_eq]
    by_cases hm : s[k] ∈ signsL
    · rw [if_pos hm] at step
      rw [loopR_inl step, ih (k + 1) (by omega)]
      simp [hm, -List.getElem_cons_drop]
    · rw [if_neg hm] at step
      rw [loopR_inr step]
      simp [hm, -List.getElem_cons_drop]

theorem all_spec {s : List Int} (hs : ∀ b, b ∈ s → 0 ≤ b ∧ b ≤ 255) : f_lex_all_v2 (s, ()) = some (allS s, ()) := by
  rw [u_lex_all_v2]
  have := all_loop hs s.length 0 (by omega)
  rw [List.drop_zero, Bool.and_comm] at this
  exact this

/-- The longest start of signs. -/
def pre5 : List Int → Nat
  | [] => 0
  | b :: r => if b ∈ signsL then pre5 r + 1 else 0
theorem pre5_le : ∀ s, pre5 s ≤ s.length
  | [] => Nat.le_refl _
  | b :: r => by
    unfold pre5
    have := pre5_le r
    split <;> simp <;> omega
theorem pre5_all : ∀ s : List Int, (pre5 s = s.length ↔ s.all (fun b => decide (b ∈ signsL)) = true)
  | [] => by simp [pre5]
  | b :: r => by
    have ih := pre5_all r
    unfold pre5
    by_cases h : b ∈ signsL
    · rw [if_pos h, List.length_cons, List.all_cons]
      simp only [h, decide_true, Bool.true_and, ← ih]
      omega
    · rw [if_neg h]
      simp [h]

theorem while_loop (s : List Int) (hl : s.length ≤ 1000000) : ∀ (m k : Nat), k + m = s.length → loopR l1_ref03_while (s, (k : Int), 5, 5, ()) = some (((k + pre5 (s.drop k) : Nat) : Int), ()) := by
  intro m
  induction m with
  | zero =>
    intro k hk
    refine loopR_inr ?_
    unfold l1_ref03_while
    simp only
    rw [cnd_lt, if_neg (by unfold lenI; omega), List.drop_eq_nil_of_le (by omega)]
    rfl
  | succ m ih =>
    intro k hk
    have hlt : k < s.length := by omega
    rw [drop_cons hlt]
    obtain ⟨r, h1, h2, h3⟩ := is_spec s[k]
    have c0 : ltI (k : Int) (lenI s) = true := decide_eq_true (by unfold lenI; omega)
    have step : l1_ref03_while (s, (k : Int), 5, 5, ()) = if s[k] ∈ signsL then some (.inl (s, ((k + 1 : Nat) : Int), 5, 5, ())) else some (.inr ((k : Int), ())) := by
      unfold l1_ref03_while
      simp only [c0, cnd_true, at?_nat (List.getElem?_eq_getElem hlt), bnd_some_eq, h1, add1 (by omega : k ≤ 1000000000)]
      by_cases hm : s[k] ∈ signsL
      · rw [if_pos hm]
        have : r = 5 := h3.2 hm
        subst this
        rfl
      · rw [if_neg hm]
        have : leI 5 r = false := decide_eq_false (fun e => hm (h3.1 (by omega)))
        simp only [this, cnd_false, bnd_some_eq]
    unfold pre5
    by_cases hm : s[k] ∈ signsL
    · rw [if_pos hm] at step ⊢
      rw [loopR_inl step, ih (k + 1) (by omega)]
      congr 2
      omega
    · rw [if_neg hm] at step ⊢
      rw [loopR_inr step]
      rfl

theorem lex_right (s : List Int) (hs : ∀ b, b ∈ s → 0 ≤ b ∧ b ≤ 255) : f_lex_Right ((5, s, 0, 0), ()) = some (opOk s, ()) := by
  rw [u_lex_Right, all_spec hs, key_spec]
  have c1 : ltI 0 0 = false := rfl
  have c2 : eqI 5 3 = false := rfl
  have c3 : eqI 0 0 = true := rfl
  have c4 : eqI 5 1 = false := rfl
  have c5 : eqI 5 2 = false := rfl
  have c6 : eqI 5 4 = false := rfl
  have c7 : eqI 5 5 = true := rfl
  simp only [c1, c2, c3, c4, c5, c6, c7, cnd_false, cnd_true, bnd_some_eq, notB, Bool.not_true, Bool.not_false]
  unfold opOk
  cases allS s <;> rfl

theorem ref_right (s : List Int) (hl : s.length ≤ 1000000) : f_ref03_Right ((5, s, 0, 0), ()) = some (opOk s, ()) := by
  rw [u_ref03_Right]
  have c1 : ltI 0 0 = false := rfl
  have c2 : eqI 5 3 = false := rfl
  have c3 : eqI 0 0 = true := rfl
  have c4 : eqI 5 1 = false := rfl
  have c5 : eqI 5 2 = false := rfl
  have c6 : eqI 5 4 = false := rfl
  have c7 : eqI 5 5 = true := rfl
  have hw : f_ref03_while (s, 0, 5, 5, ()) = some ((pre5 s : Int), ()) := by
    rw [u_ref03_while]
    have := while_loop s hl s.length 0 (by omega)
    rw [List.drop_zero, Nat.zero_add] at this
    exact this
  have he : eqI (pre5 s : Int) (lenI s) = s.all (fun b => decide (b ∈ signsL)) := by
    rw [Bool.eq_iff_iff, eqI_eq, ← pre5_all]
    unfold lenI
    omega
  have hn : eqS s [] = s.isEmpty := by cases s <;> rfl
  simp only [c1, c2, c3, c4, c5, c6, c7, cnd_false, cnd_true, bnd_some_eq, notB, hw, he, hn, rkey_spec]
  unfold opOk allS
  cases s.isEmpty <;> cases s.all (fun b => decide (b ∈ signsL)) <;> cases decide (s ∈ wordsL) <;> rfl

end Fn
end Ev
namespace Ev
open Go
namespace Fn

def smallL (c : Int) : Bool := leI 97 c && leI c 122
def greatL (c : Int) : Bool := leI 65 c && leI c 90
def digitL (c : Int) : Bool := leI 48 c && leI c 57
def innerL (c : Int) : Bool := smallL c || greatL c || digitL c || eqI c 95 || eqI c 39

theorem two_and (a b : Bool) : (cnd a (some b) (some false) : Option Bool) = some (a && b) := by cases a <;> rfl
theorem two_or (a b : Bool) : (cnd a (some true) (some b) : Option Bool) = some (a || b) := by cases a <;> rfl

theorem small_spec (c : Int) : f_lex_small (c, ()) = some (smallL c, ()) := by rw [u_lex_small, two_and]; rfl
theorem great_spec (c : Int) : f_lex_great (c, ()) = some (greatL c, ()) := by rw [u_lex_great, two_and]; rfl
theorem digit_spec (c : Int) : f_lex_digit (c, ()) = some (digitL c, ()) := by rw [u_lex_digit, two_and]; rfl
theorem inner_spec (c : Int) : f_lex_inner (c, ()) = some (innerL c, ()) := by
  rw [u_lex_inner, small_spec, great_spec, digit_spec]
  simp only [bnd_some_eq, two_or]
  rfl

theorem inner_low {c : Int} (h : innerL c = true) : 0 ≤ c ∧ c ≤ 126 := by
  unfold innerL smallL greatL digitL leI at h
  simp only [Bool.or_eq_true, Bool.and_eq_true, decide_eq_true_eq, eqI_eq] at h
  omega

theorem all1_loop {s : List Int} (hs : ∀ b, b ∈ s → 0 ≤ b ∧ b ≤ 255) : ∀ (m k : Nat), k + m = s.length →
    loopR l1_lex_all (s, s, (k : Int), ()) = some ((s.drop k).all innerL && !s.isEmpty, ()) := by
  intro m
  induction m with
  | zero =>
    intro k hk
    refine loopR_inr ?_
    unfold l1_lex_all
    simp only
    rw [cnd_lt, if_neg (by unfold lenI; omega), List.drop_eq_nil_of_le (by omega)]
    cases s <;> rfl
  | succ m ih =>
    intro k hk
    have hlt : k < s.length := by omega
    rw [drop_cons hlt]
    obtain ⟨h1, h2⟩ := rune_at hs hlt
    have c0 : ltI (k : Int) (lenI s) = true := decide_eq_true (by unfold lenI; omega)
    have hb := hs _ (List.getElem_mem hlt)
    have step : l1_lex_all (s, s, (k : Int), ()) = if innerL s[k] = true then some (.inl (s, s, ((k + 1 : Nat) : Int), ())) else some (.inr (false, ())) := by
      unfold l1_lex_all
      simp only [c0, cnd_true, bnd_some_eq]
      by_cases h : s[k] ≤ 126
      · obtain ⟨e1, e2⟩ := h1 (by omega)
        rw [e1, e2]
        have c1 : ltI 126 s[k] = false := decide_eq_false (by omega)
        have c2 : cvI .u8 s[k] = s[k] := by rw [cvI_u8]; omega
        simp only [c1, cnd_false, c2, inner_spec, bnd_some_eq, notB]
        cases innerL s[k] <;> rfl
      · have hm : ¬ innerL s[k] = true := fun e => by have := inner_low e; omega
        rw [if_neg hm]
        have c1 : ltI 126 (runeI s (k : Int)) = true := by
          refine decide_eq_true ?_
          by_cases h127 : s[k] ≤ 127
          · rw [(h1 h127).1]; omega
          · exact h2 (by omega)
        simp only [c1, cnd_true, bnd_some_eq]
    rw [List.all_cons]
    cases hm : innerL s[k] with
    | true =>
      rw [hm, if_pos rfl] at step
      rw [loopR_inl step, ih (k + 1) (by omega), Bool.true_and]
    | false =>
      rw [hm, if_neg (by decide)] at step
      rw [loopR_inr step, Bool.false_and, Bool.false_and]

theorem all1_spec {s : List Int} (hs : ∀ b, b ∈ s → 0 ≤ b ∧ b ≤ 255) : f_lex_all (s, ()) = some (s.all innerL && !s.isEmpty, ()) := by
  rw [u_lex_all]
  exact all1_loop hs s.length 0 (by omega)

/-- What a byte is. -/
def kindB (c : Int) : Int := bif decide (c ∈ signsL) then 5 else bif smallL c then 1 else bif greatL c then 2 else bif digitL c then 3 else bif eqI c 95 || eqI c 39 then 4 else 0

theorem kind_loop (c : Int) : ∀ (m k : Nat), k + m = 16 → loopR l1_ref03_is (c, signsL, (k : Int), ()) = some (bif decide (c ∈ signsL.drop k) then 5 else bif smallL c then 1 else bif greatL c then 2 else bif digitL c then 3 else bif eqI c 95 || eqI c 39 then 4 else 0, ()) := by
  have h16 : signsL.length = 16 := rfl
  intro m
  induction m with
  | zero =>
    intro k hk
    rw [List.drop_eq_nil_of_le (by omega)]
    refine loopR_inr ?_
    unfold l1_ref03_is
    simp only
    rw [cnd_lt, if_neg (by unfold lenI; omega)]
    simp only [two_and, two_or, bnd_some_eq]
    show _ = some (Sum.inr (bif decide (c ∈ []) then _ else _, ()))
    have : decide (c ∈ ([] : List Int)) = false := rfl
    rw [this]
    show (cnd (smallL c) _ (cnd (greatL c) _ (cnd (digitL c) _ _)) : Option _) = _
    cases smallL c <;> cases greatL c <;> cases digitL c <;> cases (eqI c 95 || eqI c 39) <;> rfl
  | succ m ih =>
    intro k hk
    have hlt : k < signsL.length := by omega
    rw [drop_cons hlt]
    have step : l1_ref03_is (c, signsL, (k : Int), ()) = if signsL[k] = c then some (.inr (5, ())) else some (.inl (c, signsL, ((k + 1 : Nat) : Int), ())) := by
      unfold l1_ref03_is
      simp only
      rw [cnd_lt, if_pos (by unfold lenI; omega), at?_nat (List.getElem?_eq_getElem hlt), bnd_some_eq, cnd_eq, add1 (by omega)]
    by_cases h : signsL[k] = c
    · rw [if_pos h] at step
      rw [loopR_inr step]
      simp [h, -List.getElem_cons_drop]
    · rw [if_neg h] at step
      have hn : c ≠ signsL[k] := fun e => h e.symm
      rw [loopR_inl step, ih (k + 1) (by omega)]
      have : decide (c ∈ signsL[k] :: signsL.drop (k + 1)) = decide (c ∈ signsL.drop (k + 1)) := by simp [hn, -List.getElem_cons_drop]
      rw [this]

theorem kind_spec (c : Int) : f_ref03_is (c, ()) = some (kindB c, ()) := by
  rw [u_ref03_is]
  exact kind_loop c 16 0 rfl

theorem sign_inner {c : Int} (h : c ∈ signsL) : innerL c = false := by
  unfold signsL at h
  simp only [List.mem_cons, List.not_mem_nil, or_false] at h
  rcases h with h | h | h | h | h | h | h | h | h | h | h | h | h | h | h | h <;> subst h <;> decide

theorem kind_inner (c : Int) : (leI 1 (kindB c) && leI (kindB c) 4) = innerL c := by
  unfold kindB
  by_cases h : c ∈ signsL
  · rw [sign_inner h]; simp [h, leI]
  · simp only [h, decide_false, cond_false]
    unfold innerL
    cases smallL c <;> cases greatL c <;> cases digitL c <;> cases h1 : eqI c 95 <;> cases eqI c 39 <;> rfl

theorem great_small {c : Int} (h : greatL c = true) : smallL c = false := by
  unfold greatL smallL leI at *
  simp only [Bool.and_eq_true, decide_eq_true_eq, Bool.and_eq_false_iff, decide_eq_false_iff_not] at *
  omega

theorem kind_small {c : Int} (h : innerL c = true) : eqI (kindB c) 1 = smallL c := by
  unfold kindB
  have hs : c ∉ signsL := fun e => by rw [sign_inner e] at h; cases h
  simp only [hs, decide_false, cond_false]
  cases smallL c <;> cases greatL c <;> cases digitL c <;> cases (eqI c 95 || eqI c 39) <;> rfl

theorem kind_great {c : Int} (h : innerL c = true) : eqI (kindB c) 2 = greatL c := by
  unfold kindB
  have hs : c ∉ signsL := fun e => by rw [sign_inner e] at h; cases h
  simp only [hs, decide_false, cond_false]
  cases hg : greatL c with
  | true => rw [great_small hg]; rfl
  | false => cases smallL c <;> cases digitL c <;> cases (eqI c 95 || eqI c 39) <;> rfl

/-- The longest start of a name's bytes. -/
def preI : List Int → Nat
  | [] => 0
  | b :: r => bif innerL b then preI r + 1 else 0
theorem preI_le : ∀ s, preI s ≤ s.length
  | [] => Nat.le_refl _
  | b :: r => by
    unfold preI
    have := preI_le r
    cases innerL b <;> simp <;> omega
theorem preI_all : ∀ s : List Int, (preI s = s.length ↔ s.all innerL = true)
  | [] => by simp [preI]
  | b :: r => by
    have ih := preI_all r
    unfold preI
    cases h : innerL b with
    | true => simp only [cond_true, List.length_cons, List.all_cons, h, Bool.true_and, ← ih]; omega
    | false => simp [h]

theorem while1_loop (s : List Int) (hl : s.length ≤ 1000000) : ∀ (m k : Nat), k + m = s.length → loopR l1_ref03_while (s, (k : Int), 1, 4, ()) = some (((k + preI (s.drop k) : Nat) : Int), ()) := by
  intro m
  induction m with
  | zero =>
    intro k hk
    refine loopR_inr ?_
    unfold l1_ref03_while
    simp only
    rw [cnd_lt, if_neg (by unfold lenI; omega), List.drop_eq_nil_of_le (by omega)]
    rfl
  | succ m ih =>
    intro k hk
    have hlt : k < s.length := by omega
    rw [drop_cons hlt]
    have c0 : ltI (k : Int) (lenI s) = true := decide_eq_true (by unfold lenI; omega)
    have step : l1_ref03_while (s, (k : Int), 1, 4, ()) = bif innerL s[k] then some (.inl (s, ((k + 1 : Nat) : Int), 1, 4, ())) else some (.inr ((k : Int), ())) := by
      unfold l1_ref03_while
      simp only [c0, cnd_true, at?_nat (List.getElem?_eq_getElem hlt), bnd_some_eq, kind_spec, add1 (by omega : k ≤ 1000000000)]
      rw [← kind_inner]
      cases leI 1 (kindB s[k]) <;> cases leI (kindB s[k]) 4 <;> rfl
    unfold preI
    cases hm : innerL s[k] with
    | true =>
      rw [hm] at step
      rw [loopR_inl step, ih (k + 1) (by omega)]
      simp only [cond_true]
      congr 2
      omega
    | false =>
      rw [hm] at step
      rw [loopR_inr step]
      rfl

def firstIs (p : Int → Bool) : List Int → Bool
  | [] => false
  | b :: _ => p b
/-- What a name may be (p: its first byte). -/
def namedOk (p : Int → Bool) (s : List Int) : Bool := s.all innerL && !s.isEmpty && firstIs p s && !decide (s ∈ wordsL)

theorem right1_of (s : List Int) (a2 a3 : Int) (hs : ∀ b, b ∈ s → 0 ≤ b ∧ b ≤ 255) : f_lex_Right_1 ((1, s, a2, a3), ()) = some (namedOk smallL s, ()) := by
  rw [u_lex_Right_1, all1_spec hs, key_spec]
  simp only [bnd_some_eq]
  cases s with
  | nil => rfl
  | cons b r =>
    have h0 : at? (b :: r) 0 = some b := rfl
    rw [h0]
    simp only [bnd_some_eq, small_spec]
    unfold namedOk
    show _ = some (_ && smallL b && _, ())
    cases List.all (b :: r) innerL <;> cases smallL b <;> cases decide (b :: r ∈ wordsL) <;> rfl
theorem right2_of (s : List Int) (a2 a3 : Int) (hs : ∀ b, b ∈ s → 0 ≤ b ∧ b ≤ 255) : f_lex_Right_1_v2 ((2, s, a2, a3), ()) = some (namedOk greatL s, ()) := by
  rw [u_lex_Right_1_v2, all1_spec hs, key_spec]
  simp only [bnd_some_eq]
  cases s with
  | nil => rfl
  | cons b r =>
    have h0 : at? (b :: r) 0 = some b := rfl
    rw [h0]
    simp only [bnd_some_eq, great_spec]
    unfold namedOk
    show _ = some (_ && greatL b && _, ())
    cases List.all (b :: r) innerL <;> cases greatL b <;> cases decide (b :: r ∈ wordsL) <;> rfl

theorem lex_right1 (s : List Int) (hs : ∀ b, b ∈ s → 0 ≤ b ∧ b ≤ 255) : f_lex_Right ((1, s, 0, 0), ()) = some (namedOk smallL s, ()) := by
  rw [u_lex_Right, right1_of s 0 0 hs]
  have c1 : ltI 0 0 = false := rfl
  have c2 : eqI 1 3 = false := rfl
  have c3 : eqI 0 0 = true := rfl
  have c4 : eqI 1 1 = true := rfl
  simp only [c1, c2, c3, c4, cnd_false, cnd_true, bnd_some_eq, notB, Bool.not_true, Bool.not_false]
theorem lex_right2 (s : List Int) (hs : ∀ b, b ∈ s → 0 ≤ b ∧ b ≤ 255) : f_lex_Right ((2, s, 0, 0), ()) = some (namedOk greatL s, ()) := by
  rw [u_lex_Right, right2_of s 0 0 hs]
  have c1 : ltI 0 0 = false := rfl
  have c2 : eqI 2 3 = false := rfl
  have c3 : eqI 0 0 = true := rfl
  have c4 : eqI 2 1 = false := rfl
  have c5 : eqI 2 2 = true := rfl
  simp only [c1, c2, c3, c4, c5, cnd_false, cnd_true, bnd_some_eq, notB, Bool.not_true, Bool.not_false]

theorem rnamed (k : Int) (p : Int → Bool) (hp : ∀ c, innerL c = true → eqI (kindB c) k = p c) (s : List Int) (hl : s.length ≤ 1000000) (X : Option (Bool × Unit)) :
    cnd (notB (eqS s ([] : List Int))) (bnd (at? s 0) (fun x1 => bnd (f_ref03_is (x1, ())) (fun x2 => cnd (eqI x2.1 k) (bnd (f_ref03_while (s, 0, 1, 4, ())) (fun x3 => cnd (eqI x3.1 (lenI s)) (bnd (f_ref03_Key (s, ())) (fun x4 => some (notB x4.1, ()))) (some (false, ())))) (some (false, ()))))) X =
    bif s.isEmpty then X else some (namedOk p s, ()) := by
  have hw : f_ref03_while (s, 0, 1, 4, ()) = some ((preI s : Int), ()) := by
    rw [u_ref03_while]
    have := while1_loop s hl s.length 0 (by omega)
    rw [List.drop_zero, Nat.zero_add] at this
    exact this
  have he : eqI (preI s : Int) (lenI s) = s.all innerL := by
    rw [Bool.eq_iff_iff, eqI_eq, ← preI_all]
    unfold lenI
    omega
  cases s with
  | nil => rfl
  | cons b r =>
    have hn : eqS (b :: r) [] = false := rfl
    have h0 : at? (b :: r) 0 = some b := rfl
    simp only [hn, notB, Bool.not_false, cnd_true, h0, bnd_some_eq, kind_spec, hw, he, rkey_spec]
    have hi : List.isEmpty (b :: r) = false := rfl
    rw [hi, cond_false]
    unfold namedOk
    rw [hi]
    show _ = some (_ && p b && _, ())
    cases hb : innerL b with
    | true =>
      rw [hp b hb]
      cases List.all (b :: r) innerL <;> cases p b <;> cases decide (b :: r ∈ wordsL) <;> rfl
    | false =>
      have ha : List.all (b :: r) innerL = false := by rw [List.all_cons, hb]; rfl
      rw [ha]
      cases eqI (kindB b) k <;> rfl

theorem ref_right1 (s : List Int) (hl : s.length ≤ 1000000) : f_ref03_Right ((1, s, 0, 0), ()) = some (namedOk smallL s, ()) := by
  rw [u_ref03_Right]
  have c1 : ltI 0 0 = false := rfl
  have c3 : eqI 0 0 = true := rfl
  have c4 : eqI 1 1 = true := rfl
  simp only [c1, c3, c4, cnd_false, cnd_true, bnd_some_eq]
  rw [rnamed 1 smallL (fun c h => kind_small h) s hl]
  cases s <;> rfl
theorem ref_right2 (s : List Int) (hl : s.length ≤ 1000000) : f_ref03_Right ((2, s, 0, 0), ()) = some (namedOk greatL s, ()) := by
  rw [u_ref03_Right]
  have c1 : ltI 0 0 = false := rfl
  have c3 : eqI 0 0 = true := rfl
  have c4 : eqI 2 1 = false := rfl
  have c5 : eqI 2 2 = true := rfl
  simp only [c1, c3, c4, c5, cnd_false, cnd_true, bnd_some_eq]
  rw [rnamed 2 greatL (fun c h => kind_great h) s hl]
  cases s <;> rfl

def nameOk (s : List Int) : Bool := namedOk smallL s || opOk s
def conOk (s : List Int) : Bool := namedOk greatL s
theorem name_spec {s : List Int} (hs : ∀ b, b ∈ s → 0 ≤ b ∧ b ≤ 255) : f_syn_Name (s, ()) = some (nameOk s, ()) := by
  rw [u_syn_Name, lex_right1 s hs, lex_right s hs]
  simp only [bnd_some_eq, two_or]
  rfl
theorem con_spec {s : List Int} (hs : ∀ b, b ∈ s → 0 ≤ b ∧ b ≤ 255) : f_syn_Con (s, ()) = some (conOk s, ()) := by
  rw [u_syn_Con, lex_right2 s hs]
  rfl
theorem rname_spec {s : List Int} (hl : s.length ≤ 1000000) : f_ref06_Name (s, ()) = some (nameOk s, ()) := by
  rw [u_ref06_Name, ref_right1 s hl, ref_right s hl]
  simp only [bnd_some_eq, two_or]
  rfl
theorem rcon_spec {s : List Int} (hl : s.length ≤ 1000000) : f_ref06_Con (s, ()) = some (conOk s, ()) := by
  rw [u_ref06_Con, ref_right2 s hl]
  rfl
end Fn
end Ev
namespace Ev
open Go
namespace Fn

/-- A node in memory: its kind, text, number, and how many kids. -/
abbrev ND := Int × List Int × Int × Int

/-- Trees side by side. -/
inductive F where
  | nil : F
  | cons : Int → List Int → Int → F → F → F
def F.cnt : F → Nat
  | .nil => 0
  | .cons _ _ _ _ r => r.cnt + 1
def F.flat : F → List ND
  | .nil => []
  | .cons k t n ks r => (k, t, n, (ks.cnt : Int)) :: (ks.flat ++ r.flat)
def F.size : F → Nat
  | .nil => 0
  | .cons _ _ _ ks r => ks.size + r.size + 1
def F.dep : F → Nat
  | .nil => 0
  | .cons _ _ _ ks r => max (ks.dep + 1) r.dep
def F.app : F → F → F
  | .nil, g => g
  | .cons k t n ks r, g => .cons k t n ks (r.app g)
abbrev tr (k : Int) (t : List Int) (n : Int) (ks : F) : F := .cons k t n ks .nil

theorem F.len : ∀ f : F, f.flat.length = f.size
  | .nil => rfl
  | .cons k t n ks r => by
    show (_ :: (ks.flat ++ r.flat)).length = ks.size + r.size + 1
    rw [List.length_cons, List.length_append, ks.len, r.len]
theorem F.cnt_le : ∀ f : F, f.cnt ≤ f.size
  | .nil => Nat.le_refl _
  | .cons k t n ks r => by
    have := r.cnt_le
    show r.cnt + 1 ≤ ks.size + r.size + 1
    omega
theorem F.dep_le : ∀ f : F, f.dep ≤ f.size
  | .nil => Nat.le_refl _
  | .cons k t n ks r => by
    have h1 := r.dep_le
    have h2 := ks.dep_le
    show max (ks.dep + 1) r.dep ≤ ks.size + r.size + 1
    omega
theorem tr_flat (k : Int) (t : List Int) (n : Int) (ks : F) : (tr k t n ks).flat = (k, t, n, (ks.cnt : Int)) :: ks.flat := by
  show _ :: (ks.flat ++ []) = _
  rw [List.append_nil]
theorem tr_size (k : Int) (t : List Int) (n : Int) (ks : F) : (tr k t n ks).size = ks.size + 1 := rfl

/-- What is behind so many trees; none: they end too early, or tell of too many kids. -/
def skip (N : Nat) : List ND → Nat → Option (List ND)
  | l, 0 => some l
  | [], _ + 1 => none
  | d :: r, c + 1 => if 0 ≤ d.2.2.2 ∧ d.2.2.2 ≤ (N : Int) then skip N r (c + d.2.2.2.toNat) else none

theorem skip_zero (N : Nat) (l : List ND) : skip N l 0 = some l := by cases l <;> rfl
theorem skip_cons (N : Nat) (d : ND) (r : List ND) (c : Nat) : skip N (d :: r) (c + 1) = if 0 ≤ d.2.2.2 ∧ d.2.2.2 ≤ (N : Int) then skip N r (c + d.2.2.2.toNat) else none := by
  conv => lhs; unfold skip
theorem skip_flat (N : Nat) : ∀ (f : F) (c : Nat) (post : List ND), f.size ≤ N → skip N (f.flat ++ post) (f.cnt + c) = skip N post c
  | .nil, c, post, _ => by show skip N post (0 + c) = _; rw [Nat.zero_add]
  | .cons k t n ks r, c, post, h => by
    have h : ks.size + r.size + 1 ≤ N := h
    have hc := ks.cnt_le
    show skip N ((k, t, n, (ks.cnt : Int)) :: ((ks.flat ++ r.flat) ++ post)) (r.cnt + 1 + c) = _
    have e : r.cnt + 1 + c = (r.cnt + c) + 1 := by omega
    rw [e, skip_cons]
    rw [if_pos ⟨by show (0 : Int) ≤ (ks.cnt : Int); omega, by show (ks.cnt : Int) ≤ N; omega⟩]
    show skip N _ (r.cnt + c + (ks.cnt : Int).toNat) = _
    rw [Int.toNat_natCast, List.append_assoc, Nat.add_comm (r.cnt + c), skip_flat N ks _ _ (by omega), skip_flat N r _ _ (by omega)]

theorem F.split : ∀ (g : F) (a c : Nat), g.cnt = a + c → ∃ x y : F, x.cnt = a ∧ y.cnt = c ∧ g.flat = x.flat ++ y.flat
  | g, 0, c, h => ⟨.nil, g, rfl, by omega, rfl⟩
  | .nil, a + 1, c, h => by
    have h : 0 = a + 1 + c := h
    omega
  | .cons k t n ks r, a + 1, c, h => by
    have h : r.cnt + 1 = a + 1 + c := h
    obtain ⟨x, y, h1, h2, h3⟩ := r.split a c (by omega)
    refine ⟨.cons k t n ks x, y, by show x.cnt + 1 = _; omega, h2, ?_⟩
    show _ :: (ks.flat ++ r.flat) = _ :: (ks.flat ++ x.flat) ++ y.flat
    rw [h3, List.cons_append, List.append_assoc]

theorem skip_parse (N : Nat) : ∀ (l : List ND) (c : Nat) (rest : List ND), skip N l c = some rest → ∃ f : F, f.cnt = c ∧ l = f.flat ++ rest
  | l, 0, rest, h => by
    rw [skip_zero] at h
    injection h with h
    exact ⟨.nil, rfl, h⟩
  | [], c + 1, rest, h => by cases h
  | d :: r, c + 1, rest, h => by
    obtain ⟨k, t, n, z⟩ := d
    rw [skip_cons] at h
    have h : (if 0 ≤ z ∧ z ≤ (N : Int) then skip N r (c + z.toNat) else none) = some rest := h
    by_cases hz : 0 ≤ z ∧ z ≤ (N : Int)
    · rw [if_pos hz] at h
      obtain ⟨g, h1, h2⟩ := skip_parse N r _ rest h
      obtain ⟨x, y, h3, h4, h5⟩ := g.split z.toNat c (by omega)
      refine ⟨.cons k t n x y, by show y.cnt + 1 = _; omega, ?_⟩
      show _ = (k, t, n, (x.cnt : Int)) :: (x.flat ++ y.flat) ++ rest
      rw [h2, h5, h3, Int.toNat_of_nonneg hz.1]
      rfl
    · rw [if_neg hz] at h; cases h

theorem skip_add (N : Nat) : ∀ (l : List ND) (a b : Nat), skip N l (a + b) = (skip N l a).bind fun r => skip N r b
  | l, 0, b => by rw [skip_zero, Nat.zero_add]; rfl
  | [], a + 1, b => by
    have e : a + 1 + b = (a + b) + 1 := by omega
    rw [e]; rfl
  | d :: r, a + 1, b => by
    have e : a + 1 + b = (a + b) + 1 := by omega
    rw [e, skip_cons, skip_cons]
    by_cases h : 0 ≤ d.2.2.2 ∧ d.2.2.2 ≤ (N : Int)
    · rw [if_pos h, if_pos h]
      have e2 : a + b + d.2.2.2.toNat = (a + d.2.2.2.toNat) + b := by omega
      rw [e2]
      exact skip_add N r _ b
    · rw [if_neg h, if_neg h]; rfl

theorem skip_len (N : Nat) {l : List ND} {c : Nat} {rest : List ND} (h : skip N l c = some rest) : c ≤ l.length - rest.length ∧ rest.length ≤ l.length ∧ rest = l.drop (l.length - rest.length) := by
  obtain ⟨f, h1, h2⟩ := skip_parse N l c rest h
  have := f.cnt_le
  have h3 := f.len
  subst h2
  rw [List.length_append]
  refine ⟨by omega, by omega, ?_⟩
  rw [show f.flat.length + rest.length - rest.length = f.flat.length by omega, List.drop_left']
  rfl

/-- Where so many trees end, from a place on; -1. -/
def endZ (l : List ND) (k c : Nat) : Int := (skip l.length (l.drop k) c).elim (-1) fun r => (l.length : Int) - (r.length : Int)

theorem cnd_bnd_or {α : Type} (a b : Bool) (x y : Option α) : bnd (cnd a (some true) (some b)) (fun z => cnd z x y) = if a = true ∨ b = true then x else y := by
  cases a <;> cases b <;> rfl

theorem end_loop (b : Bool) (l : List ND) (hl : l.length ≤ 10000) : ∀ (m k c : Nat), k + m = l.length → c ≤ k * 10000 →
    loopR l1_tree_End (⟨b, l⟩, (k : Int), ((c + 1 : Nat) : Int), ()) = some (endZ l k (c + 1), ()) := by
  intro m
  induction m with
  | zero =>
    intro k c hk hc
    refine loopR_inr ?_
    unfold l1_tree_End
    have c0 : leI (lenI l) (k : Int) = true := decide_eq_true (by unfold lenI; omega)
    simp only [c0, cnd_true, bnd_some_eq]
    unfold endZ
    rw [List.drop_eq_nil_of_le (by omega)]
    rfl
  | succ m ih =>
    intro k c hk hc
    have hlt : k < l.length := by omega
    obtain ⟨d, hd⟩ : ∃ d, l[k]? = some d := ⟨_, List.getElem?_eq_getElem hlt⟩
    have hdrop : l.drop k = d :: l.drop (k + 1) := by
      rw [drop_cons hlt]
      rw [List.getElem?_eq_getElem hlt] at hd
      injection hd with hd
      rw [hd]
    obtain ⟨x, t, n, z⟩ := d
    have c0 : leI (lenI l) (k : Int) = false := decide_eq_false (by unfold lenI; omega)
    have hat := at?_nat hd
    by_cases hz : 0 ≤ z ∧ z ≤ (l.length : Int)
    · have c1 : ltI z 0 = false := decide_eq_false (by omega)
      have c2 : ltI (lenI l) z = false := decide_eq_false (by unfold lenI; omega)
      have e1 : subI .i64 z 1 = z - 1 := subI_i64 (by omega) (by omega)
      have e2 : addI .i64 ((c + 1 : Nat) : Int) (z - 1) = ((c + z.toNat : Nat) : Int) := by rw [addI_i64 (by omega) (by omega)]; omega
      have e3 := add1 (show k ≤ 1000000000 by omega)
      have step : l1_tree_End (⟨b, l⟩, (k : Int), ((c + 1 : Nat) : Int), ()) = if 0 < c + z.toNat then some (.inl (⟨b, l⟩, ((k + 1 : Nat) : Int), ((c + z.toNat : Nat) : Int), ())) else some (.inr (((k + 1 : Nat) : Int), ())) := by
        unfold l1_tree_End
        simp only [c0, cnd_false, bnd_some_eq, hat, c1, c2, e1, e2, e3]
        rw [cnd_lt]
        by_cases h : 0 < c + z.toNat
        · rw [if_pos h, if_pos (by omega)]
        · rw [if_neg h, if_neg (by omega)]
      have he : endZ l k (c + 1) = (skip l.length (l.drop (k + 1)) (c + z.toNat)).elim (-1) fun r => (l.length : Int) - (r.length : Int) := by
        unfold endZ
        rw [hdrop, skip_cons]
        rw [if_pos (show 0 ≤ (x, t, n, z).2.2.2 ∧ (x, t, n, z).2.2.2 ≤ (l.length : Int) from hz)]
      rw [he]
      by_cases h : 0 < c + z.toNat
      · rw [if_pos h] at step
        rw [loopR_inl step]
        obtain ⟨c', hc'⟩ : ∃ c', c + z.toNat = c' + 1 := ⟨c + z.toNat - 1, by omega⟩
        rw [hc']
        exact ih (k + 1) c' (by omega) (by omega)
      · rw [if_neg h] at step
        rw [loopR_inr step]
        have h0 : c + z.toNat = 0 := by omega
        rw [h0, skip_zero]
        show some (((k + 1 : Nat) : Int), ()) = some ((l.length : Int) - ((l.drop (k + 1)).length : Int), ())
        rw [List.length_drop]
        congr 2
        omega
    · have he : endZ l k (c + 1) = -1 := by
        unfold endZ
        rw [hdrop, skip_cons]
        rw [if_neg (show ¬ (0 ≤ (x, t, n, z).2.2.2 ∧ (x, t, n, z).2.2.2 ≤ (l.length : Int)) from hz)]
        rfl
      rw [he]
      refine loopR_inr ?_
      unfold l1_tree_End
      simp only [c0, cnd_false, bnd_some_eq, hat]
      cases h1 : ltI z 0 with
      | true => simp only [cnd_true, bnd_some_eq]
      | false =>
        have c2 : ltI (lenI l) z = true := by
          have := of_decide_eq_false h1
          exact decide_eq_true (by unfold lenI; omega)
        simp only [cnd_false, bnd_some_eq, c2, cnd_true]

/-- Where a node's tree ends; -1. -/
theorem end_spec (b : Bool) (l : List ND) (hl : l.length ≤ 10000) (k : Nat) : f_tree_End (⟨b, l⟩, (k : Int), ()) = some (endZ l k 1, ()) := by
  rw [u_tree_End]
  have c0 : ltI (k : Int) 0 = false := decide_eq_false (by omega)
  rw [c0, cnd_false]
  by_cases h : k ≤ l.length
  · exact end_loop b l hl (l.length - k) k 0 (by omega) (by omega)
  · have he : endZ l k 1 = -1 := by
      unfold endZ
      rw [List.drop_eq_nil_of_le (by omega)]
      rfl
    rw [he]
    refine loopR_inr ?_
    unfold l1_tree_End
    have c0 : leI (lenI l) (k : Int) = true := decide_eq_true (by unfold lenI; omega)
    simp only [c0, cnd_true, bnd_some_eq]
theorem end_neg (s : Sl ND) (k : Int) (hk : k < 0) : f_tree_End (s, k, ()) = some (-1, ()) := by
  rw [u_tree_End]
  have c0 : ltI k 0 = true := decide_eq_true hk
  rw [c0, cnd_true]

theorem endZ_pos {l : List ND} {k c : Nat} (h : skip l.length (l.drop k) c = none) : endZ l k c = -1 := by unfold endZ; rw [h]; rfl

/-- The reference's: by kids. -/
theorem rend_N (b : Bool) (l : List ND) (hl : l.length ≤ 10000) : ∀ (N m k : Nat), l.length - k < N → l.length - k = m →
    recN g_ref02_End N (⟨b, l⟩, (k : Int), ()) = some (endZ l k 1, ()) := by
  intro N
  induction N with
  | zero => intro m k h; exact absurd h (Nat.not_lt_zero _)
  | succ N ih =>
    intro m k hN hm
    show g_ref02_End (recN g_ref02_End N) _ = _
    rw [u_ref02_End]
    have c0 : ltI (k : Int) 0 = false := decide_eq_false (by omega)
    simp only [c0, cnd_false]
    by_cases hlt : k < l.length
    · obtain ⟨d, hd⟩ : ∃ d, l[k]? = some d := ⟨_, List.getElem?_eq_getElem hlt⟩
      have hdrop : l.drop k = d :: l.drop (k + 1) := by
        rw [drop_cons hlt]
        rw [List.getElem?_eq_getElem hlt] at hd
        injection hd with hd
        rw [hd]
      obtain ⟨x, t, n, z⟩ := d
      have c0 : leI (lenI l) (k : Int) = false := decide_eq_false (by unfold lenI; omega)
      have hat := at?_nat hd
      by_cases hz : 0 ≤ z ∧ z ≤ (l.length : Int)
      · have c1 : ltI z 0 = false := decide_eq_false (by omega)
        have c2 : ltI (lenI l) z = false := decide_eq_false (by unfold lenI; omega)
        have e3 := add1 (show k ≤ 1000000000 by omega)
        simp only [c0, cnd_false, bnd_some_eq, hat, c1, c2, e3]
        have he : endZ l k 1 = (skip l.length (l.drop (k + 1)) z.toNat).elim (-1) fun r => (l.length : Int) - (r.length : Int) := by
          unfold endZ
          rw [hdrop, skip_cons]
          rw [if_pos (show 0 ≤ (x, t, n, z).2.2.2 ∧ (x, t, n, z).2.2.2 ≤ (l.length : Int) from hz), Nat.zero_add]
        rw [he]
        have loop : ∀ (j i q : Nat), (i : Int) + j = z → k < q → q ≤ l.length →
            loopR (l1_ref02_End (recN g_ref02_End N)) (⟨b, l⟩, (k : Int), (q : Int), (i : Int), ()) = some ((skip l.length (l.drop q) j).elim (-1) fun r => (l.length : Int) - (r.length : Int), ()) := by
          intro j
          induction j with
          | zero =>
            intro i q h1 h2 h3
            refine loopR_inr ?_
            unfold l1_ref02_End
            simp only [hat, bnd_some_eq]
            rw [cnd_lt, if_neg (by omega), skip_zero]
            show _ = some (Sum.inr ((l.length : Int) - ((l.drop q).length : Int), ()))
            rw [List.length_drop]
            congr 3
            omega
          | succ j ihj =>
            intro i q h1 h2 h3
            have hi := ih (l.length - q) q (by omega) rfl
            have e : j + 1 = 1 + j := by omega
            rw [e, skip_add]
            have step : l1_ref02_End (recN g_ref02_End N) (⟨b, l⟩, (k : Int), (q : Int), (i : Int), ()) = if endZ l q 1 < 0 then some (.inr (-1, ())) else some (.inl (⟨b, l⟩, (k : Int), endZ l q 1, ((i + 1 : Nat) : Int), ())) := by
              unfold l1_ref02_End
              simp only [hat, bnd_some_eq]
              rw [cnd_lt, if_pos (by omega)]
              simp only [hi, bnd_some_eq, add1 (show i ≤ 1000000000 by omega)]
              rw [cnd_lt]
            cases hs : skip l.length (l.drop q) 1 with
            | none =>
              rw [endZ_pos hs, if_pos (by decide)] at step
              rw [loopR_inr step]
              rfl
            | some r =>
              obtain ⟨s1, s2, s3⟩ := skip_len _ hs
              rw [List.length_drop] at s1 s2 s3
              have hez : endZ l q 1 = ((l.length - r.length : Nat) : Int) := by
                unfold endZ
                rw [hs]
                show (l.length : Int) - (r.length : Int) = _
                omega
              rw [hez, if_neg (by omega)] at step
              rw [loopR_inl step, ihj (i + 1) (l.length - r.length) (by omega) (by omega) (by omega)]
              show _ = some ((skip l.length r j).elim _ _, ())
              have : r = l.drop (l.length - r.length) := by
                rw [List.drop_drop] at s3
                rw [show l.length - r.length = q + (l.length - q - r.length) by omega]
                exact s3
              rw [← this]
        exact loop z.toNat 0 (k + 1) (by omega) (by omega) (by omega)
      · have he : endZ l k 1 = -1 := by
          unfold endZ
          rw [hdrop, skip_cons]
          rw [if_neg (show ¬ (0 ≤ (x, t, n, z).2.2.2 ∧ (x, t, n, z).2.2.2 ≤ (l.length : Int)) from hz)]
          rfl
        rw [he]
        simp only [c0, cnd_false, bnd_some_eq, hat]
        cases h1 : ltI z 0 with
        | true => simp only [cnd_true, bnd_some_eq]
        | false =>
          have c2 : ltI (lenI l) z = true := by
            have := of_decide_eq_false h1
            exact decide_eq_true (by unfold lenI; omega)
          simp only [cnd_false, bnd_some_eq, c2, cnd_true]
    · have he : endZ l k 1 = -1 := by
        unfold endZ
        rw [List.drop_eq_nil_of_le (by omega)]
        rfl
      have c0 : leI (lenI l) (k : Int) = true := decide_eq_true (by unfold lenI; omega)
      rw [he]
      simp only [c0, cnd_true, bnd_some_eq]

theorem rend_spec (b : Bool) (l : List ND) (hl : l.length ≤ 10000) (k : Nat) : f_ref02_End (⟨b, l⟩, (k : Int), ()) = some (endZ l k 1, ()) :=
  recR_eq (l.length - k + 1) fun N hN => rend_N b l hl N (l.length - k) k (by omega) rfl

/-- One tree? -/
def isTree (l : List ND) : Bool := decide (0 < l.length) && decide (endZ l 0 1 = (l.length : Int))
theorem whole_spec (b : Bool) (l : List ND) (hl : l.length ≤ 10000) : f_tree_Whole (⟨b, l⟩, ()) = some (isTree l, ()) := by
  rw [u_tree_Whole]
  have := end_spec b l hl 0
  have h0 : ((0 : Nat) : Int) = 0 := rfl
  rw [h0] at this
  simp only [this, bnd_some_eq, two_and]
  unfold isTree ltI eqI lenI
  have e1 : decide ((0 : Int) < (l.length : Int)) = decide (0 < l.length) := decide_eq_decide.2 (by omega)
  rw [e1]
  rfl
theorem rwhole_spec (b : Bool) (l : List ND) (hl : l.length ≤ 10000) : f_ref02_Whole (⟨b, l⟩, ()) = some (isTree l, ()) := by
  rw [u_ref02_Whole]
  have := rend_spec b l hl 0
  have h0 : ((0 : Nat) : Int) = 0 := rfl
  rw [h0] at this
  simp only [this, bnd_some_eq, two_and]
  unfold isTree ltI eqI lenI
  have e1 : decide ((0 : Int) < (l.length : Int)) = decide (0 < l.length) := decide_eq_decide.2 (by omega)
  rw [e1]
  rfl

theorem isTree_iff (l : List ND) : isTree l = true ↔ ∃ k t n ks, l = (tr k t n ks).flat := by
  unfold isTree endZ
  rw [Bool.and_eq_true, decide_eq_true_eq, decide_eq_true_eq, List.drop_zero]
  constructor
  · rintro ⟨h1, h2⟩
    cases hs : skip l.length l 1 with
    | none => rw [hs] at h2; have h2 : (-1 : Int) = l.length := h2; omega
    | some r =>
      rw [hs] at h2
      have h2 : (l.length : Int) - (r.length : Int) = l.length := h2
      have hr : r = [] := List.length_eq_zero_iff.1 (by omega)
      subst hr
      obtain ⟨f, h3, h4⟩ := skip_parse _ _ _ _ hs
      cases f with
      | nil => cases h3
      | cons k t n ks r =>
        cases r with
        | nil => exact ⟨k, t, n, ks, by rw [h4, List.append_nil]⟩
        | cons _ _ _ _ _ => have h3 : _ + 1 + 1 = 1 := h3; omega
  · rintro ⟨k, t, n, ks, rfl⟩
    have hlen := (tr k t n ks).len
    refine ⟨by rw [hlen, tr_size]; omega, ?_⟩
    have := skip_flat (tr k t n ks).flat.length (tr k t n ks) 0 [] (by omega)
    rw [List.append_nil, skip_zero] at this
    have e : (tr k t n ks).cnt + 0 = 1 := rfl
    rw [e] at this
    rw [this]
    show ((tr k t n ks).flat.length : Int) - ((0 : Nat) : Int) = _
    omega
end Fn
end Ev
