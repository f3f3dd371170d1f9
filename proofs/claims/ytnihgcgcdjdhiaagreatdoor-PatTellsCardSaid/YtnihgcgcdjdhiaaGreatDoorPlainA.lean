/- Layer 6 in plain words: names, trees, patterns. No statement of its own about the program. -/
import Derived.Test.YtnihgcgcdjdhiaaGreatDoorFnB
import Derived.Test.YtnihgcgcdjdhiaaGreatDoorAw
import Derived.Laws.RangeAny
namespace Ev
open Go
namespace Fn
theorem qrx {α β : Type} {x y : Option α} {f g : α → Option β} (h : lq x y) (h2 : ∀ a, lq (f a) (g a)) : lq (bnd x f) (bnd y g) := by
 intro v e
 cases hx : x with
 | none => rw [hx] at e; cases e
 | some a =>
  rw [hx] at e
  rw [h a hx]
  exact h2 a v e
theorem qry {α : Type} {c : Bool} {x y x' y' : Option α} (h : lq x x') (h2 : lq y y') : lq (cnd c x y) (cnd c x' y') := by
 cases c with
 | true => exact h
 | false => exact h2
theorem qkw {α β : Type} {f g : α → Option β} (h : ∀ a, lq (f a) (g a)) (y : α ⊕ β) : lq (sumE f y) (sumE g y) := by
 cases y with
 | inl a => exact h a
 | inr b => exact q07 _
theorem qgo {σ ρ : Type} {f g : σ → Option (σ ⊕ ρ)} (h : ∀ s, lq (f s) (g s)) (n : Nat) (s : σ) : lq (q3y f n s) (loopR g s) := fun r e => q7p n (qku h n s r e)
def q9z (K : ((List Int) × Int × Int × (Sl (List Int)) × Unit) → Option ((((List Int) × Int × Int × Int × (Sl (List Int)) × Unit) ⊕ (((List Int) × Int × Int × Int × (Sl (List Int)) × Unit) ⊕ (((List Int) × Int × Int × (Sl (List Int)) × Unit) ⊕ (((List Int) × Int × Int × Int × Int × Unit) ⊕ ((Sl (List Int)) × Unit))))))) (x8 : (List Int) × Int × Int × Int × (Sl (List Int)) × Unit) : Option (((List Int) × Int × Int × Int × (Sl (List Int)) × Unit) ⊕ ((((List Int) × Int × Int × (Sl (List Int)) × Unit) ⊕ (((List Int) × Int × Int × Int × Int × Unit) ⊕ ((Sl (List Int)) × Unit))))) := cnd (ltI x8.2.2.2.1 (lenI x8.1)) (bnd (bnd (at? x8.1 x8.2.2.2.1) (fun x9 => bnd (at? ([0, 0, 0, 0, 0, 0, 0, 0, 0, 1, 1, 1, 1, 1, 0, 0, 0, 0, 0, 0, 0, 0, 0, 0, 0, 0, 0, 0, 0, 0, 0, 0, 1, 0, 0, 0, 0, 0, 0, 0, 0, 0, 0, 0, 0, 0, 0, 0, 0, 0, 0, 0, 0, 0, 0, 0, 0, 0, 0, 0, 0, 0, 0, 0, 0, 0, 0, 0, 0, 0, 0, 0, 0, 0, 0, 0, 0, 0, 0, 0, 0, 0, 0, 0, 0, 0, 0, 0, 0, 0, 0, 0, 0, 0, 0, 0, 0, 0, 0, 0, 0, 0, 0, 0, 0, 0, 0, 0, 0, 0, 0, 0, 0, 0, 0, 0, 0, 0, 0, 0, 0, 0, 0, 0, 0, 0, 0, 0, 0, 0, 0, 0, 0, 0, 0, 0, 0, 0, 0, 0, 0, 0, 0, 0, 0, 0, 0, 0, 0, 0, 0, 0, 0, 0, 0, 0, 0, 0, 0, 0, 0, 0, 0, 0, 0, 0, 0, 0, 0, 0, 0, 0, 0, 0, 0, 0, 0, 0, 0, 0, 0, 0, 0, 0, 0, 0, 0, 0, 0, 0, 0, 0, 0, 0, 0, 0, 0, 0, 0, 0, 0, 0, 0, 0, 0, 0, 0, 0, 0, 0, 0, 0, 0, 0, 0, 0, 0, 0, 0, 0, 0, 0, 0, 0, 0, 0, 0, 0, 0, 0, 0, 0, 0, 0, 0, 0, 0, 0, 0, 0, 0, 0, 0, 0, 0, 0, 0, 0, 0, 0, 0, 0, 0, 0, 0, 0] : List Int) x9) (fun x10 => cnd (eqI x10 0) (some (Sum.inl (x8.1, x8.2.1, x8.2.2.1, addI IntKind.i64 x8.2.2.2.1 1, x8.2.2.2.2.1, ()))) (bnd (cutL x8.1 x8.2.2.1 x8.2.2.2.1) (fun x11 => bnd (okAt x8.2.2.2.2.1.l x8.2.1) (fun x12 => bnd (bnd (nth x8.2.2.2.2.1.l x12) (fun _ => some x11)) (fun x14 => K (x8.1, addI IntKind.i64 x8.2.1 1, addI IntKind.i64 x8.2.2.2.1 1, ⟨x8.2.2.2.2.1.nil, setL x8.2.2.2.2.1.l x12 x14⟩, ())))))))) (sumE (fun x19 => some (Sum.inl (x19.1, x19.2.1, x19.2.2.1, x19.2.2.2.1, x19.2.2.2.2.1, ()))))) (bnd (cnd (ltI x8.2.2.1 (lenI x8.1)) (bnd (cutL x8.1 x8.2.2.1 (lenI x8.1)) (fun x20 => bnd (okAt x8.2.2.2.2.1.l x8.2.1) (fun x21 => bnd (bnd (nth x8.2.2.2.2.1.l x21) (fun _ => some x20)) (fun x23 => some (⟨x8.2.2.2.2.1.nil, setL x8.2.2.2.2.1.l x21 x23⟩, ()))))) (some (x8.2.2.2.2.1, ()))) (fun x24 => some (Sum.inr (Sum.inr (Sum.inr (x24.1, ()))))))
theorem qxe {K K' : ((List Int) × Int × Int × (Sl (List Int)) × Unit) → Option ((((List Int) × Int × Int × Int × (Sl (List Int)) × Unit) ⊕ (((List Int) × Int × Int × Int × (Sl (List Int)) × Unit) ⊕ (((List Int) × Int × Int × (Sl (List Int)) × Unit) ⊕ (((List Int) × Int × Int × Int × Int × Unit) ⊕ ((Sl (List Int)) × Unit))))))} (h : ∀ s, lq (K s) (K' s)) (s : (List Int) × Int × Int × Int × (Sl (List Int)) × Unit) : lq (q9z K s) (q9z K' s) := by
 unfold q9z
 repeat' first | exact h _ | exact q07 _ | apply qrx | apply qry | (intro _) | apply qkw
def qa0 (K : ((List Int) × Int × Int × Int × (Sl (List Int)) × Unit) → Option ((((List Int) × Int × Int × (Sl (List Int)) × Unit) ⊕ (((List Int) × Int × Int × Int × Int × Unit) ⊕ ((Sl (List Int)) × Unit))))) (x4 : (List Int) × Int × Int × (Sl (List Int)) × Unit) : Option (((List Int) × Int × Int × (Sl (List Int)) × Unit) ⊕ ((((List Int) × Int × Int × Int × Int × Unit) ⊕ ((Sl (List Int)) × Unit)))) := bnd (cnd (ltI x4.2.2.1 (lenI x4.1)) (bnd (at? x4.1 x4.2.2.1) (fun x5 => bnd (at? ([0, 0, 0, 0, 0, 0, 0, 0, 0, 1, 1, 1, 1, 1, 0, 0, 0, 0, 0, 0, 0, 0, 0, 0, 0, 0, 0, 0, 0, 0, 0, 0, 1, 0, 0, 0, 0, 0, 0, 0, 0, 0, 0, 0, 0, 0, 0, 0, 0, 0, 0, 0, 0, 0, 0, 0, 0, 0, 0, 0, 0, 0, 0, 0, 0, 0, 0, 0, 0, 0, 0, 0, 0, 0, 0, 0, 0, 0, 0, 0, 0, 0, 0, 0, 0, 0, 0, 0, 0, 0, 0, 0, 0, 0, 0, 0, 0, 0, 0, 0, 0, 0, 0, 0, 0, 0, 0, 0, 0, 0, 0, 0, 0, 0, 0, 0, 0, 0, 0, 0, 0, 0, 0, 0, 0, 0, 0, 0, 0, 0, 0, 0, 0, 0, 0, 0, 0, 0, 0, 0, 0, 0, 0, 0, 0, 0, 0, 0, 0, 0, 0, 0, 0, 0, 0, 0, 0, 0, 0, 0, 0, 0, 0, 0, 0, 0, 0, 0, 0, 0, 0, 0, 0, 0, 0, 0, 0, 0, 0, 0, 0, 0, 0, 0, 0, 0, 0, 0, 0, 0, 0, 0, 0, 0, 0, 0, 0, 0, 0, 0, 0, 0, 0, 0, 0, 0, 0, 0, 0, 0, 0, 0, 0, 0, 0, 0, 0, 0, 0, 0, 0, 0, 0, 0, 0, 0, 0, 0, 0, 0, 0, 0, 0, 0, 0, 0, 0, 0, 0, 0, 0, 0, 0, 0, 0, 0, 0, 0, 0, 0, 0, 0, 0, 0, 0, 0] : List Int) x5) (fun x6 => some (notB (eqI x6 0))))) (some false)) (fun x7 => cnd x7 (some (Sum.inl (x4.1, x4.2.1, addI IntKind.i64 x4.2.2.1 1, x4.2.2.2.1, ()))) (K (x4.1, x4.2.1, x4.2.2.1, x4.2.2.1, x4.2.2.2.1, ())))
theorem qxf {K K' : ((List Int) × Int × Int × Int × (Sl (List Int)) × Unit) → Option ((((List Int) × Int × Int × (Sl (List Int)) × Unit) ⊕ (((List Int) × Int × Int × Int × Int × Unit) ⊕ ((Sl (List Int)) × Unit))))} (h : ∀ s, lq (K s) (K' s)) (s : (List Int) × Int × Int × (Sl (List Int)) × Unit) : lq (qa0 K s) (qa0 K' s) := by
 unfold qa0
 repeat' first | exact h _ | exact q07 _ | apply qrx | apply qry | (intro _) | apply qkw
def qa1 (K : ((List Int) × Int × Int × (Sl (List Int)) × Unit) → Option ((((List Int) × Int × Int × Int × Int × Unit) ⊕ ((Sl (List Int)) × Unit)))) (x0 : (List Int) × Int × Int × Int × Int × Unit) : Option (((List Int) × Int × Int × Int × Int × Unit) ⊕ ((Sl (List Int)) × Unit)) := cnd (ltI x0.2.2.2.2.1 (lenI x0.1)) (bnd (at? x0.1 x0.2.2.2.2.1) (fun x1 => bnd (at? ([0, 0, 0, 0, 0, 0, 0, 0, 0, 1, 1, 1, 1, 1, 0, 0, 0, 0, 0, 0, 0, 0, 0, 0, 0, 0, 0, 0, 0, 0, 0, 0, 1, 0, 0, 0, 0, 0, 0, 0, 0, 0, 0, 0, 0, 0, 0, 0, 0, 0, 0, 0, 0, 0, 0, 0, 0, 0, 0, 0, 0, 0, 0, 0, 0, 0, 0, 0, 0, 0, 0, 0, 0, 0, 0, 0, 0, 0, 0, 0, 0, 0, 0, 0, 0, 0, 0, 0, 0, 0, 0, 0, 0, 0, 0, 0, 0, 0, 0, 0, 0, 0, 0, 0, 0, 0, 0, 0, 0, 0, 0, 0, 0, 0, 0, 0, 0, 0, 0, 0, 0, 0, 0, 0, 0, 0, 0, 0, 0, 0, 0, 0, 0, 0, 0, 0, 0, 0, 0, 0, 0, 0, 0, 0, 0, 0, 0, 0, 0, 0, 0, 0, 0, 0, 0, 0, 0, 0, 0, 0, 0, 0, 0, 0, 0, 0, 0, 0, 0, 0, 0, 0, 0, 0, 0, 0, 0, 0, 0, 0, 0, 0, 0, 0, 0, 0, 0, 0, 0, 0, 0, 0, 0, 0, 0, 0, 0, 0, 0, 0, 0, 0, 0, 0, 0, 0, 0, 0, 0, 0, 0, 0, 0, 0, 0, 0, 0, 0, 0, 0, 0, 0, 0, 0, 0, 0, 0, 0, 0, 0, 0, 0, 0, 0, 0, 0, 0, 0, 0, 0, 0, 0, 0, 0, 0, 0, 0, 0, 0, 0, 0, 0, 0, 0, 0, 0] : List Int) x1) (fun x2 => some (Sum.inl (x0.1, addI IntKind.i64 x0.2.1 (andI IntKind.i64 x0.2.2.1 (xorI IntKind.i64 (-1) (cvI IntKind.i64 x2))), cvI IntKind.i64 x2, orI IntKind.u8 x0.2.2.2.1 x1, addI IntKind.i64 x0.2.2.2.2.1 1, ()))))) (cnd (leI 128 x0.2.2.2.1) none (bnd (mkN x0.2.1 x0.2.1) (fun x3 => K (x0.1, 0, 0, ⟨false, rep x3 ([] : List Int)⟩, ()))))
theorem qxg {K K' : ((List Int) × Int × Int × (Sl (List Int)) × Unit) → Option ((((List Int) × Int × Int × Int × Int × Unit) ⊕ ((Sl (List Int)) × Unit)))} (h : ∀ s, lq (K s) (K' s)) (s : (List Int) × Int × Int × Int × Int × Unit) : lq (qa1 K s) (qa1 K' s) := by
 unfold qa1
 repeat' first | exact h _ | exact q07 _ | apply qrx | apply qry | (intro _) | apply qkw
def qrz : List Int := [108, 101, 116, 32, 114, 101, 99, 32, 105, 110, 32, 102, 117, 110, 32, 105, 102, 32, 116, 104, 101, 110, 32, 101, 108, 115, 101, 32, 109, 97, 116, 99, 104, 32, 119, 105, 116, 104, 32, 101, 110, 100, 32, 114, 97, 105, 115, 101, 32, 116, 114, 121, 32, 111, 112, 101, 110, 32, 116, 121, 112, 101, 32, 111, 102, 32, 105, 110, 102, 105, 120, 108, 32, 105, 110, 102, 105, 120, 114, 32, 105, 110, 102, 105, 120, 32, 45, 62, 32, 61, 32, 124, 32, 40, 32, 41, 32, 95, 32, 59, 59]
def q3t : List (List Int) := [[108, 101, 116], [114, 101, 99], [105, 110], [102, 117, 110], [105, 102], [116, 104, 101, 110], [101, 108, 115, 101], [109, 97, 116, 99, 104], [119, 105, 116, 104], [101, 110, 100], [114, 97, 105, 115, 101], [116, 114, 121], [111, 112, 101, 110], [116, 121, 112, 101], [111, 102], [105, 110, 102, 105, 120, 108], [105, 110, 102, 105, 120, 114], [105, 110, 102, 105, 120], [45, 62], [61], [124], [40], [41], [95], [59, 59]]
noncomputable def n1 := fun s => q3y l1_e6 200 s
noncomputable def n2 := fun s => q3y (q9z n1) 200 s
noncomputable def n3 := fun s => q3y (qa0 n2) 200 s
noncomputable def n4 := fun s => q3y (qa1 n3) 200 s
theorem qzo (s) : lq (n1 s) (loopR l1_e6 s) := fun _r e => q7p 200 e
theorem qzp (s) : lq (n2 s) (loopR l2_e6 s) := qgo (fun s => qxe qzo s) 200 s
theorem qzq (s) : lq (n3 s) (loopR l3_e6 s) := qgo (fun s => qxf qzp s) 200 s
theorem qzr (s) : lq (n4 s) (loopR l4_e6 s) := qgo (fun s => qxg qzq s) 200 s
theorem quj : n4 (qrz, 0, 1, 0, 0, ()) = some (⟨false, q3t⟩, ()) := by kernel_rfl
theorem qod : f_at () = some (⟨false, q3t⟩, ()) := by
 rw [u_at]
 have h : f_e6 (qrz, ()) = some (⟨false, q3t⟩, ()) := by
  rw [u_e6]
  exact qzr _ _ quj
 show bnd (f_e6 (qrz, ())) _ = _
 rw [h]
 rfl
theorem qkx : f_c7 () = some (⟨false, q3t⟩, ()) := u_c7
end Fn
end Ev

namespace Ev
open Go
namespace Fn
theorem add1 {k : Nat} (h : k ≤ 1000000000) : addI .i64 (k : Int) 1 = ((k + 1 : Nat) : Int) := by
 rw [q9u (by omega) (by omega)]; omega
theorem q1p {α : Type} {l : List α} {k : Nat} (h : k < l.length) : l.drop k = l[k] :: l.drop (k + 1) := List.drop_eq_getElem_cons h
theorem q2p {α : Type} {l : List α} {i : Nat} (h : i < l.length) : okAt l (i : Int) = some i := by
 unfold okAt; rw [if_pos (by omega)]; rfl
theorem qoe (s : List Int) (n : Bool) (l : List (List Int)) (hl : l.length ≤ 1000000) : ∀ (m k : Nat), k + m = l.length →
  ∃ r, loopR l1_e4 (⟨n, l⟩, s, (l.length : Int), (k : Int), ()) = some (r, ()) ∧ (0 ≤ r ↔ s ∈ l.drop k) := by
 intro m
 induction m with
 | zero =>
  intro k hk
  refine ⟨-1, q0a ?_, by rw [List.drop_eq_nil_of_le (by omega)]; simp⟩
  unfold l1_e4
  simp only
  rw [q0n, if_neg (by omega)]
 | succ m ih =>
  intro k hk
  have hlt : k < l.length := by omega
  rw [q1p hlt]
  have step : l1_e4 (⟨n, l⟩, s, (l.length : Int), (k : Int), ()) = if s = l[k] then some (.inr ((k : Int), ())) else some (.inl (⟨n, l⟩, s, (l.length : Int), ((k + 1 : Nat) : Int), ())) := by
   unfold l1_e4
   simp only
   rw [q0n, if_pos (by omega), q06 (List.getElem?_eq_getElem hlt), q00, qdk, add1 (by omega)]
  by_cases h : s = l[k]
  ·rw [if_pos h] at step
   exact ⟨k, q0a step, by simp [h, -List.getElem_cons_drop]⟩
  ·rw [if_neg h] at step
   obtain ⟨r, h1, h2⟩ := ih (k + 1) (by omega)
   exact ⟨r, by rw [q0e step, h1], by rw [h2]; simp [h, -List.getElem_cons_drop]⟩
theorem qgp (s : List Int) : f_ai (s, ()) = some (decide (s ∈ q3t), ()) := by
 obtain ⟨r, h1, h2⟩ := qoe s false q3t (by decide) 25 0 (by decide)
 rw [u_ai, qod, q00, u_dj, u_e4]
 have h1 : loopR l1_e4 (⟨false, q3t⟩, s, lenI q3t, 0, ()) = some (r, ()) := h1
 simp only [h1, q00]
 have : leI 0 r = decide (s ∈ q3t) := decide_eq_decide.2 (by rw [h2]; rfl)
 rw [this]
theorem qs0 (s : List Int) (n : Bool) (l : List (List Int)) (hl : l.length ≤ 1000000) : ∀ (m k : Nat), k + m = l.length →
  loopR l1_c3 (s, ⟨n, l⟩, (k : Int), ()) = some (decide (s ∈ l.drop k), ()) := by
 intro m
 induction m with
 | zero =>
  intro k hk
  refine q0a ?_
  unfold l1_c3
  simp only
  rw [q0n, if_neg (by unfold lenI; omega), List.drop_eq_nil_of_le (by omega)]
  simp
 | succ m ih =>
  intro k hk
  have hlt : k < l.length := by omega
  rw [q1p hlt]
  have step : l1_c3 (s, ⟨n, l⟩, (k : Int), ()) = if l[k] = s then some (.inr (true, ())) else some (.inl (s, ⟨n, l⟩, ((k + 1 : Nat) : Int), ())) := by
   unfold l1_c3
   simp only
   rw [q0n, if_pos (by unfold lenI; omega), q06 (List.getElem?_eq_getElem hlt), q00, qdk, add1 (by omega)]
  by_cases h : l[k] = s
  ·rw [if_pos h] at step
   rw [q0a step]
   simp [h, -List.getElem_cons_drop]
  ·rw [if_neg h] at step
   rw [q0e step, ih (k + 1) (by omega)]
   have : s ≠ l[k] := fun e => h e.symm
   simp [this, -List.getElem_cons_drop]
theorem qiv (s : List Int) : f_c3 (s, ()) = some (decide (s ∈ q3t), ()) := by
 rw [u_c3, qkx, q00]
 exact qs0 s false q3t (by decide) 25 0 (by decide)
def signsL : List Int := [33, 36, 37, 38, 42, 43, 45, 47, 58, 60, 61, 62, 63, 64, 94, 124]
theorem qs1 (c : Int) : ∀ l : List Int, (0 ≤ ixB c l ↔ c ∈ l)
 | [] => by simp [ixB]
 | b :: r => by
  have ih := qs1 c r
  unfold ixB
  by_cases h : b = c
  ·rw [if_pos h]; simp [h]
  ·rw [if_neg h]
   have : c ≠ b := fun e => h e.symm
   simp only [List.mem_cons, this, false_or]
   rw [← ih]
   split <;> omega
theorem qs2 (c : Int) : f_ar (c, ()) = some (decide (c ∈ signsL), ()) := by
 rw [u_ar, u_e7, q00]
 have : leI 0 (ixB c signsL) = decide (c ∈ signsL) := decide_eq_decide.2 (qs1 c signsL)
 show some (leI 0 (ixB c signsL), ()) = _
 rw [this]
theorem qxh (c : Int) : ∀ (m k : Nat), k + m = 16 → ∃ r, loopR l1_c5 (c, signsL, (k : Int), ()) = some (r, ()) ∧ r ≤ 5 ∧ (r = 5 ↔ c ∈ signsL.drop k) := by
 have h16 : signsL.length = 16 := rfl
 intro m
 induction m with
 | zero =>
  intro k hk
  rw [List.drop_eq_nil_of_le (by omega)]
  have last : ∀ (b1 b2 b3 b4 : Bool), ∃ r : Int, (cnd b1 (some (Sum.inr (1, ()))) (cnd b2 (some (Sum.inr (2, ()))) (cnd b3 (some (Sum.inr (3, ()))) (cnd b4 (some (Sum.inr (4, ()))) (some (Sum.inr (0, ())))))) : Option ((Int × (List Int) × Int × Unit) ⊕ (Int × Unit))) = some (.inr (r, ())) ∧ r ≤ 5 ∧ r ≠ 5 := by
   intro b1 b2 b3 b4
   cases b1 <;> cases b2 <;> cases b3 <;> cases b4 <;> exact ⟨_, rfl, by decide, by decide⟩
  have two : ∀ (a b : Int) (b2 : Bool), (cnd (leI a c) (some b2) (some false) : Option Bool) = some (leI a c && b2) := fun a b b2 => by cases leI a c <;> rfl
  have or2 : ∀ (b1 b2 : Bool), (cnd b1 (some true) (some b2) : Option Bool) = some (b1 || b2) := fun b1 b2 => by cases b1 <;> rfl
  obtain ⟨r, h1, h2, h3⟩ := last (leI 97 c && leI c 122) (leI 65 c && leI c 90) (leI 48 c && leI c 57) (eqI c 95 || eqI c 39)
  refine ⟨r, q0a ?_, h2, by simp [h3]⟩
  unfold l1_c5
  simp only
  rw [q0n, if_neg (by unfold lenI; omega), two 97 0, two 65 0, two 48 0, or2]
  simp only [q00]
  exact h1
 | succ m ih =>
  intro k hk
  have hlt : k < signsL.length := by omega
  rw [q1p hlt]
  have step : l1_c5 (c, signsL, (k : Int), ()) = if signsL[k] = c then some (.inr (5, ())) else some (.inl (c, signsL, ((k + 1 : Nat) : Int), ())) := by
   unfold l1_c5
   simp only
   rw [q0n, if_pos (by unfold lenI; omega), q06 (List.getElem?_eq_getElem hlt), q00, qmq, add1 (by omega)]
  by_cases h : signsL[k] = c
  ·rw [if_pos h] at step
   exact ⟨5, q0a step, by omega, by simp [h, -List.getElem_cons_drop]⟩
  ·rw [if_neg h] at step
   obtain ⟨r, h1, h2, h3⟩ := ih (k + 1) (by omega)
   have hn : c ≠ signsL[k] := fun e => h e.symm
   exact ⟨r, by rw [q0e step, h1], h2, by rw [h3]; simp [hn, -List.getElem_cons_drop]⟩
theorem is_spec (c : Int) : ∃ r, f_c5 (c, ()) = some (r, ()) ∧ r ≤ 5 ∧ (r = 5 ↔ c ∈ signsL) := by
 obtain ⟨r, h1, h2, h3⟩ := qxh c 16 0 rfl
 exact ⟨r, by rw [u_c5]; exact h1, h2, h3⟩
def allS (s : List Int) : Bool := !s.isEmpty && s.all fun b => decide (b ∈ signsL)
def opOk (s : List Int) : Bool := allS s && !decide (s ∈ q3t)
theorem qs3 {b : Int} (h : b ∈ signsL) : 0 ≤ b ∧ b ≤ 126 := by
 unfold signsL at h
 simp only [List.mem_cons, List.not_mem_nil, or_false] at h
 omega
theorem qs4 {s : List Int} (hs : ∀ b, b ∈ s → 0 ≤ b ∧ b ≤ 255) {k : Nat} (hk : k < s.length) : (s[k] ≤ 127 → runeI s (k : Int) = s[k] ∧ nextI s (k : Int) = ((k + 1 : Nat) : Int)) ∧ (127 < s[k] → 126 < runeI s (k : Int)) := by
 have hb := hs _ (List.getElem_mem hk)
 have hsz : (q6m s).size = s.length := by show (s.map _).toArray.size = _; simp
 have hk' : k < (q6m s).size := by omega
 have hg : (((q6m s)[k]'hk').toNat : Int) = s[k] := by
  have : (q6m s)[k]'hk' = UInt8.ofNat s[k].toNat := by
   have h1 : (q6m s)[k]'hk' = ((s.map fun b => UInt8.ofNat b.toNat).toArray)[k]'(by simpa using hk) := rfl
   rw [h1, List.getElem_toArray, List.getElem_map]
  rw [this, UInt8.toNat_ofNat', Nat.mod_eq_of_lt (by omega)]
  omega
 unfold runeI nextI
 rw [Int.toNat_natCast, if_pos (by omega)]
 constructor
 ·intro h
  have := decode_ascii (q6m s) k hk' (by omega)
  rw [this]
  exact ⟨hg, by simp⟩
 ·intro h
  have := (decode_high (q6m s) k hk' (by omega)).1
  omega
theorem quk {s : List Int} (hs : ∀ b, b ∈ s → 0 ≤ b ∧ b ≤ 255) : ∀ (m k : Nat), k + m = s.length →
  loopR l1_an (s, s, (k : Int), ()) = some ((s.drop k).all (fun b => decide (b ∈ signsL)) && !s.isEmpty, ()) := by
 intro m
 induction m with
 | zero =>
  intro k hk
  refine q0a ?_
  unfold l1_an
  simp only
  rw [q0n, if_neg (by unfold lenI; omega), List.drop_eq_nil_of_le (by omega)]
  cases s <;> rfl
 | succ m ih =>
  intro k hk
  have hlt : k < s.length := by omega
  rw [q1p hlt]
  obtain ⟨h1, h2⟩ := qs4 hs hlt
  have c0 : ltI (k : Int) (lenI s) = true := decide_eq_true (by unfold lenI; omega)
  have hb := hs _ (List.getElem_mem hlt)
  have step : l1_an (s, s, (k : Int), ()) = if s[k] ∈ signsL then some (.inl (s, s, ((k + 1 : Nat) : Int), ())) else some (.inr (false, ())) := by
   unfold l1_an
   simp only [c0, q03, q00]
   by_cases h : s[k] ≤ 126
   ·obtain ⟨e1, e2⟩ := h1 (by omega)
    rw [e1, e2]
    have c1 : ltI 126 s[k] = false := decide_eq_false (by omega)
    have c2 : cvI .u8 s[k] = s[k] := by rw [qvt]; omega
    simp only [c1, q01, c2, qs2, q00, notB]
    by_cases hm : s[k] ∈ signsL
    ·rw [if_pos hm]; simp [hm, q01]
    ·rw [if_neg hm]; simp [hm, q03]
   ·have hm : s[k] ∉ signsL := fun e => by have := qs3 e; omega
    rw [if_neg hm]
    have c1 : ltI 126 (runeI s (k : Int)) = true := by
     refine decide_eq_true ?_
     by_cases h127 : s[k] ≤ 127
     ·rw [(h1 h127).1]; omega
     ·exact h2 (by omega)
    simp only [c1, q03, q00]
  by_cases hm : s[k] ∈ signsL
  ·rw [if_pos hm] at step
   rw [q0e step, ih (k + 1) (by omega)]
   simp [hm, -List.getElem_cons_drop]
  ·rw [if_neg hm] at step
   rw [q0a step]
   simp [hm, -List.getElem_cons_drop]
theorem qul {s : List Int} (hs : ∀ b, b ∈ s → 0 ≤ b ∧ b ≤ 255) : f_an (s, ()) = some (allS s, ()) := by
 rw [u_an]
 have := quk hs s.length 0 (by omega)
 rw [List.drop_zero, Bool.and_comm] at this
 exact this
def pre5 : List Int → Nat
 | [] => 0
 | b :: r => if b ∈ signsL then pre5 r + 1 else 0
theorem qmt : ∀ s : List Int, (pre5 s = s.length ↔ s.all (fun b => decide (b ∈ signsL)) = true)
 | [] => by simp [pre5]
 | b :: r => by
  have ih := qmt r
  unfold pre5
  by_cases h : b ∈ signsL
  ·rw [if_pos h, List.length_cons, List.all_cons]
   simp only [h, decide_true, Bool.true_and, ← ih]
   omega
  ·rw [if_neg h]
   simp [h]
theorem qof (s : List Int) (hl : s.length ≤ 1000000) : ∀ (m k : Nat), k + m = s.length → loopR l1_c6 (s, (k : Int), 5, 5, ()) = some (((k + pre5 (s.drop k) : Nat) : Int), ()) := by
 intro m
 induction m with
 | zero =>
  intro k hk
  refine q0a ?_
  unfold l1_c6
  simp only
  rw [q0n, if_neg (by unfold lenI; omega), List.drop_eq_nil_of_le (by omega)]
  rfl
 | succ m ih =>
  intro k hk
  have hlt : k < s.length := by omega
  rw [q1p hlt]
  obtain ⟨r, h1, h2, h3⟩ := is_spec s[k]
  have c0 : ltI (k : Int) (lenI s) = true := decide_eq_true (by unfold lenI; omega)
  have step : l1_c6 (s, (k : Int), 5, 5, ()) = if s[k] ∈ signsL then some (.inl (s, ((k + 1 : Nat) : Int), 5, 5, ())) else some (.inr ((k : Int), ())) := by
   unfold l1_c6
   simp only [c0, q03, q06 (List.getElem?_eq_getElem hlt), q00, h1, add1 (by omega : k ≤ 1000000000)]
   by_cases hm : s[k] ∈ signsL
   ·rw [if_pos hm]
    have : r = 5 := h3.2 hm
    subst this
    rfl
   ·rw [if_neg hm]
    have : leI 5 r = false := decide_eq_false (fun e => hm (h3.1 (by omega)))
    simp only [this, q01, q00]
  unfold pre5
  by_cases hm : s[k] ∈ signsL
  ·rw [if_pos hm] at step ⊢
   rw [q0e step, ih (k + 1) (by omega)]
   congr 2
   omega
  ·rw [if_neg hm] at step ⊢
   rw [q0a step]
   rfl
theorem qs5 (s : List Int) (hs : ∀ b, b ∈ s → 0 ≤ b ∧ b ≤ 255) : f_aj ((5, s, 0, 0), ()) = some (opOk s, ()) := by
 rw [u_aj, qul hs, qgp]
 have c1 : ltI 0 0 = false := rfl
 have c2 : eqI 5 3 = false := rfl
 have c3 : eqI 0 0 = true := rfl
 have c4 : eqI 5 1 = false := rfl
 have c5 : eqI 5 2 = false := rfl
 have c6 : eqI 5 4 = false := rfl
 have c7 : eqI 5 5 = true := rfl
 simp only [c1, c2, c3, c4, c5, c6, c7, q01, q03, q00, notB, Bool.not_true, Bool.not_false]
 unfold opOk
 cases allS s <;> rfl
theorem qs6 (s : List Int) (hl : s.length ≤ 1000000) : f_c4 ((5, s, 0, 0), ()) = some (opOk s, ()) := by
 rw [u_c4]
 have c1 : ltI 0 0 = false := rfl
 have c2 : eqI 5 3 = false := rfl
 have c3 : eqI 0 0 = true := rfl
 have c4 : eqI 5 1 = false := rfl
 have c5 : eqI 5 2 = false := rfl
 have c6 : eqI 5 4 = false := rfl
 have c7 : eqI 5 5 = true := rfl
 have hw : f_c6 (s, 0, 5, 5, ()) = some ((pre5 s : Int), ()) := by
  rw [u_c6]
  have := qof s hl s.length 0 (by omega)
  rw [List.drop_zero, Nat.zero_add] at this
  exact this
 have he : eqI (pre5 s : Int) (lenI s) = s.all (fun b => decide (b ∈ signsL)) := by
  rw [Bool.eq_iff_iff, eqI_eq, ← qmt]
  unfold lenI
  omega
 have hn : eqS s [] = s.isEmpty := by cases s <;> rfl
 simp only [c1, c2, c3, c4, c5, c6, c7, q01, q03, q00, notB, hw, he, hn, qiv]
 unfold opOk allS
 cases s.isEmpty <;> cases s.all (fun b => decide (b ∈ signsL)) <;> cases decide (s ∈ q3t) <;> rfl
end Fn
end Ev

namespace Ev
open Go
namespace Fn
def q30 (c : Int) : Bool := leI 97 c && leI c 122
def q1w (c : Int) : Bool := leI 65 c && leI c 90
def q89 (c : Int) : Bool := leI 48 c && leI c 57
def q1v (c : Int) : Bool := q30 c || q1w c || q89 c || eqI c 95 || eqI c 39
theorem q7b (a b : Bool) : (cnd a (some b) (some false) : Option Bool) = some (a && b) := by cases a <;> rfl
theorem qiw (a b : Bool) : (cnd a (some true) (some b) : Option Bool) = some (a || b) := by cases a <;> rfl
theorem qf7 (c : Int) : f_as (c, ()) = some (q30 c, ()) := by rw [u_as, q7b]; rfl
theorem qf8 (c : Int) : f_ap (c, ()) = some (q1w c, ()) := by rw [u_ap, q7b]; rfl
theorem qog (c : Int) : f_ao (c, ()) = some (q89 c, ()) := by rw [u_ao, q7b]; rfl
theorem qoh (c : Int) : f_aq (c, ()) = some (q1v c, ()) := by
 rw [u_aq, qf7, qf8, qog]
 simp only [q00, qiw]
 rfl
theorem qs7 {c : Int} (h : q1v c = true) : 0 ≤ c ∧ c ≤ 126 := by
 unfold q1v q30 q1w q89 leI at h
 simp only [Bool.or_eq_true, Bool.and_eq_true, decide_eq_true_eq, eqI_eq] at h
 omega
theorem qs8 {s : List Int} (hs : ∀ b, b ∈ s → 0 ≤ b ∧ b ≤ 255) : ∀ (m k : Nat), k + m = s.length →
  loopR l1_am (s, s, (k : Int), ()) = some ((s.drop k).all q1v && !s.isEmpty, ()) := by
 intro m
 induction m with
 | zero =>
  intro k hk
  refine q0a ?_
  unfold l1_am
  simp only
  rw [q0n, if_neg (by unfold lenI; omega), List.drop_eq_nil_of_le (by omega)]
  cases s <;> rfl
 | succ m ih =>
  intro k hk
  have hlt : k < s.length := by omega
  rw [q1p hlt]
  obtain ⟨h1, h2⟩ := qs4 hs hlt
  have c0 : ltI (k : Int) (lenI s) = true := decide_eq_true (by unfold lenI; omega)
  have hb := hs _ (List.getElem_mem hlt)
  have step : l1_am (s, s, (k : Int), ()) = if q1v s[k] = true then some (.inl (s, s, ((k + 1 : Nat) : Int), ())) else some (.inr (false, ())) := by
   unfold l1_am
   simp only [c0, q03, q00]
   by_cases h : s[k] ≤ 126
   ·obtain ⟨e1, e2⟩ := h1 (by omega)
    rw [e1, e2]
    have c1 : ltI 126 s[k] = false := decide_eq_false (by omega)
    have c2 : cvI .u8 s[k] = s[k] := by rw [qvt]; omega
    simp only [c1, q01, c2, qoh, q00, notB]
    cases q1v s[k] <;> rfl
   ·have hm : ¬ q1v s[k] = true := fun e => by have := qs7 e; omega
    rw [if_neg hm]
    have c1 : ltI 126 (runeI s (k : Int)) = true := by
     refine decide_eq_true ?_
     by_cases h127 : s[k] ≤ 127
     ·rw [(h1 h127).1]; omega
     ·exact h2 (by omega)
    simp only [c1, q03, q00]
  rw [List.all_cons]
  cases hm : q1v s[k] with
  | true =>
   rw [hm, if_pos rfl] at step
   rw [q0e step, ih (k + 1) (by omega), Bool.true_and]
  | false =>
   rw [hm, if_neg (by decide)] at step
   rw [q0a step, Bool.false_and, Bool.false_and]
theorem qix {s : List Int} (hs : ∀ b, b ∈ s → 0 ≤ b ∧ b ≤ 255) : f_am (s, ()) = some (s.all q1v && !s.isEmpty, ()) := by
 rw [u_am]
 exact qs8 hs s.length 0 (by omega)
def qbx (c : Int) : Int := bif decide (c ∈ signsL) then 5 else bif q30 c then 1 else bif q1w c then 2 else bif q89 c then 3 else bif eqI c 95 || eqI c 39 then 4 else 0
theorem qs9 (c : Int) : ∀ (m k : Nat), k + m = 16 → loopR l1_c5 (c, signsL, (k : Int), ()) = some (bif decide (c ∈ signsL.drop k) then 5 else bif q30 c then 1 else bif q1w c then 2 else bif q89 c then 3 else bif eqI c 95 || eqI c 39 then 4 else 0, ()) := by
 have h16 : signsL.length = 16 := rfl
 intro m
 induction m with
 | zero =>
  intro k hk
  rw [List.drop_eq_nil_of_le (by omega)]
  refine q0a ?_
  unfold l1_c5
  simp only
  rw [q0n, if_neg (by unfold lenI; omega)]
  simp only [q7b, qiw, q00]
  show _ = some (Sum.inr (bif decide (c ∈ []) then _ else _, ()))
  have : decide (c ∈ ([] : List Int)) = false := rfl
  rw [this]
  show (cnd (q30 c) _ (cnd (q1w c) _ (cnd (q89 c) _ _)) : Option _) = _
  cases q30 c <;> cases q1w c <;> cases q89 c <;> cases (eqI c 95 || eqI c 39) <;> rfl
 | succ m ih =>
  intro k hk
  have hlt : k < signsL.length := by omega
  rw [q1p hlt]
  have step : l1_c5 (c, signsL, (k : Int), ()) = if signsL[k] = c then some (.inr (5, ())) else some (.inl (c, signsL, ((k + 1 : Nat) : Int), ())) := by
   unfold l1_c5
   simp only
   rw [q0n, if_pos (by unfold lenI; omega), q06 (List.getElem?_eq_getElem hlt), q00, qmq, add1 (by omega)]
  by_cases h : signsL[k] = c
  ·rw [if_pos h] at step
   rw [q0a step]
   simp [h, -List.getElem_cons_drop]
  ·rw [if_neg h] at step
   have hn : c ≠ signsL[k] := fun e => h e.symm
   rw [q0e step, ih (k + 1) (by omega)]
   have : decide (c ∈ signsL[k] :: signsL.drop (k + 1)) = decide (c ∈ signsL.drop (k + 1)) := by simp [hn, -List.getElem_cons_drop]
   rw [this]
theorem qiy (c : Int) : f_c5 (c, ()) = some (qbx c, ()) := by
 rw [u_c5]
 exact qs9 c 16 0 rfl
theorem qay {c : Int} (h : c ∈ signsL) : q1v c = false := by
 unfold signsL at h
 simp only [List.mem_cons, List.not_mem_nil, or_false] at h
 rcases h with h | h | h | h | h | h | h | h | h | h | h | h | h | h | h | h <;> subst h <;> decide
theorem qoi (c : Int) : (leI 1 (qbx c) && leI (qbx c) 4) = q1v c := by
 unfold qbx
 by_cases h : c ∈ signsL
 ·rw [qay h]; simp [h, leI]
 ·simp only [h, decide_false, cond_false]
  unfold q1v
  cases q30 c <;> cases q1w c <;> cases q89 c <;> cases h1 : eqI c 95 <;> cases eqI c 39 <;> rfl
theorem qky {c : Int} (h : q1w c = true) : q30 c = false := by
 unfold q1w q30 leI at *
 simp only [Bool.and_eq_true, decide_eq_true_eq, Bool.and_eq_false_iff, decide_eq_false_iff_not] at *
 omega
theorem qoj {c : Int} (h : q1v c = true) : eqI (qbx c) 1 = q30 c := by
 unfold qbx
 have hs : c ∉ signsL := fun e => by rw [qay e] at h; cases h
 simp only [hs, decide_false, cond_false]
 cases q30 c <;> cases q1w c <;> cases q89 c <;> cases (eqI c 95 || eqI c 39) <;> rfl
theorem qok {c : Int} (h : q1v c = true) : eqI (qbx c) 2 = q1w c := by
 unfold qbx
 have hs : c ∉ signsL := fun e => by rw [qay e] at h; cases h
 simp only [hs, decide_false, cond_false]
 cases hg : q1w c with
 | true => rw [qky hg]; rfl
 | false => cases q30 c <;> cases q89 c <;> cases (eqI c 95 || eqI c 39) <;> rfl
def preI : List Int → Nat
 | [] => 0
 | b :: r => bif q1v b then preI r + 1 else 0
theorem qmu : ∀ s : List Int, (preI s = s.length ↔ s.all q1v = true)
 | [] => by simp [preI]
 | b :: r => by
  have ih := qmu r
  unfold preI
  cases h : q1v b with
  | true => simp only [cond_true, List.length_cons, List.all_cons, h, Bool.true_and, ← ih]; omega
  | false => simp [h]
theorem qkz (s : List Int) (hl : s.length ≤ 1000000) : ∀ (m k : Nat), k + m = s.length → loopR l1_c6 (s, (k : Int), 1, 4, ()) = some (((k + preI (s.drop k) : Nat) : Int), ()) := by
 intro m
 induction m with
 | zero =>
  intro k hk
  refine q0a ?_
  unfold l1_c6
  simp only
  rw [q0n, if_neg (by unfold lenI; omega), List.drop_eq_nil_of_le (by omega)]
  rfl
 | succ m ih =>
  intro k hk
  have hlt : k < s.length := by omega
  rw [q1p hlt]
  have c0 : ltI (k : Int) (lenI s) = true := decide_eq_true (by unfold lenI; omega)
  have step : l1_c6 (s, (k : Int), 1, 4, ()) = bif q1v s[k] then some (.inl (s, ((k + 1 : Nat) : Int), 1, 4, ())) else some (.inr ((k : Int), ())) := by
   unfold l1_c6
   simp only [c0, q03, q06 (List.getElem?_eq_getElem hlt), q00, qiy, add1 (by omega : k ≤ 1000000000)]
   rw [← qoi]
   cases leI 1 (qbx s[k]) <;> cases leI (qbx s[k]) 4 <;> rfl
  unfold preI
  cases hm : q1v s[k] with
  | true =>
   rw [hm] at step
   rw [q0e step, ih (k + 1) (by omega)]
   simp only [cond_true]
   congr 2
   omega
  | false =>
   rw [hm] at step
   rw [q0a step]
   rfl
def qxi (p : Int → Bool) : List Int → Bool
 | [] => false
 | b :: _ => p b
def q23 (p : Int → Bool) (s : List Int) : Bool := s.all q1v && !s.isEmpty && qxi p s && !decide (s ∈ q3t)
theorem qsa (s : List Int) (a2 a3 : Int) (hs : ∀ b, b ∈ s → 0 ≤ b ∧ b ≤ 255) : f_ak ((1, s, a2, a3), ()) = some (q23 q30 s, ()) := by
 rw [u_ak, qix hs, qgp]
 simp only [q00]
 cases s with
 | nil => rfl
 | cons b r =>
  have h0 : at? (b :: r) 0 = some b := rfl
  rw [h0]
  simp only [q00, qf7]
  unfold q23
  show _ = some (_ && q30 b && _, ())
  cases List.all (b :: r) q1v <;> cases q30 b <;> cases decide (b :: r ∈ q3t) <;> rfl
theorem qsb (s : List Int) (a2 a3 : Int) (hs : ∀ b, b ∈ s → 0 ≤ b ∧ b ≤ 255) : f_al ((2, s, a2, a3), ()) = some (q23 q1w s, ()) := by
 rw [u_al, qix hs, qgp]
 simp only [q00]
 cases s with
 | nil => rfl
 | cons b r =>
  have h0 : at? (b :: r) 0 = some b := rfl
  rw [h0]
  simp only [q00, qf8]
  unfold q23
  show _ = some (_ && q1w b && _, ())
  cases List.all (b :: r) q1v <;> cases q1w b <;> cases decide (b :: r ∈ q3t) <;> rfl
theorem qol (s : List Int) (hs : ∀ b, b ∈ s → 0 ≤ b ∧ b ≤ 255) : f_aj ((1, s, 0, 0), ()) = some (q23 q30 s, ()) := by
 rw [u_aj, qsa s 0 0 hs]
 have c1 : ltI 0 0 = false := rfl
 have c2 : eqI 1 3 = false := rfl
 have c3 : eqI 0 0 = true := rfl
 have c4 : eqI 1 1 = true := rfl
 simp only [c1, c2, c3, c4, q01, q03, q00, notB, Bool.not_true, Bool.not_false]
theorem qaz (s : List Int) (hs : ∀ b, b ∈ s → 0 ≤ b ∧ b ≤ 255) : f_aj ((2, s, 0, 0), ()) = some (q23 q1w s, ()) := by
 rw [u_aj, qsb s 0 0 hs]
 have c1 : ltI 0 0 = false := rfl
 have c2 : eqI 2 3 = false := rfl
 have c3 : eqI 0 0 = true := rfl
 have c4 : eqI 2 1 = false := rfl
 have c5 : eqI 2 2 = true := rfl
 simp only [c1, c2, c3, c4, c5, q01, q03, q00, notB, Bool.not_true, Bool.not_false]
theorem qvu (k : Int) (p : Int → Bool) (hp : ∀ c, q1v c = true → eqI (qbx c) k = p c) (s : List Int) (hl : s.length ≤ 1000000) (X : Option (Bool × Unit)) :
  cnd (notB (eqS s ([] : List Int))) (bnd (at? s 0) (fun x1 => bnd (f_c5 (x1, ())) (fun x2 => cnd (eqI x2.1 k) (bnd (f_c6 (s, 0, 1, 4, ())) (fun x3 => cnd (eqI x3.1 (lenI s)) (bnd (f_c3 (s, ())) (fun x4 => some (notB x4.1, ()))) (some (false, ())))) (some (false, ()))))) X =
  bif s.isEmpty then X else some (q23 p s, ()) := by
 have hw : f_c6 (s, 0, 1, 4, ()) = some ((preI s : Int), ()) := by
  rw [u_c6]
  have := qkz s hl s.length 0 (by omega)
  rw [List.drop_zero, Nat.zero_add] at this
  exact this
 have he : eqI (preI s : Int) (lenI s) = s.all q1v := by
  rw [Bool.eq_iff_iff, eqI_eq, ← qmu]
  unfold lenI
  omega
 cases s with
 | nil => rfl
 | cons b r =>
  have hn : eqS (b :: r) [] = false := rfl
  have h0 : at? (b :: r) 0 = some b := rfl
  simp only [hn, notB, Bool.not_false, q03, h0, q00, qiy, hw, he, qiv]
  have hi : List.isEmpty (b :: r) = false := rfl
  rw [hi, cond_false]
  unfold q23
  rw [hi]
  show _ = some (_ && p b && _, ())
  cases hb : q1v b with
  | true =>
   rw [hp b hb]
   cases List.all (b :: r) q1v <;> cases p b <;> cases decide (b :: r ∈ q3t) <;> rfl
  | false =>
   have ha : List.all (b :: r) q1v = false := by rw [List.all_cons, hb]; rfl
   rw [ha]
   cases eqI (qbx b) k <;> rfl
theorem qom (s : List Int) (hl : s.length ≤ 1000000) : f_c4 ((1, s, 0, 0), ()) = some (q23 q30 s, ()) := by
 rw [u_c4]
 have c1 : ltI 0 0 = false := rfl
 have c3 : eqI 0 0 = true := rfl
 have c4 : eqI 1 1 = true := rfl
 simp only [c1, c3, c4, q01, q03, q00]
 rw [qvu 1 q30 (fun c h => qoj h) s hl]
 cases s <;> rfl
theorem qb0 (s : List Int) (hl : s.length ≤ 1000000) : f_c4 ((2, s, 0, 0), ()) = some (q23 q1w s, ()) := by
 rw [u_c4]
 have c1 : ltI 0 0 = false := rfl
 have c3 : eqI 0 0 = true := rfl
 have c4 : eqI 2 1 = false := rfl
 have c5 : eqI 2 2 = true := rfl
 simp only [c1, c3, c4, c5, q01, q03, q00]
 rw [qvu 2 q1w (fun c h => qok h) s hl]
 cases s <;> rfl
def nameOk (s : List Int) : Bool := q23 q30 s || opOk s
def q27 (s : List Int) : Bool := q23 q1w s
theorem qsc {s : List Int} (hs : ∀ b, b ∈ s → 0 ≤ b ∧ b ≤ 255) : f_e9 (s, ()) = some (nameOk s, ()) := by
 rw [u_e9, qol s hs, qs5 s hs]
 simp only [q00, qiw]
 rfl
theorem qmv {s : List Int} (hs : ∀ b, b ∈ s → 0 ≤ b ∧ b ≤ 255) : f_e8 (s, ()) = some (q27 s, ()) := by
 rw [u_e8, qaz s hs]
 rfl
theorem qon {s : List Int} (hl : s.length ≤ 1000000) : f_cb (s, ()) = some (nameOk s, ()) := by
 rw [u_cb, qom s hl, qs6 s hl]
 simp only [q00, qiw]
 rfl
theorem qiz {s : List Int} (hl : s.length ≤ 1000000) : f_c9 (s, ()) = some (q27 s, ()) := by
 rw [u_c9, qb0 s hl]
 rfl
end Fn
end Ev

namespace Ev
open Go
namespace Fn
abbrev ND := Int × List Int × Int × Int
inductive F where
 | nil : F
 | cons : Int → List Int → Int → F → F → F
def F.cnt : F → Nat
 | .nil => 0
 | .cons _ _ _ _ r => r.cnt + 1
def F.flat : F → List ND
 | .nil => []
 | .cons k t n ks r => (k, t, n, (ks.cnt : Int)) :: (ks.flat ++ r.flat)
def F.size : F → Nat
 | .nil => 0
 | .cons _ _ _ ks r => ks.size + r.size + 1
def F.dep : F → Nat
 | .nil => 0
 | .cons _ _ _ ks r => max (ks.dep + 1) r.dep
def F.app : F → F → F
 | .nil, g => g
 | .cons k t n ks r, g => .cons k t n ks (r.app g)
abbrev tr (k : Int) (t : List Int) (n : Int) (ks : F) : F := .cons k t n ks .nil
theorem F.len : ∀ f : F, f.flat.length = f.size
 | .nil => rfl
 | .cons k t n ks r => by
  show (_ :: (ks.flat ++ r.flat)).length = ks.size + r.size + 1
  rw [List.length_cons, List.length_append, ks.len, r.len]
theorem F.cnt_le : ∀ f : F, f.cnt ≤ f.size
 | .nil => Nat.le_refl _
 | .cons k t n ks r => by
  have := r.cnt_le
  show r.cnt + 1 ≤ ks.size + r.size + 1
  omega
theorem F.dep_le : ∀ f : F, f.dep ≤ f.size
 | .nil => Nat.le_refl _
 | .cons k t n ks r => by
  have h1 := r.dep_le
  have h2 := ks.dep_le
  show max (ks.dep + 1) r.dep ≤ ks.size + r.size + 1
  omega
theorem q6g (k : Int) (t : List Int) (n : Int) (ks : F) : (tr k t n ks).flat = (k, t, n, (ks.cnt : Int)) :: ks.flat := by
 show _ :: (ks.flat ++ []) = _
 rw [List.append_nil]
theorem q6h (k : Int) (t : List Int) (n : Int) (ks : F) : (tr k t n ks).size = ks.size + 1 := rfl
def skip (N : Nat) : List ND → Nat → Option (List ND)
 | l, 0 => some l
 | [], _ + 1 => none
 | d :: r, c + 1 => if 0 ≤ d.2.2.2 ∧ d.2.2.2 ≤ (N : Int) then skip N r (c + d.2.2.2.toNat) else none
theorem q5u (N : Nat) (l : List ND) : skip N l 0 = some l := by cases l <;> rfl
theorem q3u (N : Nat) (d : ND) (r : List ND) (c : Nat) : skip N (d :: r) (c + 1) = if 0 ≤ d.2.2.2 ∧ d.2.2.2 ≤ (N : Int) then skip N r (c + d.2.2.2.toNat) else none := by
 conv => lhs; unfold skip
theorem qa2 (N : Nat) : ∀ (f : F) (c : Nat) (post : List ND), f.size ≤ N → skip N (f.flat ++ post) (f.cnt + c) = skip N post c
 | .nil, c, post, _ => by show skip N post (0 + c) = _; rw [Nat.zero_add]
 | .cons k t n ks r, c, post, h => by
  have h : ks.size + r.size + 1 ≤ N := h
  have hc := ks.cnt_le
  show skip N ((k, t, n, (ks.cnt : Int)) :: ((ks.flat ++ r.flat) ++ post)) (r.cnt + 1 + c) = _
  have e : r.cnt + 1 + c = (r.cnt + c) + 1 := by omega
  rw [e, q3u]
  rw [if_pos ⟨by show (0 : Int) ≤ (ks.cnt : Int); omega, by show (ks.cnt : Int) ≤ N; omega⟩]
  show skip N _ (r.cnt + c + (ks.cnt : Int).toNat) = _
  rw [Int.toNat_natCast, List.append_assoc, Nat.add_comm (r.cnt + c), qa2 N ks _ _ (by omega), qa2 N r _ _ (by omega)]
theorem F.split : ∀ (g : F) (a c : Nat), g.cnt = a + c → ∃ x y : F, x.cnt = a ∧ y.cnt = c ∧ g.flat = x.flat ++ y.flat
 | g, 0, c, h => ⟨.nil, g, rfl, by omega, rfl⟩
 | .nil, a + 1, c, h => by
  have h : 0 = a + 1 + c := h
  omega
 | .cons k t n ks r, a + 1, c, h => by
  have h : r.cnt + 1 = a + 1 + c := h
  obtain ⟨x, y, h1, h2, h3⟩ := r.split a c (by omega)
  refine ⟨.cons k t n ks x, y, by show x.cnt + 1 = _; omega, h2, ?_⟩
  show _ :: (ks.flat ++ r.flat) = _ :: (ks.flat ++ x.flat) ++ y.flat
  rw [h3, List.cons_append, List.append_assoc]
theorem qb1 (N : Nat) : ∀ (l : List ND) (c : Nat) (rest : List ND), skip N l c = some rest → ∃ f : F, f.cnt = c ∧ l = f.flat ++ rest
 | l, 0, rest, h => by
  rw [q5u] at h
  injection h with h
  exact ⟨.nil, rfl, h⟩
 | [], c + 1, rest, h => by cases h
 | d :: r, c + 1, rest, h => by
  obtain ⟨k, t, n, z⟩ := d
  rw [q3u] at h
  have h : (if 0 ≤ z ∧ z ≤ (N : Int) then skip N r (c + z.toNat) else none) = some rest := h
  by_cases hz : 0 ≤ z ∧ z ≤ (N : Int)
  ·rw [if_pos hz] at h
   obtain ⟨g, h1, h2⟩ := qb1 N r _ rest h
   obtain ⟨x, y, h3, h4, h5⟩ := g.split z.toNat c (by omega)
   refine ⟨.cons k t n x y, by show y.cnt + 1 = _; omega, ?_⟩
   show _ = (k, t, n, (x.cnt : Int)) :: (x.flat ++ y.flat) ++ rest
   rw [h2, h5, h3, Int.toNat_of_nonneg hz.1]
   rfl
  ·rw [if_neg hz] at h; cases h
theorem qmw (N : Nat) : ∀ (l : List ND) (a b : Nat), skip N l (a + b) = (skip N l a).bind fun r => skip N r b
 | l, 0, b => by rw [q5u, Nat.zero_add]; rfl
 | [], a + 1, b => by
  have e : a + 1 + b = (a + b) + 1 := by omega
  rw [e]; rfl
 | d :: r, a + 1, b => by
  have e : a + 1 + b = (a + b) + 1 := by omega
  rw [e, q3u, q3u]
  by_cases h : 0 ≤ d.2.2.2 ∧ d.2.2.2 ≤ (N : Int)
  ·rw [if_pos h, if_pos h]
   have e2 : a + b + d.2.2.2.toNat = (a + d.2.2.2.toNat) + b := by omega
   rw [e2]
   exact qmw N r _ b
  ·rw [if_neg h, if_neg h]; rfl
theorem qum (N : Nat) {l : List ND} {c : Nat} {rest : List ND} (h : skip N l c = some rest) : c ≤ l.length - rest.length ∧ rest.length ≤ l.length ∧ rest = l.drop (l.length - rest.length) := by
 obtain ⟨f, h1, h2⟩ := qb1 N l c rest h
 have := f.cnt_le
 have h3 := f.len
 subst h2
 rw [List.length_append]
 refine ⟨by omega, by omega, ?_⟩
 rw [show f.flat.length + rest.length - rest.length = f.flat.length by omega, List.drop_left']
 rfl
def endZ (l : List ND) (k c : Nat) : Int := (skip l.length (l.drop k) c).elim (-1) fun r => (l.length : Int) - (r.length : Int)
theorem qun (b : Bool) (l : List ND) (hl : l.length ≤ 10000) : ∀ (m k c : Nat), k + m = l.length → c ≤ k * 10000 →
  loopR l1_ep (⟨b, l⟩, (k : Int), ((c + 1 : Nat) : Int), ()) = some (endZ l k (c + 1), ()) := by
 intro m
 induction m with
 | zero =>
  intro k c hk hc
  refine q0a ?_
  unfold l1_ep
  have c0 : leI (lenI l) (k : Int) = true := decide_eq_true (by unfold lenI; omega)
  simp only [c0, q03, q00]
  unfold endZ
  rw [List.drop_eq_nil_of_le (by omega)]
  rfl
 | succ m ih =>
  intro k c hk hc
  have hlt : k < l.length := by omega
  obtain ⟨d, hd⟩ : ∃ d, l[k]? = some d := ⟨_, List.getElem?_eq_getElem hlt⟩
  have hdrop : l.drop k = d :: l.drop (k + 1) := by
   rw [q1p hlt]
   rw [List.getElem?_eq_getElem hlt] at hd
   injection hd with hd
   rw [hd]
  obtain ⟨x, t, n, z⟩ := d
  have c0 : leI (lenI l) (k : Int) = false := decide_eq_false (by unfold lenI; omega)
  have hat := q06 hd
  by_cases hz : 0 ≤ z ∧ z ≤ (l.length : Int)
  ·have c1 : ltI z 0 = false := decide_eq_false (by omega)
   have c2 : ltI (lenI l) z = false := decide_eq_false (by unfold lenI; omega)
   have e1 : subI .i64 z 1 = z - 1 := q2o (by omega) (by omega)
   have e2 : addI .i64 ((c + 1 : Nat) : Int) (z - 1) = ((c + z.toNat : Nat) : Int) := by rw [q9u (by omega) (by omega)]; omega
   have e3 := add1 (show k ≤ 1000000000 by omega)
   have step : l1_ep (⟨b, l⟩, (k : Int), ((c + 1 : Nat) : Int), ()) = if 0 < c + z.toNat then some (.inl (⟨b, l⟩, ((k + 1 : Nat) : Int), ((c + z.toNat : Nat) : Int), ())) else some (.inr (((k + 1 : Nat) : Int), ())) := by
    unfold l1_ep
    simp only [c0, q01, q00, hat, c1, c2, e1, e2, e3]
    rw [q0n]
    by_cases h : 0 < c + z.toNat
    ·rw [if_pos h, if_pos (by omega)]
    ·rw [if_neg h, if_neg (by omega)]
   have he : endZ l k (c + 1) = (skip l.length (l.drop (k + 1)) (c + z.toNat)).elim (-1) fun r => (l.length : Int) - (r.length : Int) := by
    unfold endZ
    rw [hdrop, q3u]
    rw [if_pos (show 0 ≤ (x, t, n, z).2.2.2 ∧ (x, t, n, z).2.2.2 ≤ (l.length : Int) from hz)]
   rw [he]
   by_cases h : 0 < c + z.toNat
   ·rw [if_pos h] at step
    rw [q0e step]
    obtain ⟨c', hc'⟩ : ∃ c', c + z.toNat = c' + 1 := ⟨c + z.toNat - 1, by omega⟩
    rw [hc']
    exact ih (k + 1) c' (by omega) (by omega)
   ·rw [if_neg h] at step
    rw [q0a step]
    have h0 : c + z.toNat = 0 := by omega
    rw [h0, q5u]
    show some (((k + 1 : Nat) : Int), ()) = some ((l.length : Int) - ((l.drop (k + 1)).length : Int), ())
    rw [List.length_drop]
    congr 2
    omega
  ·have he : endZ l k (c + 1) = -1 := by
    unfold endZ
    rw [hdrop, q3u]
    rw [if_neg (show ¬ (0 ≤ (x, t, n, z).2.2.2 ∧ (x, t, n, z).2.2.2 ≤ (l.length : Int)) from hz)]
    rfl
   rw [he]
   refine q0a ?_
   unfold l1_ep
   simp only [c0, q01, q00, hat]
   cases h1 : ltI z 0 with
   | true => simp only [q03, q00]
   | false =>
    have c2 : ltI (lenI l) z = true := by
     have := of_decide_eq_false h1
     exact decide_eq_true (by unfold lenI; omega)
    simp only [q01, q00, c2, q03]
theorem q7v (b : Bool) (l : List ND) (hl : l.length ≤ 10000) (k : Nat) : f_ep (⟨b, l⟩, (k : Int), ()) = some (endZ l k 1, ()) := by
 rw [u_ep]
 have c0 : ltI (k : Int) 0 = false := decide_eq_false (by omega)
 rw [c0, q01]
 by_cases h : k ≤ l.length
 ·exact qun b l hl (l.length - k) k 0 (by omega) (by omega)
 ·have he : endZ l k 1 = -1 := by
   unfold endZ
   rw [List.drop_eq_nil_of_le (by omega)]
   rfl
  rw [he]
  refine q0a ?_
  unfold l1_ep
  have c0 : leI (lenI l) (k : Int) = true := decide_eq_true (by unfold lenI; omega)
  simp only [c0, q03, q00]
theorem qup {l : List ND} {k c : Nat} (h : skip l.length (l.drop k) c = none) : endZ l k c = -1 := by unfold endZ; rw [h]; rfl
theorem qyp (b : Bool) (l : List ND) (hl : l.length ≤ 10000) : ∀ (N m k : Nat), l.length - k < N → l.length - k = m →
  recN g_bx N (⟨b, l⟩, (k : Int), ()) = some (endZ l k 1, ()) := by
 intro N
 induction N with
 | zero => intro m k h; exact absurd h (Nat.not_lt_zero _)
 | succ N ih =>
  intro m k hN hm
  show g_bx (recN g_bx N) _ = _
  rw [u_bx]
  have c0 : ltI (k : Int) 0 = false := decide_eq_false (by omega)
  simp only [c0, q01]
  by_cases hlt : k < l.length
  ·obtain ⟨d, hd⟩ : ∃ d, l[k]? = some d := ⟨_, List.getElem?_eq_getElem hlt⟩
   have hdrop : l.drop k = d :: l.drop (k + 1) := by
    rw [q1p hlt]
    rw [List.getElem?_eq_getElem hlt] at hd
    injection hd with hd
    rw [hd]
   obtain ⟨x, t, n, z⟩ := d
   have c0 : leI (lenI l) (k : Int) = false := decide_eq_false (by unfold lenI; omega)
   have hat := q06 hd
   by_cases hz : 0 ≤ z ∧ z ≤ (l.length : Int)
   ·have c1 : ltI z 0 = false := decide_eq_false (by omega)
    have c2 : ltI (lenI l) z = false := decide_eq_false (by unfold lenI; omega)
    have e3 := add1 (show k ≤ 1000000000 by omega)
    simp only [c0, q01, q00, hat, c1, c2, e3]
    have he : endZ l k 1 = (skip l.length (l.drop (k + 1)) z.toNat).elim (-1) fun r => (l.length : Int) - (r.length : Int) := by
     unfold endZ
     rw [hdrop, q3u]
     rw [if_pos (show 0 ≤ (x, t, n, z).2.2.2 ∧ (x, t, n, z).2.2.2 ≤ (l.length : Int) from hz), Nat.zero_add]
    rw [he]
    have loop : ∀ (j i q : Nat), (i : Int) + j = z → k < q → q ≤ l.length →
      loopR (l1_bx (recN g_bx N)) (⟨b, l⟩, (k : Int), (q : Int), (i : Int), ()) = some ((skip l.length (l.drop q) j).elim (-1) fun r => (l.length : Int) - (r.length : Int), ()) := by
     intro j
     induction j with
     | zero =>
      intro i q h1 h2 h3
      refine q0a ?_
      unfold l1_bx
      simp only [hat, q00]
      rw [q0n, if_neg (by omega), q5u]
      show _ = some (Sum.inr ((l.length : Int) - ((l.drop q).length : Int), ()))
      rw [List.length_drop]
      congr 3
      omega
     | succ j ihj =>
      intro i q h1 h2 h3
      have hi := ih (l.length - q) q (by omega) rfl
      have e : j + 1 = 1 + j := by omega
      rw [e, qmw]
      have step : l1_bx (recN g_bx N) (⟨b, l⟩, (k : Int), (q : Int), (i : Int), ()) = if endZ l q 1 < 0 then some (.inr (-1, ())) else some (.inl (⟨b, l⟩, (k : Int), endZ l q 1, ((i + 1 : Nat) : Int), ())) := by
       unfold l1_bx
       simp only [hat, q00]
       rw [q0n, if_pos (by omega)]
       simp only [hi, q00, add1 (show i ≤ 1000000000 by omega)]
       rw [q0n]
      cases hs : skip l.length (l.drop q) 1 with
      | none =>
       rw [qup hs, if_pos (by decide)] at step
       rw [q0a step]
       rfl
      | some r =>
       obtain ⟨s1, s2, s3⟩ := qum _ hs
       rw [List.length_drop] at s1 s2 s3
       have hez : endZ l q 1 = ((l.length - r.length : Nat) : Int) := by
        unfold endZ
        rw [hs]
        show (l.length : Int) - (r.length : Int) = _
        omega
       rw [hez, if_neg (by omega)] at step
       rw [q0e step, ihj (i + 1) (l.length - r.length) (by omega) (by omega) (by omega)]
       show _ = some ((skip l.length r j).elim _ _, ())
       have : r = l.drop (l.length - r.length) := by
        rw [List.drop_drop] at s3
        rw [show l.length - r.length = q + (l.length - q - r.length) by omega]
        exact s3
       rw [← this]
    exact loop z.toNat 0 (k + 1) (by omega) (by omega) (by omega)
   ·have he : endZ l k 1 = -1 := by
     unfold endZ
     rw [hdrop, q3u]
     rw [if_neg (show ¬ (0 ≤ (x, t, n, z).2.2.2 ∧ (x, t, n, z).2.2.2 ≤ (l.length : Int)) from hz)]
     rfl
    rw [he]
    simp only [c0, q01, q00, hat]
    cases h1 : ltI z 0 with
    | true => simp only [q03, q00]
    | false =>
     have c2 : ltI (lenI l) z = true := by
      have := of_decide_eq_false h1
      exact decide_eq_true (by unfold lenI; omega)
     simp only [q01, q00, c2, q03]
  ·have he : endZ l k 1 = -1 := by
    unfold endZ
    rw [List.drop_eq_nil_of_le (by omega)]
    rfl
   have c0 : leI (lenI l) (k : Int) = true := decide_eq_true (by unfold lenI; omega)
   rw [he]
   simp only [c0, q03, q00]
theorem qa3 (b : Bool) (l : List ND) (hl : l.length ≤ 10000) (k : Nat) : f_bx (⟨b, l⟩, (k : Int), ()) = some (endZ l k 1, ()) :=
 q3z (l.length - k + 1) fun N hN => qyp b l hl N (l.length - k) k (by omega) rfl
def q3v (l : List ND) : Bool := decide (0 < l.length) && decide (endZ l 0 1 = (l.length : Int))
theorem q5v (b : Bool) (l : List ND) (hl : l.length ≤ 10000) : f_et (⟨b, l⟩, ()) = some (q3v l, ()) := by
 rw [u_et]
 have := q7v b l hl 0
 have h0 : ((0 : Nat) : Int) = 0 := rfl
 rw [h0] at this
 simp only [this, q00, q7b]
 unfold q3v ltI eqI lenI
 have e1 : decide ((0 : Int) < (l.length : Int)) = decide (0 < l.length) := decide_eq_decide.2 (by omega)
 rw [e1]
 rfl
theorem q6i (b : Bool) (l : List ND) (hl : l.length ≤ 10000) : f_c2 (⟨b, l⟩, ()) = some (q3v l, ()) := by
 rw [u_c2]
 have := qa3 b l hl 0
 have h0 : ((0 : Nat) : Int) = 0 := rfl
 rw [h0] at this
 simp only [this, q00, q7b]
 unfold q3v ltI eqI lenI
 have e1 : decide ((0 : Int) < (l.length : Int)) = decide (0 < l.length) := decide_eq_decide.2 (by omega)
 rw [e1]
 rfl
theorem q31 (l : List ND) : q3v l = true ↔ ∃ k t n ks, l = (tr k t n ks).flat := by
 unfold q3v endZ
 rw [Bool.and_eq_true, decide_eq_true_eq, decide_eq_true_eq, List.drop_zero]
 constructor
 ·rintro ⟨h1, h2⟩
  cases hs : skip l.length l 1 with
  | none => rw [hs] at h2; have h2 : (-1 : Int) = l.length := h2; omega
  | some r =>
   rw [hs] at h2
   have h2 : (l.length : Int) - (r.length : Int) = l.length := h2
   have hr : r = [] := List.length_eq_zero_iff.1 (by omega)
   subst hr
   obtain ⟨f, h3, h4⟩ := qb1 _ _ _ _ hs
   cases f with
   | nil => cases h3
   | cons k t n ks r =>
    cases r with
    | nil => exact ⟨k, t, n, ks, by rw [h4, List.append_nil]⟩
    | cons _ _ _ _ _ => have h3 : _ + 1 + 1 = 1 := h3; omega
 ·rintro ⟨k, t, n, ks, rfl⟩
  have hlen := (tr k t n ks).len
  refine ⟨by rw [hlen, q6h]; omega, ?_⟩
  have := qa2 (tr k t n ks).flat.length (tr k t n ks) 0 [] (by omega)
  rw [List.append_nil, q5u] at this
  have e : (tr k t n ks).cnt + 0 = 1 := rfl
  rw [e] at this
  rw [this]
  show ((tr k t n ks).flat.length : Int) - ((0 : Nat) : Int) = _
  omega
end Fn
end Ev

namespace Ev
open Go
namespace Fn
def Sits (l : List ND) (k : Nat) (f : F) : Prop := ∃ post, l.drop k = f.flat ++ post
theorem Sits.node {l : List ND} {k : Nat} {x : Int} {t : List Int} {n : Int} {ks r : F} (h : Sits l k (.cons x t n ks r)) :
  l[k]? = some (x, t, n, (ks.cnt : Int)) ∧ Sits l (k + 1) ks ∧ Sits l (k + 1 + ks.size) r ∧ k + 1 + ks.size + r.size ≤ l.length := by
 obtain ⟨post, h⟩ := h
 have h : l.drop k = (x, t, n, (ks.cnt : Int)) :: ((ks.flat ++ r.flat) ++ post) := h
 have h1 : l[k]? = some (x, t, n, (ks.cnt : Int)) := by
  rw [← List.head?_drop, h]; rfl
 have h2 : l.drop (k + 1) = (ks.flat ++ r.flat) ++ post := by
  rw [← List.drop_drop, h]; rfl
 refine ⟨h1, ⟨r.flat ++ post, by rw [h2, List.append_assoc]⟩, ⟨post, ?_⟩, ?_⟩
 ·rw [← List.drop_drop, h2, ← ks.len, List.append_assoc, List.drop_left']
  rfl
 ·have := congrArg List.length h2
  rw [List.length_drop, List.length_append, List.length_append, ks.len, r.len] at this
  have hlt : k < l.length := (List.getElem?_eq_some_iff.1 h1).1
  omega
theorem Sits.le {l : List ND} {k : Nat} {f : F} (h : Sits l k f) (hk : k ≤ l.length) : k + f.size ≤ l.length := by
 cases f with
 | nil => exact hk
 | cons x t n ks r => have := h.node.2.2.2; show k + (ks.size + r.size + 1) ≤ _; omega
theorem Sits.first {l : List ND} {k : Nat} {x : Int} {t : List Int} {n : Int} {ks r : F} (h : Sits l k (.cons x t n ks r)) : Sits l k (tr x t n ks) := by
 obtain ⟨post, h⟩ := h
 refine ⟨r.flat ++ post, ?_⟩
 rw [h, q6g]
 show _ :: (ks.flat ++ r.flat) ++ post = _
 rw [List.cons_append, List.cons_append, List.append_assoc]
theorem Sits.ends {l : List ND} {k : Nat} {x : Int} {t : List Int} {n : Int} {ks r : F} (h : Sits l k (.cons x t n ks r)) : endZ l k 1 = ((k + 1 + ks.size : Nat) : Int) := by
 obtain ⟨g1, g2, g3, g4⟩ := h.node
 obtain ⟨post, h⟩ := h.first
 unfold endZ
 have e : (tr x t n ks).cnt + 0 = 1 := rfl
 have hs := qa2 l.length (tr x t n ks) 0 post (by rw [q6h]; omega)
 rw [e, q5u] at hs
 rw [h, hs]
 show (l.length : Int) - (post.length : Int) = _
 have := congrArg List.length h
 rw [List.length_drop, List.length_append, (tr x t n ks).len, q6h] at this
 omega
def F.pos : Nat → F → List Int
 | _, .nil => []
 | k, .cons _ _ _ ks r => (k : Int) :: r.pos (k + 1 + ks.size)
theorem F.pos_len : ∀ (f : F) (k : Nat), (f.pos k).length = f.cnt
 | .nil, _ => rfl
 | .cons _ _ _ ks r, k => by
  show (_ :: r.pos _).length = r.cnt + 1
  rw [List.length_cons, r.pos_len]
def F.Each (P : Nat → Int → List Int → Int → F → Prop) : Nat → F → Prop
 | _, .nil => True
 | k, .cons x t n ks r => P k x t n ks ∧ r.Each P (k + 1 + ks.size)
theorem F.each_of {l : List ND} {P : Nat → Int → List Int → Int → F → Prop}
  (h : ∀ k x t n ks, Sits l k (tr x t n ks) → ks.Each P (k + 1) → P k x t n ks) : ∀ (f : F) (k : Nat), Sits l k f → f.Each P k
 | .nil, _, _ => trivial
 | .cons x t n ks r, k, hs => ⟨h k x t n ks hs.first (F.each_of h ks (k + 1) hs.node.2.1), F.each_of h r _ hs.node.2.2.1⟩
theorem F.each_one {l : List ND} {P : Nat → Int → List Int → Int → F → Prop}
  (h : ∀ k x t n ks, Sits l k (tr x t n ks) → ks.Each P (k + 1) → P k x t n ks) {k : Nat} {x : Int} {t : List Int} {n : Int} {ks : F} (hs : Sits l k (tr x t n ks)) : P k x t n ks :=
 (F.each_of h (tr x t n ks) k hs).1
theorem q0u {a b : Nat} (h : a + b ≤ 2000000) : fit (sumI (a : Int) (b : Int)) = some () := qro (by show (a : Int) + (b : Int) ≤ _; omega)
theorem q7w (x : Bool) : andB false x = false := id (Eq.refl false)
theorem q1z {α : Type} (b : Bool) (x : α) : andB b (isE [x]) = false := by cases b <;> rfl
theorem q32 (b : Bool) (l : List ND) (hl : l.length ≤ 10000) {k : Nat} {x : Int} {t : List Int} {n : Int} {ks r : F} (h : Sits l k (.cons x t n ks r)) :
  f_by (⟨b, l⟩, (k : Int), ()) = some (⟨false, ks.pos (k + 1)⟩, ()) := by
 obtain ⟨g1, g2, g3, g4⟩ := h.node
 have hat := q06 g1
 rw [u_by, qa3 b l hl, h.ends]
 simp only [q00]
 rw [q0n, if_neg (by omega), add1 (by omega)]
 have loop : ∀ (g : F) (q i : Nat) (out : List Int), Sits l q g → out.length = i → i + g.cnt = ks.cnt → q ≤ l.length →
   loopR l1_by (⟨b, l⟩, (k : Int), (q : Int), (i : Int), ⟨false, out⟩, ()) = some (⟨false, out ++ g.pos q⟩, ()) := by
  intro g
  induction g with
  | nil =>
   intro q i out hs ho hi hq
   have hi : i + 0 = ks.cnt := hi
   refine q0a ?_
   unfold l1_by
   simp only [hat, q00]
   rw [q0n, if_neg (by omega)]
   show _ = some (Sum.inr ((⟨false, out ++ []⟩ : Sl Int), ()))
   rw [List.append_nil]
  | cons x' t' n' ks' r' _ ih =>
   intro q i out hs ho hi hq
   have hi : i + (r'.cnt + 1) = ks.cnt := hi
   have hc := ks.cnt_le
   have s4 := hs.node
   have step : l1_by (⟨b, l⟩, (k : Int), (q : Int), (i : Int), ⟨false, out⟩, ()) = some (.inl (⟨b, l⟩, (k : Int), ((q + 1 + ks'.size : Nat) : Int), ((i + 1 : Nat) : Int), ⟨false, out ++ [(q : Int)]⟩, ())) := by
    unfold l1_by
    simp only [hat, q00]
    rw [q0n, if_pos (by omega)]
    have hf : fit (sumI (lenI out) (lenI [(q : Int)])) = some () := q0u (by show out.length + 1 ≤ _; omega)
    rw [hf, q00, qa3 b l hl, q00, hs.ends, add1 (by omega), q1z]
    rfl
   rw [q0e step, ih _ _ _ s4.2.2.1 (by rw [List.length_append, ho]; rfl) (by omega) (by omega), List.append_assoc]
   rfl
 have := loop ks (k + 1) 0 [] g2 rfl (by omega) (by omega)
 exact this
theorem qj0 (b : Bool) (l : List ND) (hl : l.length ≤ 10000) {k : Nat} {x : Int} {t : List Int} {n : Int} {ks r : F} (h : Sits l k (.cons x t n ks r)) :
  ∃ nb, f_eq (⟨b, l⟩, (k : Int), ()) = some (⟨nb, ks.pos (k + 1)⟩, ()) := by
 obtain ⟨g1, g2, g3, g4⟩ := h.node
 have hat := q06 g1
 rw [u_eq, q7v b l hl, h.ends]
 simp only [q00, hat]
 rw [q0n, if_neg (by omega), add1 (by omega)]
 have hc := ks.cnt_le
 have loop : ∀ (g : F) (q i : Nat) (nb : Bool) (out : List Int), Sits l q g → out.length = i → i + g.cnt = ks.cnt → q ≤ l.length →
   ∃ nb', loopR l1_eq (⟨b, l⟩, (q : Int), (ks.cnt : Int), ⟨nb, out⟩, ()) = some (⟨nb', out ++ g.pos q⟩, ()) := by
  intro g
  induction g with
  | nil =>
   intro q i nb out hs ho hi hq
   have hi : i + 0 = ks.cnt := hi
   refine ⟨nb, q0a ?_⟩
   unfold l1_eq
   simp only
   rw [q0n, if_neg (by unfold lenI; omega)]
   show _ = some (Sum.inr ((⟨nb, out ++ []⟩ : Sl Int), ()))
   rw [List.append_nil]
  | cons x' t' n' ks' r' _ ih =>
   intro q i nb out hs ho hi hq
   have hi : i + (r'.cnt + 1) = ks.cnt := hi
   have s4 := hs.node
   have step : l1_eq (⟨b, l⟩, (q : Int), (ks.cnt : Int), ⟨nb, out⟩, ()) = some (.inl (⟨b, l⟩, ((q + 1 + ks'.size : Nat) : Int), (ks.cnt : Int), ⟨false, out ++ [(q : Int)]⟩, ())) := by
    unfold l1_eq
    simp only
    rw [q0n, if_pos (by unfold lenI; omega)]
    have hf : fit (sumI (lenI out) (lenI [(q : Int)])) = some () := q0u (by show out.length + 1 ≤ _; omega)
    rw [hf, q00, q7v b l hl, q00, hs.ends, q1z]
    rfl
   obtain ⟨nb', h'⟩ := ih (q + 1 + ks'.size) (i + 1) false (out ++ [(q : Int)]) s4.2.2.1 (by rw [List.length_append, ho]; rfl) (by omega) (by omega)
   refine ⟨nb', ?_⟩
   rw [q0e step, h', List.append_assoc]
   rfl
 exact loop ks (k + 1) 0 true [] g2 rfl (by omega) (by omega)
theorem quq (a b : Nat) : maxI (a : Int) (b : Int) = ((max a b : Nat) : Int) := by
 unfold maxI
 split <;> omega
theorem qoo (b : Bool) (l : List ND) (hl : l.length ≤ 10000) {k : Nat} {x : Int} {t : List Int} {n : Int} {ks : F} (h : Sits l k (tr x t n ks)) :
  f_bw (⟨b, l⟩, (k : Int), ()) = some (((ks.dep + 1 : Nat) : Int), ()) := by
 refine q3z (ks.size + 1) ?_
 refine F.each_one (l := l) (P := fun k x t n ks => ∀ N, ks.size + 1 ≤ N → recN g_bw N (⟨b, l⟩, (k : Int), ()) = some (((ks.dep + 1 : Nat) : Int), ())) ?_ h
 intro k x t n ks hs he N hN
 obtain ⟨N, rfl⟩ : ∃ m, N = m + 1 := ⟨N - 1, by omega⟩
 show g_bw (recN g_bw N) _ = _
 rw [u_bw, q32 b l hl hs, q00]
 have hsz := hs.node.2.2.2
 have hdl := ks.dep_le
 have loop : ∀ (g : F) (q : Nat) (pre : List Int) (most : Nat), g.Each (fun k x t n ks => ∀ N, ks.size + 1 ≤ N → recN g_bw N (⟨b, l⟩, (k : Int), ()) = some (((ks.dep + 1 : Nat) : Int), ())) q →
   g.size ≤ N → g.size ≤ 10000 → pre ++ g.pos q = ks.pos (k + 1) → most ≤ 100000 →
   loopR (l1_bw (recN g_bw N)) (⟨b, l⟩, (most : Int), ⟨false, ks.pos (k + 1)⟩, (pre.length : Int), ()) = some (((max most g.dep + 1 : Nat) : Int), ()) := by
  intro g
  induction g with
  | nil =>
   intro q pre most hE hz _ hp hm
   have hp : pre ++ [] = ks.pos (k + 1) := hp
   rw [List.append_nil] at hp
   refine q0a ?_
   unfold l1_bw
   simp only
   rw [q0n, if_neg (by rw [hp]; unfold lenI; omega), add1 (by omega)]
   show _ = some (Sum.inr (((max most 0 + 1 : Nat) : Int), ()))
   rw [Nat.max_zero]
  | cons x' t' n' ks' r' _ ih =>
   intro q pre most hE hz hz2 hp hm
   have hz2 : ks'.size + r'.size + 1 ≤ 10000 := hz2
   have hz : ks'.size + r'.size + 1 ≤ N := hz
   have hp : pre ++ (q : Int) :: r'.pos (q + 1 + ks'.size) = ks.pos (k + 1) := hp
   have hlen : (ks.pos (k + 1)).length = ks.cnt := ks.pos_len _
   have hpl := congrArg List.length hp
   rw [List.length_append, List.length_cons, hlen] at hpl
   have hc := ks.cnt_le
   have hget : (ks.pos (k + 1))[pre.length]? = some (q : Int) := by rw [← hp]; simp
   have hd' := ks'.dep_le
   have step : l1_bw (recN g_bw N) (⟨b, l⟩, (most : Int), ⟨false, ks.pos (k + 1)⟩, (pre.length : Int), ()) = some (.inl (⟨b, l⟩, ((max most (ks'.dep + 1) : Nat) : Int), ⟨false, ks.pos (k + 1)⟩, ((pre.length + 1 : Nat) : Int), ())) := by
    unfold l1_bw
    simp only
    rw [q0n, if_pos (by unfold lenI; rw [hlen]; omega), q06 hget, q00, hE.1 N (by omega), q00, q0n]
    have ea := add1 (show pre.length ≤ 1000000000 by omega)
    by_cases hlt : (most : Int) < ((ks'.dep + 1 : Nat) : Int)
    ·rw [if_pos hlt, q00, ea]
     have : max most (ks'.dep + 1) = ks'.dep + 1 := by omega
     rw [this]
    ·rw [if_neg hlt, q00, ea]
     have : max most (ks'.dep + 1) = most := by omega
     rw [this]
   have hi := ih (q + 1 + ks'.size) (pre ++ [(q : Int)]) (max most (ks'.dep + 1)) hE.2 (by omega) (by omega) (by rw [List.append_assoc]; exact hp) (by omega)
   rw [List.length_append] at hi
   have hi : loopR (l1_bw (recN g_bw N)) (⟨b, l⟩, ((max most (ks'.dep + 1) : Nat) : Int), ⟨false, ks.pos (k + 1)⟩, ((pre.length + 1 : Nat) : Int), ()) = _ := hi
   rw [q0e step, hi]
   show some (((max (max most (ks'.dep + 1)) r'.dep + 1 : Nat) : Int), ()) = some (((max most (max (ks'.dep + 1) r'.dep) + 1 : Nat) : Int), ())
   rw [Nat.max_assoc]
 have := loop ks (k + 1) [] 0 he (by omega) (by omega) rfl (by omega)
 rw [Nat.zero_max] at this
 exact this
def qea : Nat → List Nat → List Nat
 | c + 1, s => (c + 1) :: s
 | 0, [] => []
 | 0, c :: s => qea (c - 1) s
def toI (s : List Nat) : List Int := s.reverse.map fun (c : Nat) => (c : Int)
theorem q1n (s : List Nat) : (toI s).length = s.length := by unfold toI; rw [List.length_map, List.length_reverse]
theorem q49 (c : Nat) (s : List Nat) : toI (c :: s) = toI s ++ [(c : Int)] := by unfold toI; rw [List.reverse_cons, List.map_append]; rfl
theorem qdo (c : Nat) (s : List Nat) : qea (c + 1) s = (c + 1) :: s := by cases s <;> rfl
theorem pops (b : Bool) (l : List ND) (most ln k : Int) (hk : 0 ≤ k ∧ k ≤ 1000000) (nb : Bool) : ∀ (s : List Nat) (c : Nat), (∀ x, x ∈ s → 1 ≤ x ∧ x ≤ 1000000) → c ≤ 1000000 → s.length ≤ 1000000 →
  loopR l1_eo (most, ⟨b, l⟩, ln, k, ⟨nb, toI (c :: s)⟩, ()) = some (.inl (most, ⟨b, l⟩, ln, k + 1, ⟨nb, toI (qea c s)⟩, ())) := by
 have hk1 : addI .i64 k 1 = k + 1 := q9u (by omega) (by omega)
 have done : ∀ (s : List Nat) (c : Nat), c + 1 ≤ 1000000 → s.length ≤ 1000000 → loopR l1_eo (most, ⟨b, l⟩, ln, k, ⟨nb, toI ((c + 1) :: s)⟩, ()) = some (.inl (most, ⟨b, l⟩, ln, k + 1, ⟨nb, toI ((c + 1) :: s)⟩, ())) := by
  intro s c hc hs
  refine q0a ?_
  have e1 : subI .i64 (lenI (toI ((c + 1) :: s))) 1 = (s.length : Int) := by unfold lenI; rw [q1n, List.length_cons, q2o (by omega) (by omega)]; omega
  have hg : nth (toI ((c + 1) :: s)) s.length = some ((c + 1 : Nat) : Int) := by
   rw [q49]; unfold nth; rw [List.getElem?_append_right (by rw [q1n]; exact Nat.le_refl _), q1n, Nat.sub_self]; rfl
  have c0 : ltI 0 (lenI (toI ((c + 1) :: s))) = true := decide_eq_true (by unfold lenI; rw [q1n, List.length_cons]; omega)
  have c1 : eqI ((c + 1 : Nat) : Int) 0 = false := by cases h : eqI ((c + 1 : Nat) : Int) 0 with
   | false => rfl
   | true => have := eqI_eq.1 h; omega
  unfold l1_eo
  simp only [c0, q03, e1, q2p (show s.length < (toI ((c + 1) :: s)).length by rw [q1n, List.length_cons]; omega), q00, hg, c1, q01, hk1]
 have nils : loopR l1_eo (most, ⟨b, l⟩, ln, k, ⟨nb, toI []⟩, ()) = some (.inl (most, ⟨b, l⟩, ln, k + 1, ⟨nb, toI []⟩, ())) := by
  refine q0a ?_
  have c0 : ltI 0 (lenI (toI [])) = false := rfl
  unfold l1_eo
  simp only [c0, q01, q00, hk1]
 have step : ∀ (s : List Nat) (X : List Int) , s.length ≤ 1000000 → (s = [] ∧ X = [] ∨ ∃ c r, s = c :: r ∧ 1 ≤ c ∧ c ≤ 1000000 ∧ X = toI ((c - 1) :: r)) →
   l1_eo (most, ⟨b, l⟩, ln, k, ⟨nb, toI (0 :: s)⟩, ()) = some (.inl (most, ⟨b, l⟩, ln, k, ⟨nb, X⟩, ())) := by
  intro s X hs hX
  have e1 : subI .i64 (lenI (toI (0 :: s))) 1 = (s.length : Int) := by unfold lenI; rw [q1n, List.length_cons, q2o (by omega) (by omega)]; omega
  have hg : nth (toI (0 :: s)) s.length = some 0 := by
   rw [q49]; unfold nth; rw [List.getElem?_append_right (by rw [q1n]; exact Nat.le_refl _), q1n, Nat.sub_self]; rfl
  have c0 : ltI 0 (lenI (toI (0 :: s))) = true := decide_eq_true (by unfold lenI; rw [q1n, List.length_cons]; omega)
  have c1 : eqI 0 0 = true := rfl
  have hcut : cutN (lenI (toI (0 :: s))) (s.length : Int) = some s.length := by
   unfold cutN lenI
   rw [if_pos (by rw [q1n, List.length_cons]; omega), Int.toNat_natCast]
  have htk : takeL (toI (0 :: s)) s.length = toI s := by
   unfold takeL
   rw [q49, List.take_left' (q1n s)]
  unfold l1_eo
  simp only [c0, q03, e1, q2p (show s.length < (toI (0 :: s)).length by rw [q1n, List.length_cons]; omega), q00, hg, c1, hcut, htk]
  rcases hX with ⟨rfl, rfl⟩ | ⟨c, r, rfl, h1, h2, rfl⟩
  ·have c2 : ltI 0 (lenI (toI [])) = false := rfl
   simp only [c2, q01, q00]
   rfl
  ·have hs : r.length + 1 ≤ 1000000 := hs
   have c2 : ltI 0 (lenI (toI (c :: r))) = true := decide_eq_true (by unfold lenI; rw [q1n, List.length_cons]; omega)
   have e2 : subI .i64 (lenI (toI (c :: r))) 1 = (r.length : Int) := by unfold lenI; rw [q1n, List.length_cons, q2o (by omega) (by omega)]; omega
   have hg2 : nth (toI (0 :: c :: r)) r.length = some (c : Int) := by
    rw [q49, q49]; unfold nth
    rw [List.append_assoc, List.getElem?_append_right (by rw [q1n]; exact Nat.le_refl _), q1n, Nat.sub_self]; rfl
   have hset : takeL (setL (toI (0 :: c :: r)) r.length ((c : Int) - 1)) (c :: r).length = toI ((c - 1) :: r) := by
    unfold takeL setL
    rw [q49, q49, q49, List.append_assoc, List.set_append_right _ _ (by rw [q1n]; exact Nat.le_refl _), q1n, Nat.sub_self]
    show List.take (r.length + 1) (toI r ++ ([(c : Int) - 1] ++ [((0 : Nat) : Int)])) = _
    rw [← List.append_assoc, List.take_left' (by rw [List.length_append, q1n]; rfl)]
    congr 2
    omega
   have e3 : subI .i64 (c : Int) 1 = (c : Int) - 1 := q2o (by omega) (by omega)
   simp only [c2, q03, e2, q2p (show r.length < (toI (c :: r)).length by rw [q1n, List.length_cons]; omega), q00, hg2, e3, hset]
 intro s
 induction s with
 | nil =>
  intro c _ hc _
  cases c with
  | zero => rw [q0e (step [] [] (by decide) (.inl ⟨rfl, rfl⟩))]; exact nils
  | succ c => rw [qdo]; exact done [] c hc (by decide)
 | cons d s ih =>
  intro c hx hc hs
  have hd := hx d (List.mem_cons_self ..)
  have hs : s.length + 1 ≤ 1000000 := hs
  cases c with
  | zero =>
   rw [q0e (step (d :: s) (toI ((d - 1) :: s)) hs (.inr ⟨d, s, rfl, hd.1, hd.2, rfl⟩))]
   exact ih (d - 1) (fun x h => hx x (List.mem_cons_of_mem _ h)) (by omega) (by omega)
  | succ c => rw [qdo]; exact done (d :: s) c hc hs
theorem qur (b : Bool) (l : List ND) (hl : l.length ≤ 10000) : ∀ (f : F) (q : Nat) (s : List Nat) (most : Nat) (nb : Bool), Sits l q f → q ≤ l.length → (∀ x, x ∈ s → 1 ≤ x ∧ x ≤ 1000000) → s.length ≤ q → most ≤ 100000 →
  ∃ nb', loopR l2_eo ((most : Int), ⟨b, l⟩, (l.length : Int), (q : Int), ⟨nb, toI (qea f.cnt s)⟩, ()) =
   loopR l2_eo (((max most (if f.cnt = 0 then 0 else s.length + 1 + f.dep) : Nat) : Int), ⟨b, l⟩, (l.length : Int), ((q + f.size : Nat) : Int), ⟨nb', toI (qea 0 s)⟩, ()) := by
 intro f
 induction f with
 | nil =>
  intro q s most nb _ _ _ _ _
  refine ⟨nb, ?_⟩
  show _ = loopR l2_eo (((max most 0 : Nat) : Int), _, _, ((q + 0 : Nat) : Int), _, ())
  rw [Nat.max_zero, Nat.add_zero]
  rfl
 | cons x t n ks r ih1 ih2 =>
  intro q s most nb hs hq hx hsl hm
  obtain ⟨g1, g2, g3, g4⟩ := hs.node
  have hc := ks.cnt_le
  have hrc := r.cnt_le
  have hdk := ks.dep_le
  have hdr := r.dep_le
  have e0 : qea (F.cons x t n ks r).cnt s = (r.cnt + 1) :: s := qdo r.cnt s
  rw [e0]
  have hf : fit (sumI (lenI (toI ((r.cnt + 1) :: s))) (lenI [(ks.cnt : Int)])) = some () := q0u (by rw [q1n, List.length_cons, List.length_singleton]; omega)
  have hx1 : ∀ y, y ∈ (r.cnt + 1) :: s → 1 ≤ y ∧ y ≤ 1000000 := by
   intro y hy
   rcases List.mem_cons.1 hy with rfl | hy
   ·omega
   ·exact hx y hy
  have hp := pops b l ((max most (s.length + 2) : Nat) : Int) (l.length : Int) (q : Int) (by omega) false ((r.cnt + 1) :: s) ks.cnt hx1 (by omega) (by rw [List.length_cons]; omega)
  have step : l2_eo ((most : Int), ⟨b, l⟩, (l.length : Int), (q : Int), ⟨nb, toI ((r.cnt + 1) :: s)⟩, ()) =
    some (.inl (((max most (s.length + 2) : Nat) : Int), ⟨b, l⟩, (l.length : Int), ((q + 1 : Nat) : Int), ⟨false, toI (qea ks.cnt ((r.cnt + 1) :: s))⟩, ())) := by
   unfold l2_eo
   simp only
   rw [q0n, if_pos (by omega), q06 g1, q00]
   simp only [hf, q00, q1z]
   have e1 : maxI (most : Int) (addI .i64 (lenI (toI ((r.cnt + 1) :: s))) 1) = ((max most (s.length + 2) : Nat) : Int) := by
    unfold lenI
    rw [q1n, List.length_cons, add1 (by omega), quq]
   have e2 : app (toI ((r.cnt + 1) :: s)) [(ks.cnt : Int)] = toI (ks.cnt :: (r.cnt + 1) :: s) := (q49 _ _).symm
   rw [e1, e2, hp]
   rfl
  rw [q0e step]
  obtain ⟨nb1, h1⟩ := ih1 (q + 1) ((r.cnt + 1) :: s) (max most (s.length + 2)) false g2 (by omega) hx1 (by rw [List.length_cons]; omega) (by omega)
  rw [h1]
  have e3 : qea 0 ((r.cnt + 1) :: s) = qea r.cnt s := rfl
  rw [e3]
  have hmid : max (max most (s.length + 2)) (if ks.cnt = 0 then 0 else ((r.cnt + 1) :: s).length + 1 + ks.dep) = max most (s.length + 1 + (ks.dep + 1)) := by
   rw [List.length_cons]
   by_cases h0 : ks.cnt = 0
   ·rw [if_pos h0]
    have : ks.dep = 0 := by
     cases ks with
     | nil => rfl
     | cons _ _ _ _ r => exact absurd h0 (Nat.succ_ne_zero _)
    omega
   ·rw [if_neg h0]; omega
  rw [hmid]
  obtain ⟨nb2, h2⟩ := ih2 (q + 1 + ks.size) s (max most (s.length + 1 + (ks.dep + 1))) nb1 g3 (by omega) hx (by omega) (by omega)
  refine ⟨nb2, ?_⟩
  rw [h2]
  have e4 : q + 1 + ks.size + r.size = q + (F.cons x t n ks r).size := by show _ = q + (ks.size + r.size + 1); omega
  rw [e4]
  have e5 : max (max most (s.length + 1 + (ks.dep + 1))) (if r.cnt = 0 then 0 else s.length + 1 + r.dep) = max most (if (F.cons x t n ks r).cnt = 0 then 0 else s.length + 1 + (F.cons x t n ks r).dep) := by
   have h9 : (F.cons x t n ks r).cnt ≠ 0 := Nat.succ_ne_zero _
   rw [if_neg h9]
   show _ = max most (s.length + 1 + max (ks.dep + 1) r.dep)
   by_cases h0 : r.cnt = 0
   ·rw [if_pos h0]
    have : r.dep = 0 := by
     cases r with
     | nil => rfl
     | cons _ _ _ _ r => exact absurd h0 (Nat.succ_ne_zero _)
    omega
   ·rw [if_neg h0]; omega
  rw [e5]
theorem q36 (x : Int) (t : List Int) (n : Int) (ks : F) : Sits (tr x t n ks).flat 0 (tr x t n ks) := ⟨[], by rw [List.append_nil]; rfl⟩
theorem qsd (b : Bool) (x : Int) (t : List Int) (n : Int) (ks : F) (hl : ks.size + 1 ≤ 10000) : f_eo (⟨b, (tr x t n ks).flat⟩, ()) = some (((ks.dep + 1 : Nat) : Int), ()) := by
 have hlen : (tr x t n ks).flat.length = ks.size + 1 := (tr x t n ks).len
 have hs := q36 x t n ks
 obtain ⟨g1, g2, g3, g4⟩ := hs.node
 have hdk := ks.dep_le
 have hc := ks.cnt_le
 rw [u_eo, q5v b _ (by omega), (q31 _).2 ⟨x, t, n, ks, rfl⟩]
 have hn : notB true = false := rfl
 simp only [q00, hn, q01]
 generalize hL : (tr x t n ks).flat = L at *
 have hf : fit (sumI (lenI ([] : List Int)) (lenI [(ks.cnt : Int)])) = some () := q0u (by show 0 + 1 ≤ _; omega)
 have hp := pops b L ((1 : Nat) : Int) (L.length : Int) ((0 : Nat) : Int) (by omega) false [] ks.cnt (fun _ h => by cases h) (by omega) (by decide)
 have step : l2_eo (((0 : Nat) : Int), ⟨b, L⟩, (L.length : Int), ((0 : Nat) : Int), ⟨true, []⟩, ()) =
   some (.inl (((1 : Nat) : Int), ⟨b, L⟩, (L.length : Int), ((0 + 1 : Nat) : Int), ⟨false, toI (qea ks.cnt [])⟩, ())) := by
  unfold l2_eo
  simp only
  rw [q0n, if_pos (by omega), q06 g1, q00]
  simp only [hf, q00, q1z]
  have e1 : maxI ((0 : Nat) : Int) (addI .i64 (lenI ([] : List Int)) 1) = ((1 : Nat) : Int) := rfl
  have e2 : app ([] : List Int) [(ks.cnt : Int)] = toI (ks.cnt :: []) := rfl
  rw [e1, e2, hp]
  rfl
 obtain ⟨nb1, h1⟩ := qur b L (by omega) ks 1 [] 1 false g2 (by omega) (fun _ h => by cases h) (by decide) (by decide)
 have goal1 : loopR l2_eo (0, ⟨b, L⟩, lenI L, 0, ⟨true, []⟩, ()) = _ := q0e step
 rw [goal1, h1]
 have e6 : max 1 (if ks.cnt = 0 then 0 else ([] : List Nat).length + 1 + ks.dep) = ks.dep + 1 := by
  by_cases h0 : ks.cnt = 0
  ·rw [if_pos h0]
   have : ks.dep = 0 := by
    cases ks with
    | nil => rfl
    | cons _ _ _ _ r => exact absurd h0 (Nat.succ_ne_zero _)
   omega
  ·rw [if_neg h0, List.length_nil]; omega
 rw [e6]
 refine q0a ?_
 unfold l2_eo
 simp only
 rw [q0n, if_neg (by omega)]
end Fn
end Ev

namespace Ev
open Go
namespace Fn
def q40 (n : Int) : Bool := decide (-4611686018427387904 ≤ n ∧ n ≤ 4611686018427387903)
def rng (n : Int) : Prop := -9223372036854775808 ≤ n ∧ n ≤ 9223372036854775807
theorem qj1 (n : Int) : IntKind.i64.wrap n = if n % 18446744073709551616 < 9223372036854775808 then n % 18446744073709551616 else n % 18446744073709551616 - 18446744073709551616 := by
 unfold IntKind.wrap
 show (if (true && decide (n % 18446744073709551616 ≥ 9223372036854775808)) = true then _ else _) = _
 rw [Bool.true_and]
 by_cases h : n % 18446744073709551616 < 9223372036854775808
 ·rw [if_pos h, if_neg (by simp; omega)]; rfl
 ·rw [if_neg h, if_pos (by simp; omega)]; rfl
theorem q57 (n : Int) : IntKind.u64.wrap n = n % 18446744073709551616 := by
 unfold IntKind.wrap
 show (if (false && _) = true then _ else _) = _
 rw [Bool.false_and, if_neg (by decide)]
 rfl
theorem qf9 (n : Int) (h : rng n) : ∃ v, f_f0 (n, ()) = some (v, ()) ∧ eqI v n = q40 n := by
 obtain ⟨h1, h2⟩ := h
 rw [u_f0]
 have e1 : shlI .u64 (cvI .u64 n) 1 = some (IntKind.u64.wrap (cvI .u64 n * 2)) := by
  unfold shlI; rw [if_neg (by decide)]; rfl
 simp only [e1, q00]
 have e2 := quh (a := cvI .i64 (IntKind.u64.wrap (cvI .u64 n * 2))) 1 (by decide)
 have e3 : ((1 : Nat) : Int) = 1 := rfl
 rw [e3] at e2
 rw [e2]
 refine ⟨_, rfl, ?_⟩
 unfold cvI
 rw [qj1, q57, q57]
 rw [Bool.eq_iff_iff, eqI_eq]
 unfold q40
 rw [decide_eq_true_eq]
 show (ite _ _ _) / 2 = n ↔ _
 split <;> omega
theorem qfa (n : Int) (h : rng n) : ∃ v, f_bu (n, ()) = some (v, ()) ∧ eqI v n = q40 n := by
 obtain ⟨h1, h2⟩ := h
 have e0 : cvI .u64 n = n % 18446744073709551616 := q57 n
 rw [u_bu, u_bv, e0, q9v (by omega) (by decide)]
 simp only [q00]
 rw [qyn]
 by_cases hb : 4611686018427387904 ≤ n % 18446744073709551616 % 9223372036854775808
 ·rw [if_pos hb]
  refine ⟨_, rfl, ?_⟩
  have e1 : subI .u64 (n % 18446744073709551616 % 9223372036854775808) 4611686018427387904 = n % 18446744073709551616 % 9223372036854775808 - 4611686018427387904 := by
   unfold subI; rw [q57]; omega
  rw [e1, qrn (by omega) (by omega), q2o (by omega) (by omega), Bool.eq_iff_iff, eqI_eq]
  unfold q40
  rw [decide_eq_true_eq]
  omega
 ·rw [if_neg hb]
  refine ⟨_, rfl, ?_⟩
  rw [qrn (by omega) (by omega), Bool.eq_iff_iff, eqI_eq]
  unfold q40
  rw [decide_eq_true_eq]
  omega
def q2j (k : Int) : Int := bif eqI k 1 || eqI k 6 || eqI k 9 || eqI k 10 || eqI k 11 || eqI k 21 || eqI k 23 then 0 else bif eqI k 3 || eqI k 5 || eqI k 7 || eqI k 8 || eqI k 12 || eqI k 22 then 1 else bif eqI k 4 || eqI k 24 then 2 else bif eqI k 2 then 3 else -1
def q3w (k c : Int) : Bool := bif eqI k 5 || eqI k 11 then eqI c 1 else bif eqI k 6 || eqI k 7 || eqI k 8 || eqI k 12 then eqI c 2 else bif eqI k 9 then eqI c 3 else bif eqI k 10 then leI 3 c && eqI (c % 2) 1 else bif eqI k 24 then true else eqI c 0
def q2m (k : Int) : Bool := leI 21 k && leI k 24
def q5f (k : Int) (t : List Int) (hk : Int) : Int := bif eqI k 8 && notB (eqI hk 5) then 61 else bif eqI (q2j k) 1 && notB (nameOk t) then 62 else bif eqI (q2j k) 2 && notB (q27 t) then 62 else 0
def q4x (k : Int) (t : List Int) (hk : Int) : Int := bif eqI (q2j k) 0 then (bif eqS t [] then q5f k t hk else 61) else bif eqI (q2j k) 3 then (bif ltI 200 (lenI t) then 61 else q5f k t hk) else q5f k t hk
def q16 (k : Int) (t : List Int) (n c hk : Int) (pat : Bool) : Int :=
 bif ltI (q2j k) 0 then 61 else bif notB (eqB (q2m k) pat) then 61 else bif notB (q3w k c) then 61 else
 bif eqI k 1 || eqI k 23 then (bif q40 n then q4x k t hk else 61) else (bif eqI n 0 then q4x k t hk else 61)
def qse : List Int := [1, 2, 3, 4, 5, 6, 7, 8, 9, 10, 11, 12, 21, 22, 23, 24]
theorem qb2 {P : Int → Prop} (h1 : P 1) (h2 : P 2) (h3 : P 3) (h4 : P 4) (h5 : P 5) (h6 : P 6) (h7 : P 7) (h8 : P 8) (h9 : P 9) (h10 : P 10) (h11 : P 11) (h12 : P 12) (h21 : P 21) (h22 : P 22) (h23 : P 23) (h24 : P 24) (ho : ∀ a, (∀ c, c ∈ qse → eqI a c = false) → P a) : ∀ a, P a := by
 intro a
 by_cases e1 : a = 1
 ·rw [e1]; exact h1
 by_cases e2 : a = 2
 ·rw [e2]; exact h2
 by_cases e3 : a = 3
 ·rw [e3]; exact h3
 by_cases e4 : a = 4
 ·rw [e4]; exact h4
 by_cases e5 : a = 5
 ·rw [e5]; exact h5
 by_cases e6 : a = 6
 ·rw [e6]; exact h6
 by_cases e7 : a = 7
 ·rw [e7]; exact h7
 by_cases e8 : a = 8
 ·rw [e8]; exact h8
 by_cases e9 : a = 9
 ·rw [e9]; exact h9
 by_cases e10 : a = 10
 ·rw [e10]; exact h10
 by_cases e11 : a = 11
 ·rw [e11]; exact h11
 by_cases e12 : a = 12
 ·rw [e12]; exact h12
 by_cases e21 : a = 21
 ·rw [e21]; exact h21
 by_cases e22 : a = 22
 ·rw [e22]; exact h22
 by_cases e23 : a = 23
 ·rw [e23]; exact h23
 by_cases e24 : a = 24
 ·rw [e24]; exact h24
 refine ho a fun c hc => q1a ?_
 rintro rfl
 simp only [qse, List.mem_cons, List.not_mem_nil, or_false] at hc
 omega
theorem qsf : ∀ a : Int, f_cg (a, ()) = some (q2j a, ()) := by
 refine qb2 (by kernel_rfl) (by kernel_rfl) (by kernel_rfl) (by kernel_rfl) (by kernel_rfl) (by kernel_rfl) (by kernel_rfl) (by kernel_rfl) (by kernel_rfl) (by kernel_rfl) (by kernel_rfl) (by kernel_rfl) (by kernel_rfl) (by kernel_rfl) (by kernel_rfl) (by kernel_rfl) (fun a h => ?_)
 have i1 : eqI a 1 = false := h 1 (by decide)
 have i2 : eqI a 2 = false := h 2 (by decide)
 have i3 : eqI a 3 = false := h 3 (by decide)
 have i4 : eqI a 4 = false := h 4 (by decide)
 have i5 : eqI a 5 = false := h 5 (by decide)
 have i6 : eqI a 6 = false := h 6 (by decide)
 have i7 : eqI a 7 = false := h 7 (by decide)
 have i8 : eqI a 8 = false := h 8 (by decide)
 have i9 : eqI a 9 = false := h 9 (by decide)
 have i10 : eqI a 10 = false := h 10 (by decide)
 have i11 : eqI a 11 = false := h 11 (by decide)
 have i12 : eqI a 12 = false := h 12 (by decide)
 have i21 : eqI a 21 = false := h 21 (by decide)
 have i22 : eqI a 22 = false := h 22 (by decide)
 have i23 : eqI a 23 = false := h 23 (by decide)
 have i24 : eqI a 24 = false := h 24 (by decide)
 rw [u_cg]
 unfold q2j
 simp only [i1, i2, i3, i4, i5, i6, i7, i8, i9, i10, i11, i12, i21, i22, i23, i24, q01, q00]
 rfl
theorem qus (c : Int) (hc : 0 ≤ c) : ∀ a : Int, f_cd (a, c, ()) = some (q3w a c, ()) := by
 have h10 : f_cd (10, c, ()) = some (q3w 10 c, ()) := by
  rw [u_cd]
  show bnd (cnd (leI 3 c) (bnd (remI c 2) fun x4 => some (eqI x4 1)) (some false)) (fun x5 => some (x5, ())) = some (leI 3 c && eqI (c % 2) 1, ())
  rw [q9v hc (by decide)]
  cases leI 3 c <;> rfl
 refine qb2 (by rw [u_cd]; rfl) (by rw [u_cd]; rfl) (by rw [u_cd]; rfl) (by rw [u_cd]; rfl) (by rw [u_cd]; rfl) (by rw [u_cd]; rfl) (by rw [u_cd]; rfl) (by rw [u_cd]; rfl) (by rw [u_cd]; rfl) h10 (by rw [u_cd]; rfl) (by rw [u_cd]; rfl) (by rw [u_cd]; rfl) (by rw [u_cd]; rfl) (by rw [u_cd]; rfl) (by rw [u_cd]; rfl) (fun a h => ?_)
 have i1 : eqI a 1 = false := h 1 (by decide)
 have i2 : eqI a 2 = false := h 2 (by decide)
 have i3 : eqI a 3 = false := h 3 (by decide)
 have i4 : eqI a 4 = false := h 4 (by decide)
 have i5 : eqI a 5 = false := h 5 (by decide)
 have i6 : eqI a 6 = false := h 6 (by decide)
 have i7 : eqI a 7 = false := h 7 (by decide)
 have i8 : eqI a 8 = false := h 8 (by decide)
 have i9 : eqI a 9 = false := h 9 (by decide)
 have i10 : eqI a 10 = false := h 10 (by decide)
 have i11 : eqI a 11 = false := h 11 (by decide)
 have i12 : eqI a 12 = false := h 12 (by decide)
 have i21 : eqI a 21 = false := h 21 (by decide)
 have i22 : eqI a 22 = false := h 22 (by decide)
 have i23 : eqI a 23 = false := h 23 (by decide)
 have i24 : eqI a 24 = false := h 24 (by decide)
 rw [u_cd]
 unfold q3w
 simp only [i5, i11, i6, i7, i8, i12, i9, i10, i24, q01, q00]
 rfl
theorem qfb (a : Int) : f_ca (a, ()) = some (q2m a, ()) := by rw [u_ca, q7b]; rfl
theorem q0m (a : Int) : f_em (a, ()) = some (q2m a, ()) := by rw [u_em, q7b]; rfl
def F.head : F → Int
 | .nil => 0
 | .cons k _ _ _ _ => k
theorem behind {l : List ND} {k : Nat} {ks : F} {kd : Int} (hk : k ≤ 1000000) (hs : Sits l (k + 1) ks) (hn : kd = 8 → ks.cnt ≠ 0) :
  (cnd (eqI kd 8) (bnd (at? l (addI .i64 (k : Int) 1)) fun x => some (notB (eqI x.1 5))) (some false) : Option Bool) = some (eqI kd 8 && notB (eqI ks.head 5)) := by
 cases h : eqI kd 8 with
 | false => rfl
 | true =>
  have h8 := eqI_eq.1 h
  cases ks with
  | nil => exact absurd rfl (hn h8)
  | cons x t n ks r =>
   rw [q03, add1 (by omega), q06 hs.node.1]
   rfl
theorem qop (b : Bool) (l : List ND) (hl : l.length ≤ 10000) {k : Nat} {kd : Int} {t : List Int} {n : Int} {ks r : F} (pat : Bool) (h : Sits l k (.cons kd t n ks r)) (ht : t.length ≤ 1000000) (hr : rng n) :
  f_ce (⟨b, l⟩, (k : Int), pat, ()) = some (q16 kd t n (ks.cnt : Int) ks.head pat, ()) := by
 obtain ⟨g1, g2, g3, g4⟩ := h.node
 obtain ⟨v, w1, w2⟩ := qfa n hr
 rw [u_ce, q06 g1]
 simp only [q00, qsf, qiw, qfb, qus (ks.cnt : Int) (Int.natCast_nonneg _), w1, w2, qon ht, qiz ht]
 by_cases h8 : kd = 8 ∧ ks.cnt = 0
 ·obtain ⟨rfl, h0⟩ := h8
  rw [h0]
  have e1 : ltI (q2j 8) 0 = false := rfl
  have e2 : q3w 8 ((0 : Nat) : Int) = false := rfl
  unfold q16
  rw [e1, e2]
  simp only [q03, q01, notB, Bool.not_false, cond_true, cond_false]
  cases !eqB (q2m 8) pat <;> rfl
 ·have e8 := behind (kd := kd) (l := l) (k := k) (ks := ks) (by omega) g2 (fun e h => h8 ⟨e, h⟩)
  simp only [e8, q00, q03, q01]
  unfold q16 q4x
  unfold q5f
  generalize hT : (eqI kd 8 && notB (eqI ks.head 5)) = T
  cases ltI (q2j kd) 0 with
  | true => rfl
  | false =>
   cases notB (eqB (q2m kd) pat) with
   | true => rfl
   | false =>
    cases notB (q3w kd (ks.cnt : Int)) with
    | true => rfl
    | false =>
     simp only [q01, cond_false]
     have fin : (bnd (cnd (eqI (q2j kd) 1) (some (notB (nameOk t))) (some false)) (fun x6 => bnd (cnd x6 (some true) (cnd (eqI (q2j kd) 2) (some (notB (q27 t))) (some false))) (fun x8 => cnd x8 (some ((62 : Int), ())) (some (0, ())))) : Option (Int × Unit)) =
       some (bif eqI (q2j kd) 1 && notB (nameOk t) then 62 else bif eqI (q2j kd) 2 && notB (q27 t) then 62 else 0, ()) := by
      cases eqI (q2j kd) 1 <;> cases nameOk t <;> cases eqI (q2j kd) 2 <;> cases q27 t <;> rfl
     simp only [fin]
     cases (eqI kd 1 || eqI kd 23) with
     | true =>
      simp only [q03, q01, cond_true, notB, Bool.not_true]
      cases q40 n with
      | false => rfl
      | true =>
       simp only [q01, Bool.not_true, cond_true]
       cases h0 : eqI (q2j kd) 0 with
       | true =>
        have h3 : eqI (q2j kd) 3 = false := by rw [eqI_eq.1 h0]; rfl
        simp only [h3, q01, cond_false]
        cases eqS t [] <;> cases T <;> rfl
       | false =>
        cases eqI (q2j kd) 3 <;> cases ltI 200 (lenI t) <;> cases T <;> rfl
     | false =>
      simp only [q03, q01, cond_false, notB, Bool.not_false]
      cases eqI n 0 with
      | false => rfl
      | true =>
       simp only [q01, Bool.not_true, cond_true]
       cases h0 : eqI (q2j kd) 0 with
       | true =>
        have h3 : eqI (q2j kd) 3 = false := by rw [eqI_eq.1 h0]; rfl
        simp only [h3, q01, cond_false]
        cases eqS t [] <;> cases T <;> rfl
       | false =>
        cases eqI (q2j kd) 3 <;> cases ltI 200 (lenI t) <;> cases T <;> rfl
end Fn
end Ev

namespace Ev
open Go
namespace Fn
theorem q0z (a c : Int) : f_ej (a, c, ()) = some (eqI a c, ()) := u_ej a c
theorem q41 (a : Int) : f_eh (a, ()) = some (true, ()) := u_eh a
theorem qyq (a : Int) (h : 0 ≤ a) : f_eg (a, ()) = some (leI 3 a && eqI (a % 2) 1, ()) := by
 rw [u_eg, q9v h (by decide)]
 cases leI 3 a <;> rfl
theorem qyr : f_ef (1, ()) = some (true, false, 2, 0, 0, 0, true, ()) := by kernel_rfl
theorem qys : f_ef (2, ()) = some (false, true, 2, 0, 0, 0, true, ()) := by kernel_rfl
theorem qyt : f_ef (3, ()) = some (false, false, 0, 0, 0, 0, true, ()) := by kernel_rfl
theorem qyu : f_ef (4, ()) = some (false, false, 1, 0, 0, 0, true, ()) := by kernel_rfl
theorem qyv : f_ef (5, ()) = some (false, false, 0, 0, 0, 1, true, ()) := by kernel_rfl
theorem qyw : f_ef (6, ()) = some (false, false, 2, 0, 0, 2, true, ()) := by kernel_rfl
theorem qyx : f_ef (7, ()) = some (false, false, 0, 0, 0, 2, true, ()) := by kernel_rfl
theorem qyy : f_ef (8, ()) = some (false, false, 0, 0, 0, 2, true, ()) := by kernel_rfl
theorem qyz : f_ef (9, ()) = some (false, false, 2, 0, 0, 3, true, ()) := by kernel_rfl
theorem qxj : f_ef (10, ()) = some (false, false, 2, 0, 1, 0, true, ()) := by kernel_rfl
theorem qxk : f_ef (11, ()) = some (false, false, 2, 0, 0, 1, true, ()) := by kernel_rfl
theorem qxl : f_ef (12, ()) = some (false, false, 0, 0, 0, 2, true, ()) := by kernel_rfl
theorem qxm : f_ef (21, ()) = some (false, false, 2, 0, 0, 0, true, ()) := by kernel_rfl
theorem qxn : f_ef (22, ()) = some (false, false, 0, 0, 0, 0, true, ()) := by kernel_rfl
theorem qxo : f_ef (23, ()) = some (true, false, 2, 0, 0, 0, true, ()) := by kernel_rfl
theorem qxp : f_ef (24, ()) = some (false, false, 1, 0, 2, 0, true, ()) := by kernel_rfl
theorem qoq (a : Int) (h : ∀ c, c ∈ qse → eqI a c = false) : f_ef (a, ()) = some (false, false, 2, 0, 3, 0, false, ()) := by
 have i1 : eqI a 1 = false := h 1 (by decide)
 have i2 : eqI a 2 = false := h 2 (by decide)
 have i3 : eqI a 3 = false := h 3 (by decide)
 have i4 : eqI a 4 = false := h 4 (by decide)
 have i5 : eqI a 5 = false := h 5 (by decide)
 have i6 : eqI a 6 = false := h 6 (by decide)
 have i7 : eqI a 7 = false := h 7 (by decide)
 have i8 : eqI a 8 = false := h 8 (by decide)
 have i9 : eqI a 9 = false := h 9 (by decide)
 have i10 : eqI a 10 = false := h 10 (by decide)
 have i11 : eqI a 11 = false := h 11 (by decide)
 have i12 : eqI a 12 = false := h 12 (by decide)
 have i21 : eqI a 21 = false := h 21 (by decide)
 have i22 : eqI a 22 = false := h 22 (by decide)
 have i23 : eqI a 23 = false := h 23 (by decide)
 have i24 : eqI a 24 = false := h 24 (by decide)
 rw [u_ef]
 simp only [i1, i2, i3, i4, i5, i6, i7, i8, i9, i10, i11, i12, i21, i22, i23, i24, q01, q00]
theorem e00 : eqI 0 0 = true := id (Eq.refl true)
theorem e01 : eqI 0 1 = false := id (Eq.refl false)
theorem e02 : eqI 0 2 = false := id (Eq.refl false)
theorem e10 : eqI 1 0 = false := id (Eq.refl false)
theorem e11 : eqI 1 1 = true := id (Eq.refl true)
theorem e12 : eqI 1 2 = false := id (Eq.refl false)
theorem e20 : eqI 2 0 = false := id (Eq.refl false)
theorem e21 : eqI 2 1 = false := id (Eq.refl false)
theorem e22 : eqI 2 2 = true := id (Eq.refl true)
theorem nT : notB true = false := id (Eq.refl false)
theorem nF : notB false = true := id (Eq.refl true)
theorem qsg (b : Bool) (l : List ND) (hl : l.length ≤ 10000) {k : Nat} {t : List Int} {n : Int} {ks : F} (pat : Bool) (ht : ∀ b, b ∈ t → 0 ≤ b ∧ b ≤ 255) (hr : rng n) :
  ∀ kd : Int, Sits l k (tr kd t n ks) → f_el (⟨b, l⟩, (k : Int), pat, ()) = some (q16 kd t n (ks.cnt : Int) ks.head pat, ()) := by
 obtain ⟨v, w1, w2⟩ := qf9 n hr
 have hname := qsc ht
 have hcon := qmv ht
 have hodd := qyq (ks.cnt : Int) (Int.natCast_nonneg _)
 refine qb2 ?k1 ?k2 ?k3 ?k4 ?k5 ?k6 ?k7 ?k8 ?k9 ?k10 ?k11 ?k12 ?k21 ?k22 ?k23 ?k24 (fun a h hs => ?_)
 case k1 =>
  intro h
  obtain ⟨g1, g2, g3, g4⟩ := h.node
  rw [u_el, q06 g1, q00, qyr, q00]
  have e8 : eqI 1 8 = false := rfl
  have ep : q2m 1 = false := rfl
  simp only [q0m, ep, nT, nF, q03, q01, q00, e00, e01, e02, e20, e21, e22, q0z, q41, hodd, w1, w2, hname, hcon, e8]
  have hE : q16 1 t n (ks.cnt : Int) ks.head pat = bif notB (eqB false pat) then 61 else bif notB (eqI (ks.cnt : Int) 0) then 61 else bif q40 n then (bif eqS t [] then 0 else 61) else 61 := by
   have kk : q3w 1 (ks.cnt : Int) = eqI (ks.cnt : Int) 0 := rfl
   unfold q16 q4x q5f
   rw [kk]
   cases pat <;> cases eqI (ks.cnt : Int) 0 <;> cases q40 n <;> cases eqS t [] <;> rfl
  rw [hE]
  cases pat <;> cases a1 : eqI (ks.cnt : Int) 0 <;> cases a2 : q40 n <;> cases a3 : eqS t [] <;> simp only [nT, nF, q03, q01, q00, e20, e21, e22, hname, hcon, eqB, e8, BEq.rfl, Bool.false_beq, Bool.not_true, cond_true, cond_false, a3] <;> rfl
 case k2 =>
  intro h
  obtain ⟨g1, g2, g3, g4⟩ := h.node
  rw [u_el, q06 g1, q00, qys, q00]
  have e8 : eqI 2 8 = false := rfl
  have ep : q2m 2 = false := rfl
  simp only [q0m, ep, nT, nF, q03, q01, q00, e00, e01, e02, e22, q0z, q41, hodd, w1, w2]
  have hE : q16 2 t n (ks.cnt : Int) ks.head pat = bif notB (eqB false pat) then 61 else bif notB (eqI (ks.cnt : Int) 0) then 61 else bif eqI n 0 then (bif ltI 200 (lenI t) then 61 else 0) else 61 := by
   have kk : q3w 2 (ks.cnt : Int) = eqI (ks.cnt : Int) 0 := rfl
   unfold q16 q4x q5f
   rw [kk]
   cases pat <;> cases eqI (ks.cnt : Int) 0 <;> cases eqI n 0 <;> cases ltI 200 (lenI t) <;> rfl
  rw [hE]
  cases pat <;> cases a1 : eqI (ks.cnt : Int) 0 <;> cases a2 : eqI n 0 <;> cases a3 : ltI 200 (lenI t) <;> simp only [nT, nF, q03, q01, q00, e20, e21, e22, hname, hcon, eqB, e8, BEq.rfl, Bool.false_beq, Bool.not_true, cond_true, cond_false] <;> rfl
 case k3 =>
  intro h
  obtain ⟨g1, g2, g3, g4⟩ := h.node
  rw [u_el, q06 g1, q00, qyt, q00]
  have e8 : eqI 3 8 = false := rfl
  have ep : q2m 3 = false := rfl
  simp only [q0m, ep, nT, nF, q03, q01, q00, e00, e01, e02, q0z, q41, hodd, w1, w2, hname, hcon, e8]
  have hE : q16 3 t n (ks.cnt : Int) ks.head pat = bif notB (eqB false pat) then 61 else bif notB (eqI (ks.cnt : Int) 0) then 61 else bif eqI n 0 then (bif nameOk t then 0 else 62) else 61 := by
   have kk : q3w 3 (ks.cnt : Int) = eqI (ks.cnt : Int) 0 := rfl
   unfold q16 q4x q5f
   rw [kk]
   cases pat <;> cases eqI (ks.cnt : Int) 0 <;> cases eqI n 0 <;> cases nameOk t <;> rfl
  rw [hE]
  cases pat <;> cases a1 : eqI (ks.cnt : Int) 0 <;> cases a2 : eqI n 0 <;> cases a3 : nameOk t <;> simp only [nT, nF, q03, q01, q00, eqB, BEq.rfl, Bool.false_beq, Bool.not_true, cond_true, cond_false] <;> rfl
 case k4 =>
  intro h
  obtain ⟨g1, g2, g3, g4⟩ := h.node
  rw [u_el, q06 g1, q00, qyu, q00]
  have e8 : eqI 4 8 = false := rfl
  have ep : q2m 4 = false := rfl
  simp only [q0m, ep, nT, nF, q03, q01, q00, e00, e01, e02, e10, e11, e12, q0z, q41, hodd, w1, w2, hname, hcon, e8]
  have hE : q16 4 t n (ks.cnt : Int) ks.head pat = bif notB (eqB false pat) then 61 else bif notB (eqI (ks.cnt : Int) 0) then 61 else bif eqI n 0 then (bif q27 t then 0 else 62) else 61 := by
   have kk : q3w 4 (ks.cnt : Int) = eqI (ks.cnt : Int) 0 := rfl
   unfold q16 q4x q5f
   rw [kk]
   cases pat <;> cases eqI (ks.cnt : Int) 0 <;> cases eqI n 0 <;> cases q27 t <;> rfl
  rw [hE]
  cases pat <;> cases a1 : eqI (ks.cnt : Int) 0 <;> cases a2 : eqI n 0 <;> cases a3 : q27 t <;> simp only [nT, nF, q03, q01, q00, eqB, BEq.rfl, Bool.false_beq, Bool.not_true, cond_true, cond_false] <;> rfl
 case k5 =>
  intro h
  obtain ⟨g1, g2, g3, g4⟩ := h.node
  rw [u_el, q06 g1, q00, qyv, q00]
  have e8 : eqI 5 8 = false := rfl
  have ep : q2m 5 = false := rfl
  simp only [q0m, ep, nT, nF, q03, q01, q00, e00, e01, e02, q0z, q41, hodd, w1, w2, hname, hcon, e8]
  have hE : q16 5 t n (ks.cnt : Int) ks.head pat = bif notB (eqB false pat) then 61 else bif notB (eqI (ks.cnt : Int) 1) then 61 else bif eqI n 0 then (bif nameOk t then 0 else 62) else 61 := by
   have kk : q3w 5 (ks.cnt : Int) = eqI (ks.cnt : Int) 1 := rfl
   unfold q16 q4x q5f
   rw [kk]
   cases pat <;> cases eqI (ks.cnt : Int) 1 <;> cases eqI n 0 <;> cases nameOk t <;> rfl
  rw [hE]
  cases pat <;> cases a1 : eqI (ks.cnt : Int) 1 <;> cases a2 : eqI n 0 <;> cases a3 : nameOk t <;> simp only [nT, nF, q03, q01, q00, eqB, BEq.rfl, Bool.false_beq, Bool.not_true, cond_true, cond_false] <;> rfl
 case k6 =>
  intro h
  obtain ⟨g1, g2, g3, g4⟩ := h.node
  rw [u_el, q06 g1, q00, qyw, q00]
  have e8 : eqI 6 8 = false := rfl
  have ep : q2m 6 = false := rfl
  simp only [q0m, ep, nT, nF, q03, q01, q00, e00, e01, e02, e20, e21, e22, q0z, q41, hodd, w1, w2, hname, hcon, e8]
  have hE : q16 6 t n (ks.cnt : Int) ks.head pat = bif notB (eqB false pat) then 61 else bif notB (eqI (ks.cnt : Int) 2) then 61 else bif eqI n 0 then (bif eqS t [] then 0 else 61) else 61 := by
   have kk : q3w 6 (ks.cnt : Int) = eqI (ks.cnt : Int) 2 := rfl
   unfold q16 q4x q5f
   rw [kk]
   cases pat <;> cases eqI (ks.cnt : Int) 2 <;> cases eqI n 0 <;> cases eqS t [] <;> rfl
  rw [hE]
  cases pat <;> cases a1 : eqI (ks.cnt : Int) 2 <;> cases a2 : eqI n 0 <;> cases a3 : eqS t [] <;> simp only [nT, nF, q03, q01, q00, eqB, BEq.rfl, Bool.false_beq, Bool.not_true, cond_true, cond_false] <;> rfl
 case k7 =>
  intro h
  obtain ⟨g1, g2, g3, g4⟩ := h.node
  rw [u_el, q06 g1, q00, qyx, q00]
  have e8 : eqI 7 8 = false := rfl
  have ep : q2m 7 = false := rfl
  simp only [q0m, ep, nT, nF, q03, q01, q00, e00, e01, e02, q0z, q41, hodd, w1, w2, hname, hcon, e8]
  have hE : q16 7 t n (ks.cnt : Int) ks.head pat = bif notB (eqB false pat) then 61 else bif notB (eqI (ks.cnt : Int) 2) then 61 else bif eqI n 0 then (bif nameOk t then 0 else 62) else 61 := by
   have kk : q3w 7 (ks.cnt : Int) = eqI (ks.cnt : Int) 2 := rfl
   unfold q16 q4x q5f
   rw [kk]
   cases pat <;> cases eqI (ks.cnt : Int) 2 <;> cases eqI n 0 <;> cases nameOk t <;> rfl
  rw [hE]
  cases pat <;> cases a1 : eqI (ks.cnt : Int) 2 <;> cases a2 : eqI n 0 <;> cases a3 : nameOk t <;> simp only [nT, nF, q03, q01, q00, eqB, BEq.rfl, Bool.false_beq, Bool.not_true, cond_true, cond_false] <;> rfl
 case k8 =>
  intro h
  obtain ⟨g1, g2, g3, g4⟩ := h.node
  rw [u_el, q06 g1, q00, qyy, q00]
  have e8 : eqI 8 8 = true := rfl
  have ep : q2m 8 = false := rfl
  simp only [q0m, ep, nT, nF, q03, q01, q00, e00, e01, e02, q0z, q41, hodd, w1, w2, hname, hcon]
  have hE : q16 8 t n (ks.cnt : Int) ks.head pat = bif notB (eqB false pat) then 61 else bif notB (eqI (ks.cnt : Int) 2) then 61 else bif eqI n 0 then (bif eqI ks.head 5 then (bif nameOk t then 0 else 62) else 61) else 61 := by
   have kk : q3w 8 (ks.cnt : Int) = eqI (ks.cnt : Int) 2 := rfl
   unfold q16 q4x q5f
   rw [kk]
   cases pat <;> cases eqI (ks.cnt : Int) 2 <;> cases eqI n 0 <;> cases nameOk t <;> cases eqI ks.head 5 <;> rfl
  rw [hE]
  cases h2 : eqI (ks.cnt : Int) 2 with
  | false => cases pat <;> rfl
  | true =>
   have hb := behind (kd := 8) (l := l) (k := k) (ks := ks) (by omega) g2 (fun _ h0 => by have := eqI_eq.1 h2; omega)
   rw [show eqI 8 8 = true from rfl, q03] at hb
   have hb' : bnd (at? l (addI .i64 (k : Int) 1)) (fun x => some (notB (eqI x.1 5))) = some (notB (eqI ks.head 5)) := hb
   cases pat <;> cases a1 : eqI n 0 <;> cases a2 : eqI ks.head 5 <;> cases a3 : nameOk t <;> simp only [nT, nF, q03, q01, q00, e8, hb', eqB, Bool.false_beq, beq_self_eq_true, Bool.not_true, a2] <;> rfl
 case k9 =>
  intro h
  obtain ⟨g1, g2, g3, g4⟩ := h.node
  rw [u_el, q06 g1, q00, qyz, q00]
  have e8 : eqI 9 8 = false := rfl
  have ep : q2m 9 = false := rfl
  simp only [q0m, ep, nT, nF, q03, q01, q00, e00, e01, e02, e20, e21, e22, q0z, q41, hodd, w1, w2, hname, hcon, e8]
  have hE : q16 9 t n (ks.cnt : Int) ks.head pat = bif notB (eqB false pat) then 61 else bif notB (eqI (ks.cnt : Int) 3) then 61 else bif eqI n 0 then (bif eqS t [] then 0 else 61) else 61 := by
   have kk : q3w 9 (ks.cnt : Int) = eqI (ks.cnt : Int) 3 := rfl
   unfold q16 q4x q5f
   rw [kk]
   cases pat <;> cases eqI (ks.cnt : Int) 3 <;> cases eqI n 0 <;> cases eqS t [] <;> rfl
  rw [hE]
  cases pat <;> cases a1 : eqI (ks.cnt : Int) 3 <;> cases a2 : eqI n 0 <;> cases a3 : eqS t [] <;> simp only [nT, nF, q03, q01, q00, eqB, BEq.rfl, Bool.false_beq, Bool.not_true, cond_true, cond_false] <;> rfl
 case k10 =>
  intro h
  obtain ⟨g1, g2, g3, g4⟩ := h.node
  rw [u_el, q06 g1, q00, qxj, q00]
  have e8 : eqI 10 8 = false := rfl
  have ep : q2m 10 = false := rfl
  simp only [q0m, ep, nT, nF, q03, q01, q00, e10, e11, e12, e20, e21, e22, q0z, q41, hodd, w1, w2, hname, hcon, e8]
  have hE : q16 10 t n (ks.cnt : Int) ks.head pat = bif notB (eqB false pat) then 61 else bif notB ((leI 3 (ks.cnt : Int) && eqI ((ks.cnt : Int) % 2) 1)) then 61 else bif eqI n 0 then (bif eqS t [] then 0 else 61) else 61 := by
   have kk : q3w 10 (ks.cnt : Int) = (leI 3 (ks.cnt : Int) && eqI ((ks.cnt : Int) % 2) 1) := rfl
   unfold q16 q4x q5f
   rw [kk]
   cases pat <;> cases leI 3 (ks.cnt : Int) <;> cases eqI ((ks.cnt : Int) % 2) 1 <;> cases eqI n 0 <;> cases eqS t [] <;> rfl
  rw [hE]
  cases pat <;> cases a1 : leI 3 (ks.cnt : Int) <;> cases a2 : eqI ((ks.cnt : Int) % 2) 1 <;> cases a3 : eqI n 0 <;> cases a4 : eqS t [] <;> simp only [nT, nF, q03, q01, q00, eqB, BEq.rfl, Bool.false_beq, Bool.not_true, Bool.true_and, Bool.false_and, cond_true, cond_false] <;> rfl
 case k11 =>
  intro h
  obtain ⟨g1, g2, g3, g4⟩ := h.node
  rw [u_el, q06 g1, q00, qxk, q00]
  have e8 : eqI 11 8 = false := rfl
  have ep : q2m 11 = false := rfl
  simp only [q0m, ep, nT, nF, q03, q01, q00, e00, e01, e02, e20, e21, e22, q0z, q41, hodd, w1, w2, hname, hcon, e8]
  have hE : q16 11 t n (ks.cnt : Int) ks.head pat = bif notB (eqB false pat) then 61 else bif notB (eqI (ks.cnt : Int) 1) then 61 else bif eqI n 0 then (bif eqS t [] then 0 else 61) else 61 := by
   have kk : q3w 11 (ks.cnt : Int) = eqI (ks.cnt : Int) 1 := rfl
   unfold q16 q4x q5f
   rw [kk]
   cases pat <;> cases eqI (ks.cnt : Int) 1 <;> cases eqI n 0 <;> cases eqS t [] <;> rfl
  rw [hE]
  cases pat <;> cases a1 : eqI (ks.cnt : Int) 1 <;> cases a2 : eqI n 0 <;> cases a3 : eqS t [] <;> simp only [nT, nF, q03, q01, q00, eqB, BEq.rfl, Bool.false_beq, Bool.not_true, cond_true, cond_false] <;> rfl
 case k12 =>
  intro h
  obtain ⟨g1, g2, g3, g4⟩ := h.node
  rw [u_el, q06 g1, q00, qxl, q00]
  have e8 : eqI 12 8 = false := rfl
  have ep : q2m 12 = false := rfl
  simp only [q0m, ep, nT, nF, q03, q01, q00, e00, e01, e02, q0z, q41, hodd, w1, w2, hname, hcon, e8]
  have hE : q16 12 t n (ks.cnt : Int) ks.head pat = bif notB (eqB false pat) then 61 else bif notB (eqI (ks.cnt : Int) 2) then 61 else bif eqI n 0 then (bif nameOk t then 0 else 62) else 61 := by
   have kk : q3w 12 (ks.cnt : Int) = eqI (ks.cnt : Int) 2 := rfl
   unfold q16 q4x q5f
   rw [kk]
   cases pat <;> cases eqI (ks.cnt : Int) 2 <;> cases eqI n 0 <;> cases nameOk t <;> rfl
  rw [hE]
  cases pat <;> cases a1 : eqI (ks.cnt : Int) 2 <;> cases a2 : eqI n 0 <;> cases a3 : nameOk t <;> simp only [nT, nF, q03, q01, q00, eqB, BEq.rfl, Bool.false_beq, Bool.not_true, cond_true, cond_false] <;> rfl
 case k21 =>
  intro h
  obtain ⟨g1, g2, g3, g4⟩ := h.node
  rw [u_el, q06 g1, q00, qxm, q00]
  have e8 : eqI 21 8 = false := rfl
  have ep : q2m 21 = true := rfl
  simp only [q0m, ep, nT, nF, q03, q01, q00, e00, e01, e02, e20, e21, e22, q0z, q41, hodd, w1, w2, hname, hcon, e8]
  have hE : q16 21 t n (ks.cnt : Int) ks.head pat = bif notB (eqB true pat) then 61 else bif notB (eqI (ks.cnt : Int) 0) then 61 else bif eqI n 0 then (bif eqS t [] then 0 else 61) else 61 := by
   have kk : q3w 21 (ks.cnt : Int) = eqI (ks.cnt : Int) 0 := rfl
   unfold q16 q4x q5f
   rw [kk]
   cases pat <;> cases eqI (ks.cnt : Int) 0 <;> cases eqI n 0 <;> cases eqS t [] <;> rfl
  rw [hE]
  cases pat <;> cases a1 : eqI (ks.cnt : Int) 0 <;> cases a2 : eqI n 0 <;> cases a3 : eqS t [] <;> simp only [nT, nF, q03, q01, q00, eqB, BEq.rfl, cond_true, cond_false] <;> rfl
 case k22 =>
  intro h
  obtain ⟨g1, g2, g3, g4⟩ := h.node
  rw [u_el, q06 g1, q00, qxn, q00]
  have e8 : eqI 22 8 = false := rfl
  have ep : q2m 22 = true := rfl
  simp only [q0m, ep, nT, nF, q03, q01, q00, e00, e01, e02, q0z, q41, hodd, w1, w2, hname, hcon, e8]
  have hE : q16 22 t n (ks.cnt : Int) ks.head pat = bif notB (eqB true pat) then 61 else bif notB (eqI (ks.cnt : Int) 0) then 61 else bif eqI n 0 then (bif nameOk t then 0 else 62) else 61 := by
   have kk : q3w 22 (ks.cnt : Int) = eqI (ks.cnt : Int) 0 := rfl
   unfold q16 q4x q5f
   rw [kk]
   cases pat <;> cases eqI (ks.cnt : Int) 0 <;> cases eqI n 0 <;> cases nameOk t <;> rfl
  rw [hE]
  cases pat <;> cases a1 : eqI (ks.cnt : Int) 0 <;> cases a2 : eqI n 0 <;> cases a3 : nameOk t <;> simp only [nT, nF, q03, q01, q00, eqB, BEq.rfl, cond_true, cond_false] <;> rfl
 case k23 =>
  intro h
  obtain ⟨g1, g2, g3, g4⟩ := h.node
  rw [u_el, q06 g1, q00, qxo, q00]
  have e8 : eqI 23 8 = false := rfl
  have ep : q2m 23 = true := rfl
  simp only [q0m, ep, nT, nF, q03, q01, q00, e00, e01, e02, e20, e21, e22, q0z, q41, hodd, w1, w2, hname, hcon, e8]
  have hE : q16 23 t n (ks.cnt : Int) ks.head pat = bif notB (eqB true pat) then 61 else bif notB (eqI (ks.cnt : Int) 0) then 61 else bif q40 n then (bif eqS t [] then 0 else 61) else 61 := by
   have kk : q3w 23 (ks.cnt : Int) = eqI (ks.cnt : Int) 0 := rfl
   unfold q16 q4x q5f
   rw [kk]
   cases pat <;> cases eqI (ks.cnt : Int) 0 <;> cases q40 n <;> cases eqS t [] <;> rfl
  rw [hE]
  cases pat <;> cases a1 : eqI (ks.cnt : Int) 0 <;> cases a2 : q40 n <;> cases a3 : eqS t [] <;> simp only [nT, nF, q03, q01, q00, e20, e21, e22, hname, hcon, eqB, e8, BEq.rfl, cond_true, cond_false, a3] <;> rfl
 case k24 =>
  intro h
  obtain ⟨g1, g2, g3, g4⟩ := h.node
  rw [u_el, q06 g1, q00, qxp, q00]
  have e8 : eqI 24 8 = false := rfl
  have ep : q2m 24 = true := rfl
  simp only [q0m, ep, nT, nF, q03, q01, q00, e10, e11, e12, e20, e21, e22, q0z, q41, hodd, w1, w2, hname, hcon, e8]
  have hE : q16 24 t n (ks.cnt : Int) ks.head pat = bif notB (eqB true pat) then 61 else bif notB (true) then 61 else bif eqI n 0 then (bif q27 t then 0 else 62) else 61 := by
   have kk : q3w 24 (ks.cnt : Int) = true := rfl
   unfold q16 q4x q5f
   rw [kk]
   cases pat <;> cases eqI n 0 <;> cases q27 t <;> rfl
  rw [hE]
  cases pat <;> cases a1 : eqI n 0 <;> cases a2 : q27 t <;> simp only [nT, nF, q03, q01, q00, eqB, BEq.rfl, cond_true, cond_false] <;> rfl
 obtain ⟨g1, g2, g3, g4⟩ := hs.node
 rw [u_el, q06 g1, q00, qoq a h, q00]
 have hE : q16 a t n (ks.cnt : Int) ks.head pat = 61 := by
  have hs : q2j a = -1 := by
   unfold q2j
   rw [h 1 (by decide), h 6 (by decide), h 9 (by decide), h 10 (by decide), h 11 (by decide), h 21 (by decide), h 23 (by decide), h 3 (by decide), h 5 (by decide), h 7 (by decide), h 8 (by decide), h 12 (by decide), h 22 (by decide), h 4 (by decide), h 24 (by decide), h 2 (by decide)]
   rfl
  unfold q16
  rw [hs]
  rfl
 rw [hE]
 rfl
end Fn
end Ev

namespace Ev
open Go
namespace Fn
def qj2 (x : ND) : Prop := (∀ b, b ∈ x.2.1 → 0 ≤ b ∧ b ≤ 255) ∧ x.2.1.length ≤ 1000000 ∧ rng x.2.2.1
def GL (l : List ND) : Prop := ∀ x, x ∈ l → qj2 x
theorem GL.at {l : List ND} (h : GL l) {k : Nat} {x : ND} (e : l[k]? = some x) : qj2 x := h x (List.mem_of_getElem? e)
def errF : Bool → Bool → Bool → F → Int
 | _, _, _, .nil => 0
 | m, pat, odd, .cons kd t n ks r =>
  bif notB (eqI (q16 kd t n (ks.cnt : Int) ks.head (pat || (m && odd))) 0) then q16 kd t n (ks.cnt : Int) ks.head (pat || (m && odd)) else
  bif notB (eqI (errF (eqI kd 10) (pat || (m && odd)) false ks) 0) then errF (eqI kd 10) (pat || (m && odd)) false ks else errF m pat (!odd) r
def errT (kd : Int) (t : List Int) (n : Int) (ks : F) (pat : Bool) : Int :=
 bif notB (eqI (q16 kd t n (ks.cnt : Int) ks.head pat) 0) then q16 kd t n (ks.cnt : Int) ks.head pat else errF (eqI kd 10) pat false ks
theorem qmx (m pat odd : Bool) : errF m pat odd .nil = 0 := id (Eq.refl _)
theorem qdp (m pat odd : Bool) (kd : Int) (t : List Int) (n : Int) (ks r : F) :
  errF m pat odd (.cons kd t n ks r) = bif notB (eqI (errT kd t n ks (pat || (m && odd))) 0) then errT kd t n ks (pat || (m && odd)) else errF m pat (!odd) r := by
 conv => lhs; unfold errF
 unfold errT
 cases h : notB (eqI (q16 kd t n (ks.cnt : Int) ks.head (pat || (m && odd))) 0) with
 | true => rw [cond_true, cond_true, h]; rfl
 | false => rw [cond_false, cond_false]
theorem qsh (i : Nat) : eqI (((i + 1 : Nat) : Int) % 2) 1 = !eqI ((i : Int) % 2) 1 := by
 by_cases h : (i : Int) % 2 = 1
 ·have h2 : ((i + 1 : Nat) : Int) % 2 = 0 := by omega
  rw [h, h2]; rfl
 ·have h1 : (i : Int) % 2 = 0 := by omega
  have h2 : ((i + 1 : Nat) : Int) % 2 = 1 := by omega
  rw [h1, h2]; rfl
def qeb (to : Nat) (e : Int) : Int × Int × Unit := bif eqI e 0 then ((to : Int), 0, ()) else (0, e, ())
theorem qut (b b2 : Bool) (l : List ND) (hl : l.length ≤ 10000) (hg : GL l) {k : Nat} {kd : Int} {t : List Int} {n : Int} {ks : F} (h : Sits l k (tr kd t n ks)) :
  ∀ pat N, ks.size + 1 ≤ N → recN g_en N (⟨b, l⟩, (k : Int), pat, ⟨b2, l⟩, ()) = some (qeb (k + 1 + ks.size) (errT kd t n ks pat)) := by
 refine F.each_one (l := l) (P := fun k kd t n ks => ∀ pat N, ks.size + 1 ≤ N → recN g_en N (⟨b, l⟩, (k : Int), pat, ⟨b2, l⟩, ()) = some (qeb (k + 1 + ks.size) (errT kd t n ks pat))) ?_ h
 clear h k kd t n ks
 intro k kd t n ks hs he pat N hN
 obtain ⟨N, rfl⟩ : ∃ m, N = m + 1 := ⟨N - 1, by omega⟩
 show g_en (recN g_en N) _ = _
 obtain ⟨g1, g2, g3, g4⟩ := hs.node
 obtain ⟨q1, q2, q3⟩ := hg.at g1
 rw [u_en, u_ec, qsg b2 l hl pat q1 q3 kd hs]
 simp only [q00]
 unfold errT
 cases hE : notB (eqI (q16 kd t n (ks.cnt : Int) ks.head pat) 0) with
 | true =>
  rw [q03, cond_true]
  unfold qeb
  have : eqI (q16 kd t n (ks.cnt : Int) ks.head pat) 0 = false := by
   unfold notB at hE
   simpa using hE
  rw [this, cond_false]
 | false =>
  rw [q01, cond_false, q06 g1, q00, add1 (by omega)]
  have loop : ∀ (g : F) (q i : Nat), g.Each (fun k kd t n ks => ∀ pat N, ks.size + 1 ≤ N → recN g_en N (⟨b, l⟩, (k : Int), pat, ⟨b2, l⟩, ()) = some (qeb (k + 1 + ks.size) (errT kd t n ks pat))) q →
    g.size ≤ N → i + g.cnt = ks.cnt → i ≤ 1000000 →
    loopR (l1_en (recN g_en N)) (⟨b, l⟩, (k : Int), pat, ⟨b2, l⟩, (q : Int), (ks.cnt : Int), (i : Int), ()) = some (qeb (q + g.size) (errF (eqI kd 10) pat (eqI ((i : Int) % 2) 1) g)) := by
   intro g
   induction g with
   | nil =>
    intro q i _ _ hi _
    have hi : i + 0 = ks.cnt := hi
    refine q0a ?_
    unfold l1_en
    simp only
    rw [q0n, if_neg (by omega), qmx]
    rfl
   | cons kd' t' n' ks' r' _ ih =>
    intro q i hE hz hi hi2
    have hi : i + (r'.cnt + 1) = ks.cnt := hi
    have hz : ks'.size + r'.size + 1 ≤ N := hz
    have hc := ks.cnt_le
    have hp' : cnd pat (some true) (bnd (at? l (k : Int)) (fun x3 => cnd (eqI x3.1 10) (bnd (remI (i : Int) 2) (fun x4 => some (eqI x4 1))) (some false))) = some (pat || (eqI kd 10 && eqI ((i : Int) % 2) 1)) := by
     rw [q06 g1, q9v (by omega) (by decide)]
     simp only [q00]
     cases pat <;> cases eqI kd 10 <;> rfl
    rw [qdp]
    have hw := hE.1 (pat || (eqI kd 10 && eqI ((i : Int) % 2) 1)) N (by omega)
    generalize hv : errT kd' t' n' ks' (pat || (eqI kd 10 && eqI ((i : Int) % 2) 1)) = v at *
    have step : l1_en (recN g_en N) (⟨b, l⟩, (k : Int), pat, ⟨b2, l⟩, (q : Int), (ks.cnt : Int), (i : Int), ()) =
      bif eqI v 0 then some (.inl (⟨b, l⟩, (k : Int), pat, ⟨b2, l⟩, ((q + 1 + ks'.size : Nat) : Int), (ks.cnt : Int), ((i + 1 : Nat) : Int), ())) else some (.inr (0, v, ())) := by
     unfold l1_en
     simp only [hp', q00, hw]
     rw [q0n, if_pos (by omega), add1 (by omega)]
     unfold qeb
     cases hv0 : eqI v 0 with
     | true =>
      rfl
     | false =>
      show cnd (notB (eqI v 0)) _ _ = _
      rw [hv0]; rfl
    cases hv0 : eqI v 0 with
    | true =>
     rw [hv0, cond_true] at step
     rw [q0e step, ih _ (i + 1) hE.2 (by omega) (by omega) (by omega), qsh]
     have e : q + 1 + ks'.size + r'.size = q + (F.cons kd' t' n' ks' r').size := by show _ = q + (ks'.size + r'.size + 1); omega
     rw [e]
     rfl
    | false =>
     rw [hv0, cond_false] at step
     rw [q0a step]
     show _ = some (qeb _ v)
     unfold qeb
     rw [hv0]
     rfl
  have hc := ks.cnt_le
  exact loop ks (k + 1) 0 he (by omega) (by omega) (by omega)
theorem qsi (b : Bool) (l : List ND) (hl : l.length ≤ 10000) (hg : GL l) {k : Nat} {kd : Int} {t : List Int} {n : Int} {ks : F} (h : Sits l k (tr kd t n ks)) :
  ∀ pat N, ks.size + 1 ≤ N → recN g_cf N (⟨b, l⟩, (k : Int), pat, ()) = some (errT kd t n ks pat, ()) := by
 refine F.each_one (l := l) (P := fun k kd t n ks => ∀ pat N, ks.size + 1 ≤ N → recN g_cf N (⟨b, l⟩, (k : Int), pat, ()) = some (errT kd t n ks pat, ())) ?_ h
 clear h k kd t n ks
 intro k kd t n ks hs he pat N hN
 obtain ⟨N, rfl⟩ : ∃ m, N = m + 1 := ⟨N - 1, by omega⟩
 show g_cf (recN g_cf N) _ = _
 obtain ⟨g1, g2, g3, g4⟩ := hs.node
 obtain ⟨q1, q2, q3⟩ := hg.at g1
 rw [u_cf, qop b l hl pat hs q2 q3, q32 b l hl hs]
 simp only [q00]
 unfold errT
 cases hE : notB (eqI (q16 kd t n (ks.cnt : Int) ks.head pat) 0) with
 | true => rw [q03, cond_true]
 | false =>
  rw [q01, cond_false]
  have loop : ∀ (g : F) (q : Nat) (pre : List Int), g.Each (fun k kd t n ks => ∀ pat N, ks.size + 1 ≤ N → recN g_cf N (⟨b, l⟩, (k : Int), pat, ()) = some (errT kd t n ks pat, ())) q →
    g.size ≤ N → pre ++ g.pos q = ks.pos (k + 1) →
    loopR (l1_cf (recN g_cf N)) (⟨b, l⟩, (k : Int), pat, ⟨false, ks.pos (k + 1)⟩, (pre.length : Int), ()) = some (errF (eqI kd 10) pat (eqI ((pre.length : Int) % 2) 1) g, ()) := by
   intro g
   induction g with
   | nil =>
    intro q pre _ _ hp
    have hp : pre ++ [] = ks.pos (k + 1) := hp
    rw [List.append_nil] at hp
    refine q0a ?_
    unfold l1_cf
    simp only
    rw [q0n, if_neg (by rw [hp]; unfold lenI; omega), qmx]
   | cons kd' t' n' ks' r' _ ih =>
    intro q pre hE hz hp
    have hz : ks'.size + r'.size + 1 ≤ N := hz
    have hp : pre ++ (q : Int) :: r'.pos (q + 1 + ks'.size) = ks.pos (k + 1) := hp
    have hlen : (ks.pos (k + 1)).length = ks.cnt := ks.pos_len _
    have hpl := congrArg List.length hp
    rw [List.length_append, List.length_cons, hlen] at hpl
    have hc := ks.cnt_le
    have hget : (ks.pos (k + 1))[pre.length]? = some (q : Int) := by rw [← hp]; simp
    rw [qdp]
    have hw := hE.1 (pat || (eqI kd 10 && eqI ((pre.length : Int) % 2) 1)) N (by omega)
    have step : l1_cf (recN g_cf N) (⟨b, l⟩, (k : Int), pat, ⟨false, ks.pos (k + 1)⟩, (pre.length : Int), ()) =
      bif notB (eqI (errT kd' t' n' ks' (pat || (eqI kd 10 && eqI ((pre.length : Int) % 2) 1))) 0) then some (.inr (errT kd' t' n' ks' (pat || (eqI kd 10 && eqI ((pre.length : Int) % 2) 1)), ())) else some (.inl (⟨b, l⟩, (k : Int), pat, ⟨false, ks.pos (k + 1)⟩, ((pre.length + 1 : Nat) : Int), ())) := by
     unfold l1_cf
     simp only
     rw [q0n, if_pos (by unfold lenI; rw [hlen]; omega), q06 hget, q00, q06 g1, q9v (by omega) (by decide), add1 (by omega)]
     cases pat with
     | true =>
      rw [Bool.true_or] at hw
      simp only [q03, Bool.true_or, hw, q00]
      cases notB (eqI (errT kd' t' n' ks' true) 0) <;> rfl
     | false =>
      cases h10 : eqI kd 10 with
      | true =>
       rw [h10, Bool.false_or, Bool.true_and] at hw
       simp only [q01, Bool.false_or, Bool.true_and, h10, q03, hw, q00]
       cases notB (eqI (errT kd' t' n' ks' (eqI ((pre.length : Int) % 2) 1)) 0) <;> rfl
      | false =>
       rw [h10, Bool.false_or, Bool.false_and] at hw
       simp only [q01, Bool.false_or, Bool.false_and, h10, hw, q00]
       cases notB (eqI (errT kd' t' n' ks' false) 0) <;> rfl
    cases hv0 : notB (eqI (errT kd' t' n' ks' (pat || (eqI kd 10 && eqI ((pre.length : Int) % 2) 1))) 0) with
    | true =>
     rw [hv0, cond_true] at step
     rw [q0a step]
     rfl
    | false =>
     rw [hv0, cond_false] at step
     have hi := ih (q + 1 + ks'.size) (pre ++ [(q : Int)]) hE.2 (by omega) (by rw [List.append_assoc]; exact hp)
     rw [List.length_append] at hi
     have hi : loopR (l1_cf (recN g_cf N)) (⟨b, l⟩, (k : Int), pat, ⟨false, ks.pos (k + 1)⟩, ((pre.length + 1 : Nat) : Int), ()) = some (errF (eqI kd 10) pat (eqI (((pre.length + 1 : Nat) : Int) % 2) 1) r', ()) := hi
     rw [q0e step, hi, qsh]
     rfl
  exact loop ks (k + 1) [] he (by omega) rfl
theorem qsj (b b2 : Bool) (l : List ND) (hl : l.length ≤ 10000) (hg : GL l) {k : Nat} {kd : Int} {t : List Int} {n : Int} {ks : F} (pat : Bool) (h : Sits l k (tr kd t n ks)) :
  f_en (⟨b, l⟩, (k : Int), pat, ⟨b2, l⟩, ()) = some (qeb (k + 1 + ks.size) (errT kd t n ks pat)) :=
 q3z (ks.size + 1) fun N hN => qut b b2 l hl hg h pat N hN
theorem qor (b : Bool) (l : List ND) (hl : l.length ≤ 10000) (hg : GL l) {k : Nat} {kd : Int} {t : List Int} {n : Int} {ks : F} (pat : Bool) (h : Sits l k (tr kd t n ks)) :
  f_cf (⟨b, l⟩, (k : Int), pat, ()) = some (errT kd t n ks pat, ()) :=
 q3z (ks.size + 1) fun N hN => qsi b l hl hg h pat N hN
end Fn
end Ev

namespace Ev
open Go
namespace Fn
abbrev Tx := List Int
def dupL : List Tx → Bool
 | [] => false
 | a :: r => decide (a ∈ r) || dupL r
theorem q7x : ∀ l : List Tx, dupL l = false ↔ l.Nodup
 | [] => by simp [dupL]
 | a :: r => by
  unfold dupL
  rw [List.nodup_cons, ← q7x r, Bool.or_eq_false_iff, decide_eq_false_iff_not]
def q1f (l : List ND) : List Tx := l.filterMap fun x => if x.1 = 22 then some x.2.1 else none
theorem q7y (a b : List ND) : q1f (a ++ b) = q1f a ++ q1f b := List.filterMap_append ..
theorem q4q (x : ND) (l : List ND) : q1f (x :: l) = (if x.1 = 22 then [x.2.1] else []) ++ q1f l := by
 show List.filterMap _ (x :: l) = _
 rw [List.filterMap_cons]
 by_cases h : x.1 = 22
 ·rw [if_pos h, if_pos h]; rfl
 ·rw [if_neg h, if_neg h]; rfl
theorem qfc (l : List ND) : (q1f l).length ≤ l.length := List.length_filterMap_le _ _
theorem qos (b : Bool) (l : List ND) (hl : l.length ≤ 10000) : ∀ (m k : Nat) (nb : Bool) (out : List Tx), k + m = l.length → out.length ≤ k →
  ∃ nb', loopR l1_ek (⟨b, l⟩, (l.length : Int), (k : Int), ⟨nb, out⟩, ()) = some (⟨nb', out ++ q1f (l.drop k)⟩, ()) := by
 intro m
 induction m with
 | zero =>
  intro k nb out hk _
  refine ⟨nb, q0a ?_⟩
  unfold l1_ek
  simp only
  rw [q0n, if_neg (by omega), List.drop_eq_nil_of_le (by omega)]
  show _ = some (Sum.inr ((⟨nb, out ++ []⟩ : Sl Tx), ()))
  rw [List.append_nil]
 | succ m ih =>
  intro k nb out hk ho
  have hlt : k < l.length := by omega
  rw [q1p hlt, q4q]
  have hat := q06 (List.getElem?_eq_getElem hlt)
  by_cases h : l[k].1 = 22
  ·have hf : fit (sumI (lenI out) (lenI [l[k].2.1])) = some () := q0u (by show out.length + 1 ≤ _; omega)
   have step : l1_ek (⟨b, l⟩, (l.length : Int), (k : Int), ⟨nb, out⟩, ()) = some (.inl (⟨b, l⟩, (l.length : Int), ((k + 1 : Nat) : Int), ⟨false, out ++ [l[k].2.1]⟩, ())) := by
    unfold l1_ek
    simp only
    rw [q0n, if_pos (by omega), hat, q00, qmq, if_pos h, hf, q00, q00, q1z, add1 (by omega)]
    rfl
   obtain ⟨nb', h'⟩ := ih (k + 1) false (out ++ [l[k].2.1]) (by omega) (by rw [List.length_append, List.length_singleton]; omega)
   refine ⟨nb', ?_⟩
   rw [q0e step, h', if_pos h, List.append_assoc]
  ·have step : l1_ek (⟨b, l⟩, (l.length : Int), (k : Int), ⟨nb, out⟩, ()) = some (.inl (⟨b, l⟩, (l.length : Int), ((k + 1 : Nat) : Int), ⟨nb, out⟩, ())) := by
    unfold l1_ek
    simp only
    rw [q0n, if_pos (by omega), hat, q00, qmq, if_neg h, q00, add1 (by omega)]
   obtain ⟨nb', h'⟩ := ih (k + 1) nb out (by omega) (by omega)
   refine ⟨nb', ?_⟩
   rw [q0e step, h', if_neg h, List.nil_append]
theorem qot (b : Bool) (l : List ND) (hl : l.length ≤ 10000) : ∃ nb, f_ek (⟨b, l⟩, ()) = some (⟨nb, q1f l⟩, ()) := by
 rw [u_ek]
 exact qos b l hl l.length 0 true [] (by omega) (Nat.le_refl _)
def adj : List Tx → Bool
 | [] => false
 | [_] => false
 | a :: b :: r => decide (a = b) || adj (b :: r)
theorem ql0 : ∀ l : List Tx, adj l = true ↔ ∃ k, k + 1 < l.length ∧ l[k + 1]? = l[k]?
 | [] => by simp [adj]
 | [a] => by simp [adj]
 | a :: b :: r => by
  unfold adj
  rw [Bool.or_eq_true, decide_eq_true_eq, ql0 (b :: r)]
  constructor
  ·rintro (h | ⟨k, h1, h2⟩)
   ·exact ⟨0, by simp, by simp [h]⟩
   ·exact ⟨k + 1, by simpa using h1, by simpa using h2⟩
  ·rintro ⟨k, h1, h2⟩
   cases k with
   | zero => left; simpa using h2.symm
   | succ k => right; exact ⟨k, by simpa using h1, by simpa using h2⟩
theorem qmy (a b : Nat) : sumI (a : Int) (b : Int) = ((a + b : Nat) : Int) := by show (a : Int) + (b : Int) = _; omega
theorem qa4 {α : Type} {l : List α} {i : Nat} (h : i < l.length) : nth l i = some l[i] := by unfold nth; exact List.getElem?_eq_getElem h
theorem qou (k0 : Nat) (nb : Bool) : ∀ (m k k2 : Nat) (s : List Tx), s.length ≤ 1000000 → k0 + k2 + m = s.length → 1 ≤ k2 → k + 1 ≤ k0 + k2 →
  ∃ c : List Tx, loopR l1_d4 ((k : Int), (k0 : Int), (k2 : Int), ⟨nb, s⟩, ()) = some (.inr (⟨nb, c⟩, ())) ∧ c.length < s.length := by
 intro m
 induction m with
 | zero =>
  intro k k2 s hs h1 h2 h3
  refine ⟨(zerL s (k : Int) []).take k, q0a ?_, ?_⟩
  ·have e1 : lenI (dropL s (k0 : Int)) = (k2 : Int) := by unfold lenI dropL; rw [List.length_drop, Int.toNat_natCast]; omega
   have ez : (zerL s (k : Int) ([] : Tx)).length = s.length := by unfold zerL; rw [List.length_append, List.length_take, List.length_replicate, Int.toNat_natCast]; omega
   unfold l1_d4
   simp only [e1]
   rw [q0n, if_neg (by omega)]
   have c1 : cutN (lenI s) (k : Int) = some k := by unfold cutN lenI; rw [if_pos (by omega), Int.toNat_natCast]
   have c2 : cutN (lenI (zerL s (k : Int) ([] : Tx))) (k : Int) = some k := by unfold cutN lenI; rw [if_pos (by omega), Int.toNat_natCast]
   rw [c1, q00, c2, q00]
   rfl
  ·rw [List.length_take]; omega
 | succ m ih =>
  intro k k2 s hs h1 h2 h3
  have e1 : lenI (dropL s (k0 : Int)) = ((k2 + m + 1 : Nat) : Int) := by unfold lenI dropL; rw [List.length_drop, Int.toNat_natCast]; omega
  have e2 : subI .i64 (k2 : Int) 1 = ((k2 - 1 : Nat) : Int) := by rw [q2o (by omega) (by omega)]; omega
  have l1 : leI 0 (k2 : Int) = true := decide_eq_true (by omega)
  have l2 : leI 0 ((k2 - 1 : Nat) : Int) = true := decide_eq_true (by omega)
  have step : ∃ (k' : Nat) (s' : List Tx), l1_d4 ((k : Int), (k0 : Int), (k2 : Int), ⟨nb, s⟩, ()) = some (.inl ((k' : Int), (k0 : Int), ((k2 + 1 : Nat) : Int), ⟨nb, s'⟩, ())) ∧ s'.length = s.length ∧ k' + 1 ≤ k0 + (k2 + 1) := by
   unfold l1_d4
   simp only [e1]
   rw [q0n, if_pos (by omega), e2, l1, l2, q03, q03, qmy, qmy, q2p (by omega), q2p (by omega)]
   simp only [q00, qa4 (show k0 + k2 < s.length by omega), qa4 (show k0 + (k2 - 1) < s.length by omega)]
   cases eqS s[k0 + k2] s[k0 + (k2 - 1)] with
   | true =>
    refine ⟨k, s, ?_, rfl, by omega⟩
    simp only [notB, Bool.not_true, q01, q00, add1 (show k2 ≤ 1000000000 by omega)]
   | false =>
    refine ⟨k + 1, s.set k s[k0 + k2], ?_, by rw [List.length_set], by omega⟩
    simp only [notB, Bool.not_false, q03, q00, q2p (show k < s.length by omega), qa4 (show k < s.length by omega), add1 (show k2 ≤ 1000000000 by omega), add1 (show k ≤ 1000000000 by omega)]
    rfl
  obtain ⟨k', s', h4, h5, h6⟩ := step
  obtain ⟨c, g1, g2⟩ := ih k' (k2 + 1) s' (by omega) (by omega) (by omega) h6
  exact ⟨c, by rw [q0e h4, g1], by omega⟩
theorem qj3 (nb : Bool) (s : List Tx) (hs : s.length ≤ 1000000) : ∀ (m k : Nat), k + m = s.length → 1 ≤ k → (∀ j, j + 1 < k → s[j + 1]? ≠ s[j]?) →
  ∃ c, loopR l2_d4 ((k : Int), ⟨nb, s⟩, ()) = some (⟨nb, c⟩, ()) ∧ decide (c.length < s.length) = adj s := by
 intro m
 induction m with
 | zero =>
  intro k h1 h2 h3
  refine ⟨s, q0a ?_, ?_⟩
  ·unfold l2_d4
   simp only
   rw [q0n, if_neg (by unfold lenI; omega)]
  ·have : adj s = false := by
    cases h : adj s with
    | false => rfl
    | true =>
     obtain ⟨j, g1, g2⟩ := (ql0 s).1 h
     exact absurd g2 (h3 j (by omega))
   rw [this]
   exact decide_eq_false (Nat.lt_irrefl _)
 | succ m ih =>
  intro k h1 h2 h3
  have e2 : subI .i64 (k : Int) 1 = ((k - 1 : Nat) : Int) := by rw [q2o (by omega) (by omega)]; omega
  have hc : cutN (lenI s) (k : Int) = some k := by unfold cutN lenI; rw [if_pos (by omega), Int.toNat_natCast]
  by_cases he : s[k] = s[k - 1]
  ·obtain ⟨c, g1, g2⟩ := qou k nb m k 1 s hs (by omega) (Nat.le_refl _) (by omega)
   have g1 : loopR l1_d4 ((k : Int), (k : Int), 1, ⟨nb, s⟩, ()) = some (.inr (⟨nb, c⟩, ())) := g1
   refine ⟨c, q0a ?_, ?_⟩
   ·unfold l2_d4
    simp only
    rw [q0n, if_pos (by unfold lenI; omega), e2, q2p (by omega), q2p (by omega)]
    simp only [q00, qa4 (show k < s.length by omega), qa4 (show k - 1 < s.length by omega), hc]
    rw [qdk, if_pos he, g1]
   ·have : adj s = true := (ql0 s).2 ⟨k - 1, by omega, by
     rw [show k - 1 + 1 = k by omega, List.getElem?_eq_getElem (by omega), List.getElem?_eq_getElem (by omega), he]⟩
    rw [this]
    exact decide_eq_true g2
  ·have step : l2_d4 ((k : Int), ⟨nb, s⟩, ()) = some (.inl (((k + 1 : Nat) : Int), ⟨nb, s⟩, ())) := by
    unfold l2_d4
    simp only
    rw [q0n, if_pos (by unfold lenI; omega), e2, q2p (by omega), q2p (by omega)]
    simp only [q00, qa4 (show k < s.length by omega), qa4 (show k - 1 < s.length by omega)]
    rw [qdk, if_neg he, add1 (by omega)]
   obtain ⟨c, g1, g2⟩ := ih (k + 1) (by omega) (by omega) (fun j hj => by
    by_cases hjk : j + 1 = k
    ·have : j = k - 1 := by omega
     subst this
     rw [show k - 1 + 1 = k by omega, List.getElem?_eq_getElem (by omega), List.getElem?_eq_getElem (by omega)]
     exact fun e => he (Option.some.inj e)
    ·exact h3 j (by omega))
   exact ⟨c, by rw [q0e step, g1], g2⟩
theorem qj4 (nb : Bool) (s : List Tx) (hs : s.length ≤ 1000000) : ∃ c, f_d4 (⟨nb, s⟩, ()) = some (⟨nb, c⟩, ()) ∧ decide (c.length < s.length) = adj s := by
 rw [u_d4, q0n]
 by_cases h : lenI s < 2
 ·rw [if_pos h]
  refine ⟨s, rfl, ?_⟩
  have : adj s = false := by
   have h : (s.length : Int) < 2 := h
   match s, h with
   | [], _ => rfl
   | [a], _ => rfl
   | a :: b :: r, h => simp at h; omega
  rw [this]
  exact decide_eq_false (Nat.lt_irrefl _)
 ·rw [if_neg h]
  have h : ¬ (s.length : Int) < 2 := h
  exact qj3 nb s hs (s.length - 1) 1 (by omega) (Nat.le_refl _) (fun j hj => by omega)
theorem qfd : ∀ l : List Tx, (l.Pairwise fun a b => (!strLt b a) = true) → adj l = dupL l
 | [], _ => rfl
 | [a], _ => by simp [adj, dupL]
 | a :: b :: r, h => by
  have ih := qfd (b :: r) (List.pairwise_cons.1 h).2
  unfold adj
  rw [ih]
  conv => rhs; unfold dupL
  by_cases hab : a = b
  ·simp [hab]
  ·have hm : a ∉ b :: r := by
    intro hm
    rcases List.mem_cons.1 hm with e | e
    ·exact hab e
    ·have h1 := (List.pairwise_cons.1 h).1 b (List.mem_cons_self ..)
     have h2 := (List.pairwise_cons.1 (List.pairwise_cons.1 h).2).1 a e
     simp only [Bool.not_eq_true'] at h1 h2
     exact hab (q8u _ _ h2 h1)
   rw [decide_eq_false hab, decide_eq_false hm]
theorem quu {a b : List Tx} (h : a.Perm b) : dupL a = dupL b := by
 have := h.nodup_iff
 rw [← q7x, ← q7x] at this
 cases ha : dupL a <;> cases hb : dupL b <;> simp_all
theorem qz0 (nb : Bool) (s : List Tx) (hs : s.length ≤ 1000000) (hg : ∀ x, x ∈ s → qaw x = true) :
  ∃ c nb', bnd (f_e5 (⟨nb, s⟩, ())) (fun x => f_d4 (x.1, ())) = some (⟨nb', c⟩, ()) ∧ decide (c.length < s.length) = dupL s := by
 have e : f_e5 (⟨nb, s⟩, ()) = some (⟨nb, s.mergeSort fun a b => !strLt b a⟩, ()) := by
  show (bif s.all qaw && decide (s.length < 4611686018427387904) then _ else none) = _
  rw [List.all_eq_true.2 hg, decide_eq_true (show s.length < 4611686018427387904 by omega)]
  rfl
 have hlen : (s.mergeSort fun a b => !strLt b a).length = s.length := List.length_mergeSort _
 obtain ⟨c, h1, h2⟩ := qj4 nb (s.mergeSort fun a b => !strLt b a) (by omega)
 rw [e, q00]
 refine ⟨c, nb, h1, ?_⟩
 rw [← hlen, h2, qfd, quu (List.mergeSort_perm _ _)]
 refine List.pairwise_mergeSort (fun a b c h1 h2 => ?_) (fun a b => ?_) _
 ·simp only [Bool.not_eq_true'] at h1 h2 ⊢
  cases h3 : strLt c a with
  | false => rfl
  | true =>
   cases h4 : strLt b c with
   | true => rw [q8t _ _ _ h4 h3] at h1; cases h1
   | false =>
    have e := q8u _ _ h2 h4
    subst e
    rw [h1] at h3; cases h3
 ·cases h3 : strLt b a with
  | false => rfl
  | true =>
   cases h4 : strLt a b with
   | false => rfl
   | true => have := q8t _ _ _ h3 h4; rw [qbm] at this; cases this
end Fn
end Ev

namespace Ev
open Go
namespace Fn
theorem Sits.flat_eq {l : List ND} {k : Nat} {f : F} (h : Sits l k f) : (l.drop k).take f.size = f.flat := by
 obtain ⟨post, h⟩ := h
 rw [h, ← f.len, List.take_left']
 rfl
theorem quv {α : Type} (a c : List α) (h : a.length = c.length) : ovl a c = c := by
 unfold ovl
 rw [h, List.take_length, ← h, List.drop_length, List.append_nil]
theorem quw (b : Bool) (l : List ND) (hl : l.length ≤ 10000) {k : Nat} {kd : Int} {t : List Int} {n : Int} {ks r : F} (h : Sits l k (.cons kd t n ks r)) :
  f_es (⟨b, l⟩, (k : Int), ()) = some (⟨false, (tr kd t n ks).flat⟩, 0, ()) := by
 obtain ⟨g1, g2, g3, g4⟩ := h.node
 rw [u_es, q7v b l hl, h.ends]
 have hs : subI .i64 ((k + 1 + ks.size : Nat) : Int) (k : Int) = ((ks.size + 1 : Nat) : Int) := by rw [q2o (by omega) (by omega)]; omega
 have hm : mkN ((ks.size + 1 : Nat) : Int) ((ks.size + 1 : Nat) : Int) = some (ks.size + 1) := by
  unfold mkN; rw [if_pos (by omega), Int.toNat_natCast]
 have hc : cutL l (k : Int) ((k + 1 + ks.size : Nat) : Int) = some ((l.take (k + 1 + ks.size)).drop k) := by
  unfold cutL; rw [if_pos (by omega), Int.toNat_natCast, Int.toNat_natCast]
 have hd : (l.take (k + 1 + ks.size)).drop k = (tr kd t n ks).flat := by
  rw [List.drop_take, show k + 1 + ks.size - k = (tr kd t n ks).size by rw [q6h]; omega]
  exact h.first.flat_eq
 simp only [q00]
 rw [q0n, if_neg (by omega)]
 simp only [hs, hm, q00, hc, hd]
 rw [quv]
 rw [(tr kd t n ks).len, q6h]
 exact List.length_replicate
theorem GL.sub {l : List ND} (hg : GL l) {k : Nat} {f : F} (h : Sits l k f) : GL f.flat := by
 intro x hx
 rw [← h.flat_eq] at hx
 exact hg x (List.mem_of_mem_drop (List.mem_of_mem_take hx))
theorem qov {l : List ND} (hg : GL l) : ∀ x, x ∈ q1f l → qaw x = true := by
 intro x hx
 obtain ⟨d, h1, h2⟩ := List.mem_filterMap.1 hx
 by_cases h : d.1 = 22
 ·rw [if_pos h] at h2
  injection h2 with h2
  subst h2
  obtain ⟨g1, g2, _⟩ := hg d h1
  unfold qaw
  rw [Bool.and_eq_true, List.all_eq_true, decide_eq_true_eq]
  exact ⟨fun b hb => decide_eq_true (g1 b hb), by omega⟩
 ·rw [if_neg h] at h2; cases h2
theorem ql1 (b : Bool) (l : List ND) (hl : l.length ≤ 10000) (hg : GL l) {k : Nat} {kd : Int} {t : List Int} {n : Int} {ks r : F} (h : Sits l k (.cons kd t n ks r)) :
  f_ed ((k : Int), ⟨b, l⟩, ()) = some (dupL (q1f (tr kd t n ks).flat), ()) := by
 obtain ⟨g1, g2, g3, g4⟩ := h.node
 rw [u_ed, quw b l hl h]
 simp only [q00]
 have hlen : (tr kd t n ks).flat.length ≤ 10000 := by rw [(tr kd t n ks).len, q6h]; omega
 obtain ⟨nb, h1⟩ := qot false (tr kd t n ks).flat hlen
 have hn := qfc (tr kd t n ks).flat
 obtain ⟨c, nb', h2, h3⟩ := qz0 nb (q1f (tr kd t n ks).flat) (by omega) (qov (hg.sub h.first))
 have h4 : f_ee (⟨false, (tr kd t n ks).flat⟩, ()) = some (lenI (q1f (tr kd t n ks).flat), ()) := by
  rw [u_ee, h1]; rfl
 rw [h1]
 simp only [q00, h4]
 cases hs : f_e5 (⟨nb, q1f (tr kd t n ks).flat⟩, ()) with
 | none => rw [hs] at h2; cases h2
 | some x =>
  rw [hs, q00] at h2
  simp only [q00, h2]
  rw [← h3]
  congr 2
  exact decide_eq_decide.2 (by unfold lenI; omega)
def qby : F → List Tx
 | .nil => []
 | .cons kd t _ ks r => (bif eqI kd 22 then [t] else qby ks) ++ qby r
def q4r (kd : Int) (t : Tx) (ks : F) : List Tx := bif eqI kd 22 then [t] else qby ks
theorem q3j (kd : Int) (t : Tx) (n : Int) (ks r : F) : qby (.cons kd t n ks r) = q4r kd t ks ++ qby r := id (Eq.refl _)
theorem qa5 : ∀ f : F, (qby f).length ≤ f.size
 | .nil => Nat.le_refl _
 | .cons kd t n ks r => by
  have h1 := qa5 ks
  have h2 := qa5 r
  rw [q3j, List.length_append]
  show _ ≤ ks.size + r.size + 1
  unfold q4r
  cases eqI kd 22 with
  | true => show 1 + _ ≤ _; omega
  | false => show (qby ks).length + _ ≤ _; omega
theorem qux (b : Bool) (l : List ND) (hl : l.length ≤ 10000) {k : Nat} {kd : Int} {t : List Int} {n : Int} {ks : F} (h : Sits l k (tr kd t n ks)) :
  ∀ N, ks.size + 1 ≤ N → recN g_cc N (⟨b, l⟩, (k : Int), ()) = some (⟨false, q4r kd t ks⟩, ()) := by
 refine F.each_one (l := l) (P := fun k kd t _ ks => ∀ N, ks.size + 1 ≤ N → recN g_cc N (⟨b, l⟩, (k : Int), ()) = some (⟨false, q4r kd t ks⟩, ())) ?_ h
 clear h k kd t n ks
 intro k kd t n ks hs he N hN
 obtain ⟨N, rfl⟩ : ∃ m, N = m + 1 := ⟨N - 1, by omega⟩
 show g_cc (recN g_cc N) _ = _
 obtain ⟨g1, g2, g3, g4⟩ := hs.node
 rw [u_cc, q06 g1]
 simp only [q00]
 unfold q4r
 cases h22 : eqI kd 22 with
 | true => rfl
 | false =>
  rw [q01, cond_false, q32 b l hl hs, q00]
  have loop : ∀ (g : F) (q : Nat) (pre : List Int) (out : List Tx), g.Each (fun k kd t _ ks => ∀ N, ks.size + 1 ≤ N → recN g_cc N (⟨b, l⟩, (k : Int), ()) = some (⟨false, q4r kd t ks⟩, ())) q →
    g.size ≤ N → pre ++ g.pos q = ks.pos (k + 1) → out.length + g.size ≤ 1000000 →
    loopR (l1_cc (recN g_cc N)) (⟨b, l⟩, ⟨false, ks.pos (k + 1)⟩, (pre.length : Int), ⟨false, out⟩, ()) = some (⟨false, out ++ qby g⟩, ()) := by
   intro g
   induction g with
   | nil =>
    intro q pre out _ _ hp _
    have hp : pre ++ [] = ks.pos (k + 1) := hp
    rw [List.append_nil] at hp
    refine q0a ?_
    unfold l1_cc
    simp only
    rw [q0n, if_neg (by rw [hp]; unfold lenI; omega)]
    show _ = some (Sum.inr ((⟨false, out ++ []⟩ : Sl Tx), ()))
    rw [List.append_nil]
   | cons kd' t' n' ks' r' _ ih =>
    intro q pre out hE hz hp ho
    have hz : ks'.size + r'.size + 1 ≤ N := hz
    have ho : out.length + (ks'.size + r'.size + 1) ≤ 1000000 := ho
    have hp : pre ++ (q : Int) :: r'.pos (q + 1 + ks'.size) = ks.pos (k + 1) := hp
    have hlen : (ks.pos (k + 1)).length = ks.cnt := ks.pos_len _
    have hpl := congrArg List.length hp
    rw [List.length_append, List.length_cons, hlen] at hpl
    have hc := ks.cnt_le
    have hget : (ks.pos (k + 1))[pre.length]? = some (q : Int) := by rw [← hp]; simp
    have hv : (q4r kd' t' ks').length ≤ ks'.size + 1 := by
     have := qa5 (tr kd' t' n' ks')
     have e : qby (tr kd' t' n' ks') = q4r kd' t' ks' ++ [] := q3j ..
     rw [e, List.append_nil, q6h] at this
     exact this
    have hf : fit (sumI (lenI out) (lenI (q4r kd' t' ks'))) = some () := q0u (by omega)
    have step : l1_cc (recN g_cc N) (⟨b, l⟩, ⟨false, ks.pos (k + 1)⟩, (pre.length : Int), ⟨false, out⟩, ()) = some (.inl (⟨b, l⟩, ⟨false, ks.pos (k + 1)⟩, ((pre.length + 1 : Nat) : Int), ⟨false, out ++ q4r kd' t' ks'⟩, ())) := by
     unfold l1_cc
     simp only
     rw [q0n, if_pos (by unfold lenI; rw [hlen]; omega), q06 hget, q00, hE.1 N (by omega), q00]
     simp only [hf, q00, add1 (show pre.length ≤ 1000000000 by omega), q7w]
     rfl
    have hi := ih (q + 1 + ks'.size) (pre ++ [(q : Int)]) (out ++ q4r kd' t' ks') hE.2 (by omega) (by rw [List.append_assoc]; exact hp) (by rw [List.length_append]; omega)
    rw [List.length_append] at hi
    have hi : loopR (l1_cc (recN g_cc N)) (⟨b, l⟩, ⟨false, ks.pos (k + 1)⟩, ((pre.length + 1 : Nat) : Int), ⟨false, out ++ q4r kd' t' ks'⟩, ()) = _ := hi
    rw [q0e step, hi, List.append_assoc]
    rfl
  exact loop ks (k + 1) [] [] he (by omega) rfl (by show 0 + ks.size ≤ _; omega)
theorem qsk (b : Bool) (l : List ND) (hl : l.length ≤ 10000) {k : Nat} {kd : Int} {t : List Int} {n : Int} {ks : F} (h : Sits l k (tr kd t n ks)) :
  f_cc (⟨b, l⟩, (k : Int), ()) = some (⟨false, q4r kd t ks⟩, ()) :=
 q3z (ks.size + 1) fun N hN => qux b l hl h N hN
theorem qzs (nb : Bool) (v : List Tx) (hv : v.length ≤ 1000000) (i : Nat) (hi : i < v.length) : ∀ (m j : Nat), j + m = i →
  ∃ r, loopR l1_ch ((i : Int), (j : Int), ⟨nb, v⟩, ()) = some r ∧ ((∃ q, j ≤ q ∧ q < i ∧ v[q]? = v[i]?) ∧ r = .inr (true, ()) ∨ (∀ q, j ≤ q → q < i → v[q]? ≠ v[i]?) ∧ r = .inl (((i + 1 : Nat) : Int), ⟨nb, v⟩, ())) := by
 intro m
 induction m with
 | zero =>
  intro j hj
  refine ⟨_, q0a ?_, .inr ⟨fun q h1 h2 => by omega, rfl⟩⟩
  unfold l1_ch
  simp only
  rw [q0n, if_neg (by omega), add1 (by omega)]
 | succ m ih =>
  intro j hj
  have hstep : l1_ch ((i : Int), (j : Int), ⟨nb, v⟩, ()) = if v[i] = v[j] then some (.inr (.inr (true, ()))) else some (.inl ((i : Int), ((j + 1 : Nat) : Int), ⟨nb, v⟩, ())) := by
   unfold l1_ch
   simp only
   rw [q0n, if_pos (by omega), q2p hi, q2p (by omega)]
   simp only [q00, qa4 hi, qa4 (show j < v.length by omega)]
   rw [qdk, add1 (by omega)]
  by_cases h : v[i] = v[j]
  ·rw [if_pos h] at hstep
   exact ⟨_, q0a hstep, .inl ⟨⟨j, Nat.le_refl _, by omega, by rw [List.getElem?_eq_getElem hi, List.getElem?_eq_getElem (by omega), h]⟩, rfl⟩⟩
  ·rw [if_neg h] at hstep
   obtain ⟨r, h1, h2⟩ := ih (j + 1) (by omega)
   refine ⟨r, by rw [q0e hstep, h1], ?_⟩
   rcases h2 with ⟨⟨q, e1, e2, e3⟩, e4⟩ | ⟨e1, e2⟩
   ·exact .inl ⟨⟨q, by omega, e2, e3⟩, e4⟩
   ·refine .inr ⟨fun q h3 h4 => ?_, e2⟩
    by_cases hq : q = j
    ·subst hq
     rw [List.getElem?_eq_getElem hi, List.getElem?_eq_getElem (by omega)]
     exact fun e => h (Option.some.inj e).symm
    ·exact e1 q (by omega) h4
theorem qxq (nb : Bool) (v : List Tx) (hv : v.length ≤ 1000000) : ∀ (m i : Nat), i + m = v.length → (∀ a c : Nat, a < c → c < i → v[a]? ≠ v[c]?) →
  loopR l2_ch ((i : Int), ⟨nb, v⟩, ()) = some (dupL v, ()) := by
 have hiff : dupL v = true ↔ ∃ a c : Nat, a < c ∧ c < v.length ∧ v[a]? = v[c]? := by
  have key : v.Nodup ↔ ∀ i j : Nat, i < j → j < v.length → v[i]? ≠ v[j]? := by
   unfold List.Nodup
   rw [List.pairwise_iff_getElem]
   constructor
   ·intro h i j hij hj e
    rw [List.getElem?_eq_getElem (show i < v.length by omega), List.getElem?_eq_getElem hj] at e
    exact h i j (by omega) hj hij (Option.some.inj e)
   ·intro h i j hi hj hij e
    exact h i j hij hj (by rw [List.getElem?_eq_getElem hi, List.getElem?_eq_getElem hj, e])
  have := (q7x v).trans key
  constructor
  ·intro h
   apply Classical.byContradiction
   intro hn
   have hh : dupL v = false := this.2 fun i j hij hj e => hn ⟨i, j, hij, hj, e⟩
   rw [h] at hh; cases hh
  ·rintro ⟨a, c, h1, h2, h3⟩
   cases hd : dupL v with
   | true => rfl
   | false => exact absurd h3 (this.1 hd a c h1 h2)
 intro m
 induction m with
 | zero =>
  intro i hi hno
  refine q0a ?_
  unfold l2_ch
  simp only
  rw [q0n, if_neg (by unfold lenI; omega)]
  cases hd : dupL v with
  | false => rfl
  | true =>
   obtain ⟨a, c, h1, h2, h3⟩ := hiff.1 hd
   exact absurd h3 (hno a c h1 (by omega))
 | succ m ih =>
  intro i hi hno
  obtain ⟨r, h1, h2⟩ := qzs nb v hv i (by omega) i 0 (by omega)
  have h1 : loopR l1_ch ((i : Int), 0, ⟨nb, v⟩, ()) = some r := h1
  have hstep : l2_ch ((i : Int), ⟨nb, v⟩, ()) = loopR l1_ch ((i : Int), 0, ⟨nb, v⟩, ()) := by
   unfold l2_ch
   simp only
   rw [q0n, if_pos (by unfold lenI; omega)]
  rw [h1] at hstep
  rcases h2 with ⟨⟨q, e1, e2, e3⟩, e4⟩ | ⟨e1, e2⟩
  ·subst e4
   rw [q0a hstep, hiff.2 ⟨q, i, e2, by omega, e3⟩]
  ·subst e2
   rw [q0e hstep, ih (i + 1) (by omega) (fun a c h3 h4 => by
    by_cases hc : c = i
    ·subst hc; exact e1 a (by omega) h3
    ·exact hno a c h3 (by omega))]
def twF : F → Bool
 | .nil => false
 | .cons kd t _ ks r => (bif q2m kd then dupL (q4r kd t ks) else twF ks) || twF r
def twT (kd : Int) (t : Tx) (ks : F) : Bool := bif q2m kd then dupL (q4r kd t ks) else twF ks
theorem qgq (kd : Int) (t : Tx) (n : Int) (ks r : F) : twF (.cons kd t n ks r) = (twT kd t ks || twF r) := id (Eq.refl _)
theorem qsl (b : Bool) (l : List ND) (hl : l.length ≤ 10000) {k : Nat} {kd : Int} {t : List Int} {n : Int} {ks : F} (h : Sits l k (tr kd t n ks)) :
  ∀ N, ks.size + 1 ≤ N → recN g_ch N (⟨b, l⟩, (k : Int), ()) = some (twT kd t ks, ()) := by
 refine F.each_one (l := l) (P := fun k kd t _ ks => ∀ N, ks.size + 1 ≤ N → recN g_ch N (⟨b, l⟩, (k : Int), ()) = some (twT kd t ks, ())) ?_ h
 clear h k kd t n ks
 intro k kd t n ks hs he N hN
 obtain ⟨N, rfl⟩ : ∃ m, N = m + 1 := ⟨N - 1, by omega⟩
 show g_ch (recN g_ch N) _ = _
 obtain ⟨g1, g2, g3, g4⟩ := hs.node
 rw [u_ch, q06 g1]
 simp only [q00, qfb]
 unfold twT
 cases q2m kd with
 | true =>
  rw [q03, cond_true, qsk b l hl hs, q00]
  have hv : (q4r kd t ks).length ≤ ks.size + 1 := by
   have := qa5 (tr kd t n ks)
   have e : qby (tr kd t n ks) = q4r kd t ks ++ [] := q3j ..
   rw [e, List.append_nil, q6h] at this
   exact this
  exact qxq false (q4r kd t ks) (by omega) _ 0 (Nat.zero_add _) (fun a c h1 h2 => by omega)
 | false =>
  rw [q01, cond_false, q32 b l hl hs, q00]
  have loop : ∀ (g : F) (q : Nat) (pre : List Int), g.Each (fun k kd t _ ks => ∀ N, ks.size + 1 ≤ N → recN g_ch N (⟨b, l⟩, (k : Int), ()) = some (twT kd t ks, ())) q →
    g.size ≤ N → pre ++ g.pos q = ks.pos (k + 1) →
    loopR (l3_ch (recN g_ch N)) (⟨b, l⟩, ⟨false, ks.pos (k + 1)⟩, (pre.length : Int), ()) = some (twF g, ()) := by
   intro g
   induction g with
   | nil =>
    intro q pre _ _ hp
    have hp : pre ++ [] = ks.pos (k + 1) := hp
    rw [List.append_nil] at hp
    refine q0a ?_
    unfold l3_ch
    simp only
    rw [q0n, if_neg (by rw [hp]; unfold lenI; omega)]
    rfl
   | cons kd' t' n' ks' r' _ ih =>
    intro q pre hE hz hp
    have hz : ks'.size + r'.size + 1 ≤ N := hz
    have hp : pre ++ (q : Int) :: r'.pos (q + 1 + ks'.size) = ks.pos (k + 1) := hp
    have hlen : (ks.pos (k + 1)).length = ks.cnt := ks.pos_len _
    have hpl := congrArg List.length hp
    rw [List.length_append, List.length_cons, hlen] at hpl
    have hc := ks.cnt_le
    have hget : (ks.pos (k + 1))[pre.length]? = some (q : Int) := by rw [← hp]; simp
    have step : l3_ch (recN g_ch N) (⟨b, l⟩, ⟨false, ks.pos (k + 1)⟩, (pre.length : Int), ()) =
      cnd (twT kd' t' ks') (some (.inr (true, ()))) (some (.inl (⟨b, l⟩, ⟨false, ks.pos (k + 1)⟩, ((pre.length + 1 : Nat) : Int), ()))) := by
     unfold l3_ch
     simp only
     rw [q0n, if_pos (by unfold lenI; rw [hlen]; omega), q06 hget, q00, hE.1 N (by omega), q00, add1 (by omega)]
    rw [qgq]
    cases ht : twT kd' t' ks' with
    | true =>
     rw [ht, q03] at step
     rw [q0a step]
     rfl
    | false =>
     rw [ht, q01] at step
     have hi := ih (q + 1 + ks'.size) (pre ++ [(q : Int)]) hE.2 (by omega) (by rw [List.append_assoc]; exact hp)
     rw [List.length_append] at hi
     have hi : loopR (l3_ch (recN g_ch N)) (⟨b, l⟩, ⟨false, ks.pos (k + 1)⟩, ((pre.length + 1 : Nat) : Int), ()) = _ := hi
     rw [q0e step, hi]
     rfl
  exact loop ks (k + 1) [] he (by omega) rfl
theorem qow (b : Bool) (l : List ND) (hl : l.length ≤ 10000) {k : Nat} {kd : Int} {t : List Int} {n : Int} {ks : F} (h : Sits l k (tr kd t n ks)) :
  f_ch (⟨b, l⟩, (k : Int), ()) = some (twT kd t ks, ()) :=
 q3z (ks.size + 1) fun N hN => qsl b l hl h N hN
end Fn
end Ev

namespace Ev
open Go
namespace Fn
theorem qb3 {a b : Int} : (bif notB (eqI a 0) then a else b) = 0 ↔ a = 0 ∧ b = 0 := by
 cases h : eqI a 0 with
 | true =>
  have := eqI_eq.1 h
  rw [nT, cond_false]
  exact ⟨fun e => ⟨this, e⟩, fun e => e.2⟩
 | false =>
  have hn : a ≠ 0 := fun e => by rw [e] at h; cases h
  rw [nF, cond_true]
  exact ⟨fun e => absurd e hn, fun e => absurd e.1 hn⟩
theorem errT_ok {kd : Int} {t : Tx} {n : Int} {ks : F} {pat : Bool} : errT kd t n ks pat = 0 ↔ q16 kd t n (ks.cnt : Int) ks.head pat = 0 ∧ errF (eqI kd 10) pat false ks = 0 := qb3
theorem errF_ok {m pat odd : Bool} {kd : Int} {t : Tx} {n : Int} {ks r : F} : errF m pat odd (.cons kd t n ks r) = 0 ↔ errT kd t n ks (pat || (m && odd)) = 0 ∧ errF m pat (!odd) r = 0 := by
 rw [qdp]; exact qb3
def quy (k n : Int) : Bool := bif eqI k 1 || eqI k 23 then q40 n else eqI n 0
def qsm (k : Int) (t : Tx) : Bool := (bif eqI (q2j k) 0 then eqS t [] else bif eqI (q2j k) 3 then notB (ltI 200 (lenI t)) else true) && notB (eqI (q2j k) 1 && notB (nameOk t)) && notB (eqI (q2j k) 2 && notB (q27 t))
def qxr (k hk : Int) : Bool := notB (eqI k 8 && notB (eqI hk 5))
theorem qox (k : Int) (t : Tx) (hk : Int) : q4x k t hk = 0 ↔ qsm k t = true ∧ qxr k hk = true := by
 unfold q4x q5f qsm qxr
 generalize (eqI k 8 && notB (eqI hk 5)) = T
 generalize eqI (q2j k) 0 = s0
 generalize eqI (q2j k) 1 = s1
 generalize eqI (q2j k) 2 = s2
 generalize eqI (q2j k) 3 = s3
 generalize eqS t [] = a
 generalize ltI 200 (lenI t) = c
 generalize nameOk t = d
 generalize q27 t = e
 revert T s0 s1 s2 s3 a c d e
 decide
theorem nodeE_zero {k : Int} {t : Tx} {n c hk : Int} {pat : Bool} : q16 k t n c hk pat = 0 ↔ ltI (q2j k) 0 = false ∧ q2m k = pat ∧ q3w k c = true ∧ quy k n = true ∧ qsm k t = true ∧ qxr k hk = true := by
 rw [← qox]
 have e : q16 k t n c hk pat = bif ltI (q2j k) 0 then 61 else bif notB (eqB (q2m k) pat) then 61 else bif notB (q3w k c) then 61 else bif quy k n then q4x k t hk else 61 := by
  unfold q16 quy
  cases (eqI k 1 || eqI k 23) <;> rfl
 rw [e]
 cases ltI (q2j k) 0 with
 | true => simp
 | false =>
  have hp : eqB (q2m k) pat = true ↔ q2m k = pat := by cases q2m k <;> cases pat <;> decide
  cases h1 : eqB (q2m k) pat with
  | false =>
   have : q2m k ≠ pat := fun e => by rw [hp.2 e] at h1; cases h1
   simp [nF, this]
  | true =>
   rw [nT, cond_false, cond_false]
   have := hp.1 h1
   cases q3w k c with
   | false => simp [nF]
   | true =>
    rw [nT, cond_false]
    cases quy k n with
    | false => simp
    | true => simp [this]
theorem qsn {k c : Int} (h : q3w k c = true) : (k = 5 ∨ k = 11 → c = 1) ∧ (k = 6 ∨ k = 7 ∨ k = 8 ∨ k = 12 → c = 2) ∧ (k = 9 → c = 3) ∧ (k = 10 → 3 ≤ c ∧ c % 2 = 1) ∧ (k = 1 ∨ k = 2 ∨ k = 3 ∨ k = 4 ∨ k = 21 ∨ k = 22 ∨ k = 23 → c = 0) := by
 refine ⟨?_, ?_, ?_, ?_, ?_⟩
 ·rintro (rfl | rfl) <;> exact eqI_eq.1 h
 ·rintro (rfl | rfl | rfl | rfl) <;> exact eqI_eq.1 h
 ·rintro rfl; exact eqI_eq.1 h
 ·rintro rfl
  have h : (leI 3 c && eqI (c % 2) 1) = true := h
  rw [Bool.and_eq_true, eqI_eq] at h
  exact ⟨of_decide_eq_true h.1, h.2⟩
 ·rintro (rfl | rfl | rfl | rfl | rfl | rfl | rfl) <;> exact eqI_eq.1 h
theorem qc4 {f : F} (h : (f.cnt : Int) = 0) : f = .nil := by
 cases f with
 | nil => rfl
 | cons _ _ _ _ r => have h : ((r.cnt + 1 : Nat) : Int) = 0 := h; omega
theorem q8w : ∀ (f : F) (m pat odd : Bool), errF m pat odd f = 0 → q1f f.flat = qby f
 | .nil, _, _, _, _ => rfl
 | .cons kd t n ks r, m, pat, odd, h => by
  obtain ⟨h1, h2⟩ := errF_ok.1 h
  obtain ⟨h3, h4⟩ := errT_ok.1 h1
  have i1 := q8w ks _ _ _ h4
  have i2 := q8w r _ _ _ h2
  show q1f ((kd, t, n, (ks.cnt : Int)) :: (ks.flat ++ r.flat)) = _
  rw [q4q, q7y, i1, i2, q3j]
  unfold q4r
  by_cases h22 : kd = 22
  ·subst h22
   have := (qsn (nodeE_zero.1 h3).2.2.1).2.2.2.2 (by omega)
   rw [qc4 this, if_pos rfl]
   rfl
  ·rw [if_neg h22, q1a h22]; rfl
theorem qbo {kd : Int} {t : Tx} {n : Int} {ks : F} {pat : Bool} (h : errT kd t n ks pat = 0) : q1f (tr kd t n ks).flat = q4r kd t ks := by
 have h' : errF false pat false (tr kd t n ks) = 0 := errF_ok.2 ⟨by rw [Bool.false_and, Bool.or_false]; exact h, rfl⟩
 rw [q8w _ _ _ _ h', q3j]
 exact List.append_nil _
theorem quz (b : Bool) (l : List ND) (hl : l.length ≤ 10000) (hg : GL l) : ∀ (f : F) (q : Nat) (m pat odd : Bool), Sits l q f → q ≤ l.length → errF m pat odd f = 0 →
  loopR l1_eb ((q : Int), ⟨b, l⟩, ()) = bif twF f then some (63, ()) else loopR l1_eb (((q + f.size : Nat) : Int), ⟨b, l⟩, ()) := by
 intro f
 induction f with
 | nil => intro q m pat odd _ _ _; rfl
 | cons kd t n ks r ih1 ih2 =>
  intro q m pat odd hs hq he
  obtain ⟨g1, g2, g3, g4⟩ := hs.node
  obtain ⟨h1, h2⟩ := errF_ok.1 he
  obtain ⟨h3, h4⟩ := errT_ok.1 h1
  rw [qgq]
  have esz : q + (F.cons kd t n ks r).size = q + 1 + ks.size + r.size := by show q + (ks.size + r.size + 1) = _; omega
  rw [esz]
  have rest := ih2 (q + 1 + ks.size) m pat (!odd) g3 (by omega) h2
  cases hp : q2m kd with
  | true =>
   have hT : twT kd t ks = dupL (q4r kd t ks) := by unfold twT; rw [hp]; rfl
   have hc2 := ql1 b l hl hg hs
   rw [qbo h1, ← hT] at hc2
   have step : l1_eb ((q : Int), ⟨b, l⟩, ()) = bif twT kd t ks then some (.inr (63, ())) else some (.inl (((q + 1 + ks.size : Nat) : Int), ⟨b, l⟩, ())) := by
    unfold l1_eb
    simp only
    rw [q0n, if_pos (by unfold lenI; omega), q06 g1]
    simp only [q00, q0m, hp, nT, q01, hc2]
    cases twT kd t ks with
    | true => rfl
    | false =>
     rw [q01, q7v b l hl, hs.ends]
     simp only [q00]
     have e1 : subI .i64 ((q + 1 + ks.size : Nat) : Int) 1 = ((q + ks.size : Nat) : Int) := by rw [q2o (by omega) (by omega)]; omega
     rw [e1]
     show some (Sum.inl (addI .i64 ((q + ks.size : Nat) : Int) 1, _, ())) = _
     rw [add1 (by omega), show q + ks.size + 1 = q + 1 + ks.size by omega]
     rfl
   cases ht : twT kd t ks with
   | true =>
    rw [ht, cond_true] at step
    rw [q0a step]
    rfl
   | false =>
    rw [ht, cond_false] at step
    rw [q0e step, rest]
    rfl
  | false =>
   have hT : twT kd t ks = twF ks := by unfold twT; rw [hp]; rfl
   have step : l1_eb ((q : Int), ⟨b, l⟩, ()) = some (.inl (((q + 1 : Nat) : Int), ⟨b, l⟩, ())) := by
    unfold l1_eb
    simp only
    rw [q0n, if_pos (by unfold lenI; omega), q06 g1]
    simp only [q00, q0m, hp, nF, q03]
    show some (Sum.inl (addI .i64 (q : Int) 1, _, ())) = _
    rw [add1 (by omega)]
   rw [q0e step, ih1 (q + 1) _ _ _ g2 (by omega) h4, hT]
   cases twF ks with
   | true => rfl
   | false => rw [cond_false, rest]; rfl
def chkT (kd : Int) (t : Tx) (n : Int) (ks : F) (pat : Bool) : Int :=
 bif ltI 100 ((ks.dep + 1 : Nat) : Int) then 60 else bif notB (eqI (errT kd t n ks pat) 0) then errT kd t n ks pat else bif twT kd t ks then 63 else 0
theorem qoy (b : Bool) (kd : Int) (t : Tx) (n : Int) (ks : F) (pat : Bool) (hl : ks.size + 1 ≤ 4000) (hg : GL (tr kd t n ks).flat) : f_eb (⟨b, (tr kd t n ks).flat⟩, pat, ()) = some (chkT kd t n ks pat, ()) := by
 have hlen : (tr kd t n ks).flat.length = ks.size + 1 := (tr kd t n ks).len
 have hs := q36 kd t n ks
 rw [u_eb, q5v b _ (by omega), (q31 _).2 ⟨kd, t, n, ks, rfl⟩, qsd b kd t n ks (by omega)]
 have hw := qsj b b _ (by omega) hg pat hs
 have h0 : ((0 : Nat) : Int) = 0 := rfl
 rw [h0] at hw
 have c0 : ltI 4000 (lenI (tr kd t n ks).flat) = false := decide_eq_false (by unfold lenI; omega)
 simp only [c0, q01, q00, nT, hw]
 unfold chkT
 cases ltI 100 ((ks.dep + 1 : Nat) : Int) with
 | true => rfl
 | false =>
  rw [q01, cond_false]
  unfold qeb
  cases hv : eqI (errT kd t n ks pat) 0 with
  | false =>
   rw [cond_false, nF]
   show cnd (notB (eqI (errT kd t n ks pat) 0)) _ _ = _
   rw [hv]
   rfl
  | true =>
   rw [cond_true, nT, cond_false]
   show loopR l1_eb (0, _, ()) = _
   have hz := eqI_eq.1 hv
   have := quz b (tr kd t n ks).flat (by omega) hg (tr kd t n ks) 0 false pat false hs (by omega) (errF_ok.2 ⟨by rw [Bool.false_and, Bool.or_false]; exact hz, rfl⟩)
   rw [h0, qgq] at this
   rw [this]
   have hf : twF .nil = false := rfl
   rw [hf, Bool.or_false]
   cases twT kd t ks with
   | true => rfl
   | false =>
    rw [cond_false, cond_false]
    refine q0a ?_
    unfold l1_eb
    simp only
    rw [q0n, if_neg (by unfold lenI; rw [hlen, q6h]; omega)]
theorem ql2 (b : Bool) (kd : Int) (t : Tx) (n : Int) (ks : F) (pat : Bool) (hl : ks.size + 1 ≤ 4000) (hg : GL (tr kd t n ks).flat) : f_c8 (⟨b, (tr kd t n ks).flat⟩, pat, ()) = some (chkT kd t n ks pat, ()) := by
 have hlen : (tr kd t n ks).flat.length = ks.size + 1 := (tr kd t n ks).len
 have hs := q36 kd t n ks
 have hd := qoo b _ (by omega) hs
 have hw := qor b _ (by omega) hg pat hs
 have ht := qow b _ (by omega) hs
 have h0 : ((0 : Nat) : Int) = 0 := rfl
 rw [h0] at hw hd ht
 rw [u_c8, q6i b _ (by omega), (q31 _).2 ⟨kd, t, n, ks, rfl⟩]
 have c0 : ltI 4000 (lenI (tr kd t n ks).flat) = false := decide_eq_false (by unfold lenI; omega)
 simp only [c0, q01, q00, nT, hw, hd, ht]
 unfold chkT
 cases ltI 100 ((ks.dep + 1 : Nat) : Int) with
 | true => rfl
 | false =>
  rw [q01, cond_false]
  cases notB (eqI (errT kd t n ks pat) 0) with
  | true => rfl
  | false => cases twT kd t ks <;> rfl
theorem qoz (b : Bool) (l : List ND) (hl : l.length ≤ 4000) (pat : Bool) (h : q3v l = false) : f_eb (⟨b, l⟩, pat, ()) = some (60, ()) := by
 rw [u_eb, q5v b _ (by omega), h]
 have c0 : ltI 4000 (lenI l) = false := decide_eq_false (by unfold lenI; omega)
 simp only [c0, q01, q00, nF, q03]
theorem ql3 (b : Bool) (l : List ND) (hl : l.length ≤ 4000) (pat : Bool) (h : q3v l = false) : f_c8 (⟨b, l⟩, pat, ()) = some (60, ()) := by
 rw [u_c8, q6i b _ (by omega), h]
 have c0 : ltI 4000 (lenI l) = false := decide_eq_false (by unfold lenI; omega)
 simp only [c0, q01, q00, nF, q03]
theorem qxs (l : List ND) : q3v l = false ∨ ∃ kd t n ks, l = (tr kd t n ks).flat := by
 cases h : q3v l with
 | false => exact .inl rfl
 | true => exact .inr ((q31 l).1 h)
theorem qv0 (b : Bool) (kd : Int) (t : Tx) (n : Int) (ks : F) (hl : ks.size + 1 ≤ 4000) (hg : GL (tr kd t n ks).flat) : f_ea (⟨b, (tr kd t n ks).flat⟩, ()) = some (chkT kd t n ks true, ()) := by
 rw [u_ea, qoy b kd t n ks true hl hg]; rfl
theorem qv1 (b : Bool) (l : List ND) (hl : l.length ≤ 4000) (h : q3v l = false) : f_ea (⟨b, l⟩, ()) = some (60, ()) := by
 rw [u_ea, qoz b l hl true h]; rfl
theorem chkT_ok {kd : Int} {t : Tx} {n : Int} {ks : F} {pat : Bool} : chkT kd t n ks pat = 0 ↔ ks.dep + 1 ≤ 100 ∧ errT kd t n ks pat = 0 ∧ twT kd t ks = false := by
 unfold chkT
 cases h : ltI 100 ((ks.dep + 1 : Nat) : Int) with
 | true =>
  have := of_decide_eq_true h
  rw [cond_true]
  constructor
  ·intro e; cases e
  ·rintro ⟨e, _⟩; omega
 | false =>
  have := of_decide_eq_false h
  rw [cond_false, qb3]
  constructor
  ·rintro ⟨e1, e2⟩
   refine ⟨by omega, e1, ?_⟩
   cases ht : twT kd t ks with
   | false => rfl
   | true => rw [ht] at e2; cases e2
  ·rintro ⟨_, e1, e2⟩
   refine ⟨e1, ?_⟩
   rw [e2]; rfl
end Fn
end Ev

