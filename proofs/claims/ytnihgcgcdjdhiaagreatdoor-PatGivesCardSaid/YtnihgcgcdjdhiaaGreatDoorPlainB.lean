/- Layers 9, 10 and 12 in plain words. No statement of its own about the program. -/
import Derived.Test.YtnihgcgcdjdhiaaGreatDoorPlainA
namespace Ev
open Go
namespace Fn
theorem ltG {α : Type} {l : List α} {k : Nat} {x : α} (h : l[k]? = some x) : ltI (k : Int) (lenI l) = true := by
 have := (List.getElem?_eq_some_iff.1 h).1
 exact decide_eq_true (by unfold lenI; omega)
theorem ltE {α : Type} (l : List α) : ltI ((l.length : Nat) : Int) (lenI l) = false := decide_eq_false (by unfold lenI; omega)
theorem qbp {α β : Type} {x : Option α} {a : α} (h : x = some a) (f : α → Option β) : bnd x f = f a := by rw [h, q00]
theorem getL {α : Type} {l : List α} {k : Nat} {x : α} (h : l[k]? = some x) : k < l.length := (List.getElem?_eq_some_iff.1 h).1
def scan {α ρ : Type} (stop : Nat → α → Option ρ) (R : ρ) : Nat → List α → ρ
 | _, [] => R
 | k, x :: r => match stop k x with
  | some y => y
  | none => scan stop R (k + 1) r
theorem q0i {σ ρ α : Type} (f : σ → Option (σ ⊕ ρ)) (S : Int → σ) (l : List α) (hl : l.length ≤ 1000000) (stop : Nat → α → Option ρ) (R : ρ)
  (hstep : ∀ (k : Nat) x, l[k]? = some x → k ≤ 1000000 → f (S k) = some (match stop k x with | some y => .inr y | none => .inl (S ((k + 1 : Nat) : Int))))
  (hend : f (S ((l.length : Nat) : Int)) = some (.inr R)) : loopR f (S 0) = some (scan stop R 0 l) := by
 have aux : ∀ (r : List α) (k : Nat), l.drop k = r → k ≤ l.length → loopR f (S k) = some (scan stop R k r) := by
  intro r
  induction r with
  | nil =>
   intro k h hk
   have : l.length ≤ k := List.drop_eq_nil_iff.1 h
   obtain rfl : k = l.length := by omega
   exact q0a hend
  | cons x r ih =>
   intro k h hk
   have hlt : k < l.length := by
    rcases Nat.lt_or_ge k l.length with h2 | h2
    ·exact h2
    ·rw [List.drop_eq_nil_of_le h2] at h; cases h
   rw [q1p hlt] at h
   injection h with h1 h2
   have hx : l[k]? = some x := by rw [List.getElem?_eq_getElem hlt, h1]
   have hs := hstep k x hx (by omega)
   unfold scan
   cases hc : stop k x with
   | some y => rw [hc] at hs; exact q0a hs
   | none =>
    rw [hc] at hs
    rw [q0e hs]
    exact ih (k + 1) h2 (by omega)
 exact aux l 0 rfl (Nat.zero_le _)
def ixP {α : Type} (p : α → Bool) : Nat → List α → Int
 | _, [] => -1
 | k, x :: r => bif p x then (k : Int) else ixP p (k + 1) r
theorem qxt {τ α : Type} {O : Int → τ} {p : α → Bool} (r : List α) (k : Nat) : scan (fun k x => bif p x then some (O k) else none) (O (-1)) k r = O (ixP p k r) := by
 induction r generalizing k with
 | nil => rfl
 | cons x r ih =>
  unfold scan ixP
  cases p x with
  | true => rfl
  | false => exact ih (k + 1)
theorem q24 {σ τ α : Type} (f : σ → Option (σ ⊕ τ)) (S : Int → σ) (O : Int → τ) (l : List α) (hl : l.length ≤ 1000000) (p : α → Bool)
  (hstep : ∀ (k : Nat) x, l[k]? = some x → k ≤ 1000000 → f (S k) = some (bif p x then .inr (O k) else .inl (S ((k + 1 : Nat) : Int))))
  (hend : f (S ((l.length : Nat) : Int)) = some (.inr (O (-1)))) : loopR f (S 0) = some (O (ixP p 0 l)) := by
 have h := q0i f S l hl (fun k x => bif p x then some (O k) else none) (O (-1)) (fun k x hx hk => by rw [hstep k x hx hk]; cases p x <;> rfl) hend
 rw [h, qxt]
theorem q5g {α : Type} (p : α → Bool) (l : List α) (k : Nat) : leI 0 (ixP p k l) = l.any p := by
 induction l generalizing k with
 | nil => rfl
 | cons x r ih =>
  unfold ixP
  rw [List.any_cons]
  cases p x with
  | true => exact decide_eq_true (by show (0 : Int) ≤ (k : Int); omega)
  | false => exact ih (k + 1)
theorem qvv {α : Type} (p : α → Bool) (l : List α) (k : Nat) : ltI (ixP p k l) 0 = !l.any p := by
 rw [← q5g p l k]
 generalize ixP p k l = z
 unfold ltI leI
 by_cases h : z < 0
 ·rw [decide_eq_true h, decide_eq_false (by omega)]; rfl
 ·rw [decide_eq_false h, decide_eq_true (by omega)]; rfl
theorem qdq {α : Type} (p : α → Bool) : ∀ (l : List α) (k : Nat), l.any p = true → ∃ (i : Nat) (x : α), ixP p k l = ((k + i : Nat) : Int) ∧ l[i]? = some x ∧ p x = true ∧ l.find? p = some x
 | [], _, h => by cases h
 | x :: r, k, h => by
  unfold ixP
  rw [List.any_cons] at h
  cases hp : p x with
  | true => exact ⟨0, x, rfl, rfl, hp, by rw [List.find?_cons_of_pos hp]⟩
  | false =>
   rw [hp] at h
   obtain ⟨i, y, h1, h2, h3, h4⟩ := qdq p r (k + 1) h
   refine ⟨i + 1, y, ?_, h2, h3, by rw [List.find?_cons_of_neg (by rw [hp]; exact Bool.false_ne_true)]; exact h4⟩
   show ixP p (k + 1) r = _
   rw [h1]; congr 1; omega
theorem qmz {α : Type} (p : α → Bool) (l : List α) (k : Nat) (h : l.any p = false) : ixP p k l = -1 := by
 induction l generalizing k with
 | nil => rfl
 | cons x r ih =>
  unfold ixP
  rw [List.any_cons, Bool.or_eq_false_iff] at h
  rw [h.1]
  exact ih (k + 1) h.2
def qso {α β ρ : Type} (g : Nat → β → α → β ⊕ ρ) (fin : β → ρ) : Nat → β → List α → ρ
 | _, a, [] => fin a
 | k, a, x :: r => match g k a x with
  | .inl a' => qso g fin (k + 1) a' r
  | .inr y => y
theorem qp0 {σ ρ α β : Type} (f : σ → Option (σ ⊕ ρ)) (S : Int → β → σ) (l : List α) (g : Nat → β → α → β ⊕ ρ) (fin : β → ρ) (I : Nat → β → Prop) (a0 : β) (h0 : I 0 a0)
  (hstep : ∀ (k : Nat) x a, l[k]? = some x → I k a → f (S k a) = some (match g k a x with | .inl a' => .inl (S ((k + 1 : Nat) : Int) a') | .inr y => .inr y) ∧ ∀ a', g k a x = .inl a' → I (k + 1) a')
  (hend : ∀ a, I l.length a → f (S ((l.length : Nat) : Int) a) = some (.inr (fin a))) : loopR f (S 0 a0) = some (qso g fin 0 a0 l) := by
 have aux : ∀ (r : List α) (k : Nat) (a : β), l.drop k = r → k ≤ l.length → I k a → loopR f (S k a) = some (qso g fin k a r) := by
  intro r
  induction r with
  | nil =>
   intro k a h hk hi
   have : l.length ≤ k := List.drop_eq_nil_iff.1 h
   obtain rfl : k = l.length := by omega
   exact q0a (hend a hi)
  | cons x r ih =>
   intro k a h hk hi
   have hlt : k < l.length := by
    rcases Nat.lt_or_ge k l.length with h2 | h2
    ·exact h2
    ·rw [List.drop_eq_nil_of_le h2] at h; cases h
   rw [q1p hlt] at h
   injection h with h1 h2
   have hx : l[k]? = some x := by rw [List.getElem?_eq_getElem hlt, h1]
   obtain ⟨hs, hi2⟩ := hstep k x a hx hi
   unfold qso
   cases hc : g k a x with
   | inr y => rw [hc] at hs; exact q0a hs
   | inl a' =>
    rw [hc] at hs
    rw [q0e hs]
    exact ih (k + 1) a' h2 (by omega) (hi2 a' hc)
 exact aux l 0 a0 rfl (Nat.zero_le _) h0
theorem qsp {α β ρ : Type} (g : β → α → β) (fin : β → ρ) (l : List α) (k : Nat) (a : β) : qso (fun _ a x => .inl (g a x)) fin k a l = fin (l.foldl g a) := by
 induction l generalizing k a with
 | nil => rfl
 | cons x r ih => exact ih (k + 1) (g a x)
theorem q21 {σ ρ α β : Type} (f : σ → Option (σ ⊕ ρ)) (S : Int → β → σ) (l : List α) (g : β → α → β) (fin : β → ρ) (I : Nat → β → Prop) (a0 : β) (h0 : I 0 a0)
  (hstep : ∀ (k : Nat) x a, l[k]? = some x → I k a → f (S k a) = some (.inl (S ((k + 1 : Nat) : Int) (g a x))) ∧ I (k + 1) (g a x))
  (hend : ∀ a, I l.length a → f (S ((l.length : Nat) : Int) a) = some (.inr (fin a))) : loopR f (S 0 a0) = some (fin (l.foldl g a0)) := by
 rw [qp0 f S l (fun _ a x => .inl (g a x)) fin I a0 h0 (fun k x a hx hi => ⟨(hstep k x a hx hi).1, fun a' e => by injection e with e; rw [← e]; exact (hstep k x a hx hi).2⟩) hend, qsp]
end Fn
end Ev

namespace Ev
open Go
namespace Fn
theorem eqS_eq {a b : List Int} : eqS a b = true ↔ a = b := by simp [eqS]
def typN (x : ND) : Bool := bif eqI x.1 31 then eqI x.2.2.2 0 && (eqS x.2.1 [] && (leI 0 x.2.2.1 && leI x.2.2.1 1048576)) else
 eqI x.1 32 && (eqI x.2.2.1 0 && (bif eqS x.2.1 [45, 62] then eqI x.2.2.2 2 else bif eqS x.2.1 [105, 110, 116] || eqS x.2.1 [116, 101, 120, 116] then eqI x.2.2.2 0 else bif eqS x.2.1 [114, 101, 102] then eqI x.2.2.2 1 else q27 x.2.1 && leI x.2.2.2 8))
theorem ql4 (x : ND) (hx : qj2 x) : f_ez (x, ()) = some (typN x, ()) := by
 obtain ⟨a, t, n, c⟩ := x
 have hl := qaz t hx.1
 rw [u_ez]
 unfold typN
 simp only
 cases h1 : eqI a 31 with
 | true => cases eqI c 0 <;> cases eqS t [] <;> cases leI 0 n <;> cases leI n 1048576 <;> rfl
 | false =>
  cases h2 : eqI a 32 with
  | false => rfl
  | true =>
   cases h3 : eqI n 0 with
   | false => rfl
   | true =>
    cases h4 : eqS t [45, 62] with
    | true => rfl
    | false =>
     cases h5 : eqS t [105, 110, 116] with
     | true => rfl
     | false =>
      cases h6 : eqS t [116, 101, 120, 116] with
      | true => rfl
      | false =>
       cases h7 : eqS t [114, 101, 102] with
       | true => simp only [nT, q01, q03, q00, h7]; rfl
       | false =>
        simp only [nT, q01, q00, cond_false, hl, Bool.true_and, Bool.false_or, h7]
        unfold q27
        cases q23 q1w t <;> rfl
def q2w (l : List ND) : Bool := decide (l.length ≤ 4000) && (q3v l && l.all typN)
theorem ix12 (b : Bool) (l : List ND) (hl : l.length ≤ 1000000) (hg : GL l) : f_de (⟨b, l⟩, ()) = some (!l.all typN, ()) := by
 have e : loopR l1_do (⟨b, l⟩, lenI l, 0, ()) = some (ixP (fun x => !typN x) 0 l, ()) := by
  refine q24 l1_do (fun k => (⟨b, l⟩, lenI l, k, ())) (fun z => (z, ())) l hl (fun x => !typN x) ?_ ?_
  ·intro k x hx hk
   obtain ⟨a, t, n, c⟩ := x
   unfold l1_do
   simp only [ltG hx, q03, q06 hx, q00, u_ex, ql4 _ (hg.at hx), add1 (show k ≤ 1000000000 by omega), notB]
   cases typN (a, t, n, c) <;> rfl
  ·unfold l1_do
   simp only [ltE, q01]
 rw [u_de, u_do]
 refine (qbp e _).trans ?_
 rw [q5g, List.not_all_eq_any_not]
theorem ql5 (l : List ND) : ltI 4000 (lenI l) = !decide (l.length ≤ 4000) := by
 unfold ltI lenI
 by_cases e : l.length ≤ 4000
 ·rw [decide_eq_true e, decide_eq_false (by omega)]; rfl
 ·rw [decide_eq_false e, decide_eq_true (by omega)]; rfl
theorem q4s (b : Bool) (l : List ND) (hl : l.length ≤ 10000) (hg : GL l) : f_ew (⟨b, l⟩, ()) = some (bif q2w l then 0 else 90, ()) := by
 rw [u_ew, ix12 b l (by omega) hg, q5v b l hl]
 simp only [ql5]
 unfold q2w
 cases decide (l.length ≤ 4000) <;> cases q3v l <;> cases l.all typN <;> rfl
theorem qsq : q27 [45, 62] = false := by kernel_rfl
theorem qxu : q27 [105, 110, 116] = false := by kernel_rfl
theorem qv2 : q27 [116, 101, 120, 116] = false := by kernel_rfl
theorem qxv : q27 [114, 101, 102] = false := by kernel_rfl
theorem q8x (b : Bool) (l : List ND) (hl : l.length ≤ 10000) (hg : GL l) : f_cj (⟨b, l⟩, ()) = some (q2w l, ()) := by
 have loop : loopR l1_cj (⟨b, l⟩, 0, ()) = some (l.all typN, ()) := by
  refine Eq.trans (q24 l1_cj (fun k => (⟨b, l⟩, k, ())) (fun z => (ltI z 0, ())) l (by omega) (fun x => !typN x) ?_ ?_) ?_
  ·intro k x hx hk
   obtain ⟨a, t, n, c⟩ := x
   have hr := qb0 t (show t.length ≤ 1000000 from (hg.at hx).2.1)
   have hk0 : ltI (k : Int) 0 = false := decide_eq_false (by omega)
   unfold l1_cj typN
   simp only [ltG hx, q03, q06 hx, q00, hr, hk0]
   have hadd := add1 (show k ≤ 1000000000 by omega)
   have lt1 : ltI n 0 = !leI 0 n := by unfold ltI leI; by_cases h : n < 0 <;> simp [h] <;> omega
   have lt2 : ltI 1048576 n = !leI n 1048576 := by unfold ltI leI; by_cases h : n ≤ 1048576 <;> simp [h] <;> omega
   rw [lt1, lt2]
   cases h1 : eqI a 31 with
   | true => cases eqI c 0 <;> cases eqS t [] <;> cases leI 0 n <;> cases leI n 1048576 <;> first | rfl | exact congrArg (fun z : Int => some (Sum.inl ((⟨b, l⟩ : Sl ND), z, ()))) hadd
   | false =>
    cases h4 : eqS t [45, 62] with
    | true =>
     rw [eqS_eq.1 h4, show q23 q1w [45, 62] = false from qsq]
     cases eqI a 32 <;> cases eqI n 0 <;> cases eqI c 2 <;> first | rfl | exact congrArg (fun z : Int => some (Sum.inl ((⟨b, l⟩ : Sl ND), z, ()))) hadd
    | false =>
     cases h5 : eqS t [105, 110, 116] with
     | true =>
      rw [eqS_eq.1 h5, show q23 q1w [105, 110, 116] = false from qxu]
      cases eqI a 32 <;> cases eqI n 0 <;> cases eqI c 0 <;> first | rfl | exact congrArg (fun z : Int => some (Sum.inl ((⟨b, l⟩ : Sl ND), z, ()))) hadd
     | false =>
      cases h6 : eqS t [116, 101, 120, 116] with
      | true =>
       rw [eqS_eq.1 h6, show q23 q1w [116, 101, 120, 116] = false from qv2]
       cases eqI a 32 <;> cases eqI n 0 <;> cases eqI c 0 <;> first | rfl | exact congrArg (fun z : Int => some (Sum.inl ((⟨b, l⟩ : Sl ND), z, ()))) hadd
      | false =>
       cases h7 : eqS t [114, 101, 102] with
       | true =>
        rw [eqS_eq.1 h7, show q23 q1w [114, 101, 102] = false from qxv]
        cases eqI a 32 <;> cases eqI n 0 <;> cases eqI c 1 <;> first | rfl | exact congrArg (fun z : Int => some (Sum.inl ((⟨b, l⟩ : Sl ND), z, ()))) hadd
       | false =>
        unfold q27
        cases eqI a 32 <;> cases eqI n 0 <;> cases q23 q1w t <;> cases leI c 8 <;> first | rfl | exact congrArg (fun z : Int => some (Sum.inl ((⟨b, l⟩ : Sl ND), z, ()))) hadd
  ·unfold l1_cj
   simp only [ltE, q01]
   rfl
  ·rw [qvv, ← List.not_all_eq_any_not, Bool.not_not]
 rw [u_cj, loop, q6i b l hl]
 simp only [ql5]
 unfold q2w
 cases decide (l.length ≤ 4000) <;> cases q3v l <;> cases l.all typN <;> rfl
end Fn
end Ev

namespace Ev
open Go
namespace Fn
theorem qvw (v : Int) (l : List Int) : l.any (fun x => eqI v x) = decide (v ∈ l) := by
 induction l with
 | nil => rfl
 | cons a r ih =>
  rw [List.any_cons, ih]
  by_cases h : v = a
  ·subst h; rw [q2i]; exact (decide_eq_true (List.mem_cons_self ..)).symm
  ·rw [q1a h, Bool.false_or]
   exact decide_eq_decide.2 ⟨fun e => List.mem_cons_of_mem _ e, fun e => (List.mem_cons.1 e).resolve_left h⟩
theorem qgr (b : Bool) (l : List Int) (v : Int) (hl : l.length ≤ 1000000) : f_d6 (⟨b, l⟩, v, ()) = some (decide (v ∈ l), ()) := by
 have e : loopR l1_dl (⟨b, l⟩, v, lenI l, 0, ()) = some (ixP (fun x => eqI v x) 0 l, ()) := by
  refine q24 l1_dl (fun k => (⟨b, l⟩, v, lenI l, k, ())) (fun z => (z, ())) l hl (fun x => eqI v x) ?_ ?_
  ·intro k x hx hk
   unfold l1_dl
   simp only [ltG hx, q03, q06 hx, q00, add1 (show k ≤ 1000000000 by omega)]
   cases eqI v x <;> rfl
  ·unfold l1_dl
   simp only [ltE, q01]
 rw [u_d6, u_dl]
 refine (qbp e _).trans ?_
 rw [q5g, qvw]
theorem qp1 (b : Bool) (l : List Int) (v : Int) (hl : l.length ≤ 1000000) : ∃ z, f_cl (⟨b, l⟩, v, ()) = some (z, ()) ∧ ltI z 0 = !decide (v ∈ l) := by
 refine ⟨ixP (fun x => eqI x v) 0 l, ?_, ?_⟩
 ·rw [u_cl]
  refine q24 l1_cl (fun k => (⟨b, l⟩, v, k, ())) (fun z => (z, ())) l hl (fun x => eqI x v) ?_ ?_
  ·intro k x hx hk
   unfold l1_cl
   simp only [ltG hx, q03, q06 hx, q00, add1 (show k ≤ 1000000000 by omega)]
   cases eqI x v <;> rfl
  ·unfold l1_cl
   simp only [ltE, q01]
 ·rw [qvv, ← qvw]
  congr 2
  funext x
  by_cases h : v = x
  ·subst h; rfl
  ·rw [q1a h, q1a fun e => h e.symm]
def varG (a : List Int) (x : ND) : List Int := bif eqI x.1 31 && !decide (x.2.2.1 ∈ a) then a ++ [x.2.2.1] else a
theorem qv3 (a : List Int) (x : ND) : (varG a x).length ≤ a.length + 1 := by
 unfold varG
 cases (eqI x.1 31 && !decide (x.2.2.1 ∈ a)) with
 | true => rw [cond_true, List.length_append]; exact Nat.le_refl _
 | false => exact Nat.le_succ _
theorem qn0 (p : Int → Bool) (l : List ND) : ∀ a : List Int, (l.foldl varG a).any p = (a.any p || l.any fun x => eqI x.1 31 && p x.2.2.1) := by
 induction l with
 | nil => intro a; simp
 | cons x r ih =>
  intro a
  rw [List.foldl_cons, ih, List.any_cons, ← Bool.or_assoc]
  congr 1
  unfold varG
  cases eqI x.1 31 with
  | false => simp
  | true =>
   by_cases h : x.2.2.1 ∈ a
   ·rw [decide_eq_true h]
    simp only [Bool.not_true, Bool.and_false, cond_false, Bool.true_and]
    cases hp : p x.2.2.1 with
    | false => simp
    | true => rw [Bool.or_true]; exact List.any_eq_true.2 ⟨_, h, hp⟩
   ·rw [decide_eq_false h]
    simp
def varS (a : Sl Int) (x : ND) : Sl Int := bif eqI x.1 31 && !decide (x.2.2.1 ∈ a.l) then ⟨false, a.l ++ [x.2.2.1]⟩ else a
theorem qsr (l : List ND) : ∀ a : Sl Int, (l.foldl varS a).l = l.foldl varG a.l := by
 induction l with
 | nil => intro a; rfl
 | cons x r ih =>
  intro a
  rw [List.foldl_cons, List.foldl_cons, ih]
  congr 1
  unfold varS varG
  cases (eqI x.1 31 && !decide (x.2.2.1 ∈ a.l)) <;> rfl
theorem qgs (a : Sl Int) (x : ND) : (varS a x).l.length ≤ a.l.length + 1 := by
 have := qsr [x] a
 rw [List.foldl_cons, List.foldl_nil, List.foldl_cons, List.foldl_nil] at this
 rw [this]
 exact qv3 _ _
theorem qp2 (b : Bool) (l : List ND) (hl : l.length ≤ 10000) (hg : GL l) (ht : q2w l = true) : f_ey (⟨b, l⟩, ()) = some (l.foldl varS ⟨true, []⟩, ()) := by
 rw [u_ey, q4s b l hl hg, ht, q00]
 show loopR l1_ey (⟨b, l⟩, lenI l, 0, ⟨true, []⟩, ()) = _
 refine q21 l1_ey (fun k a => (⟨b, l⟩, lenI l, k, a, ())) l varS (fun a => (a, ())) (fun k a => k ≤ l.length ∧ a.l.length ≤ k) ⟨true, []⟩ ⟨Nat.zero_le _, Nat.le_refl _⟩ ?_ ?_
 ·intro k x a hx hi
  obtain ⟨nb, a⟩ := a
  have hk := getL hx
  have h2 : a.length ≤ k := hi.2
  have hadd := add1 (show k ≤ 1000000000 by omega)
  have hc := qgr nb a x.2.2.1 (by omega)
  have hfit : fit (sumI (lenI a) (lenI [x.2.2.1])) = some () := q0u (by show a.length + 1 ≤ _; omega)
  refine ⟨?_, ⟨hk, by have := qgs ⟨nb, a⟩ x; have := hi.2; simp only at *; omega⟩⟩
  unfold l1_ey varS
  simp only [ltG hx, q03, q06 hx, q00, hc, hfit, q1z, notB, app]
  cases eqI x.1 31 <;> cases decide (x.2.2.1 ∈ a) <;> simp only [Bool.not_true, Bool.not_false, Bool.and_true, Bool.and_false, cond_true, cond_false, q03, q01, q00, hadd]
 ·intro a _
  unfold l1_ey
  simp only [ltE, q01]
theorem ql6 (b : Bool) (l : List ND) (hl : l.length ≤ 10000) : f_ck (⟨b, l⟩, ()) = some (l.foldl varS ⟨false, []⟩, ()) := by
 rw [u_ck]
 refine q21 l1_ck (fun k a => (⟨b, l⟩, k, a, ())) l varS (fun a => (a, ())) (fun k a => k ≤ l.length ∧ a.l.length ≤ k) ⟨false, []⟩ ⟨Nat.zero_le _, Nat.le_refl _⟩ ?_ ?_
 ·intro k x a hx hi
  obtain ⟨nb, a⟩ := a
  have hk := getL hx
  have h2 : a.length ≤ k := hi.2
  have hadd := add1 (show k ≤ 1000000000 by omega)
  obtain ⟨z, hc, hz⟩ := qp1 nb a x.2.2.1 (by omega)
  have hfit : fit (sumI (lenI a) (lenI [x.2.2.1])) = some () := q0u (by show a.length + 1 ≤ _; omega)
  refine ⟨?_, ⟨hk, by have := qgs ⟨nb, a⟩ x; have := hi.2; simp only at *; omega⟩⟩
  unfold l1_ck varS
  simp only [ltG hx, q03, q06 hx, q00, hc, hz, hfit, q1z, app]
  cases eqI x.1 31 <;> cases decide (x.2.2.1 ∈ a) <;> simp only [Bool.not_true, Bool.not_false, Bool.and_true, Bool.and_false, cond_true, cond_false, q03, q01, q00, hadd]
 ·intro a _
  unfold l1_ck
  simp only [ltE, q01]
end Fn
end Ev

namespace Ev
open Go
namespace Fn
abbrev SN := Sl ND
abbrev CT := Tx × Sl SN
abbrev DD := Tx × Int × Sl CT
def gT (s : Tx) : Prop := (∀ b, b ∈ s → 0 ≤ b ∧ b ≤ 255) ∧ s.length ≤ 1000000
def gA (t : SN) : Prop := GL t.l ∧ t.l.length ≤ 10000
def gC (c : CT) : Prop := gT c.1 ∧ c.2.l.length ≤ 1000 ∧ ∀ t, t ∈ c.2.l → gA t
def gD (d : DD) : Prop := gT d.1 ∧ d.2.2.l.length ≤ 1000 ∧ ∀ c, c ∈ d.2.2.l → gC c
def GD (L : List DD) : Prop := L.length ≤ 1000 ∧ ∀ d, d ∈ L → gD d
def qb4 (p : Int) (t : List ND) : Bool := q2w t && !(t.any fun x => eqI x.1 31 && leI p x.2.2.1)
def q8a (p : Int) (c : CT) : Bool := q27 c.1 && (leI (lenI c.2.l) 8 && c.2.l.all fun t => qb4 p t.l)
def q1x (d : DD) : Bool := q27 d.1 && (leI 0 d.2.1 && (leI d.2.1 8 && (leI 1 (lenI d.2.2.l) && (leI (lenI d.2.2.l) 60 && d.2.2.l.all (q8a d.2.1)))))
theorem qb5 (s : Tx) (hs : gT s) : f_ad (s, ()) = some (q27 s, ()) := by
 rw [u_ad, qaz s hs.1, q00]; rfl
theorem qgt (s : Tx) (hs : gT s) : f_cq (s, ()) = some (q27 s, ()) := by
 rw [u_cq, qb0 s hs.2, q00]; rfl
theorem qv4 (a b : Int) : ltI a b = !leI b a := by
 unfold ltI leI
 by_cases h : a < b
 ·rw [decide_eq_true h, decide_eq_false (by omega)]; rfl
 ·rw [decide_eq_false h, decide_eq_true (by omega)]; rfl
theorem qj5 (l : List ND) : ∀ a : Sl Int, (l.foldl varS a).l.length ≤ a.l.length + l.length := by
 induction l with
 | nil => intro a; exact Nat.le_refl _
 | cons x r ih =>
  intro a
  rw [List.foldl_cons]
  have h1 := ih (varS a x)
  have h2 := qgs a x
  rw [List.length_cons]; omega
theorem qv5 (n : Tx) (p : Int) (cs : Sl CT) (t : SN) (ht : gA t) : f_ah (t, n, p, cs, ()) = some (!qb4 p t.l, n, p, cs, ()) := by
 obtain ⟨b, l⟩ := t
 obtain ⟨hg, hl⟩ := ht
 have hl : l.length ≤ 10000 := hl
 rw [u_ah, u_af, q4s b l hl hg]
 unfold qb4
 cases hc : q2w l with
 | false => rfl
 | true =>
  have hv := qp2 b l hl hg hc
  have hlen := qj5 l ⟨true, []⟩
  have ha := qn0 (fun v => leI p v) l []
  rw [List.any_nil, Bool.false_or] at ha
  rw [← show (l.foldl varS ⟨true, []⟩).l = l.foldl varG [] from qsr l _] at ha
  have hlen : (l.foldl varS ⟨true, []⟩).l.length ≤ 0 + l.length := hlen
  generalize l.foldl varS ⟨true, []⟩ = vs at hv hlen ha
  have e : loopR l1_dv (vs, lenI vs.l, 0, n, p, cs, ()) = some (ixP (fun v => leI p v) 0 vs.l, n, p, cs, ()) := by
   refine q24 l1_dv (fun k => (vs, lenI vs.l, k, n, p, cs, ())) (fun z => (z, n, p, cs, ())) vs.l (by omega) (fun v => leI p v) ?_ ?_
   ·intro k x hx hk
    unfold l1_dv
    simp only [ltG hx, q03, q06 hx, q00, u_ag, add1 (show k ≤ 1000000000 by omega)]
    cases leI p x <;> rfl
   ·unfold l1_dv
    simp only [ltE, q01]
  rw [q00]
  simp only [cond_true, e00, q03, q00, hv, u_da, u_dv, e, q5g, ha, Bool.true_and, notB, Bool.not_not]
theorem qss (n : Tx) (p : Int) (cs : Sl CT) (a : Sl SN) (ha : a.l.length ≤ 1000) (hg : ∀ t, t ∈ a.l → gA t) : f_dd (a, n, p, cs, ()) = some (!(a.l.all fun t => qb4 p t.l), n, p, cs, ()) := by
 have e : loopR l1_dw (a, lenI a.l, 0, n, p, cs, ()) = some (ixP (fun t => !qb4 p t.l) 0 a.l, n, p, cs, ()) := by
  refine q24 l1_dw (fun k => (a, lenI a.l, k, n, p, cs, ())) (fun z => (z, n, p, cs, ())) a.l (by omega) (fun t => !qb4 p t.l) ?_ ?_
  ·intro k x hx hk
   unfold l1_dw
   simp only [ltG hx, q03, q06 hx, q00, qv5 n p cs x (hg x (List.mem_of_getElem? hx)), add1 (show k ≤ 1000000000 by omega)]
   cases qb4 p x.l <;> rfl
  ·unfold l1_dw
   simp only [ltE, q01]
 rw [u_dd, u_dw, e, q00, q5g, List.not_all_eq_any_not]
theorem q37 {α ρ : Type} (p : α → Bool) (A R : ρ) (l : List α) (k : Nat) : scan (fun _ x => bif p x then none else some A) R k l = bif l.all p then R else A := by
 induction l generalizing k with
 | nil => rfl
 | cons x r ih =>
  unfold scan
  rw [List.all_cons]
  cases p x with
  | true => exact ih (k + 1)
  | false => rfl
theorem ql7 (d : DD) (hd : gD d) : f_ae (d, ()) = some (q1x d, ()) := by
 obtain ⟨n, p, cs⟩ := d
 obtain ⟨h1, h2, h3⟩ := hd
 have h2 : cs.l.length ≤ 1000 := h2
 have e : loopR l1_ae (cs, lenI cs.l, 0, n, p, cs, ()) = some (cs.l.all (q8a p), ()) := by
  refine (q0i l1_ae (fun k => (cs, lenI cs.l, k, n, p, cs, ())) cs.l (by omega) (fun _ c => bif q8a p c then none else some (false, ())) (true, ()) ?_ ?_).trans ?_
  ·intro k c hx hk
   obtain ⟨g1, g2, g3⟩ := h3 c (List.mem_of_getElem? hx)
   have hadd := add1 (show k ≤ 1000000000 by omega)
   unfold l1_ae q8a
   simp only [ltG hx, q03, q06 hx, q00, qb5 c.1 g1, qv4 8, qss n p cs c.2 g2 g3, hadd]
   cases q27 c.1 <;> cases leI (lenI c.2.l) 8 <;> cases (c.2.l.all fun t => qb4 p t.l) <;> rfl
  ·unfold l1_ae
   simp only [ltE, q01]
  ·rw [q37]; cases cs.l.all (q8a p) <;> rfl
 rw [u_ae, qb5 n h1, e]
 unfold q1x
 simp only [q00, qv4]
 cases q27 n <;> cases leI 0 p <;> cases leI p 8 <;> cases leI 1 (lenI cs.l) <;> cases leI (lenI cs.l) 60 <;> rfl
end Fn
end Ev

namespace Ev
open Go
namespace Fn
theorem q3m {α ρ : Type} (p : α → Bool) (A R : ρ) (l : List α) (k : Nat) : scan (fun _ x => bif p x then some A else none) R k l = bif l.any p then A else R := by
 induction l generalizing k with
 | nil => rfl
 | cons x r ih =>
  unfold scan
  rw [List.any_cons]
  cases p x with
  | false => exact ih (k + 1)
  | true => rfl
theorem qxw (c a : Int) (vs : Sl Int) (n : Tx) (p : Int) (cs : Sl CT) (cn : Tx) (as : Sl SN) (hv : vs.l.length ≤ 1000000) :
  loopR l1_cs (c, a, vs, 0, n, p, cs, cn, as, ()) = some (bif vs.l.any (leI p) then .inr (.inr (false, ())) else .inl (c, addI .i64 a 1, n, p, cs, cn, as, ())) := by
 refine (q0i l1_cs (fun k => (c, a, vs, k, n, p, cs, cn, as, ())) vs.l hv (fun _ v => bif leI p v then some (.inr (.inr (false, ()))) else none) (.inl (c, addI .i64 a 1, n, p, cs, cn, as, ())) ?_ ?_).trans ?_
 ·intro k v hx hk
  unfold l1_cs
  simp only [ltG hx, q03, q06 hx, q00, add1 (show k ≤ 1000000000 by omega)]
  cases leI p v <;> rfl
 ·unfold l1_cs
  simp only [ltE, q01]
 ·rw [q3m]
theorem qxx (c : Int) (n : Tx) (p : Int) (cs : Sl CT) (cn : Tx) (as : Sl SN) (ha : as.l.length ≤ 1000) (hg : ∀ t, t ∈ as.l → gA t) :
  loopR l2_cs (c, 0, n, p, cs, cn, as, ()) = some (bif as.l.all (fun t => qb4 p t.l) then .inl (addI .i64 c 1, n, p, cs, ()) else .inr (false, ())) := by
 refine (q0i l2_cs (fun k => (c, k, n, p, cs, cn, as, ())) as.l (by omega) (fun _ t => bif qb4 p t.l then none else some (.inr (false, ()))) (.inl (addI .i64 c 1, n, p, cs, ())) ?_ ?_).trans ?_
 ·intro k t hx hk
  obtain ⟨b, l⟩ := t
  obtain ⟨hg, hl⟩ := hg _ (List.mem_of_getElem? hx)
  have hl : l.length ≤ 10000 := hl
  have hv := ql6 b l hl
  have hlen := qj5 l ⟨false, []⟩
  have ha := qn0 (fun v => leI p v) l []
  rw [List.any_nil, Bool.false_or] at ha
  rw [← show (l.foldl varS ⟨false, []⟩).l = l.foldl varG [] from qsr l _] at ha
  have hlen : (l.foldl varS ⟨false, []⟩).l.length ≤ 0 + l.length := hlen
  generalize l.foldl varS ⟨false, []⟩ = vs at hv hlen ha
  unfold l2_cs qb4
  simp only [ltG hx, q03, q06 hx, q00, q8x b l hl hg, hv, qxw _ _ vs n p cs cn as (by omega), add1 (show k ≤ 1000000000 by omega), ha]
  cases q2w l <;> cases (l.any fun x => eqI x.1 31 && leI p x.2.2.1) <;> rfl
 ·unfold l2_cs
  simp only [ltE, q01]
 ·rw [q37]
theorem qv6 (d : DD) (hd : gD d) : f_cs (d, ()) = some (q1x d, ()) := by
 obtain ⟨n, p, cs⟩ := d
 obtain ⟨h1, h2, h3⟩ := hd
 have h2 : cs.l.length ≤ 1000 := h2
 have e : loopR l3_cs (0, n, p, cs, ()) = some (cs.l.all (q8a p), ()) := by
  refine (q0i l3_cs (fun k => (k, n, p, cs, ())) cs.l (by omega) (fun _ c => bif q8a p c then none else some (false, ())) (true, ()) ?_ ?_).trans ?_
  ·intro k c hx hk
   obtain ⟨g1, g2, g3⟩ := h3 c (List.mem_of_getElem? hx)
   have hadd := add1 (show k ≤ 1000000000 by omega)
   unfold l3_cs q8a
   simp only [ltG hx, q03, q06 hx, q00, qgt c.1 g1, qv4 8, qxx _ n p cs c.1 c.2 g2 g3, hadd]
   cases q27 c.1 <;> cases leI (lenI c.2.l) 8 <;> cases (c.2.l.all fun t => qb4 p t.l) <;> rfl
  ·unfold l3_cs
   simp only [ltE, q01]
  ·rw [q37]; cases cs.l.all (q8a p) <;> rfl
 rw [u_cs, qgt n h1, e]
 unfold q1x
 simp only [q00, qv4]
 cases q27 n <;> cases leI 0 p <;> cases leI p 8 <;> cases leI 1 (lenI cs.l) <;> cases leI (lenI cs.l) 60 <;> rfl
end Fn
end Ev

namespace Ev
open Go
namespace Fn
def anyX {α : Type} (q : Nat → α → Bool) : Nat → List α → Bool
 | _, [] => false
 | k, x :: r => q k x || anyX q (k + 1) r
theorem q7c {α ρ : Type} (q : Nat → α → Bool) (A R : ρ) (l : List α) (k : Nat) : scan (fun k x => bif q k x then some A else none) R k l = bif anyX q k l then A else R := by
 induction l generalizing k with
 | nil => rfl
 | cons x r ih =>
  unfold scan anyX
  cases q k x with
  | false => exact ih (k + 1)
  | true => rfl
def dupT : List Tx → List Tx → Bool
 | _, [] => false
 | pre, a :: r => decide (a ∈ pre) || dupT (pre ++ [a]) r
theorem qst : ∀ (l pre : List Tx), dupT pre l = (l.any (fun x => decide (x ∈ pre)) || dupL l)
 | [], _ => rfl
 | a :: r, pre => by
  unfold dupT dupL
  rw [qst r, List.any_cons]
  have h : (r.any fun x => decide (x ∈ pre ++ [a])) = ((r.any fun x => decide (x ∈ pre)) || decide (a ∈ r)) := by
   rw [Bool.eq_iff_iff]
   simp only [List.any_eq_true, Bool.or_eq_true, decide_eq_true_eq, List.mem_append, List.mem_singleton]
   constructor
   ·rintro ⟨x, h1, h2 | h2⟩
    ·exact .inl ⟨x, h1, h2⟩
    ·subst h2; exact .inr h1
   ·rintro (⟨x, h1, h2⟩ | h2)
    ·exact ⟨x, h1, .inl h2⟩
    ·exact ⟨a, h2, .inr rfl⟩
  rw [h]
  cases decide (a ∈ pre) <;> cases (r.any fun x => decide (x ∈ pre)) <;> cases decide (a ∈ r) <;> rfl
theorem qgu {α : Type} (key : α → Tx) (q : Nat → α → Bool) (L : List α) (h : ∀ k x, L[k]? = some x → q k x = decide (key x ∈ (L.take k).map key)) : anyX q 0 L = dupL (L.map key) := by
 have aux : ∀ (suf pre : List α), L = pre ++ suf → anyX q pre.length suf = dupT (pre.map key) (suf.map key) := by
  intro suf
  induction suf with
  | nil => intro pre _; rfl
  | cons x r ih =>
   intro pre e
   have hx : L[pre.length]? = some x := by rw [e, List.getElem?_append_right (Nat.le_refl _), Nat.sub_self]; rfl
   have ht : L.take pre.length = pre := by rw [e, List.take_left]
   have h1 := ih (pre ++ [x]) (by rw [e, List.append_assoc]; rfl)
   rw [List.length_append, List.map_append] at h1
   unfold anyX
   rw [h _ x hx, ht]
   exact congrArg _ h1
 refine (aux L [] rfl).trans ?_
 rw [List.map_nil, qst]
 simp
theorem qn1 {α : Type} (p : α → Bool) : ∀ (l : List α) (i k : Nat) (x : α), l[i]? = some x → p x = true → ltI (ixP p k l) ((k + i : Nat) : Int) = (l.take i).any p
 | [], _, _, _, h, _ => by cases h
 | a :: r, 0, k, x, h, hp => by
  injection h with h
  subst h
  unfold ixP
  rw [hp, cond_true]
  exact decide_eq_false (by omega)
 | a :: r, i + 1, k, x, h, hp => by
  unfold ixP
  rw [List.take_succ_cons, List.any_cons]
  cases ha : p a with
  | true => exact decide_eq_true (by show (k : Int) < _; omega)
  | false =>
   have := qn1 p r i (k + 1) x h hp
   rw [show k + (i + 1) = k + 1 + i by omega]
   exact this
theorem qn2 (l : List DD) (n : Tx) : (l.any fun x => eqS x.1 n) = decide (n ∈ l.map fun d => d.1) := by
 rw [Bool.eq_iff_iff]
 simp only [List.any_eq_true, decide_eq_true_eq, List.mem_map]
 exact ⟨fun ⟨x, h1, h2⟩ => ⟨x, h1, eqS_eq.1 h2⟩, fun ⟨x, h1, h2⟩ => ⟨x, h1, eqS_eq.2 h2⟩⟩
def PC (i : Nat) : Nat → List CT → List ((Int × Int) × Tx)
 | _, [] => []
 | k, c :: r => ((i, k), c.1) :: PC i (k + 1) r
def PD : Nat → List DD → List ((Int × Int) × Tx)
 | _, [] => []
 | i, d :: r => PC i 0 d.2.2.l ++ PD (i + 1) r
def q3x (L : List DD) : List Tx := L.flatMap fun d => d.2.2.l.map fun c => c.1
def q83 (E : List ((Int × Int) × Tx)) (n : Tx) : Option (Int × Int) := (E.find? fun e => eqS e.2 n).map fun e => e.1
theorem qn3 (i : Nat) : ∀ (l : List CT) (k : Nat), (PC i k l).map (fun e => e.2) = l.map fun c => c.1
 | [], _ => rfl
 | c :: r, k => by show c.1 :: _ = c.1 :: _; rw [qn3 i r]
theorem qn4 : ∀ (L : List DD) (i : Nat), (PD i L).map (fun e => e.2) = q3x L
 | [], _ => rfl
 | d :: r, i => by
  show (PC i 0 d.2.2.l ++ PD (i + 1) r).map _ = _
  rw [List.map_append, qn3, qn4 r]; rfl
theorem qgv (i : Nat) : ∀ (l : List CT) (k : Nat) e, e ∈ PC i k l → e.1.1 = (i : Int) ∧ (k : Int) ≤ e.1.2
 | [], _, _, h => by cases h
 | c :: r, k, e, h => by
  rcases List.mem_cons.1 h with h | h
  ·subst h; exact ⟨rfl, Int.le_refl _⟩
  ·obtain ⟨h1, h2⟩ := qgv i r (k + 1) e h
   exact ⟨h1, by omega⟩
theorem qsu : ∀ (L : List DD) (i : Nat) e, e ∈ PD i L → (i : Int) ≤ e.1.1
 | [], _, _, h => by cases h
 | d :: r, i, e, h => by
  rcases List.mem_append.1 h with h | h
  ·rw [(qgv i _ _ e h).1]; exact Int.le_refl _
  ·have := qsu r (i + 1) e h; omega
theorem qn5 (i : Nat) : ∀ (l : List CT) (k : Nat), ((PC i k l).map fun e => e.1).Nodup
 | [], _ => List.nodup_nil
 | c :: r, k => by
  show (((i : Int), (k : Int)) :: (PC i (k + 1) r).map _).Nodup
  refine List.nodup_cons.2 ⟨fun h => ?_, qn5 i r (k + 1)⟩
  obtain ⟨e, h1, h2⟩ := List.mem_map.1 h
  have := (qgv i r (k + 1) e h1).2
  rw [h2] at this
  simp only at this
  omega
theorem qn6 : ∀ (L : List DD) (i : Nat), ((PD i L).map fun e => e.1).Nodup
 | [], _ => List.nodup_nil
 | d :: r, i => by
  show ((PC i 0 d.2.2.l ++ PD (i + 1) r).map _).Nodup
  rw [List.map_append]
  refine List.nodup_append.2 ⟨qn5 i _ _, qn6 r (i + 1), fun a ha b hb => ?_⟩
  obtain ⟨e, h1, h2⟩ := List.mem_map.1 ha
  obtain ⟨e', h3, h4⟩ := List.mem_map.1 hb
  have g1 := (qgv i _ _ e h1).1
  have g2 := qsu r (i + 1) e' h3
  intro h
  rw [← h, ← h2] at h4
  rw [h4, g1] at g2
  omega
theorem qj6 : ∀ E : List ((Int × Int) × Tx), (E.map fun e => e.1).Nodup → (E.any fun e => !decide (q83 E e.2 = some e.1)) = dupL (E.map fun e => e.2)
 | [], _ => rfl
 | e0 :: r, h => by
  rw [List.map_cons] at h
  obtain ⟨h1, h2⟩ := List.nodup_cons.1 h
  have ih := qj6 r h2
  have f0 : q83 (e0 :: r) e0.2 = some e0.1 := by
   unfold q83
   rw [List.find?_cons_of_pos (p := fun e : (Int × Int) × Tx => eqS e.2 e0.2) (q7q e0.2)]
   rfl
  rw [List.any_cons, f0, List.map_cons]
  unfold dupL
  rw [← ih]
  have hd : (!decide ((some e0.1 : Option (Int × Int)) = some e0.1)) = false := by simp
  rw [hd, Bool.false_or]
  rw [Bool.eq_iff_iff]
  simp only [List.any_eq_true, Bool.or_eq_true, decide_eq_true_eq, List.mem_map, Bool.not_eq_true', decide_eq_false_iff_not]
  have fr : ∀ e, e ∈ r → e.2 ≠ e0.2 → q83 (e0 :: r) e.2 = q83 r e.2 := fun e _ hne => by
   unfold q83
   rw [List.find?_cons_of_neg (p := fun x : (Int × Int) × Tx => eqS x.2 e.2) (fun hh => hne (eqS_eq.1 hh).symm)]
  constructor
  ·rintro ⟨e, g1, g2⟩
   by_cases hn : e.2 = e0.2
   ·exact .inl ⟨e, g1, hn⟩
   ·rw [fr e g1 hn] at g2; exact .inr ⟨e, g1, g2⟩
  ·rintro (⟨e, g1, g2⟩ | ⟨e, g1, g2⟩)
   ·refine ⟨e, g1, ?_⟩
    rw [g2, f0]
    intro hh
    injection hh with hh
    exact h1 (List.mem_map.2 ⟨e, g1, hh.symm⟩)
   ·by_cases hn : e.2 = e0.2
    ·refine ⟨e, g1, ?_⟩
     rw [hn, f0]
     intro hh
     injection hh with hh
     exact h1 (List.mem_map.2 ⟨e, g1, hh.symm⟩)
    ·exact ⟨e, g1, by rw [fr e g1 hn]; exact g2⟩
end Fn
end Ev

namespace Ev
open Go
namespace Fn
def qfe (L : List DD) (x : ND) : Bool := L.any fun d => eqS d.1 x.2.1 && eqI d.2.1 x.2.2.2
def q8y (L : List DD) (x : ND) : Bool := eqI x.1 32 && (q27 x.2.1 && !qfe L x)
def qa6 (L : List DD) (c : CT) : Bool := c.2.l.any fun t => t.l.any (q8y L)
def q42 (L : List DD) : Bool := L.any fun d => d.2.2.l.any (qa6 L)
def q8b (L : List DD) : Bool := decide (L.length ≤ 60) && (L.all q1x && (!dupL (L.map fun d => d.1) && (!dupL (q3x L) && !q42 L)))
theorem qv7 (b : Bool) (L : List DD) (hL : GD L) : f_d7 (⟨b, L⟩, ()) = some (!L.all q1x, ()) := by
 have e : loopR l1_dy (⟨b, L⟩, lenI L, 0, ()) = some (ixP (fun d => !q1x d) 0 L, ()) := by
  refine q24 l1_dy (fun k => (⟨b, L⟩, lenI L, k, ())) (fun z => (z, ())) L (by have := hL.1; omega) (fun d => !q1x d) ?_ ?_
  ·intro k x hx hk
   have hd := ql7 x (hL.2 x (List.mem_of_getElem? hx))
   obtain ⟨n, p, cs⟩ := x
   unfold l1_dy
   simp only [ltG hx, q03, q06 hx, q00, u_a1, hd, add1 (show k ≤ 1000000000 by omega), notB]
   cases q1x (n, p, cs) <;> rfl
  ·unfold l1_dy
   simp only [ltE, q01]
 rw [u_d7, u_dy]
 refine (qbp e _).trans ?_
 rw [q5g, List.not_all_eq_any_not]
theorem qz1 (b : Bool) (L : List DD) (hL : GD L) (d : DD) : f_dz (⟨b, L⟩, d, ()) = some (ixP (fun x => eqS x.1 d.1) 0 L, ()) := by
 obtain ⟨n, p, cs⟩ := d
 rw [u_dz]
 refine q24 l1_dz (fun k => (⟨b, L⟩, (n, p, cs), lenI L, k, ())) (fun z => (z, ())) L (by have := hL.1; omega) (fun x => eqS x.1 n) ?_ ?_
 ·intro k x hx hk
  obtain ⟨m, q, ds⟩ := x
  unfold l1_dz
  simp only [ltG hx, q03, q06 hx, q00, u_a2, add1 (show k ≤ 1000000000 by omega)]
  cases eqS m n <;> rfl
 ·unfold l1_dz
  simp only [ltE, q01]
def qsv (n : Tx) (i : Nat) (d : DD) : Option (Bool × Int × Int × Unit) := bif leI 0 (ixP (fun c : CT => eqS c.1 n) 0 d.2.2.l) then some (true, (i : Int), ixP (fun c : CT => eqS c.1 n) 0 d.2.2.l, ()) else none
def out3 (s : Sl DD) (n : Tx) (i : Nat) (z : Int) : ((Sl DD) × Tx × (Sl DD) × Int × Int × Int × Int × Unit) ⊕ (Bool × Int × Int × Unit) := bif leI 0 z then .inr (true, (i : Int), z, ()) else .inl (s, n, s, lenI s.l, ((i + 1 : Nat) : Int), 0, 0, ())
theorem qzt (s : Sl DD) (hL : GD s.l) (n : Tx) : f_ac (s, s, n, 0, 0, ()) = some (scan (qsv n) (false, 0, 0, ()) 0 s.l) := by
 rw [u_ac]
 refine q0i l2_ac (fun k => (s, n, s, lenI s.l, k, 0, 0, ())) s.l (by have := hL.1; omega) (qsv n) (false, 0, 0, ()) ?_ ?_
 ·intro i d hd hi
  obtain ⟨g1, g2, g3⟩ := hL.2 d (List.mem_of_getElem? hd)
  have e : loopR l1_ac (s, n, (i : Int), s, lenI s.l, (i : Int), lenI d.2.2.l, 0, 0, 0, ()) = some (out3 s n i (ixP (fun c : CT => eqS c.1 n) 0 d.2.2.l)) := by
   refine q24 l1_ac (fun k => (s, n, (i : Int), s, lenI s.l, (i : Int), lenI d.2.2.l, k, 0, 0, ())) (out3 s n i) d.2.2.l (by omega) (fun c : CT => eqS c.1 n) ?_ ?_
   ·intro k c hc hk
    have h0 : leI 0 (k : Int) = true := decide_eq_true (by omega)
    unfold l1_ac out3
    simp only [ltG hc, q03, u_a9, q06 hd, q06 hc, q00, add1 (show k ≤ 1000000000 by omega), h0, cond_true]
    cases eqS c.1 n <;> rfl
   ·have h0 : leI 0 (-1) = false := id (Eq.refl _)
    unfold l1_ac out3
    simp only [ltE, q01, h0, cond_false, add1 (show i ≤ 1000000000 by omega)]
  unfold l2_ac
  simp only [ltG hd, q03, q06 hd, q00, e]
  unfold qsv out3
  cases leI 0 (ixP (fun c : CT => eqS c.1 n) 0 d.2.2.l) <;> rfl
 ·unfold l2_ac
  simp only [ltE, q01]
end Fn
end Ev

namespace Ev
open Go
namespace Fn
theorem qsw (i : Nat) (n : Tx) : ∀ (l : List CT) (k : Nat), q83 (PC i k l) n = bif leI 0 (ixP (fun c : CT => eqS c.1 n) k l) then some ((i : Int), ixP (fun c : CT => eqS c.1 n) k l) else none
 | [], _ => rfl
 | c :: r, k => by
  unfold PC ixP q83
  rw [List.find?_cons]
  cases hc : eqS c.1 n with
  | true =>
   have : leI 0 (k : Int) = true := decide_eq_true (by omega)
   simp only [cond_true, this]
   rfl
  | false =>
   simp only [cond_false]
   exact qsw i n r (k + 1)
theorem qff (n : Tx) : ∀ (L : List DD) (i : Nat), scan (qsv n) (false, 0, 0, ()) i L = match q83 (PD i L) n with | some q => (true, q.1, q.2, ()) | none => (false, 0, 0, ())
 | [], _ => rfl
 | d :: r, i => by
  have ih := qff n r (i + 1)
  have h : q83 (PD i (d :: r)) n = (q83 (PC i 0 d.2.2.l) n).or (q83 (PD (i + 1) r) n) := by
   show ((PC i 0 d.2.2.l ++ PD (i + 1) r).find? _).map _ = _
   unfold q83
   rw [List.find?_append]
   cases (PC i 0 d.2.2.l).find? (fun e => eqS e.2 n) <;> rfl
  rw [h, qsw]
  unfold scan qsv
  cases leI 0 (ixP (fun c : CT => eqS c.1 n) 0 d.2.2.l) with
  | true => rfl
  | false => exact ih
theorem qvx (P : (Int × Int) × Tx → Bool) (i : Nat) : ∀ (l : List CT) (k : Nat), anyX (fun k c => P (((i : Int), (k : Int)), c.1)) k l = (PC i k l).any P
 | [], _ => rfl
 | c :: r, k => by unfold anyX PC; rw [List.any_cons, qvx P i r]
theorem qvy (P : (Int × Int) × Tx → Bool) : ∀ (L : List DD) (i : Nat), anyX (fun i d => anyX (fun k c => P (((i : Int), (k : Int)), c.1)) 0 d.2.2.l) i L = (PD i L).any P
 | [], _ => rfl
 | d :: r, i => by unfold anyX PD; rw [List.any_append, qvx, qvy P r]
def qa7 (L : List DD) (e : (Int × Int) × Tx) : Bool := !decide (q83 (PD 0 L) e.2 = some e.1)
theorem qvz : ∀ (L : List DD) (i0 i k : Nat) (d : DD) (c : CT), L[i]? = some d → d.2.2.l[k]? = some c → ((((i0 + i : Nat) : Int), (k : Int)), c.1) ∈ PD i0 L
 | [], _, _, _, _, _, h, _ => by cases h
 | d0 :: r, i0, 0, k, d, c, h, hc => by
  injection h with h; subst h
  refine List.mem_append_left _ ?_
  have aux : ∀ (l : List CT) (k0 k : Nat), l[k]? = some c → (((i0 : Int), ((k0 + k : Nat) : Int)), c.1) ∈ PC i0 k0 l := by
   intro l
   induction l with
   | nil => intro k0 k h; cases h
   | cons c0 r ih =>
    intro k0 k h
    cases k with
    | zero => injection h with h; subst h; exact List.mem_cons_self ..
    | succ k =>
     have := ih (k0 + 1) k h
     rw [show k0 + 1 + k = k0 + (k + 1) by omega] at this
     exact List.mem_cons_of_mem _ this
  have := aux d0.2.2.l 0 k hc
  rw [Nat.zero_add] at this
  exact this
 | d0 :: r, i0, i + 1, k, d, c, h, hc => by
  have := qvz r (i0 + 1) i k d c h hc
  rw [show i0 + 1 + i = i0 + (i + 1) by omega] at this
  exact List.mem_append_right _ this
theorem qp3 (s : Sl DD) (hL : GD s.l) {i k : Nat} {d : DD} {c : CT} (hd : s.l[i]? = some d) (hc : d.2.2.l[k]? = some c) :
  f_a3 ((i : Int), (k : Int), s, ()) = some (qa7 s.l (((i : Int), (k : Int)), c.1), s, ()) := by
 have hm := qvz s.l 0 i k d c hd hc
 rw [Nat.zero_add] at hm
 have hf : ∃ q, q83 (PD 0 s.l) c.1 = some q := by
  unfold q83
  cases h : (PD 0 s.l).find? (fun e => eqS e.2 c.1) with
  | some q => exact ⟨q.1, rfl⟩
  | none => exact absurd (q7q c.1) (List.find?_eq_none.1 h _ hm)
 obtain ⟨⟨x, y⟩, hq⟩ := hf
 rw [u_a3, q06 hd, q00, q06 hc, q00, u_a8, qzt s hL, q00, qff, hq, q00]
 unfold qa7
 rw [hq]
 simp only
 by_cases h1 : x = (i : Int)
 ·by_cases h2 : y = (k : Int)
  ·subst h1 h2
   rw [q2i, q2i, decide_eq_true rfl]; rfl
  ·subst h1
   rw [q2i, q1a h2, decide_eq_false (by intro h; injection h with h; injection h with h h'; exact h2 h')]; rfl
 ·rw [q1a h1, decide_eq_false (by intro h; injection h with h; injection h with h h'; exact h1 h)]; rfl
theorem qzu (s : Sl DD) (hL : GD s.l) : f_aa (s, s, ()) = some ((PD 0 s.l).any (qa7 s.l), s, ()) := by
 rw [u_aa]
 refine (q0i l2_aa (fun k => (s, lenI s.l, k, s, ())) s.l (by have := hL.1; omega) (fun i d => bif anyX (fun k c => qa7 s.l (((i : Int), (k : Int)), c.1)) 0 d.2.2.l then some (true, s, ()) else none) (false, s, ()) ?_ ?_).trans ?_
 ·intro i d hd hi
  obtain ⟨g1, g2, g3⟩ := hL.2 d (List.mem_of_getElem? hd)
  have e := q0i l1_aa (fun k => ((i : Int), s, lenI s.l, (i : Int), lenI d.2.2.l, k, s, ())) d.2.2.l (by omega)
   (fun k c => bif qa7 s.l (((i : Int), (k : Int)), c.1) then some (.inr (true, s, ())) else none) (.inl (s, lenI s.l, ((i + 1 : Nat) : Int), s, ()))
   (fun k c hc hk => by
    unfold l1_aa
    simp only [ltG hc, q03, qp3 s hL hd hc, q00, add1 (show k ≤ 1000000000 by omega)]
    cases qa7 s.l (((i : Int), (k : Int)), c.1) <;> rfl)
   (by
    unfold l1_aa
    simp only [ltE, q01, add1 (show i ≤ 1000000000 by omega)])
  rw [q7c] at e
  unfold l2_aa
  simp only [ltG hd, q03, q06 hd, q00]
  refine e.trans ?_
  cases anyX (fun k c => qa7 s.l (((i : Int), (k : Int)), c.1)) 0 d.2.2.l <;> rfl
 ·unfold l2_aa
  simp only [ltE, q01]
 ·rw [q7c, qvy]
  cases (PD 0 s.l).any (qa7 s.l) <;> rfl
theorem qsx (L : List DD) : (PD 0 L).any (qa7 L) = dupL (q3x L) := by
 have := qj6 (PD 0 L) (qn6 L 0)
 rw [qn4] at this
 exact this
end Fn
end Ev

namespace Ev
open Go
namespace Fn
theorem qp4 (s : Sl DD) (hL : s.l.length ≤ 1000) (x : ND) : f_db (s, x, ()) = some (qfe s.l x, ()) := by
 obtain ⟨a, t, n, c⟩ := x
 have e : loopR l1_e0 (s, (a, t, n, c), lenI s.l, 0, ()) = some (ixP (fun d : DD => eqS d.1 t && eqI d.2.1 c) 0 s.l, ()) := by
  refine q24 l1_e0 (fun k => (s, (a, t, n, c), lenI s.l, k, ())) (fun z => (z, ())) s.l (by omega) (fun d : DD => eqS d.1 t && eqI d.2.1 c) ?_ ?_
  ·intro k d hx hk
   obtain ⟨m, q, ds⟩ := d
   unfold l1_e0
   simp only [ltG hx, q03, q06 hx, q00, u_a5, add1 (show k ≤ 1000000000 by omega)]
   cases eqS m t <;> cases eqI q c <;> rfl
  ·unfold l1_e0
   simp only [ltE, q01]
 rw [u_db, u_e0, e, q00, q5g]
 rfl
theorem qp5 (s : Sl DD) (hL : s.l.length ≤ 1000) (x : ND) (hx : qj2 x) : f_a4 (x, s, ()) = some (q8y s.l x, s, ()) := by
 have hk := qp4 s hL x
 have hn := qb5 x.2.1 ⟨hx.1, hx.2.1⟩
 obtain ⟨a, t, n, c⟩ := x
 rw [u_a4]
 unfold q8y
 simp only [hk, hn, q00]
 cases eqI a 32 <;> cases q27 t <;> cases qfe s.l (a, t, n, c) <;> rfl
theorem qp6 (s : Sl DD) (hL : s.l.length ≤ 1000) (t : SN) (ht : gA t) : f_a7 (t, s, ()) = some (t.l.any (q8y s.l), s, ()) := by
 have hl := ht.2
 have e : loopR l1_dq (t, lenI t.l, 0, s, ()) = some (ixP (q8y s.l) 0 t.l, s, ()) := by
  refine q24 l1_dq (fun k => (t, lenI t.l, k, s, ())) (fun z => (z, s, ())) t.l (by omega) (q8y s.l) ?_ ?_
  ·intro k x hx hk
   unfold l1_dq
   simp only [ltG hx, q03, q06 hx, q00, qp5 s hL x (ht.1.at hx), add1 (show k ≤ 1000000000 by omega)]
   cases q8y s.l x <;> rfl
  ·unfold l1_dq
   simp only [ltE, q01]
 rw [u_a7, u_dg, u_dq, e, q00, q00, q5g]
theorem qp7 (s : Sl DD) (hL : GD s.l) {i k : Nat} {d : DD} {c : CT} (hd : s.l[i]? = some d) (hc : d.2.2.l[k]? = some c) :
  f_a6 ((i : Int), (k : Int), s, ()) = some (qa6 s.l c, s, ()) := by
 obtain ⟨g1, g2, g3⟩ := (hL.2 d (List.mem_of_getElem? hd)).2.2 c (List.mem_of_getElem? hc)
 have e : loopR l1_dm (c.2, lenI c.2.l, 0, s, ()) = some (ixP (fun t : SN => t.l.any (q8y s.l)) 0 c.2.l, s, ()) := by
  refine q24 l1_dm (fun k => (c.2, lenI c.2.l, k, s, ())) (fun z => (z, s, ())) c.2.l (by omega) (fun t : SN => t.l.any (q8y s.l)) ?_ ?_
  ·intro k t hx hk
   unfold l1_dm
   simp only [ltG hx, q03, q06 hx, q00, qp6 s hL.1 t (g3 t (List.mem_of_getElem? hx)), add1 (show k ≤ 1000000000 by omega)]
   cases t.l.any (q8y s.l) <;> rfl
  ·unfold l1_dm
   simp only [ltE, q01]
 rw [u_a6, q06 hd, q00, q06 hc, q00, u_dc, u_dm, e, q00, q00, q5g]
 rfl
theorem qzv (s : Sl DD) (hL : GD s.l) : f_ab (s, s, ()) = some (q42 s.l, s, ()) := by
 rw [u_ab]
 refine (q0i l2_ab (fun k => (s, lenI s.l, k, s, ())) s.l (by have := hL.1; omega) (fun _ d => bif d.2.2.l.any (qa6 s.l) then some (true, s, ()) else none) (false, s, ()) ?_ ?_).trans ?_
 ·intro i d hd hi
  obtain ⟨g1, g2, g3⟩ := hL.2 d (List.mem_of_getElem? hd)
  have e := q0i l1_ab (fun k => ((i : Int), s, lenI s.l, (i : Int), lenI d.2.2.l, k, s, ())) d.2.2.l (by omega)
   (fun _ c => bif qa6 s.l c then some (.inr (true, s, ())) else none) (.inl (s, lenI s.l, ((i + 1 : Nat) : Int), s, ()))
   (fun k c hc hk => by
    unfold l1_ab
    simp only [ltG hc, q03, qp7 s hL hd hc, q00, add1 (show k ≤ 1000000000 by omega)]
    cases qa6 s.l c <;> rfl)
   (by
    unfold l1_ab
    simp only [ltE, q01, add1 (show i ≤ 1000000000 by omega)])
  rw [q3m] at e
  unfold l2_ab
  simp only [ltG hd, q03, q06 hd, q00]
  refine e.trans ?_
  cases d.2.2.l.any (qa6 s.l) <;> rfl
 ·unfold l2_ab
  simp only [ltE, q01]
 ·rw [q3m]
  unfold q42
  cases s.l.any (fun d => d.2.2.l.any (qa6 s.l)) <;> rfl
def qec (L : List DD) : Int := bif decide (L.length ≤ 60) && L.all q1x then (bif dupL (L.map fun d => d.1) || dupL (q3x L) then 101 else bif q42 L then 102 else 0) else 100
theorem qc5 (L : List DD) : eqI (qec L) 0 = q8b L := by
 unfold qec q8b
 cases decide (L.length ≤ 60) <;> cases L.all q1x <;> cases dupL (L.map fun d => d.1) <;> cases dupL (q3x L) <;> cases q42 L <;> rfl
theorem qz2 (L : List DD) : ltI 60 (lenI L) = !decide (L.length ≤ 60) := by
 unfold ltI lenI
 by_cases e : L.length ≤ 60
 ·rw [decide_eq_true e, decide_eq_false (by omega)]; rfl
 ·rw [decide_eq_false e, decide_eq_true (by omega)]; rfl
theorem q8z (s : Sl DD) (hL : GD s.l) : f_a0 (s, ()) = some (qec s.l, ()) := by
 obtain ⟨b, L⟩ := s
 have hL : GD L := hL
 have e : loopR l1_a0 (⟨b, L⟩, lenI L, 0, ⟨b, L⟩, ()) = some (bif dupL (L.map fun d => d.1) || dupL (q3x L) then 101 else bif q42 L then 102 else 0, ()) := by
  refine (q0i l1_a0 (fun k => (⟨b, L⟩, lenI L, k, ⟨b, L⟩, ())) L (by have := hL.1; omega) (fun i d => bif ltI (ixP (fun x : DD => eqS x.1 d.1) 0 L) (i : Int) then some (101, ()) else none)
   (bif dupL (q3x L) then 101 else bif q42 L then 102 else 0, ()) ?_ ?_).trans ?_
  ·intro k d hx hk
   have hn := qz1 b L hL d
   obtain ⟨n, p, cs⟩ := d
   unfold l1_a0
   simp only [ltG hx, q03, q06 hx, q00, hn, add1 (show k ≤ 1000000000 by omega)]
   cases ltI (ixP (fun x : DD => eqS x.1 n) 0 L) (k : Int) <;> rfl
  ·have h1 := qzu ⟨b, L⟩ hL
   have h2 := qzv ⟨b, L⟩ hL
   rw [qsx] at h1
   unfold l1_a0
   simp only [ltE, q01, h1, h2, q00]
   cases dupL (q3x L) <;> cases q42 L <;> rfl
  ·rw [q7c, qgu (fun d : DD => d.1) (fun i d => ltI (ixP (fun x : DD => eqS x.1 d.1) 0 L) (i : Int)) L (fun k x hx => by
    have := qn1 (fun y : DD => eqS y.1 x.1) L k 0 x hx (q7q _)
    rw [Nat.zero_add] at this
    rw [this, qn2])]
   cases dupL (L.map fun d => d.1) <;> rfl
 rw [u_a0, qv7 b L hL]
 simp only [qz2, e, q00]
 unfold qec
 cases decide (L.length ≤ 60) <;> cases L.all q1x <;> rfl
end Fn
end Ev

namespace Ev
open Go
namespace Fn
theorem ql8 (s : Sl DD) (hL : s.l.length ≤ 1000) (x : ND) : f_cp (s, x, ()) = some (qfe s.l x, ()) := by
 obtain ⟨a, t, n, c⟩ := x
 rw [u_cp]
 refine (q0i l1_cp (fun k => (s, k, a, t, n, c, ())) s.l (by omega) (fun _ d => bif eqS d.1 t && eqI d.2.1 c then some (true, ()) else none) (false, ()) ?_ ?_).trans ?_
 ·intro k d hx hk
  unfold l1_cp
  simp only [ltG hx, q03, q06 hx, q00, add1 (show k ≤ 1000000000 by omega)]
  cases eqS d.1 t <;> cases eqI d.2.1 c <;> rfl
 ·unfold l1_cp
  simp only [ltE, q01]
 ·rw [q3m]; unfold qfe; cases s.l.any (fun d => eqS d.1 t && eqI d.2.1 c) <;> rfl
theorem r3 (s : Sl DD) (hL : s.l.length ≤ 1000) (i k : Int) (m : Nat) (hm : m ≤ 1000000) (t : SN) (ht : gA t) :
  loopR l3_cm (s, i, k, (m : Int), t, 0, ()) = some (bif t.l.any (q8y s.l) then .inr (.inr (.inr (.inr (.inr (.inr (102, ())))))) else .inl (s, i, k, ((m + 1 : Nat) : Int), ())) := by
 have hl := ht.2
 refine (q0i l3_cm (fun n => (s, i, k, (m : Int), t, n, ())) t.l (by omega) (fun _ x => bif q8y s.l x then some (.inr (.inr (.inr (.inr (.inr (.inr (102, ()))))))) else none) (.inl (s, i, k, ((m + 1 : Nat) : Int), ())) ?_ ?_).trans ?_
 ·intro n x hx hk
  have hg := ht.1.at hx
  have hkn := ql8 s hL x
  have hn := qgt x.2.1 ⟨hg.1, hg.2.1⟩
  unfold l3_cm q8y
  simp only [ltG hx, q03, q06 hx, q00, hkn, hn, add1 (show n ≤ 1000000000 by omega)]
  cases eqI x.1 32 <;> cases q27 x.2.1 <;> cases qfe s.l x <;> rfl
 ·unfold l3_cm
  simp only [ltE, q01, add1 (show m ≤ 1000000000 by omega)]
 ·rw [q3m]
theorem r4 (s : Sl DD) (hL : GD s.l) {i k : Nat} {d : DD} {c : CT} (hd : s.l[i]? = some d) (hc : d.2.2.l[k]? = some c) (hk : k ≤ 1000000) :
  loopR l4_cm (s, (i : Int), (k : Int), 0, ()) = some (bif qa6 s.l c then .inr (.inr (.inr (.inr (.inr (102, ()))))) else .inl (s, (i : Int), ((k + 1 : Nat) : Int), ())) := by
 obtain ⟨g1, g2, g3⟩ := (hL.2 d (List.mem_of_getElem? hd)).2.2 c (List.mem_of_getElem? hc)
 refine (q0i l4_cm (fun m => (s, (i : Int), (k : Int), m, ())) c.2.l (by omega) (fun _ t => bif t.l.any (q8y s.l) then some (.inr (.inr (.inr (.inr (.inr (102, ())))))) else none) (.inl (s, (i : Int), ((k + 1 : Nat) : Int), ())) ?_ ?_).trans ?_
 ·intro m t hx hm
  unfold l4_cm
  simp only [q06 hd, q06 hc, ltG hx, q03, q06 hx, q00, r3 s hL.1 i k m hm t (g3 t (List.mem_of_getElem? hx))]
  cases t.l.any (q8y s.l) <;> rfl
 ·unfold l4_cm
  simp only [q06 hd, q06 hc, q00, ltE, q01, add1 (show k ≤ 1000000000 by omega)]
 ·rw [q3m]; rfl
theorem r5 (s : Sl DD) (hL : GD s.l) {i : Nat} {d : DD} (hd : s.l[i]? = some d) (hi : i ≤ 1000000) :
  loopR l5_cm (s, (i : Int), 0, ()) = some (bif d.2.2.l.any (qa6 s.l) then .inr (.inr (.inr (.inr (102, ())))) else .inl (s, ((i + 1 : Nat) : Int), ())) := by
 obtain ⟨g1, g2, g3⟩ := hL.2 d (List.mem_of_getElem? hd)
 refine (q0i l5_cm (fun k => (s, (i : Int), k, ())) d.2.2.l (by omega) (fun _ c => bif qa6 s.l c then some (.inr (.inr (.inr (.inr (102, ()))))) else none) (.inl (s, ((i + 1 : Nat) : Int), ())) ?_ ?_).trans ?_
 ·intro k c hx hk
  unfold l5_cm
  simp only [q06 hd, q00, ltG hx, q03, r4 s hL hd hx hk]
  cases qa6 s.l c <;> rfl
 ·unfold l5_cm
  simp only [q06 hd, q00, ltE, q01, add1 (show i ≤ 1000000000 by omega)]
 ·rw [q3m]
theorem r6 (s : Sl DD) (hL : GD s.l) : loopR l6_cm (s, 0, ()) = some (.inr (.inr (.inr (bif q42 s.l then 102 else 0, ())))) := by
 refine (q0i l6_cm (fun i => (s, i, ())) s.l (by have := hL.1; omega) (fun _ d => bif d.2.2.l.any (qa6 s.l) then some (.inr (.inr (.inr (102, ())))) else none) (.inr (.inr (.inr (0, ())))) ?_ ?_).trans ?_
 ·intro i d hx hi
  unfold l6_cm
  simp only [ltG hx, q03, r5 s hL hx hi]
  cases d.2.2.l.any (qa6 s.l) <;> rfl
 ·unfold l6_cm
  simp only [ltE, q01]
 ·rw [q3m]; unfold q42; cases s.l.any (fun d => d.2.2.l.any (qa6 s.l)) <;> rfl
theorem qn7 {α : Type} {l : List α} {i k : Nat} {x : α} (h : (l.take i)[k]? = some x) : l[k]? = some x ∧ k < i := by
 have h1 := getL h
 rw [List.length_take] at h1
 rw [List.getElem?_take_of_lt (by omega)] at h
 exact ⟨h, by omega⟩
theorem ltT {i k : Nat} (h : k < i) : ltI (k : Int) (i : Int) = true := decide_eq_true (by omega)
theorem qxy (l : List Tx) (n : Tx) : (l.any fun x => eqS x n) = decide (n ∈ l) := by
 rw [Bool.eq_iff_iff]
 simp only [List.any_eq_true, decide_eq_true_eq]
 exact ⟨fun ⟨x, h1, h2⟩ => by rw [← eqS_eq.1 h2]; exact h1, fun h => ⟨n, h, q7q n⟩⟩
theorem r2 (s : Sl DD) (ns : Sl Tx) {i : Nat} {n : Tx} (hn : ns.l[i]? = some n) (hi : i ≤ 1000000) :
  loopR l2_cm (s, ns, (i : Int), 0, ()) = some (bif decide (n ∈ ns.l.take i) then .inr (.inr (.inr (101, ()))) else .inl (s, ns, ((i + 1 : Nat) : Int), ())) := by
 have hlen : (ns.l.take i).length = i := by rw [List.length_take]; have := getL hn; omega
 refine (q0i l2_cm (fun k => (s, ns, (i : Int), k, ())) (ns.l.take i) (by omega) (fun _ x => bif eqS x n then some (.inr (.inr (.inr (101, ())))) else none) (.inl (s, ns, ((i + 1 : Nat) : Int), ())) ?_ ?_).trans ?_
 ·intro k x hx hk
  obtain ⟨h1, h2⟩ := qn7 hx
  unfold l2_cm
  simp only [ltT h2, q03, q06 h1, q06 hn, q00, add1 (show k ≤ 1000000000 by omega)]
  cases eqS x n <;> rfl
 ·have h0 : ltI (i : Int) (i : Int) = false := decide_eq_false (by omega)
  unfold l2_cm
  simp only [hlen, h0, q01, add1 (show i ≤ 1000000000 by omega)]
 ·rw [q3m, qxy]
theorem r7 (s : Sl DD) (hL : GD s.l) (ns : Sl Tx) (hns : ns.l.length ≤ 1000000) : loopR l7_cm (s, ns, 0, ()) = some (.inr (.inr (bif dupL ns.l then 101 else bif q42 s.l then 102 else 0, ()))) := by
 refine (q0i l7_cm (fun i => (s, ns, i, ())) ns.l hns (fun i n => bif decide (n ∈ ns.l.take i) then some (.inr (.inr (101, ()))) else none) (.inr (.inr (bif q42 s.l then 102 else 0, ()))) ?_ ?_).trans ?_
 ·intro i n hx hi
  unfold l7_cm
  simp only [ltG hx, q03, r2 s ns hx hi]
  cases decide (n ∈ ns.l.take i) <;> rfl
 ·unfold l7_cm
  simp only [ltE, q01, r6 s hL]
 ·rw [q7c, qgu (fun n : Tx => n) (fun i n => decide (n ∈ ns.l.take i)) ns.l (fun k x _ => by simp), List.map_id']
  cases dupL ns.l <;> rfl
theorem r1 (s : Sl DD) (ns : Sl Tx) {i : Nat} {d : DD} (hn : s.l[i]? = some d) (hi : i ≤ 1000000) :
  loopR l1_cm (s, ns, (i : Int), 0, ()) = some (bif decide (d.1 ∈ (s.l.take i).map fun d => d.1) then .inr (.inr (101, ())) else .inl (s, ns, ((i + 1 : Nat) : Int), ())) := by
 have hlen : (s.l.take i).length = i := by rw [List.length_take]; have := getL hn; omega
 refine (q0i l1_cm (fun k => (s, ns, (i : Int), k, ())) (s.l.take i) (by omega) (fun _ x => bif eqS x.1 d.1 then some (.inr (.inr (101, ()))) else none) (.inl (s, ns, ((i + 1 : Nat) : Int), ())) ?_ ?_).trans ?_
 ·intro k x hx hk
  obtain ⟨h1, h2⟩ := qn7 hx
  unfold l1_cm
  simp only [ltT h2, q03, q06 h1, q06 hn, q00, add1 (show k ≤ 1000000000 by omega)]
  cases eqS x.1 d.1 <;> rfl
 ·have h0 : ltI (i : Int) (i : Int) = false := decide_eq_false (by omega)
  unfold l1_cm
  simp only [hlen, h0, q01, add1 (show i ≤ 1000000000 by omega)]
 ·rw [q3m, qn2]
theorem r8 (s : Sl DD) (hL : GD s.l) (ns : Sl Tx) (hns : ns.l.length ≤ 1000000) : loopR l8_cm (s, ns, 0, ()) = some (.inr (bif dupL (s.l.map fun d => d.1) then 101 else bif dupL ns.l then 101 else bif q42 s.l then 102 else 0, ())) := by
 refine (q0i l8_cm (fun i => (s, ns, i, ())) s.l (by have := hL.1; omega) (fun i d => bif decide (d.1 ∈ (s.l.take i).map fun d => d.1) then some (.inr (101, ())) else none) (.inr (bif dupL ns.l then 101 else bif q42 s.l then 102 else 0, ())) ?_ ?_).trans ?_
 ·intro i d hx hi
  unfold l8_cm
  simp only [ltG hx, q03, r1 s ns hx hi]
  cases decide (d.1 ∈ (s.l.take i).map fun d => d.1) <;> rfl
 ·unfold l8_cm
  simp only [ltE, q01, r7 s hL ns hns]
 ·rw [q7c, qgu (fun d : DD => d.1) (fun i d => decide (d.1 ∈ (s.l.take i).map fun d => d.1)) s.l (fun k x _ => rfl)]
  cases dupL (s.l.map fun d => d.1) <;> rfl
theorem qsy (a : List DD) (d : DD) : q3x (a ++ [d]) = q3x a ++ d.2.2.l.map fun c => c.1 := by
 unfold q3x; rw [List.flatMap_append]; simp
theorem qsz (L : List DD) (hg : ∀ d, d ∈ L → gD d) : (q3x L).length ≤ L.length * 1000 := by
 induction L with
 | nil => exact Nat.zero_le _
 | cons d r ih =>
  have := ih fun x hx => hg x (List.mem_cons_of_mem _ hx)
  have h2 := (hg d (List.mem_cons_self ..)).2.1
  show ((d.2.2.l.map fun c => c.1) ++ q3x r).length ≤ (r.length + 1) * 1000
  rw [List.length_append, List.length_map]
  omega
theorem ql9 (s : Sl DD) (hL : GD s.l) : ∃ b, f_cr (s, ()) = some (⟨b, q3x s.l⟩, ()) := by
 have hlen := qsz s.l hL.2
 have h1000 := hL.1
 rw [u_cr]
 have e := q21 l2_cr (fun k a => (s, k, a, ())) s.l (fun (a : Sl Tx) d => (⟨a.nil && d.2.2.l.isEmpty, a.l ++ d.2.2.l.map fun c => c.1⟩ : Sl Tx)) (fun a => (a, ())) (fun k a => k ≤ s.l.length ∧ a.l = q3x (s.l.take k)) ⟨false, []⟩ ⟨Nat.zero_le _, rfl⟩ ?_ ?_
 ·refine ⟨(s.l.foldl (fun (a : Sl Tx) d => (⟨a.nil && d.2.2.l.isEmpty, a.l ++ d.2.2.l.map fun c => c.1⟩ : Sl Tx)) ⟨false, []⟩).nil, e.trans ?_⟩
  have : ∀ (l : List DD) (a : Sl Tx), (l.foldl (fun (a : Sl Tx) d => (⟨a.nil && d.2.2.l.isEmpty, a.l ++ d.2.2.l.map fun c => c.1⟩ : Sl Tx)) a).l = a.l ++ q3x l := by
   intro l
   induction l with
   | nil => intro a; simp [q3x]
   | cons d r ih => intro a; rw [List.foldl_cons, ih]; simp [q3x]
  rw [← show _ = q3x s.l from (this s.l ⟨false, []⟩).trans (List.nil_append _)]
 ·intro i d a hd hi
  obtain ⟨nb, al⟩ := a
  have hi2 : al = q3x (s.l.take i) := hi.2
  have hil := getL hd
  obtain ⟨g1, g2, g3⟩ := hL.2 d (List.mem_of_getElem? hd)
  have hal : al.length ≤ 1000000 := by
   have := qsz (s.l.take i) fun d h => hL.2 d (List.mem_of_mem_take h)
   rw [List.length_take] at this
   rw [hi2]; omega
  have e2 := q21 l1_cr (fun k a => (s, (i : Int), k, a, ())) d.2.2.l (fun (a : Sl Tx) c => (⟨false, a.l ++ [c.1]⟩ : Sl Tx)) (fun a => .inl (s, ((i + 1 : Nat) : Int), a, ())) (fun k a => k ≤ d.2.2.l.length ∧ a.l.length = al.length + k) ⟨nb, al⟩ ⟨Nat.zero_le _, rfl⟩
   (fun k c a hc hk => by
    obtain ⟨nb2, a2⟩ := a
    have h2 : a2.length = al.length + k := hk.2
    have hkl := getL hc
    have hfit : fit (sumI (lenI a2) (lenI [c.1])) = some () := q0u (by show a2.length + 1 ≤ _; omega)
    refine ⟨?_, hkl, by show (a2 ++ [c.1]).length = _; rw [List.length_append, h2]; rfl⟩
    unfold l1_cr
    simp only [q06 hd, q00, ltG hc, q03, q06 hc, hfit, q1z, add1 (show k ≤ 1000000000 by omega)]
    rfl)
   (fun a _ => by
    unfold l1_cr
    simp only [q06 hd, q00, ltE, q01, add1 (show i ≤ 1000000000 by omega)])
  have hf : ∀ (l : List CT) (a : Sl Tx), l.foldl (fun (a : Sl Tx) c => (⟨false, a.l ++ [c.1]⟩ : Sl Tx)) a = ⟨a.nil && l.isEmpty, a.l ++ l.map fun c => c.1⟩ := by
   intro l
   induction l with
   | nil => intro a; simp
   | cons c r ih => intro a; rw [List.foldl_cons, ih]; simp
  rw [hf] at e2
  refine ⟨?_, hil, ?_⟩
  ·unfold l2_cr
   simp only [ltG hd, q03]
   exact e2
  ·show al ++ _ = _
   rw [List.take_add_one, hd, hi2]
   exact (qsy _ _).symm
 ·intro a _
  unfold l2_cr
  simp only [ltE, q01]
theorem qbq (s : Sl DD) (hL : GD s.l) : f_cm (s, ()) = some (qec s.l, ()) := by
 obtain ⟨nb, hn⟩ := ql9 s hL
 have hlen := qsz s.l hL.2
 have h1000 := hL.1
 have e : loopR l9_cm (s, 0, ()) = some (bif s.l.all q1x then (bif dupL (s.l.map fun d => d.1) then 101 else bif dupL (q3x s.l) then 101 else bif q42 s.l then 102 else 0) else 100, ()) := by
  refine (q0i l9_cm (fun i => (s, i, ())) s.l (by omega) (fun _ d => bif q1x d then none else some (100, ())) (bif dupL (s.l.map fun d => d.1) then 101 else bif dupL (q3x s.l) then 101 else bif q42 s.l then 102 else 0, ()) ?_ ?_).trans ?_
  ·intro i d hx hi
   unfold l9_cm
   simp only [ltG hx, q03, q06 hx, q00, qv6 d (hL.2 d (List.mem_of_getElem? hx)), add1 (show i ≤ 1000000000 by omega)]
   cases q1x d <;> rfl
  ·unfold l9_cm
   simp only [ltE, q01, hn, q00, r8 s hL ⟨nb, q3x s.l⟩ (by show (q3x s.l).length ≤ _; omega)]
  ·rw [q37]; cases s.l.all q1x <;> rfl
 rw [u_cm, e, qz2]
 unfold qec
 cases decide (s.l.length ≤ 60) <;> cases s.l.all q1x <;> cases dupL (s.l.map fun d => d.1) <;> cases dupL (q3x s.l) <;> rfl
end Fn
end Ev

namespace Ev
open Go
namespace Fn
def F.trees : F → List (List ND)
 | .nil => []
 | .cons k t n ks r => (tr k t n ks).flat :: r.trees
def F.ents : Nat → F → List (Int × List ND)
 | _, .nil => []
 | q, .cons k t n ks r => ((q : Int), (tr k t n ks).flat) :: r.ents (q + 1 + ks.size)
theorem F.ents_pos : ∀ (f : F) (q : Nat), (f.ents q).map (fun e => e.1) = f.pos q
 | .nil, _ => rfl
 | .cons _ _ _ ks r, q => by
  show (q : Int) :: _ = (q : Int) :: _
  rw [F.ents_pos r]
theorem F.ents_trees : ∀ (f : F) (q : Nat), (f.ents q).map (fun e => e.2) = f.trees
 | .nil, _ => rfl
 | .cons k t n ks r, q => by
  show (tr k t n ks).flat :: _ = (tr k t n ks).flat :: _
  rw [F.ents_trees r]
theorem F.trees_len : ∀ f : F, f.trees.length = f.cnt
 | .nil => rfl
 | .cons k t n ks r => by show r.trees.length + 1 = _; rw [F.trees_len r]; rfl
theorem F.trees_flat : ∀ f : F, f.trees.flatten = f.flat
 | .nil => rfl
 | .cons k t n ks r => by
  show (tr k t n ks).flat ++ r.trees.flatten = _
  rw [F.trees_flat r, q6g]; rfl
theorem q0v (k : Int) (t : Tx) (n : Int) (ks : F) : (tr k t n ks).flat.length = ks.size + 1 := by rw [F.len]; rfl
structure qz3 (l : List ND) (e : Int × List ND) : Prop where
 pos : 0 ≤ e.1
 ends : ∀ b, f_ep (⟨b, l⟩, e.1, ()) = some (e.1 + (e.2.length : Int), ())
 rends : ∀ b, f_bx (⟨b, l⟩, e.1, ()) = some (e.1 + (e.2.length : Int), ())
 cut : cutL l e.1 (e.1 + (e.2.length : Int)) = some e.2
 sits : ∃ (q : Nat) (k : Int) (t : Tx) (n : Int) (ks : F), e = ((q : Int), (tr k t n ks).flat) ∧ Sits l q (tr k t n ks)
theorem qfg {l : List ND} (hl : l.length ≤ 10000) : ∀ (f : F) (q : Nat), Sits l q f → q ≤ l.length → ∀ e, e ∈ f.ents q → qz3 l e
 | .nil, _, _, _, _, h => by cases h
 | .cons k t n ks r, q, hs, hq, e, h => by
  rcases List.mem_cons.1 h with h | h
  ·subst h
   have he := hs.ends
   have hn := hs.node
   have hlen := q0v k t n ks
   have hz : (q : Int) + ((tr k t n ks).flat.length : Int) = ((q + 1 + ks.size : Nat) : Int) := by rw [hlen]; omega
   refine ⟨by show (0 : Int) ≤ (q : Int); omega, fun b => ?_, fun b => ?_, ?_, ⟨q, k, t, n, ks, rfl, hs.first⟩⟩
   ·show f_ep (⟨b, l⟩, (q : Int), ()) = _
    rw [q7v b l hl q, he, hz]
   ·show f_bx (⟨b, l⟩, (q : Int), ()) = _
    rw [qa3 b l hl q, he, hz]
   ·show cutL l (q : Int) ((q : Int) + ((tr k t n ks).flat.length : Int)) = some (tr k t n ks).flat
    have hflat := hs.first.flat_eq
    have hsz : (tr k t n ks).size = ks.size + 1 := rfl
    rw [hz]
    unfold cutL
    rw [if_pos ⟨by omega, by omega, by have := hn.2.2.2; omega⟩]
    rw [hsz] at hflat
    rw [Int.toNat_natCast, Int.toNat_natCast, List.drop_take, show q + 1 + ks.size - q = ks.size + 1 by omega]
    exact congrArg some hflat
  ·exact qfg hl r _ hs.node.2.2.1 (by have := hs.node.2.2.2; omega) e h
theorem qgw {α β : Type} (h : α → β) (l : List α) : ∀ a : Sl β, l.foldl (fun (a : Sl β) e => (⟨false, a.l ++ [h e]⟩ : Sl β)) a = ⟨a.nil && l.isEmpty, a.l ++ l.map h⟩ := by
 induction l with
 | nil => intro a; simp
 | cons x r ih => intro a; rw [List.foldl_cons, ih]; simp
theorem getM {α β : Type} {l : List α} {f : α → β} {k : Nat} {e : α} (h : l[k]? = some e) : (l.map f)[k]? = some (f e) := by rw [List.getElem?_map, h]; rfl
theorem q7z (b : Bool) (k : Int) (t : Tx) (n : Int) (ks : F) (hl : ks.size + 1 ≤ 10000) : ∃ nb, f_bl (⟨b, (tr k t n ks).flat⟩, ()) = some (⟨nb, ks.trees.map fun l => (⟨b, l⟩ : SN)⟩, ()) := by
 have hl' : (tr k t n ks).flat.length ≤ 10000 := by rw [q0v]; exact hl
 have hs := q36 k t n ks
 obtain ⟨nb, hk⟩ := qj0 b _ hl' hs
 have hat := qfg hl' ks 1 hs.node.2.1 (by rw [q0v]; omega)
 have hc : (ks.ents 1).length = ks.cnt := by rw [← F.pos_len ks 1, ← F.ents_pos, List.length_map]
 have hcnt := F.cnt_le ks
 have e := q21 l1_bl (fun i a => (⟨b, (tr k t n ks).flat⟩, ⟨nb, ks.pos (0 + 1)⟩, lenI (ks.pos (0 + 1)), i, a, ())) (ks.ents 1) (fun (a : Sl SN) e => (⟨false, a.l ++ [⟨b, e.2⟩]⟩ : Sl SN)) (fun a => (a, ())) (fun i a => i ≤ ks.cnt ∧ a.l.length = i) ⟨true, []⟩ ⟨Nat.zero_le _, rfl⟩
  (fun i e a hx hi => by
   obtain ⟨na, al⟩ := a
   have h2 : al.length = i := hi.2
   have hp : (ks.pos (0 + 1))[i]? = some e.1 := by rw [← F.ents_pos]; exact getM hx
   have hk2 := hat e (List.mem_of_getElem? hx)
   have hil := getL hx
   have hfit : fit (sumI (lenI al) (lenI [(⟨b, e.2⟩ : SN)])) = some () := q0u (by show al.length + 1 ≤ _; omega)
   refine ⟨?_, by omega, by show (al ++ [_]).length = _; rw [List.length_append, h2]; rfl⟩
   unfold l1_bl
   simp only [ltG hp, q03, q06 hp, q00, hk2.ends b, hk2.cut, hfit, q1z, add1 (show i ≤ 1000000000 by omega)]
   rfl)
  (fun a _ => by
   have hpl : (ks.ents 1).length = (ks.pos (0 + 1)).length := by rw [hc, F.pos_len]
   unfold l1_bl
   simp only [hpl, ltE, q01])
 rw [qgw] at e
 refine ⟨true && (ks.ents 1).isEmpty, ?_⟩
 rw [u_bl]
 refine (qbp hk _).trans (e.trans ?_)
 rw [← F.ents_trees ks 1, List.map_map]
 rfl
def q5w (Ts : List (List ND)) (x : ND) : List ND := bif eqI x.1 31 then (if 0 ≤ x.2.2.1 then (Ts[x.2.2.1.toNat]?).getD [x] else [x]) else [x]
def q58 (Ts : List (List ND)) (a : List ND) : List ND := a.flatMap (q5w Ts)
def bl (b : Bool) : Nat → List (List ND) → List (Int × SN)
 | _, [] => []
 | i, T :: r => ((i : Int), ⟨b, T⟩) :: bl b (i + 1) r
theorem qt0 (b : Bool) : ∀ (Ts : List (List ND)) (i j : Nat), (bl b i Ts)[j]? = (Ts[j]?).map fun T => (((i + j : Nat) : Int), (⟨b, T⟩ : SN))
 | [], _, _ => rfl
 | T :: r, i, 0 => rfl
 | T :: r, i, j + 1 => by
  show (bl b (i + 1) r)[j]? = (r[j]?).map _
  rw [qt0 b r, show i + 1 + j = i + (j + 1) by omega]
theorem qj7 (b : Bool) : ∀ (Ts : List (List ND)) (i : Nat), (bl b i Ts).length = Ts.length
 | [], _ => rfl
 | _ :: r, i => by show (bl b (i + 1) r).length + 1 = _; rw [qj7 b r]; rfl
theorem qw0 (b : Bool) (v : Int) : ∀ (Ts : List (List ND)) (i k : Nat), ixP (fun x : Int × SN => eqI x.1 v) k (bl b i Ts) = if (i : Int) ≤ v ∧ v < (i : Int) + Ts.length then (k : Int) + (v - i) else -1
 | [], i, k => by
  rw [if_neg (by simp only [List.length_nil]; omega)]; rfl
 | T :: r, i, k => by
  show (bif eqI (i : Int) v then (k : Int) else ixP _ (k + 1) (bl b (i + 1) r)) = _
  rw [qw0 b v r (i + 1) (k + 1)]
  by_cases h : (i : Int) = v
  ·rw [h, q2i, cond_true, if_pos ⟨by omega, by rw [List.length_cons]; omega⟩]; omega
  ·rw [q1a h, cond_false]
   by_cases h2 : ((i + 1 : Nat) : Int) ≤ v ∧ v < ((i + 1 : Nat) : Int) + r.length
   ·rw [if_pos h2, if_pos ⟨by omega, by rw [List.length_cons]; omega⟩]; omega
   ·rw [if_neg h2, if_neg (by rw [List.length_cons]; omega)]
theorem ix15 (nb b : Bool) (Ts : List (List ND)) (hT : Ts.length ≤ 1000000) (x : ND) : f_dr (⟨nb, bl b 0 Ts⟩, x, ()) = some (if 0 ≤ x.2.2.1 ∧ x.2.2.1 < Ts.length then x.2.2.1 else -1, ()) := by
 obtain ⟨a, t, n, c⟩ := x
 rw [u_dr]
 refine (q24 l1_dr (fun k => (⟨nb, bl b 0 Ts⟩, (a, t, n, c), lenI (bl b 0 Ts), k, ())) (fun z => (z, ())) (bl b 0 Ts) (by rw [qj7]; exact hT) (fun x => eqI x.1 n) ?_ ?_).trans ?_
 ·intro k x hx hk
  obtain ⟨v, s⟩ := x
  unfold l1_dr
  simp only [ltG hx, q03, q06 hx, q00, u_ev, add1 (show k ≤ 1000000000 by omega)]
  cases eqI v n <;> rfl
 ·unfold l1_dr
  simp only [ltE, q01]
 ·rw [qw0]
  have : ((0 : Nat) : Int) + (Ts.length : Int) = (Ts.length : Int) := by omega
  simp only [Int.natCast_zero, Int.zero_add, Int.sub_zero] <;> rfl
end Fn
end Ev

namespace Ev
open Go
namespace Fn
def appV (Ts : List (List ND)) (a : Sl ND) (x : ND) : Sl ND := ⟨andB a.nil (isE (q5w Ts x)), a.l ++ q5w Ts x⟩
theorem qz4 (Ts : List (List ND)) (l : List ND) : ∀ a : Sl ND, (l.foldl (appV Ts) a).l = a.l ++ q58 Ts l := by
 induction l with
 | nil => intro a; simp [q58]
 | cons x r ih => intro a; rw [List.foldl_cons, ih]; simp [appV, q58]
theorem qj8 (Ts : List (List ND)) (hT : ∀ T, T ∈ Ts → T.length ≤ 4000) (x : ND) : (q5w Ts x).length ≤ 4000 := by
 unfold q5w
 cases eqI x.1 31 with
 | false => show 1 ≤ _; omega
 | true =>
  rw [cond_true]
  split
  ·cases h : Ts[x.2.2.1.toNat]? with
   | none => show 1 ≤ _; omega
   | some T => exact hT T (List.mem_of_getElem? h)
  ·show 1 ≤ _; omega
theorem qdr (Ts : List (List ND)) (x : ND) (h : eqI x.1 31 = true) : q5w Ts x = if 0 ≤ x.2.2.1 ∧ x.2.2.1 < Ts.length then (Ts[x.2.2.1.toNat]?).getD [x] else [x] := by
 unfold q5w
 rw [h, cond_true]
 by_cases h0 : 0 ≤ x.2.2.1
 ·rw [if_pos h0]
  by_cases h1 : x.2.2.1 < Ts.length
  ·rw [if_pos ⟨h0, h1⟩]
  ·rw [if_neg (fun h => h1 h.2), List.getElem?_eq_none (by omega)]; rfl
 ·rw [if_neg h0, if_neg (fun h => h0 h.1)]
theorem qp8 (nb b b2 : Bool) (Ts : List (List ND)) (hT : Ts.length ≤ 10000) (hT2 : ∀ T, T ∈ Ts → T.length ≤ 4000) (a : List ND) (ha : a.length ≤ 10000) :
  f_eu (⟨nb, bl b 0 Ts⟩, ⟨b2, a⟩, ()) = some (a.foldl (appV Ts) ⟨true, []⟩, ()) := by
 rw [u_eu]
 refine q21 l1_eu (fun k s => (⟨nb, bl b 0 Ts⟩, ⟨b2, a⟩, lenI a, k, s, ())) a (appV Ts) (fun s => (s, ())) (fun k s => k ≤ a.length ∧ s.l.length ≤ k * 4000) ⟨true, []⟩ ⟨Nat.zero_le _, Nat.le_refl _⟩ ?_ ?_
 ·intro k x s hx hi
  obtain ⟨ns, sl⟩ := s
  have h2 : sl.length ≤ k * 4000 := hi.2
  have hk := getL hx
  have hix := ix15 nb b Ts (by omega) x
  have hlen := qj8 Ts hT2 x
  have hadd := add1 (show k ≤ 1000000000 by omega)
  have hf1 : ∀ m : List ND, m.length ≤ 4000 → fit (sumI (lenI sl) (lenI m)) = some () := fun m hm => qro (by show (sl.length : Int) + (m.length : Int) ≤ _; omega)
  refine ⟨?_, hk, by show (sl ++ q5w Ts x).length ≤ _; rw [List.length_append]; omega⟩
  have hfx := hf1 [x] (by show 1 ≤ _; omega)
  obtain ⟨kd, t, n, c⟩ := x
  unfold l1_eu
  simp only [ltG hx, q03, q06 hx, q00, hix, hfx]
  cases h31 : eqI kd 31 with
  | false =>
   have hv : q5w Ts (kd, t, n, c) = [(kd, t, n, c)] := by unfold q5w; simp only [h31, cond_false]
   unfold appV
   rw [hv]
   simp only [nF, q03, q00, hadd]
   rfl
  | true =>
   have hv := qdr Ts (kd, t, n, c) h31
   by_cases hin : 0 ≤ n ∧ n < (Ts.length : Int)
   ·rw [if_pos hin] at hv
    have hlt : ltI n 0 = false := decide_eq_false (by omega)
    obtain ⟨T, hT3⟩ : ∃ T, Ts[n.toNat]? = some T := ⟨_, List.getElem?_eq_getElem (by omega)⟩
    have hb : at? (bl b 0 Ts) n = some (n, ⟨b, T⟩) := by
     have h5 : (bl b 0 Ts)[n.toNat]? = some (n, ⟨b, T⟩) := by
      rw [qt0, hT3]
      show some (((0 + n.toNat : Nat) : Int), _) = _
      rw [show ((0 + n.toNat : Nat) : Int) = n by omega]
     have := q06 h5
     rw [Int.toNat_of_nonneg hin.1] at this
     exact this
    rw [hT3] at hv
    have hv : q5w Ts (kd, t, n, c) = T := hv
    have hft := hf1 T (hT2 T (List.mem_of_getElem? hT3))
    unfold appV
    rw [hv, if_pos hin]
    simp only [nT, q01, q00, hlt, hb, hft, hadd]
    rfl
   ·rw [if_neg hin] at hv
    have hlt : ltI (-1) 0 = true := id (Eq.refl _)
    unfold appV
    rw [hv, if_neg hin]
    simp only [nT, q01, q03, q00, hlt, hadd]
    rfl
 ·intro s _
  unfold l1_eu
  simp only [ltE, q01]
theorem qxz (nb b b2 : Bool) (Ts : List (List ND)) (hT : Ts.length ≤ 10000) (hT2 : ∀ T, T ∈ Ts → T.length ≤ 4000) (a : List ND) (i : Nat) (hi : i ≤ 1000000) (x : ND) (hx : a[i]? = some x) (s : Sl ND) (hs : s.l.length ≤ 40000000) :
  ∀ (k : Nat) (z : Int), k ≤ Ts.length → (z = -1 ∨ (eqI x.1 31 = true ∧ z = x.2.2.1 ∧ (k : Int) ≤ z ∧ z < Ts.length)) → (eqI x.1 31 = true → (Ts.length : Int) > x.2.2.1 → (k : Int) ≤ x.2.2.1 → z = x.2.2.1) →
  loopR l1_ci (⟨nb, bl b 0 Ts⟩, ⟨b2, a⟩, (i : Int), z, (k : Int) - 1, s, ()) = some (.inl (⟨nb, bl b 0 Ts⟩, ⟨b2, a⟩, ((i + 1 : Nat) : Int), appV Ts s x, ())) := by
 have hadd := add1 (show i ≤ 1000000000 by omega)
 have hat := q06 hx
 have hf1 : ∀ m : List ND, m.length ≤ 4000 → fit (sumI (lenI s.l) (lenI m)) = some () := fun m hm => qro (by show (s.l.length : Int) + (m.length : Int) ≤ _; omega)
 have hfx := hf1 [x] (by show 1 ≤ _; omega)
 have hbt : ∀ j : Nat, (hj : j < Ts.length) → at? (bl b 0 Ts) (j : Int) = some ((j : Int), ⟨b, Ts[j]⟩) := fun j hj => q06 (by rw [qt0, List.getElem?_eq_getElem hj, Nat.zero_add]; rfl)
 have fin : ∀ (z : Int) (k' : Int), (cnd (leI 0 k') (bnd (at? a (i : Int)) (fun x2 => some (eqI x2.1 31))) (some false) : Option Bool) = some false → (z = -1 ∧ (eqI x.1 31 = true → ¬(0 ≤ x.2.2.1 ∧ x.2.2.1 < Ts.length)) ∨ (eqI x.1 31 = true ∧ z = x.2.2.1 ∧ 0 ≤ z ∧ z < Ts.length)) →
   l1_ci (⟨nb, bl b 0 Ts⟩, ⟨b2, a⟩, (i : Int), z, k', s, ()) = some (.inr (.inl (⟨nb, bl b 0 Ts⟩, ⟨b2, a⟩, ((i + 1 : Nat) : Int), appV Ts s x, ()))) := by
  intro z k' hc hz
  unfold l1_ci
  simp only [hc, q00, q01]
  rcases hz with ⟨h1, h2⟩ | ⟨h1, h2, h3, h4⟩
  ·have hlt : ltI z 0 = true := decide_eq_true (by omega)
   have hv : q5w Ts x = [x] := by
    cases h31 : eqI x.1 31 with
    | false => unfold q5w; rw [h31]; rfl
    | true => rw [qdr Ts x h31, if_neg (h2 h31)]
   unfold appV
   rw [hv]
   simp only [hlt, q03, hat, q00, hfx, hadd]
   rfl
  ·have hlt : ltI z 0 = false := decide_eq_false (by omega)
   have hj : z.toNat < Ts.length := by omega
   have hb := hbt z.toNat hj
   rw [Int.toNat_of_nonneg h3] at hb
   have hv : q5w Ts x = Ts[z.toNat] := by
    rw [qdr Ts x h1, if_pos ⟨by omega, by omega⟩, ← h2, List.getElem?_eq_getElem hj]; rfl
   have hft := hf1 Ts[z.toNat] (hT2 _ (List.getElem_mem hj))
   unfold appV
   rw [hv]
   simp only [hlt, q01, hb, q00, hft, hadd]
   rfl
 intro k
 induction k with
 | zero =>
  intro z _ hz hz2
  refine q0a (fin z _ rfl ?_)
  rcases hz with h | ⟨h1, h2, h3, h4⟩
  ·refine .inl ⟨h, fun h31 hin => ?_⟩
   have := hz2 h31 hin.2 (by omega)
   omega
  ·exact .inr ⟨h1, h2, by omega, h4⟩
 | succ k ih =>
  intro z hk hz hz2
  have h0 : leI 0 (((k + 1 : Nat) : Int) - 1) = true := decide_eq_true (by omega)
  cases h31 : eqI x.1 31 with
  | false =>
   refine q0a (fin z _ ?_ ?_)
   ·rw [h0, q03, hat, q00, h31]
   ·rcases hz with h | ⟨h1, _⟩
    ·exact .inl ⟨h, fun e => by rw [h31] at e; cases e⟩
    ·rw [h31] at h1; cases h1
  | true =>
   have hb := hbt k (by omega)
   have hk1 : ((k + 1 : Nat) : Int) - 1 = (k : Int) := by omega
   have hsub : subI .i64 (k : Int) 1 = (k : Int) - 1 := q2o (by omega) (by omega)
   have h00 : leI 0 (k : Int) = true := decide_eq_true (by omega)
   rw [hk1]
   by_cases he : (k : Int) = x.2.2.1
   ·have step : l1_ci (⟨nb, bl b 0 Ts⟩, ⟨b2, a⟩, (i : Int), z, (k : Int), s, ()) = some (.inl (⟨nb, bl b 0 Ts⟩, ⟨b2, a⟩, (i : Int), (k : Int), (k : Int) - 1, s, ())) := by
     unfold l1_ci
     simp only [h00, q03, hat, q00, h31, hb]
     rw [← he, q2i]
     simp only [q03, q00, hsub]
    rw [q0e step]
    exact ih (k : Int) (by omega) (.inr ⟨h31, he, Int.le_refl _, by omega⟩) (fun _ _ _ => he)
   ·have step : l1_ci (⟨nb, bl b 0 Ts⟩, ⟨b2, a⟩, (i : Int), z, (k : Int), s, ()) = some (.inl (⟨nb, bl b 0 Ts⟩, ⟨b2, a⟩, (i : Int), z, (k : Int) - 1, s, ())) := by
     unfold l1_ci
     simp only [h00, q03, hat, q00, h31, hb, q1a he, q01, hsub]
    rw [q0e step]
    refine ih z (by omega) ?_ (fun e1 e2 e3 => hz2 e1 e2 (by omega))
    rcases hz with h | ⟨h1, h2, h3, h4⟩
    ·exact .inl h
    ·exact .inr ⟨h1, h2, by omega, h4⟩
theorem qla (nb b b2 : Bool) (Ts : List (List ND)) (hT : Ts.length ≤ 10000) (hT2 : ∀ T, T ∈ Ts → T.length ≤ 4000) (a : List ND) (ha : a.length ≤ 10000) :
  f_ci (⟨nb, bl b 0 Ts⟩, ⟨b2, a⟩, ()) = some (a.foldl (appV Ts) ⟨false, []⟩, ()) := by
 rw [u_ci]
 refine q21 l2_ci (fun k s => (⟨nb, bl b 0 Ts⟩, ⟨b2, a⟩, k, s, ())) a (appV Ts) (fun s => (s, ())) (fun k s => k ≤ a.length ∧ s.l.length ≤ k * 4000) ⟨false, []⟩ ⟨Nat.zero_le _, Nat.le_refl _⟩ ?_ ?_
 ·intro k x s hx hi
  obtain ⟨ns, sl⟩ := s
  have h2 : sl.length ≤ k * 4000 := hi.2
  have hk := getL hx
  have hlen := qj8 Ts hT2 x
  refine ⟨?_, hk, by show (sl ++ q5w Ts x).length ≤ _; rw [List.length_append]; omega⟩
  have hlb : lenI (bl b 0 Ts) = (Ts.length : Int) := by unfold lenI; rw [qj7]
  have hsub : subI .i64 (lenI (bl b 0 Ts)) 1 = (Ts.length : Int) - 1 := by rw [hlb]; exact q2o (by omega) (by omega)
  unfold l2_ci
  simp only [ltG hx, q03, hsub]
  exact qxz nb b b2 Ts hT hT2 a k (by omega) x hx ⟨ns, sl⟩ (by show sl.length ≤ _; omega) Ts.length (-1) (Nat.le_refl _) (.inl rfl) (fun _ e1 e2 => by omega)
 ·intro s _
  unfold l2_ci
  simp only [ltE, q01]
end Fn
end Ev

namespace Ev
open Go
namespace Fn
def q4y (k : Int) (t : Tx) (c : Int) (d : DD) : Bool := eqI k 32 && (eqS d.1 t && eqI d.2.1 c)
def conV (L : List DD) (k : Int) (t : Tx) (c : Int) (con : Tx) : Option CT := (L.find? (q4y k t c)).bind fun d => d.2.2.l.find? fun x => eqS x.1 con
def argT (Ts : List (List ND)) (a : List ND) : List ND := bif ltI 4000 (lenI (q58 Ts a)) then [(31, [], 0, 0)] else q58 Ts a
def argS (b : Bool) (Ts : List (List ND)) (a : SN) : SN := bif ltI 4000 (lenI (a.l.foldl (appV Ts) ⟨b, []⟩).l) then ⟨false, [(31, [], 0, 0)]⟩ else a.l.foldl (appV Ts) ⟨b, []⟩
theorem qa8 (b : Bool) (Ts : List (List ND)) (a : SN) : (argS b Ts a).l = argT Ts a.l := by
 have h := qz4 Ts a.l ⟨b, []⟩
 rw [show ([] : List ND) ++ q58 Ts a.l = q58 Ts a.l from rfl] at h
 unfold argS argT
 rw [h]
 cases ltI 4000 (lenI (q58 Ts a.l)) with
 | true => rfl
 | false => exact h
theorem qt1 (s : Sl DD) (hL : s.l.length ≤ 1000) (t : SN) (x : ND) (hx : t.l[0]? = some x) : f_e1 (s, t, ()) = some (ixP (q4y x.1 x.2.1 x.2.2.2) 0 s.l, ()) := by
 have h0 : at? t.l 0 = some x := q06 (i := 0) hx
 rw [u_e1]
 refine q24 l1_e1 (fun k => (s, t, lenI s.l, k, ())) (fun z => (z, ())) s.l (by omega) (q4y x.1 x.2.1 x.2.2.2) ?_ ?_
 ·intro k d hd hk
  obtain ⟨n, p, cs⟩ := d
  unfold l1_e1 q4y
  simp only [ltG hd, q03, q06 hd, q00, u_b7, h0, add1 (show k ≤ 1000000000 by omega)]
  cases eqI x.1 32 <;> cases eqS n x.2.1 <;> cases eqI p x.2.2.2 <;> rfl
 ·unfold l1_e1
  simp only [ltE, q01]
theorem qt2 (cs : Sl CT) (hc : cs.l.length ≤ 1000000) (con : Tx) : f_e2 (cs, con, ()) = some (ixP (fun c : CT => eqS c.1 con) 0 cs.l, ()) := by
 rw [u_e2]
 refine q24 l1_e2 (fun k => (cs, con, lenI cs.l, k, ())) (fun z => (z, ())) cs.l hc (fun c : CT => eqS c.1 con) ?_ ?_
 ·intro k c hx hk
  obtain ⟨n, as⟩ := c
  unfold l1_e2
  simp only [ltG hx, q03, q06 hx, q00, u_b5, add1 (show k ≤ 1000000000 by omega)]
  cases eqS n con <;> rfl
 ·unfold l1_e2
  simp only [ltE, q01]
theorem qj9 {α : Type} {p : α → Bool} {l : List α} (h : l.any p = false) : l.find? p = none := by
 rw [List.find?_eq_none]
 intro x hx hp
 have := List.any_eq_true.2 ⟨x, hx, hp⟩
 rw [h] at this; cases this
theorem qa9 (s : Sl DD) (hL : s.l.length ≤ 1000) (t : SN) (x : ND) (hx : t.l[0]? = some x) {d : DD} (h : s.l.find? (q4y x.1 x.2.1 x.2.2.2) = some d) : f_b6 (s, t, ()) = some (d, true, ()) := by
 have ha : s.l.any (q4y x.1 x.2.1 x.2.2.2) = true := by
  cases hb : s.l.any (q4y x.1 x.2.1 x.2.2.2) with
  | true => rfl
  | false => rw [qj9 hb] at h; cases h
 obtain ⟨i, y, h1, h2, h3, h4⟩ := qdq (q4y x.1 x.2.1 x.2.2.2) s.l 0 ha
 rw [h4] at h; injection h with h; subst h
 rw [Nat.zero_add] at h1
 have hlt : ltI (i : Int) 0 = false := decide_eq_false (by omega)
 rw [u_b6, qt1 s hL t x hx, q00]
 simp only [h1, hlt, q01, q06 h2, q00]
theorem qgx (s : Sl DD) (hL : s.l.length ≤ 1000) (t : SN) (x : ND) (hx : t.l[0]? = some x) (h : s.l.find? (q4y x.1 x.2.1 x.2.2.2) = none) : f_b6 (s, t, ()) = some (([], 0, ⟨true, []⟩), false, ()) := by
 have ha : s.l.any (q4y x.1 x.2.1 x.2.2.2) = false := by
  cases hb : s.l.any (q4y x.1 x.2.1 x.2.2.2) with
  | false => rfl
  | true =>
   obtain ⟨i, y, _, _, _, h4⟩ := qdq (q4y x.1 x.2.1 x.2.2.2) s.l 0 hb
   rw [h4] at h; cases h
 have hlt : ltI (-1) 0 = true := id (Eq.refl _)
 rw [u_b6, qt1 s hL t x hx, q00, qmz _ _ _ ha]
 simp only [hlt, q03]
theorem qt3 (b : Bool) (T : List ND) : ∀ (l : List (List ND)) (i : Nat), bl b i (l ++ [T]) = bl b i l ++ [(((i + l.length : Nat) : Int), ⟨b, T⟩)]
 | [], i => by show [((i : Int), _)] = [(((i + 0 : Nat) : Int), _)]; rw [Nat.add_zero]
 | U :: r, i => by
  show _ :: bl b (i + 1) (r ++ [T]) = _ :: (bl b (i + 1) r ++ _)
  rw [qt3 b T r (i + 1), List.length_cons, show i + 1 + r.length = i + (r.length + 1) by omega]
theorem qt4 (b : Bool) {Ts : List (List ND)} {k : Nat} {T : List ND} (h : Ts[k]? = some T) : bl b 0 (Ts.take (k + 1)) = bl b 0 (Ts.take k) ++ [((k : Int), ⟨b, T⟩)] := by
 have hk := getL h
 rw [List.take_add_one, h]
 show bl b 0 (Ts.take k ++ [T]) = _
 rw [qt3, List.length_take, Nat.min_eq_left (by omega), Nat.zero_add]
theorem q90 {ks : F} {n : Nat} (h : ks.size ≤ n) : ∀ T, T ∈ ks.trees → T.length ≤ n := by
 intro T hT
 have := (List.sublist_flatten_of_mem hT).length_le
 rw [F.trees_flat, F.len] at this
 omega
theorem qy0 (nb b : Bool) (Ts : List (List ND)) (hT : Ts.length ≤ 10000) (hT2 : ∀ T, T ∈ Ts → T.length ≤ 4000) (as : Sl SN) (ha : as.l.length ≤ 1000) (hg : ∀ a, a ∈ as.l → gA a) :
  loopR l1_b4 (⟨nb, bl b 0 Ts⟩, as, lenI as.l, 0, ⟨true, []⟩, ()) = some (.inr (⟨true && as.l.isEmpty, as.l.map (argS true Ts)⟩, true, ())) := by
 refine (q21 l1_b4 (fun k a => (⟨nb, bl b 0 Ts⟩, as, lenI as.l, k, a, ())) as.l (fun (a : Sl SN) x => (⟨false, a.l ++ [argS true Ts x]⟩ : Sl SN)) (fun a => .inr (a, true, ())) (fun k a => k ≤ as.l.length ∧ a.l.length = k) ⟨true, []⟩ ⟨Nat.zero_le _, rfl⟩ ?_ ?_).trans ?_
 ·intro k x a hx hi
  obtain ⟨na, al⟩ := a
  have h2 : al.length = k := hi.2
  have hk := getL hx
  obtain ⟨bx, lx⟩ := x
  have hga := (hg _ (List.mem_of_getElem? hx)).2
  have hap := qp8 nb b bx Ts hT hT2 lx hga
  have hfit : ∀ y : SN, fit (sumI (lenI al) (lenI [y])) = some () := fun y => q0u (by show al.length + 1 ≤ _; omega)
  refine ⟨?_, hk, by show (al ++ [_]).length = _; rw [List.length_append, h2]; rfl⟩
  have hadd := add1 (show k ≤ 1000000000 by omega)
  unfold l1_b4 argS
  simp only [ltG hx, q03, q06 hx, q00, hap]
  cases ltI 4000 (lenI (lx.foldl (appV Ts) ⟨true, []⟩).l) <;> simp only [q03, q01, q00, hfit, q1z, hadd, cond_true, cond_false] <;> rfl
 ·intro a _
  unfold l1_b4
  simp only [ltE, q01]
 ·rw [qgw]; rfl
theorem qds (s : Sl DD) (hL : GD s.l) (b : Bool) (k : Int) (t : Tx) (n : Int) (ks : F) (_hs : ks.size + 1 ≤ 10000) (con : Tx) (h : conV s.l k t (ks.cnt : Int) con = none) :
  f_b4 (s, ⟨b, (tr k t n ks).flat⟩, con, ()) = some (⟨true, []⟩, false, ()) := by
 have hx : (⟨b, (tr k t n ks).flat⟩ : SN).l[0]? = some (k, t, n, (ks.cnt : Int)) := rfl
 rw [u_b4]
 cases hd : s.l.find? (q4y k t (ks.cnt : Int)) with
 | none =>
  rw [qgx s hL.1 _ _ hx hd, q00]
  simp only [qt2 ⟨true, []⟩ (Nat.zero_le _) con, q00, nF, q03]
 | some d =>
  have hmem := List.mem_of_find?_eq_some hd
  rw [qa9 s hL.1 _ _ hx hd, q00]
  unfold conV at h
  rw [hd] at h
  have h : d.2.2.l.find? (fun x => eqS x.1 con) = none := h
  have ha : d.2.2.l.any (fun c : CT => eqS c.1 con) = false := by
   cases hb : d.2.2.l.any (fun c : CT => eqS c.1 con) with
   | false => rfl
   | true =>
    obtain ⟨i, y, _, _, _, h4⟩ := qdq (fun c : CT => eqS c.1 con) d.2.2.l 0 hb
    rw [h4] at h; cases h
  have hlt : ltI (-1) 0 = true := id (Eq.refl _)
  have g2 := (hL.2 d hmem).2.1
  simp only [qt2 d.2.2 (by omega) con, q00, qmz _ _ _ ha, hlt, nT, q01, q03]
theorem qdt (s : Sl DD) (hL : GD s.l) (b : Bool) (k : Int) (t : Tx) (n : Int) (ks : F) (hs : ks.size + 1 ≤ 4000) (con : Tx) (c : CT) (h : conV s.l k t (ks.cnt : Int) con = some c) :
  f_b4 (s, ⟨b, (tr k t n ks).flat⟩, con, ()) = some (⟨true && c.2.l.isEmpty, c.2.l.map (argS true ks.trees)⟩, true, ()) := by
 have hx : (⟨b, (tr k t n ks).flat⟩ : SN).l[0]? = some (k, t, n, (ks.cnt : Int)) := rfl
 have hl' : (tr k t n ks).flat.length ≤ 10000 := by rw [q0v]; omega
 have hst := q36 k t n ks
 obtain ⟨nb, hkids⟩ := qj0 b _ hl' hst
 have hkids : f_eq (⟨b, (tr k t n ks).flat⟩, 0, ()) = some (⟨nb, ks.pos (0 + 1)⟩, ()) := hkids
 have hat := qfg hl' ks 1 hst.node.2.1 (by rw [q0v]; omega)
 have hcnt := F.cnt_le ks
 have hTl := F.trees_len ks
 rw [u_b4]
 unfold conV at h
 cases hd : s.l.find? (q4y k t (ks.cnt : Int)) with
 | none => rw [hd] at h; cases h
 | some d =>
  rw [hd] at h
  have h : d.2.2.l.find? (fun x => eqS x.1 con) = some c := h
  have hmem := List.mem_of_find?_eq_some hd
  obtain ⟨g1, g2, g3⟩ := hL.2 d hmem
  have ha : d.2.2.l.any (fun c : CT => eqS c.1 con) = true := by
   cases hb : d.2.2.l.any (fun c : CT => eqS c.1 con) with
   | true => rfl
   | false => rw [qj9 hb] at h; cases h
  obtain ⟨i, y, h1, h2, h3, h4⟩ := qdq (fun c : CT => eqS c.1 con) d.2.2.l 0 ha
  rw [h4] at h; injection h with h; subst h
  rw [Nat.zero_add] at h1
  obtain ⟨q1, q2, q3⟩ := g3 y (List.mem_of_getElem? h2)
  have hlt : ltI (i : Int) 0 = false := decide_eq_false (by omega)
  rw [qa9 s hL.1 _ _ hx hd, q00]
  simp only [qt2 d.2.2 (by omega) con, q00, h1, hlt, nT, q01, hkids]
  refine (q21 l2_b4 (fun v a => (⟨b, (tr k t n ks).flat⟩, (i : Int), ⟨nb, ks.pos (0 + 1)⟩, lenI (ks.pos (0 + 1)), v, d.1, d.2.1, d.2.2, a, ())) (ks.ents 1)
   (fun (a : Sl (Int × SN)) e => (⟨false, a.l ++ [((a.l.length : Int), ⟨b, e.2⟩)]⟩ : Sl (Int × SN))) (fun _ => (⟨true && y.2.l.isEmpty, y.2.l.map (argS true ks.trees)⟩, true, ())) (fun v a => v ≤ ks.cnt ∧ a.l = bl b 0 (ks.trees.take v)) ⟨true, []⟩ ⟨Nat.zero_le _, rfl⟩ ?_ ?_)
  ·intro v e a hv hi
   obtain ⟨na, al⟩ := a
   have h2' : al = bl b 0 (ks.trees.take v) := hi.2
   have hp : (ks.pos (0 + 1))[v]? = some e.1 := by rw [← F.ents_pos]; exact getM hv
   have hTv : ks.trees[v]? = some e.2 := by rw [← F.ents_trees ks 1]; exact getM hv
   have hvl := getL hTv
   have hk2 := hat e (List.mem_of_getElem? hv)
   have hall : al.length = v := by rw [h2', qj7, List.length_take]; omega
   have hfit : ∀ z : Int × SN, fit (sumI (lenI al) (lenI [z])) = some () := fun z => q0u (by show al.length + 1 ≤ _; omega)
   refine ⟨?_, by omega, ?_⟩
   ·unfold l2_b4
    simp only [ltG hp, q03, q06 hp, q00, hk2.ends b, hk2.cut, hfit, q1z, hall, add1 (show v ≤ 1000000000 by omega)]
    rfl
   ·show al ++ [((al.length : Int), (⟨b, e.2⟩ : SN))] = _
    rw [qt4 b hTv, hall, h2']
  ·intro a hi
   obtain ⟨na, al⟩ := a
   have hpl : (ks.ents 1).length = (ks.pos (0 + 1)).length := by rw [← F.ents_pos ks 1, List.length_map]
   have hel : (ks.ents 1).length = ks.trees.length := by rw [← F.ents_trees ks 1, List.length_map]
   have h2' : al = bl b 0 ks.trees := by
    have := hi.2
    rw [hel, List.take_length] at this
    exact this
   have hin := qy0 na b ks.trees (by omega) (fun T hT => by have := q90 (Nat.le_refl ks.size) T hT; omega) y.2 q2 q3
   rw [← h2'] at hin
   unfold l2_b4
   simp only [hpl, ltE, q01, q06 h2, q00, hin]
end Fn
end Ev

namespace Ev
open Go
namespace Fn
theorem qn8 {l : List ND} {e : Int × List ND} (h : qz3 l e) (he : e.2.length ≤ 1000000) (b : Bool) : f_c1 (⟨b, l⟩, e.1, ()) = some (⟨false, e.2⟩, ()) := by
 have hf : fit (sumI (lenI ([] : List ND)) (lenI e.2)) = some () := q0u (by show 0 + e.2.length ≤ _; omega)
 rw [u_c1, h.rends b, q00, h.cut, q00, hf, q00]
 rfl
theorem qv8 (s : Sl DD) (nb b : Bool) (Ts : List (List ND)) (hT : Ts.length ≤ 10000) (hT2 : ∀ T, T ∈ Ts → T.length ≤ 4000) {i j : Nat} {d : DD} {c : CT} (hd : s.l[i]? = some d) (hc : d.2.2.l[j]? = some c) (ha : c.2.l.length ≤ 1000) (hg : ∀ a, a ∈ c.2.l → gA a) :
  loopR l5_ct (s, ⟨nb, bl b 0 Ts⟩, (i : Int), (j : Int), 0, ⟨false, []⟩, ()) = some (.inr (.inr (.inr (.inr (⟨false, c.2.l.map (argS false Ts)⟩, true, ()))))) := by
 refine (q21 l5_ct (fun k a => (s, ⟨nb, bl b 0 Ts⟩, (i : Int), (j : Int), k, a, ())) c.2.l (fun (a : Sl SN) x => (⟨false, a.l ++ [argS false Ts x]⟩ : Sl SN)) (fun a => .inr (.inr (.inr (.inr (a, true, ()))))) (fun k a => k ≤ c.2.l.length ∧ a.l.length = k) ⟨false, []⟩ ⟨Nat.zero_le _, rfl⟩ ?_ ?_).trans ?_
 ·intro k x a hx hi
  obtain ⟨na, al⟩ := a
  have h2 : al.length = k := hi.2
  have hk := getL hx
  obtain ⟨bx, lx⟩ := x
  have hga := (hg _ (List.mem_of_getElem? hx)).2
  have hap := qla nb b bx Ts hT hT2 lx hga
  have hfit : ∀ y : SN, fit (sumI (lenI al) (lenI [y])) = some () := fun y => q0u (by show al.length + 1 ≤ _; omega)
  refine ⟨?_, hk, by show (al ++ [_]).length = _; rw [List.length_append, h2]; rfl⟩
  have hadd := add1 (show k ≤ 1000000000 by omega)
  unfold l5_ct argS
  simp only [q06 hd, q06 hc, ltG hx, q03, q06 hx, q00, hap]
  cases ltI 4000 (lenI (lx.foldl (appV Ts) ⟨false, []⟩).l) <;> simp only [q03, q01, q00, hfit, q1z, hadd, cond_true, cond_false] <;> rfl
 ·intro a _
  unfold l5_ct
  simp only [q06 hd, q06 hc, q00, ltE, q01]
 ·rw [qgw]; rfl
theorem qt5 {α ρ : Type} (p : α → Bool) (g : α → ρ) (R : ρ) (l : List α) (k : Nat) : scan (fun _ x => bif p x then some (g x) else none) R k l = match l.find? p with | some x => g x | none => R := by
 induction l generalizing k with
 | nil => rfl
 | cons x r ih =>
  unfold scan
  rw [List.find?_cons]
  cases p x with
  | false => exact ih (k + 1)
  | true => rfl
theorem qt6 (s : Sl DD) (hL : GD s.l) (t : SN) (con : Tx) (nb b : Bool) (Ts : List (List ND)) (hT : Ts.length ≤ 10000) (hT2 : ∀ T, T ∈ Ts → T.length ≤ 4000) {i : Nat} {d : DD} (hd : s.l[i]? = some d) :
  loopR l6_ct (s, t, con, ⟨nb, bl b 0 Ts⟩, (i : Int), 0, ()) = some (match d.2.2.l.find? (fun c : CT => eqS c.1 con) with | some c => .inr (.inr (.inr (⟨false, c.2.l.map (argS false Ts)⟩, true, ()))) | none => .inl (s, t, con, ⟨nb, bl b 0 Ts⟩, (i : Int), ())) := by
 obtain ⟨g1, g2, g3⟩ := hL.2 d (List.mem_of_getElem? hd)
 refine (q0i l6_ct (fun k => (s, t, con, ⟨nb, bl b 0 Ts⟩, (i : Int), k, ())) d.2.2.l (by omega) (fun _ c => bif eqS c.1 con then some (.inr (.inr (.inr (⟨false, c.2.l.map (argS false Ts)⟩, true, ())))) else none) (.inl (s, t, con, ⟨nb, bl b 0 Ts⟩, (i : Int), ())) ?_ ?_).trans ?_
 ·intro j c hc hj
  obtain ⟨q1, q2, q3⟩ := g3 c (List.mem_of_getElem? hc)
  unfold l6_ct
  simp only [q06 hd, ltG hc, q03, q06 hc, q00, qv8 s nb b Ts hT hT2 hd hc q2 q3, add1 (show j ≤ 1000000000 by omega)]
  cases eqS c.1 con <;> rfl
 ·unfold l6_ct
  simp only [q06 hd, q00, ltE, q01]
 ·rw [qt5]
  cases d.2.2.l.find? (fun c : CT => eqS c.1 con) <;> rfl
theorem qp9 (s : Sl DD) (hL : GD s.l) (t : SN) (x : ND) (hx : t.l[0]? = some x) (con : Tx) (nb b : Bool) (Ts : List (List ND)) (hT : Ts.length ≤ 10000) (hT2 : ∀ T, T ∈ Ts → T.length ≤ 4000) :
  loopR l7_ct (s, t, con, ⟨nb, bl b 0 Ts⟩, 0, ()) = some (scan (fun _ d => bif q4y x.1 x.2.1 x.2.2.2 d then (match d.2.2.l.find? (fun c : CT => eqS c.1 con) with | some c => some (.inr (⟨false, c.2.l.map (argS false Ts)⟩, true, ())) | none => none) else none) (.inr (⟨true, []⟩, false, ())) 0 s.l) := by
 have h0 : at? t.l 0 = some x := q06 (i := 0) hx
 refine q0i l7_ct (fun k => (s, t, con, ⟨nb, bl b 0 Ts⟩, k, ())) s.l (by have := hL.1; omega) _ _ ?_ ?_
 ·intro i d hd hi
  have hadd := add1 (show i ≤ 1000000000 by omega)
  have hc := qt6 s hL t con nb b Ts hT hT2 hd
  unfold l7_ct q4y
  simp only [ltG hd, q03, q06 hd, h0, q00, hc]
  cases eqI x.1 32 with
  | false => simp only [nF, q03, q00, Bool.false_and, cond_false]; exact congrArg (fun z : Int => some (Sum.inl (s, t, con, (⟨nb, bl b 0 Ts⟩ : Sl (Int × SN)), z, ()))) hadd
  | true =>
   cases eqS d.1 x.2.1 with
   | false => simp only [nF, nT, q03, q01, q00, Bool.true_and, Bool.false_and, cond_false]; exact congrArg (fun z : Int => some (Sum.inl (s, t, con, (⟨nb, bl b 0 Ts⟩ : Sl (Int × SN)), z, ()))) hadd
   | true =>
    cases eqI d.2.1 x.2.2.2 with
    | false => simp only [nF, nT, q03, q01, q00, Bool.true_and, cond_false]; exact congrArg (fun z : Int => some (Sum.inl (s, t, con, (⟨nb, bl b 0 Ts⟩ : Sl (Int × SN)), z, ()))) hadd
    | true =>
     simp only [nT, q01, q00, Bool.true_and, cond_true]
     cases d.2.2.l.find? (fun c : CT => eqS c.1 con) with
     | none => exact congrArg (fun z : Int => some (Sum.inl (s, t, con, (⟨nb, bl b 0 Ts⟩ : Sl (Int × SN)), z, ()))) hadd
     | some c => rfl
 ·unfold l7_ct
  simp only [ltE, q01]
theorem qz5 {n : Tx} {l : List Tx} (h : dupL (n :: l) = false) : n ∉ l ∧ dupL l = false := by
 unfold dupL at h
 rw [Bool.or_eq_false_iff] at h
 exact ⟨of_decide_eq_false h.1, h.2⟩
theorem qja {ρ : Type} (k : Int) (t : Tx) (c : Int) (con : Tx) (g : CT → ρ) (R : ρ) : ∀ (L : List DD) (i : Nat), dupL (L.map fun d => d.1) = false →
  scan (fun _ d => bif q4y k t c d then (match d.2.2.l.find? (fun c : CT => eqS c.1 con) with | some c => some (g c) | none => none) else none) R i L = match conV L k t c con with | some c => g c | none => R
 | [], _, _ => rfl
 | d :: r, i, h => by
  obtain ⟨h1, h2⟩ := qz5 h
  have ih := qja k t c con g R r (i + 1) h2
  unfold scan conV
  rw [List.find?_cons]
  cases hd : q4y k t c d with
  | false =>
   simp only [cond_false]
   exact ih
  | true =>
   simp only [cond_true, Option.bind_some]
   cases hc : d.2.2.l.find? (fun x => eqS x.1 con) with
   | some c => rfl
   | none =>
    simp only
    refine ih.trans ?_
    have hn : r.find? (q4y k t c) = none := by
     rw [List.find?_eq_none]
     intro d2 hm hp
     refine h1 (List.mem_map.2 ⟨d2, hm, ?_⟩)
     unfold q4y at hd hp
     simp only [Bool.and_eq_true] at hd hp
     exact (eqS_eq.1 hp.2.1).trans (eqS_eq.1 hd.2.1).symm
    unfold conV
    rw [hn]; rfl
theorem qfh (s : Sl DD) (hL : GD s.l) (hn : dupL (s.l.map fun d => d.1) = false) (b : Bool) (k : Int) (t : Tx) (n : Int) (ks : F) (hs : ks.size + 1 ≤ 4000) (con : Tx) :
  f_ct (s, ⟨b, (tr k t n ks).flat⟩, con, ()) = some (match conV s.l k t (ks.cnt : Int) con with | some c => (⟨false, c.2.l.map (argS false ks.trees)⟩, true, ()) | none => (⟨true, []⟩, false, ())) := by
 have hx : (⟨b, (tr k t n ks).flat⟩ : SN).l[0]? = some (k, t, n, (ks.cnt : Int)) := rfl
 have hl' : (tr k t n ks).flat.length ≤ 10000 := by rw [q0v]; omega
 have hst := q36 k t n ks
 have hkids := q32 b _ hl' hst
 have hkids : f_by (⟨b, (tr k t n ks).flat⟩, 0, ()) = some (⟨false, ks.pos (0 + 1)⟩, ()) := hkids
 have hat := qfg hl' ks 1 hst.node.2.1 (by rw [q0v]; omega)
 have hcnt := F.cnt_le ks
 have hTl := F.trees_len ks
 have hTs : ∀ T, T ∈ ks.trees → T.length ≤ 4000 := fun T hT => by have := q90 (Nat.le_refl ks.size) T hT; omega
 rw [u_ct, hkids, q00]
 refine (q21 l8_ct (fun v a => (s, ⟨b, (tr k t n ks).flat⟩, con, ⟨false, ks.pos (0 + 1)⟩, v, a, ())) (ks.ents 1)
   (fun (a : Sl (Int × SN)) e => (⟨false, a.l ++ [((a.l.length : Int), ⟨false, e.2⟩)]⟩ : Sl (Int × SN))) (fun _ => match conV s.l k t (ks.cnt : Int) con with | some c => (⟨false, c.2.l.map (argS false ks.trees)⟩, true, ()) | none => (⟨true, []⟩, false, ())) (fun v a => v ≤ ks.cnt ∧ a.l = bl false 0 (ks.trees.take v)) ⟨false, []⟩ ⟨Nat.zero_le _, rfl⟩ ?_ ?_)
 ·intro v e a hv hi
  obtain ⟨na, al⟩ := a
  have h2' : al = bl false 0 (ks.trees.take v) := hi.2
  have hp : (ks.pos (0 + 1))[v]? = some e.1 := by rw [← F.ents_pos]; exact getM hv
  have hTv : ks.trees[v]? = some e.2 := by rw [← F.ents_trees ks 1]; exact getM hv
  have hvl := getL hTv
  have hk2 := hat e (List.mem_of_getElem? hv)
  have hsub := qn8 hk2 (by have := hTs e.2 (List.mem_of_getElem? hTv); omega) b
  have hall : al.length = v := by rw [h2', qj7, List.length_take]; omega
  have hfit : ∀ z : Int × SN, fit (sumI (lenI al) (lenI [z])) = some () := fun z => q0u (by show al.length + 1 ≤ _; omega)
  refine ⟨?_, by omega, ?_⟩
  ·unfold l8_ct
   simp only [ltG hp, q03, q06 hp, q00, hsub, hfit, q1z, hall, add1 (show v ≤ 1000000000 by omega)]
   rfl
  ·show al ++ [((al.length : Int), (⟨false, e.2⟩ : SN))] = _
   rw [qt4 false hTv, hall, h2']
 ·intro a hi
  obtain ⟨na, al⟩ := a
  have hpl : (ks.ents 1).length = (ks.pos (0 + 1)).length := by rw [← F.ents_pos ks 1, List.length_map]
  have hel : (ks.ents 1).length = ks.trees.length := by rw [← F.ents_trees ks 1, List.length_map]
  have h2' : al = bl false 0 ks.trees := by
   have := hi.2
   rw [hel, List.take_length] at this
   exact this
  have hin := qp9 s hL ⟨b, (tr k t n ks).flat⟩ _ hx con na false ks.trees (by omega) hTs
  rw [← h2', qja k t (ks.cnt : Int) con _ _ s.l 0 hn] at hin
  unfold l8_ct
  simp only [hpl, ltE, q01]
  refine hin.trans ?_
  cases conV s.l k t (ks.cnt : Int) con <;> rfl
end Fn
end Ev

namespace Ev
open Go
namespace Fn
theorem qgy : ∀ (f g : F) (x y : List ND), f.flat ++ x = g.flat ++ y → f.cnt = g.cnt → f = g ∧ x = y
 | .nil, .nil, x, y, h, _ => ⟨rfl, h⟩
 | .nil, .cons _ _ _ _ _, _, _, _, h => by cases h
 | .cons _ _ _ _ _, .nil, _, _, _, h => by cases h
 | .cons k t n ks r, .cons k' t' n' ks' r', x, y, h, hc => by
  have h : (k, t, n, (ks.cnt : Int)) :: ((ks.flat ++ r.flat) ++ x) = (k', t', n', (ks'.cnt : Int)) :: ((ks'.flat ++ r'.flat) ++ y) := h
  injection h with h1 h2
  injection h1 with e1 h1
  injection h1 with e2 h1
  injection h1 with e3 e4
  rw [List.append_assoc, List.append_assoc] at h2
  obtain ⟨g1, g2⟩ := qgy ks ks' _ _ h2 (by omega)
  have hc : r.cnt + 1 = r'.cnt + 1 := hc
  obtain ⟨g3, g4⟩ := qgy r r' _ _ g2 (by omega)
  subst e1 e2 e3 g1 g3
  exact ⟨rfl, g4⟩
theorem qjb {k k' : Int} {t t' : Tx} {n n' : Int} {ks ks' : F} (h : (tr k t n ks).flat = (tr k' t' n' ks').flat) : k = k' ∧ t = t' ∧ n = n' ∧ ks = ks' := by
 have := (qgy (tr k t n ks) (tr k' t' n' ks') [] [] (by rw [List.append_nil, List.append_nil]; exact h) rfl).1
 injection this with h1 h2 h3 h4
 exact ⟨h1, h2, h3, h4⟩
open Classical in
noncomputable def qy1 (T : List ND) : List (List ND) := if h : ∃ ks : F, ∃ k t n, T = (tr k t n ks).flat then (Classical.choose h).trees else []
theorem qv9 (k : Int) (t : Tx) (n : Int) (ks : F) : qy1 (tr k t n ks).flat = ks.trees := by
 have h : ∃ ks' : F, ∃ k' t' n', (tr k t n ks).flat = (tr k' t' n' ks').flat := ⟨ks, k, t, n, rfl⟩
 unfold qy1
 rw [dif_pos h]
 obtain ⟨k', t', n', e⟩ := Classical.choose_spec h
 rw [← (qjb e).2.2.2]
def F.kidsF : F → List F
 | .nil => []
 | .cons k t n ks r => tr k t n ks :: r.kidsF
theorem F.kidsF_flat : ∀ f : F, f.kidsF.map F.flat = f.trees
 | .nil => rfl
 | .cons k t n ks r => by show _ :: _ = _ :: _; rw [F.kidsF_flat r]
theorem F.kidsF_len (f : F) : f.kidsF.length = f.cnt := by rw [← F.trees_len, ← F.kidsF_flat, List.length_map]
theorem F.kidsF_mem : ∀ (f : F) (p : F), p ∈ f.kidsF → ∃ k t n ks, p = tr k t n ks ∧ ks.size + 1 ≤ f.size
 | .nil, _, h => by cases h
 | .cons k t n ks r, p, h => by
  rcases List.mem_cons.1 h with h | h
  ·exact ⟨k, t, n, ks, h, by show _ ≤ ks.size + r.size + 1; omega⟩
  ·obtain ⟨k', t', n', ks', h1, h2⟩ := F.kidsF_mem r p h
   exact ⟨k', t', n', ks', h1, by show _ ≤ ks.size + r.size + 1; omega⟩
theorem F.app_flat : ∀ f g : F, (f.app g).flat = f.flat ++ g.flat
 | .nil, _ => rfl
 | .cons k t n ks r, g => by
  show _ :: (ks.flat ++ (r.app g).flat) = _ :: ((ks.flat ++ r.flat) ++ g.flat)
  rw [F.app_flat r g, List.append_assoc]
theorem F.app_cnt : ∀ f g : F, (f.app g).cnt = f.cnt + g.cnt
 | .nil, g => (Nat.zero_add _).symm
 | .cons k t n ks r, g => by show (r.app g).cnt + 1 = r.cnt + 1 + g.cnt; rw [F.app_cnt r g]; omega
def qdu (Fs : List F) : F → F
 | .nil => .nil
 | .cons k t n ks r => (bif eqI k 31 then (if 0 ≤ n then (Fs[n.toNat]?).getD (tr k t n ks) else tr k t n ks) else tr k t n (qdu Fs ks)).app (qdu Fs r)
theorem qb6 (Fs : List F) (hF : ∀ f, f ∈ Fs → f.cnt = 1) : ∀ f : F, (qdu Fs f).cnt = f.cnt
 | .nil => rfl
 | .cons k t n ks r => by
  have h : (bif eqI k 31 then (if 0 ≤ n then (Fs[n.toNat]?).getD (tr k t n ks) else tr k t n ks) else tr k t n (qdu Fs ks)).cnt = 1 := by
   cases eqI k 31 with
   | false => rfl
   | true =>
    rw [cond_true]
    split
    ·cases e : Fs[n.toNat]? with
     | none => rfl
     | some f => exact hF f (List.mem_of_getElem? e)
    ·rfl
  unfold qdu
  rw [F.app_cnt, h, qb6 Fs hF r]
  show 1 + r.cnt = r.cnt + 1; omega
theorem qva {x : ND} (h : typN x = true) (h31 : eqI x.1 31 = true) : x.2.2.2 = 0 := by
 unfold typN at h
 rw [h31, cond_true, Bool.and_eq_true] at h
 exact eqI_eq.1 h.1
theorem q91 (Fs : List F) (hF : ∀ f, f ∈ Fs → f.cnt = 1) : ∀ f : F, f.flat.all typN = true → q58 (Fs.map F.flat) f.flat = (qdu Fs f).flat
 | .nil, _ => rfl
 | .cons k t n ks r, h => by
  have h : (typN (k, t, n, (ks.cnt : Int)) && (ks.flat ++ r.flat).all typN) = true := h
  rw [Bool.and_eq_true, List.all_append, Bool.and_eq_true] at h
  obtain ⟨h1, h2, h3⟩ := h
  have i1 := q91 Fs hF ks h2
  have i2 := q91 Fs hF r h3
  unfold qdu
  rw [F.app_flat, ← i2]
  show q58 _ ((k, t, n, (ks.cnt : Int)) :: (ks.flat ++ r.flat)) = _
  unfold q58 at *
  rw [List.flatMap_cons, List.flatMap_append, ← List.append_assoc]
  congr 1
  unfold q5w
  cases h31 : eqI k 31 with
  | false =>
   simp only [cond_false]
   rw [show q5w (Fs.map F.flat) = fun x => q5w (Fs.map F.flat) x from rfl] at i1
   unfold q5w at i1
   rw [i1, q6g, qb6 Fs hF]; rfl
  | true =>
   have h0 := qva h1 h31
   obtain rfl := qc4 h0
   simp only [cond_true]
   by_cases hn : 0 ≤ n
   ·rw [if_pos hn, if_pos hn, List.getElem?_map]
    cases Fs[n.toNat]? with
    | none => rfl
    | some f => show f.flat ++ [] = f.flat; rw [List.append_nil]
   ·rw [if_neg hn, if_neg hn]; rfl
theorem qvb : ∀ f : F, f.cnt = 1 → ∃ k t n ks, f = tr k t n ks
 | .nil, h => by cases h
 | .cons k t n ks r, h => by
  have h : r.cnt + 1 = 1 := h
  cases r with
  | nil => exact ⟨k, t, n, ks, rfl⟩
  | cons _ _ _ _ r' => have h : r'.cnt + 1 + 1 = 1 := h; omega
theorem q38 (T : List ND) : q2w T = true ↔ T.length ≤ 4000 ∧ T.all typN = true ∧ ∃ k t n ks, T = (tr k t n ks).flat := by
 unfold q2w
 rw [Bool.and_eq_true, Bool.and_eq_true, decide_eq_true_eq, q31]
 exact ⟨fun ⟨a, b, c⟩ => ⟨a, c, b⟩, fun ⟨a, c, b⟩ => ⟨a, b, c⟩⟩
theorem qt7 {k : Int} {t : Tx} {n : Int} {ks : F} (h : q2w (tr k t n ks).flat = true) : ∀ T, T ∈ ks.trees → q2w T = true := by
 intro T hT
 obtain ⟨h1, h2, _⟩ := (q38 _).1 h
 rw [q0v] at h1
 have hs := q90 (Nat.le_refl ks.size) T hT
 rw [← F.kidsF_flat] at hT
 obtain ⟨p, hp, e⟩ := List.mem_map.1 hT
 obtain ⟨k', t', n', ks', hp2, _⟩ := F.kidsF_mem ks p hp
 refine (q38 T).2 ⟨by omega, ?_, ⟨k', t', n', ks', by rw [← e, hp2]⟩⟩
 rw [q6g, List.all_cons, Bool.and_eq_true] at h2
 have hm : ∀ x, x ∈ T → x ∈ ks.flat := fun x hx => by
  rw [← F.trees_flat, ← F.kidsF_flat]
  exact List.mem_flatten.2 ⟨T, List.mem_map.2 ⟨p, hp, e⟩, hx⟩
 exact List.all_eq_true.2 fun x hx => List.all_eq_true.1 h2.2 x (hm x hx)
theorem qgz {k : Int} {t : Tx} {n : Int} {ks : F} (h : q2w (tr k t n ks).flat = true) {a : List ND} (ha : q2w a = true) : q2w (argT ks.trees a) = true := by
 unfold argT
 cases hb : ltI 4000 (lenI (q58 ks.trees a)) with
 | true => kernel_rfl
 | false =>
  rw [cond_false]
  have hb : ¬ (4000 : Int) < ((q58 ks.trees a).length : Int) := of_decide_eq_false hb
  obtain ⟨a1, a2, k', t', n', ks', e⟩ := (q38 a).1 ha
  have hF : ∀ f, f ∈ ks.kidsF → f.cnt = 1 := fun f hf => by
   obtain ⟨_, _, _, _, h1, _⟩ := F.kidsF_mem ks f hf
   rw [h1]; rfl
  refine (q38 _).2 ⟨by omega, ?_, ?_⟩
  ·refine List.all_eq_true.2 fun x hx => ?_
   obtain ⟨y, hy, hx⟩ := List.mem_flatMap.1 hx
   have hy' := List.all_eq_true.1 a2 y hy
   unfold q5w at hx
   have single : x ∈ [y] → typN x = true := fun hx => by rw [List.mem_singleton] at hx; rw [hx]; exact hy'
   cases hq : eqI y.1 31 with
   | false => rw [hq, cond_false] at hx; exact single hx
   | true =>
    rw [hq, cond_true] at hx
    split at hx
    ·cases hT : ks.trees[y.2.2.1.toNat]? with
     | none => rw [hT] at hx; exact single hx
     | some T =>
      rw [hT] at hx
      have := (q38 T).1 (qt7 h T (List.mem_of_getElem? hT))
      exact List.all_eq_true.1 this.2.1 x hx
    ·exact single hx
  ·subst e
   rw [← F.kidsF_flat, q91 ks.kidsF hF _ a2]
   obtain ⟨k2, t2, n2, ks2, e2⟩ := qvb _ (qb6 ks.kidsF hF (tr k' t' n' ks'))
   exact ⟨k2, t2, n2, ks2, by rw [e2]⟩
end Fn
end Ev

namespace Ev
open Go
namespace Fn
def hd (T : List ND) : ND := T.headD (0, [], 0, 0)
noncomputable def qvc (L : List DD) (T : List ND) (con : Tx) : Option (List (List ND)) := (conV L (hd T).1 (hd T).2.1 (hd T).2.2.2 con).map fun c => c.2.l.map fun a => argT (qy1 T) a.l
noncomputable def ofN (L : List DD) (T : List ND) (k : Int) (t : Tx) (c : Nat) (rec : List (List ND) → Bool) : Bool :=
 bif eqI k 21 || eqI k 22 then true else bif eqI k 23 || eqI k 51 then eqS (hd T).2.1 [105, 110, 116] else bif eqI k 52 then eqS (hd T).2.1 [116, 101, 120, 116] else
  bif eqI k 54 then eqI (hd T).1 31 || (eqS (hd T).2.1 [45, 62] || eqS (hd T).2.1 [114, 101, 102]) else
   match qvc L T t with
   | none => false
   | some As => decide (As.length = c) && rec As
noncomputable def ofF (L : List DD) : F → List (List ND) → Bool
 | .nil, _ => true
 | .cons _ _ _ _ _, [] => false
 | .cons k t _ ks r, T :: Ts => ofN L T k t ks.cnt (fun As => ofF L ks As) && ofF L r Ts
theorem qh0 (L : List DD) (k : Int) (t : Tx) (n : Int) (ks : F) (T : List ND) : ofF L (tr k t n ks) [T] = ofN L T k t ks.cnt (fun As => ofF L ks As) := by
 show (ofN L T k t ks.cnt (fun As => ofF L ks As) && true) = _
 rw [Bool.and_true]
theorem qh1 (L : List DD) : ∀ (f : F) (As : List (List ND)), As.length = f.cnt → ofF L f As = (f.kidsF.zip As).all fun z => ofF L z.1 [z.2]
 | .nil, [], _ => rfl
 | .nil, _ :: _, h => by cases h
 | .cons _ _ _ _ _, [], h => by cases h
 | .cons k t n ks r, T :: Ts, h => by
  show (ofN L T k t ks.cnt (fun As => ofF L ks As) && ofF L r Ts) = (((tr k t n ks, T) :: r.kidsF.zip Ts).all _)
  rw [List.all_cons, qh1 L r Ts (by have h : Ts.length + 1 = r.cnt + 1 := h; omega), qh0]
theorem qc6 {L : List DD} {k : Int} {t : Tx} {c : Int} {con : Tx} {x : CT} (h : conV L k t c con = some x) : ∃ d, d ∈ L ∧ x ∈ d.2.2.l ∧ q4y k t c d = true ∧ eqS x.1 con = true := by
 unfold conV at h
 cases hd : L.find? (q4y k t c) with
 | none => rw [hd] at h; cases h
 | some d =>
  rw [hd] at h
  have h : d.2.2.l.find? (fun x => eqS x.1 con) = some x := h
  exact ⟨d, List.mem_of_find?_eq_some hd, List.mem_of_find?_eq_some h, List.find?_some hd, List.find?_some (p := fun x : CT => eqS x.1 con) h⟩
theorem qdv {L : List DD} (hok : L.all q1x = true) {d : DD} (hd : d ∈ L) {c : CT} (hc : c ∈ d.2.2.l) : q27 c.1 = true ∧ c.2.l.length ≤ 8 ∧ (∀ a, a ∈ c.2.l → q2w a.l = true) ∧ d.2.1 ≤ 8 ∧ 0 ≤ d.2.1 ∧ q27 d.1 = true := by
 have h1 := List.all_eq_true.1 hok d hd
 unfold q1x at h1
 simp only [Bool.and_eq_true] at h1
 obtain ⟨g0, g1, g2, g3, g4, g5⟩ := h1
 have h2 := List.all_eq_true.1 g5 c hc
 unfold q8a at h2
 simp only [Bool.and_eq_true] at h2
 have e1 : lenI c.2.l ≤ 8 := of_decide_eq_true h2.2.1
 have e2 : d.2.1 ≤ 8 := of_decide_eq_true g2
 have e3 : 0 ≤ d.2.1 := of_decide_eq_true g1
 refine ⟨h2.1, by unfold lenI at e1; omega, fun a ha => ?_, e2, e3, g0⟩
 have h3 := List.all_eq_true.1 h2.2.2 a ha
 unfold qb4 at h3
 rw [Bool.and_eq_true] at h3
 exact h3.1
theorem qjc {P : ND → Bool} {ks : F} (h : ks.flat.all P = true) : ∀ p, p ∈ ks.kidsF → p.flat.all P = true := by
 intro p hp
 refine List.all_eq_true.2 fun x hx => List.all_eq_true.1 h x ?_
 rw [← F.trees_flat, ← F.kidsF_flat]
 exact List.mem_flatten.2 ⟨p.flat, List.mem_map.2 ⟨p, hp, rfl⟩, hx⟩
theorem qh2 (L : List DD) (k : Int) (t : Tx) (n : Int) (ks : F) (con : Tx) : qvc L (tr k t n ks).flat con = (conV L k t (ks.cnt : Int) con).map fun c => c.2.l.map fun a => argT ks.trees a.l := by
 unfold qvc
 rw [qv9]; rfl
def patP (x : ND) : Bool := leI 21 x.1 && leI x.1 24
def valP (x : ND) : Bool := leI 51 x.1 && leI x.1 54
theorem qjd (a b : Nat) : eqI ((a : Nat) : Int) ((b : Nat) : Int) = decide (a = b) := by
 by_cases h : a = b
 ·subst h; rw [q2i, decide_eq_true rfl]
 ·rw [q1a (by omega), decide_eq_false h]
theorem qlb {ks : F} {As : List (List ND)} {i : Nat} {z : F × List ND} (h : (ks.kidsF.zip As)[i]? = some z) : ks.kidsF[i]? = some z.1 ∧ As[i]? = some z.2 := by
 rw [List.getElem?_zip_eq_some] at h
 exact h
theorem of_N (s : Sl DD) (hL : GD s.l) (hok : s.l.all q1x = true) : ∀ (M : Nat) (k : Int) (t : Tx) (n : Int) (ks : F), ks.size + 1 ≤ M → ks.size + 1 ≤ 4000 → (tr k t n ks).flat.all patP = true → ∀ (T : SN) (b2 : Bool), q2w T.l = true → ∀ N, M ≤ N →
  recN g_bk N (s, T, ⟨b2, (tr k t n ks).flat⟩, ()) = some (ofF s.l (tr k t n ks) [T.l], ()) := by
 intro M
 induction M with
 | zero => intro k t n ks h; omega
 | succ M ih =>
  intro k t n ks hM hsz hP T b2 hT N hN
  obtain ⟨b, T⟩ := T
  cases N with
  | zero => omega
  | succ N =>
   obtain ⟨hT1, hT2, k', t', n', ks', hTe⟩ := (q38 T).1 hT
   subst hTe
   rw [q0v] at hT1
   have h0 : at? (tr k t n ks).flat 0 = some (k, t, n, (ks.cnt : Int)) := q06 (i := 0) rfl
   have h1 : at? (tr k' t' n' ks').flat 0 = some (k', t', n', (ks'.cnt : Int)) := q06 (i := 0) rfl
   show g_bk (recN g_bk N) _ = _
   rw [u_bk, qh0]
   simp only [h0, h1, q00]
   rw [q6g, List.all_cons, Bool.and_eq_true] at hP
   have hkk := hP.1
   unfold patP at hkk
   rw [Bool.and_eq_true] at hkk
   have k1 : (21 : Int) ≤ k := of_decide_eq_true hkk.1
   have k2 : k ≤ (24 : Int) := of_decide_eq_true hkk.2
   unfold ofN
   rw [q1a (show k ≠ 51 by omega), q1a (show k ≠ 52 by omega), q1a (show k ≠ 54 by omega)]
   by_cases e24 : k = 24
   ·subst e24
    have z1 : eqI 24 21 = false := rfl
    have z2 : eqI 24 22 = false := rfl
    have z3 : eqI 24 23 = false := rfl
    have z4 : eqI 24 24 = true := rfl
    simp only [z1, z2, z3, z4, q01, q03, cond_false, Bool.or_false]
    rw [qru, h0, q00, qh2]
    obtain ⟨nbp, hparts⟩ := q7z b2 24 t n ks (by omega)
    cases hc : conV s.l k' t' (ks'.cnt : Int) t with
    | none =>
     rw [qds s hL b k' t' n' ks' (by omega) t hc]
     simp only [q00, hparts, nF, q03, Option.map_none]
    | some c =>
     obtain ⟨d, hd1, hd2, hd3, hd4⟩ := qc6 hc
     obtain ⟨r1, r2, r3, r4, r5, r6⟩ := qdv hok hd1 hd2
     rw [qdt s hL b k' t' n' ks' (by omega) t c hc]
     have hl1 : lenI (c.2.l.map (argS true ks'.trees)) = ((c.2.l.length : Nat) : Int) := by unfold lenI; rw [List.length_map]
     have hl2 : lenI (ks.trees.map fun l => (⟨b2, l⟩ : SN)) = ((ks.cnt : Nat) : Int) := by unfold lenI; rw [List.length_map, F.trees_len]
     have hl3 : (c.2.l.map fun a => argT ks'.trees a.l).length = c.2.l.length := List.length_map _
     simp only [q00, hparts, nT, q01, hl1, hl2, qjd, Option.map_some, hl3]
     by_cases hle : c.2.l.length = ks.cnt
     ·rw [decide_eq_true hle]
      simp only [nT, q01, Bool.true_and]
      rw [qh1 s.l ks _ (by rw [hl3]; exact hle)]
      have hlen : (ks.kidsF.zip (c.2.l.map fun a => argT ks'.trees a.l)).length = ks.cnt := by rw [List.length_zip, F.kidsF_len, hl3, hle, Nat.min_self]
      have hcnt := F.cnt_le ks
      refine (qbp (q0i (q7u (recN g_bk N)) (fun i => (s, ⟨true && c.2.l.isEmpty, c.2.l.map (argS true ks'.trees)⟩, ⟨nbp, ks.trees.map fun l => (⟨b2, l⟩ : SN)⟩, ((ks.cnt : Nat) : Int), i, ())) (ks.kidsF.zip (c.2.l.map fun a => argT ks'.trees a.l)) (by omega)
       (fun _ z => bif ofF s.l z.1 [z.2] then none else some (false, ())) (true, ()) ?_ ?_) _).trans ?_
      ·intro i z hz hi
       obtain ⟨p, A⟩ := z
       obtain ⟨hz1, hz2⟩ := qlb hz
       have hil := getL hz
       have hp := List.mem_of_getElem? hz1
       obtain ⟨kp, tp, np, ksp, hpe, hps⟩ := F.kidsF_mem ks p hp
       have hpP := qjc hP.2 p hp
       subst hpe
       have hg1 : (ks.trees.map fun l => (⟨b2, l⟩ : SN))[i]? = some ⟨b2, (tr kp tp np ksp).flat⟩ := by
        rw [← F.kidsF_flat]
        exact getM (getM hz1)
       rw [List.getElem?_map] at hz2
       cases ha : c.2.l[i]? with
       | none => rw [ha] at hz2; cases hz2
       | some a =>
        rw [ha] at hz2
        injection hz2 with hz2
        have hg2 : (c.2.l.map (argS true ks'.trees))[i]? = some (argS true ks'.trees a) := getM ha
        have hAt : q2w (argS true ks'.trees a).l = true := by rw [qa8]; exact qgz hT (r3 a (List.mem_of_getElem? ha))
        have hself := ih kp tp np ksp (by omega) (by omega) hpP (argS true ks'.trees a) b2 hAt N (by omega)
        rw [qa8, show argT ks'.trees a.l = A from hz2] at hself
        have hlt : ltI (i : Int) ((ks.cnt : Nat) : Int) = true := decide_eq_true (by omega)
        unfold q7u
        simp only [hlt, q03, q06 hg1, q06 hg2, q00, qob, hself, add1 (show i ≤ 1000000000 by omega)]
        cases ofF s.l (tr kp tp np ksp) [A] <;> rfl
      ·have hlt : ltI ((ks.cnt : Nat) : Int) ((ks.cnt : Nat) : Int) = false := decide_eq_false (by omega)
       unfold q7u
       simp only [hlen, hlt, q01]
      ·rw [q37]
       cases (ks.kidsF.zip (c.2.l.map fun a => argT ks'.trees a.l)).all (fun z => ofF s.l z.1 [z.2]) <;> rfl
     ·rw [decide_eq_false hle]
      simp only [nF, q03, q00, Bool.false_and]
   ·rw [q1a e24]
    by_cases e23 : k = 23
    ·subst e23; rfl
    ·rw [q1a e23]
     by_cases e22 : k = 22
     ·subst e22; rfl
     ·have : k = 21 := by omega
      subst this; rfl
end Fn
end Ev

namespace Ev
open Go
namespace Fn
theorem qzw (s : Sl DD) (hL : GD s.l) (hok : s.l.all q1x = true) : ∀ (M : Nat) (k : Int) (t : Tx) (n : Int) (ks : F), ks.size + 1 ≤ M → ks.size + 1 ≤ 4000 → (tr k t n ks).flat.all valP = true → ∀ (T : SN) (b2 : Bool), q2w T.l = true → ∀ N, M ≤ N →
  recN g_bh N (s, T, ⟨b2, (tr k t n ks).flat⟩, ()) = some (ofF s.l (tr k t n ks) [T.l], ()) := by
 intro M
 induction M with
 | zero => intro k t n ks h; omega
 | succ M ih =>
  intro k t n ks hM hsz hP T b2 hT N hN
  obtain ⟨b, T⟩ := T
  cases N with
  | zero => omega
  | succ N =>
   obtain ⟨hT1, hT2, k', t', n', ks', hTe⟩ := (q38 T).1 hT
   subst hTe
   rw [q0v] at hT1
   have h0 : at? (tr k t n ks).flat 0 = some (k, t, n, (ks.cnt : Int)) := q06 (i := 0) rfl
   have h1 : at? (tr k' t' n' ks').flat 0 = some (k', t', n', (ks'.cnt : Int)) := q06 (i := 0) rfl
   show g_bh (recN g_bh N) _ = _
   rw [u_bh, qh0]
   simp only [h0, h1, q00]
   rw [q6g, List.all_cons, Bool.and_eq_true] at hP
   have hkk := hP.1
   unfold valP at hkk
   rw [Bool.and_eq_true] at hkk
   have k1 : (51 : Int) ≤ k := of_decide_eq_true hkk.1
   have k2 : k ≤ (54 : Int) := of_decide_eq_true hkk.2
   unfold ofN
   rw [q1a (show k ≠ 21 by omega), q1a (show k ≠ 22 by omega), q1a (show k ≠ 23 by omega)]
   by_cases e24 : k = 53
   ·subst e24
    have z1 : eqI 53 51 = false := rfl
    have z2 : eqI 53 52 = false := rfl
    have z3 : eqI 53 54 = false := rfl
    simp only [z1, z2, z3, q01, cond_false, Bool.or_false]
    rw [qir, h0, q00, qh2]
    obtain ⟨nbp, hparts⟩ := q7z b2 53 t n ks (by omega)
    cases hc : conV s.l k' t' (ks'.cnt : Int) t with
    | none =>
     rw [qds s hL b k' t' n' ks' (by omega) t hc]
     simp only [q00, hparts, nF, q03, Option.map_none]
    | some c =>
     obtain ⟨d, hd1, hd2, hd3, hd4⟩ := qc6 hc
     obtain ⟨r1, r2, r3, r4, r5, r6⟩ := qdv hok hd1 hd2
     rw [qdt s hL b k' t' n' ks' (by omega) t c hc]
     have hl1 : lenI (c.2.l.map (argS true ks'.trees)) = ((c.2.l.length : Nat) : Int) := by unfold lenI; rw [List.length_map]
     have hl2 : lenI (ks.trees.map fun l => (⟨b2, l⟩ : SN)) = ((ks.cnt : Nat) : Int) := by unfold lenI; rw [List.length_map, F.trees_len]
     have hl3 : (c.2.l.map fun a => argT ks'.trees a.l).length = c.2.l.length := List.length_map _
     simp only [q00, hparts, nT, q01, hl1, hl2, qjd, Option.map_some, hl3]
     by_cases hle : c.2.l.length = ks.cnt
     ·rw [decide_eq_true hle]
      simp only [nT, q01, Bool.true_and]
      rw [qh1 s.l ks _ (by rw [hl3]; exact hle)]
      have hlen : (ks.kidsF.zip (c.2.l.map fun a => argT ks'.trees a.l)).length = ks.cnt := by rw [List.length_zip, F.kidsF_len, hl3, hle, Nat.min_self]
      have hcnt := F.cnt_le ks
      refine (qbp (q0i (q47 (recN g_bh N)) (fun i => (s, ⟨true && c.2.l.isEmpty, c.2.l.map (argS true ks'.trees)⟩, ⟨nbp, ks.trees.map fun l => (⟨b2, l⟩ : SN)⟩, ((ks.cnt : Nat) : Int), i, ())) (ks.kidsF.zip (c.2.l.map fun a => argT ks'.trees a.l)) (by omega)
       (fun _ z => bif ofF s.l z.1 [z.2] then none else some (false, ())) (true, ()) ?_ ?_) _).trans ?_
      ·intro i z hz hi
       obtain ⟨p, A⟩ := z
       obtain ⟨hz1, hz2⟩ := qlb hz
       have hil := getL hz
       have hp := List.mem_of_getElem? hz1
       obtain ⟨kp, tp, np, ksp, hpe, hps⟩ := F.kidsF_mem ks p hp
       have hpP := qjc hP.2 p hp
       subst hpe
       have hg1 : (ks.trees.map fun l => (⟨b2, l⟩ : SN))[i]? = some ⟨b2, (tr kp tp np ksp).flat⟩ := by
        rw [← F.kidsF_flat]
        exact getM (getM hz1)
       rw [List.getElem?_map] at hz2
       cases ha : c.2.l[i]? with
       | none => rw [ha] at hz2; cases hz2
       | some a =>
        rw [ha] at hz2
        injection hz2 with hz2
        have hg2 : (c.2.l.map (argS true ks'.trees))[i]? = some (argS true ks'.trees a) := getM ha
        have hAt : q2w (argS true ks'.trees a).l = true := by rw [qa8]; exact qgz hT (r3 a (List.mem_of_getElem? ha))
        have hself := ih kp tp np ksp (by omega) (by omega) hpP (argS true ks'.trees a) b2 hAt N (by omega)
        rw [qa8, show argT ks'.trees a.l = A from hz2] at hself
        have hlt : ltI (i : Int) ((ks.cnt : Nat) : Int) = true := decide_eq_true (by omega)
        unfold q47
        simp only [hlt, q03, q06 hg1, q06 hg2, q00, qkr, hself, add1 (show i ≤ 1000000000 by omega)]
        cases ofF s.l (tr kp tp np ksp) [A] <;> rfl
      ·have hlt : ltI ((ks.cnt : Nat) : Int) ((ks.cnt : Nat) : Int) = false := decide_eq_false (by omega)
       unfold q47
       simp only [hlen, hlt, q01]
      ·rw [q37]
       cases (ks.kidsF.zip (c.2.l.map fun a => argT ks'.trees a.l)).all (fun z => ofF s.l z.1 [z.2]) <;> rfl
     ·rw [decide_eq_false hle]
      simp only [nF, q03, q00, Bool.false_and]
   ·by_cases e51 : k = 51
    ·subst e51; rfl
    ·rw [q1a e51]
     by_cases e52 : k = 52
     ·subst e52; rfl
     ·rw [q1a e52]
      have : k = 54 := by omega
      subst this
      have z3 : eqI 54 54 = true := rfl
      simp only [z3, q03, q01, cond_true, cond_false, Bool.or_false, hd, List.headD_cons, q6g]
      cases eqI k' 31 <;> cases eqS t' [45, 62] <;> cases eqS t' [114, 101, 102] <;> rfl
theorem qzx (s : Sl DD) (hL : GD s.l) (hok : s.l.all q1x = true) (hn : dupL (s.l.map fun d => d.1) = false) (b2 : Bool) (l : List ND) (hl : l.length ≤ 4000) : ∀ (M : Nat) (q : Nat) (k : Int) (t : Tx) (n : Int) (ks : F), ks.size + 1 ≤ M → Sits l q (tr k t n ks) → ∀ (T : SN), q2w T.l = true → ∀ N, M ≤ N →
  recN g_cz N (s, T, ⟨b2, l⟩, (q : Int), ()) = some (ofF s.l (tr k t n ks) [T.l], ()) := by
 intro M
 induction M with
 | zero => intro q k t n ks h; omega
 | succ M ih =>
  intro q k t n ks hM hs T hT N hN
  obtain ⟨b, T⟩ := T
  cases N with
  | zero => omega
  | succ N =>
   obtain ⟨hT1, hT2, k', t', n', ks', hTe⟩ := (q38 T).1 hT
   subst hTe
   rw [q0v] at hT1
   have hnode := hs.node
   have h0 : at? l (q : Int) = some (k, t, n, (ks.cnt : Int)) := q06 hnode.1
   have h1 : at? (tr k' t' n' ks').flat 0 = some (k', t', n', (ks'.cnt : Int)) := q06 (i := 0) rfl
   have hkids := q32 b2 l (by omega) hs
   have hql : q + 1 ≤ l.length := by have := hnode.2.2.2; omega
   have hat := qfg (by omega) ks (q + 1) hnode.2.1 hql
   show g_cz (recN g_cz N) _ = _
   rw [u_cz, qh0]
   unfold ofN
   simp only [h0, h1, q00]
   have con : (bnd (at? l (q : Int)) fun x7 => bnd (f_ct (s, ⟨b, (tr k' t' n' ks').flat⟩, x7.2.1, ())) fun x8 => bnd (f_by (⟨b2, l⟩, (q : Int), ())) fun x9 => bnd (cnd (notB x8.2.1) (some true) (some (notB (eqI (lenI x8.1.l) (lenI x9.1.l))))) fun x10 =>
     cnd x10 (some (false, ())) (loopR (l1_cz (recN g_cz N)) (s, ⟨b2, l⟩, x8.1, x9.1, 0, ()))) = some (match qvc s.l (tr k' t' n' ks').flat t with | none => false | some As => decide (As.length = ks.cnt) && ofF s.l ks As, ()) := by
    rw [h0, q00, qh2, qfh s hL hn b k' t' n' ks' (by omega) t]
    cases hc : conV s.l k' t' (ks'.cnt : Int) t with
    | none => simp only [q00, hkids, nF, q03, Option.map_none]
    | some c =>
     obtain ⟨d, hd1, hd2, hd3, hd4⟩ := qc6 hc
     obtain ⟨r1, r2, r3, r4, r5, r6⟩ := qdv hok hd1 hd2
     have hl1 : lenI (c.2.l.map (argS false ks'.trees)) = ((c.2.l.length : Nat) : Int) := by unfold lenI; rw [List.length_map]
     have hl2 : lenI (ks.pos (q + 1)) = ((ks.cnt : Nat) : Int) := by unfold lenI; rw [F.pos_len]
     have hl3 : (c.2.l.map fun a => argT ks'.trees a.l).length = c.2.l.length := List.length_map _
     simp only [q00, hkids, nT, q01, hl1, hl2, qjd, Option.map_some, hl3]
     by_cases hle : c.2.l.length = ks.cnt
     ·rw [decide_eq_true hle]
      simp only [nT, q01, Bool.true_and]
      rw [qh1 s.l ks _ (by rw [hl3]; exact hle)]
      have hlen : (ks.kidsF.zip (c.2.l.map fun a => argT ks'.trees a.l)).length = ks.cnt := by rw [List.length_zip, F.kidsF_len, hl3, hle, Nat.min_self]
      have hcnt := F.cnt_le ks
      have hsz := hnode.2.2.2
      refine (q0i (l1_cz (recN g_cz N)) (fun i => (s, ⟨b2, l⟩, ⟨false, c.2.l.map (argS false ks'.trees)⟩, ⟨false, ks.pos (q + 1)⟩, i, ())) (ks.kidsF.zip (c.2.l.map fun a => argT ks'.trees a.l)) (by omega)
       (fun _ z => bif ofF s.l z.1 [z.2] then none else some (false, ())) (true, ()) ?_ ?_).trans ?_
      ·intro i z hz hi
       obtain ⟨p, A⟩ := z
       obtain ⟨hz1, hz2⟩ := qlb hz
       have hil := getL hz
       have hp := List.mem_of_getElem? hz1
       obtain ⟨kp, tp, np, ksp, hpe, hps⟩ := F.kidsF_mem ks p hp
       subst hpe
       have hel : (ks.ents (q + 1)).length = ks.cnt := by rw [← F.pos_len ks (q + 1), ← F.ents_pos, List.length_map]
       obtain ⟨e, he⟩ : ∃ e, (ks.ents (q + 1))[i]? = some e := ⟨_, List.getElem?_eq_getElem (by omega)⟩
       have hg1 : (ks.pos (q + 1))[i]? = some e.1 := by rw [← F.ents_pos]; exact getM he
       have he2 : (ks.trees)[i]? = some e.2 := by rw [← F.ents_trees ks (q + 1)]; exact getM he
       rw [← F.kidsF_flat, List.getElem?_map, hz1] at he2
       injection he2 with he2
       obtain ⟨q2, k2, t2, n2, ks2, he3, hs2⟩ := (hat e (List.mem_of_getElem? he)).sits
       rw [he3] at he2 hg1
       obtain ⟨u1, u2, u3, u4⟩ := qjb he2
       subst u1 u2 u3 u4
       rw [List.getElem?_map] at hz2
       cases ha : c.2.l[i]? with
       | none => rw [ha] at hz2; cases hz2
       | some a =>
        rw [ha] at hz2
        injection hz2 with hz2
        have hg2 : (c.2.l.map (argS false ks'.trees))[i]? = some (argS false ks'.trees a) := getM ha
        have hAt : q2w (argS false ks'.trees a).l = true := by rw [qa8]; exact qgz hT (r3 a (List.mem_of_getElem? ha))
        have hself := ih q2 kp tp np ksp (by omega) hs2 (argS false ks'.trees a) hAt N (by omega)
        rw [qa8, show argT ks'.trees a.l = A from hz2] at hself
        have hlt : ltI (i : Int) ((ks.cnt : Nat) : Int) = true := decide_eq_true (by omega)
        unfold l1_cz
        simp only [hl2, hlt, q03, q06 hg1, q06 hg2, q00, hself, add1 (show i ≤ 1000000000 by omega)]
        cases ofF s.l (tr kp tp np ksp) [A] <;> rfl
      ·have hlt : ltI ((ks.cnt : Nat) : Int) ((ks.cnt : Nat) : Int) = false := decide_eq_false (by omega)
       unfold l1_cz
       simp only [hlen, hl2, hlt, q01]
      ·rw [q37]
       cases (ks.kidsF.zip (c.2.l.map fun a => argT ks'.trees a.l)).all (fun z => ofF s.l z.1 [z.2]) <;> rfl
     ·rw [decide_eq_false hle]
      simp only [nF, q03, Bool.false_and]
   cases e21 : eqI k 21 with
   | true => rfl
   | false =>
    simp only [q01, q00]
    cases e22 : eqI k 22 with
    | true => rfl
    | false =>
     simp only [q01]
     cases e23 : eqI k 23 with
     | true => rfl
     | false =>
      simp only [q01, q00]
      cases e51 : eqI k 51 with
      | true => rfl
      | false =>
       simp only [q01, Bool.or_false, cond_false]
       cases e52 : eqI k 52 with
       | true => rfl
       | false =>
        simp only [q01, cond_false]
        cases e54 : eqI k 54 with
        | true =>
         simp only [q03, cond_true, h1, q00, show hd (tr k' t' n' ks').flat = (k', t', n', (ks'.cnt : Int)) from rfl]
         cases eqI k' 31 <;> cases eqS t' [45, 62] <;> cases eqS t' [114, 101, 102] <;> rfl
        | false =>
         simp only [q01, cond_false]
         exact con
end Fn
end Ev

namespace Ev
open Go
namespace Fn
def valN (x : ND) : Bool := bif eqI x.1 51 then eqS x.2.1 [] && (eqI x.2.2.2 0 && q40 x.2.2.1) else bif eqI x.1 52 then eqI x.2.2.1 0 && (eqI x.2.2.2 0 && leI (lenI x.2.1) 200) else
 bif eqI x.1 53 then eqI x.2.2.1 0 && q27 x.2.1 else bif eqI x.1 54 then eqS x.2.1 [] && (eqI x.2.2.1 0 && eqI x.2.2.2 0) else false
def q92 (l : List ND) : Bool := decide (l.length ≤ 4000) && (q3v l && l.all valN)
theorem qpa (x : ND) (hx : qj2 x) : f_bj (x, ()) = some (valN x, ()) := by
 obtain ⟨a, t, n, c⟩ := x
 obtain ⟨v, hv, hw⟩ := qf9 n hx.2.2
 have hc := qmv (s := t) hx.1
 rw [u_bj]
 unfold valN
 simp only [hv, hc, q00, hw]
 cases eqI a 51 with
 | true => cases eqS t [] <;> cases eqI c 0 <;> rfl
 | false =>
  cases eqI a 52 with
  | true => cases eqI n 0 <;> cases eqI c 0 <;> rfl
  | false =>
   cases eqI a 53 with
   | true => cases eqI n 0 <;> rfl
   | false => cases eqI a 54 <;> rfl
theorem qt8 (b : Bool) (l : List ND) (hl : l.length ≤ 1000000) (hg : GL l) : f_df (⟨b, l⟩, ()) = some (!l.all valN, ()) := by
 have e : loopR l1_dp (⟨b, l⟩, lenI l, 0, ()) = some (ixP (fun x => !valN x) 0 l, ()) := by
  refine q24 l1_dp (fun k => (⟨b, l⟩, lenI l, k, ())) (fun z => (z, ())) l hl (fun x => !valN x) ?_ ?_
  ·intro k x hx hk
   obtain ⟨a, t, n, c⟩ := x
   unfold l1_dp
   simp only [ltG hx, q03, q06 hx, q00, u_bs, qpa _ (hg.at hx), add1 (show k ≤ 1000000000 by omega), notB]
   cases valN (a, t, n, c) <;> rfl
  ·unfold l1_dp
   simp only [ltE, q01]
 rw [u_df, u_dp]
 refine (qbp e _).trans ?_
 rw [q5g, List.not_all_eq_any_not]
theorem qdw (b : Bool) (l : List ND) (hl : l.length ≤ 10000) (hg : GL l) : f_br (⟨b, l⟩, ()) = some (q92 l, ()) := by
 have hle : leI (lenI l) 4000 = decide (l.length ≤ 4000) := by unfold leI lenI; exact decide_eq_decide.2 (by omega)
 rw [u_br, qt8 b l (by omega) hg, q5v b l hl]
 simp only [hle]
 unfold q92
 cases decide (l.length ≤ 4000) <;> cases q3v l <;> cases l.all valN <;> rfl
theorem q93 (b : Bool) (l : List ND) (hl : l.length ≤ 10000) (hg : GL l) : f_d1 (⟨b, l⟩, ()) = some (q92 l, ()) := by
 have loop : loopR l1_d1 (⟨b, l⟩, 0, ()) = some (l.all valN, ()) := by
  refine (q0i l1_d1 (fun k => (⟨b, l⟩, k, ())) l (by omega) (fun _ x => bif valN x then none else some (false, ())) (true, ()) ?_ ?_).trans ?_
  ·intro k x hx hk
   have hgx := hg.at hx
   obtain ⟨a, t, n, c⟩ := x
   obtain ⟨v, hv, hw⟩ := qfa n hgx.2.2
   have hc := qiz (s := t) hgx.2.1
   have hadd := add1 (show k ≤ 1000000000 by omega)
   unfold l1_d1 valN
   simp only [ltG hx, q03, q06 hx, q00, hv, hc, hw, hadd]
   by_cases h1 : a = 51
   ·subst h1
    have z1 : eqI 51 51 = true := rfl
    have z2 : eqI 51 52 = false := rfl
    have z3 : eqI 51 53 = false := rfl
    have z4 : eqI 51 54 = false := rfl
    simp only [z1, z2, z3, z4]
    cases eqS t [] <;> cases eqI c 0 <;> cases q40 n <;> rfl
   ·rw [q1a h1]
    by_cases h2 : a = 52
    ·subst h2
     have z2 : eqI 52 52 = true := rfl
     have z3 : eqI 52 53 = false := rfl
     have z4 : eqI 52 54 = false := rfl
     simp only [z2, z3, z4]
     cases eqI n 0 <;> cases eqI c 0 <;> cases leI (lenI t) 200 <;> rfl
    ·rw [q1a h2]
     by_cases h3 : a = 53
     ·subst h3
      have z3 : eqI 53 53 = true := rfl
      have z4 : eqI 53 54 = false := rfl
      simp only [z3, z4]
      cases eqI n 0 <;> cases q27 t <;> rfl
     ·rw [q1a h3]
      cases eqI a 54 <;> cases eqI n 0 <;> cases eqI c 0 <;> cases eqS t [] <;> rfl
  ·unfold l1_d1
   simp only [ltE, q01]
  ·rw [q37]; cases l.all valN <;> rfl
 rw [u_d1, loop, q6i b l hl]
 simp only [ql5]
 unfold q92
 cases decide (l.length ≤ 4000) <;> cases q3v l <;> cases l.all valN <;> rfl
theorem qz6 {x : ND} (h : valN x = true) : valP x = true := by
 unfold valN at h
 unfold valP
 by_cases h1 : x.1 = 51
 ·rw [h1]; rfl
 ·rw [q1a h1, cond_false] at h
  by_cases h2 : x.1 = 52
  ·rw [h2]; rfl
  ·rw [q1a h2, cond_false] at h
   by_cases h3 : x.1 = 53
   ·rw [h3]; rfl
   ·rw [q1a h3, cond_false] at h
    by_cases h4 : x.1 = 54
    ·rw [h4]; rfl
    ·rw [q1a h4] at h; cases h
end Fn
end Ev

namespace Ev
open Go
namespace Fn
theorem qh3 {m odd : Bool} : ∀ f : F, errF m true odd f = 0 → f.flat.all patP = true
 | .nil, _ => rfl
 | .cons k t n ks r, h => by
  obtain ⟨h1, h2⟩ := errF_ok.1 h
  rw [Bool.true_or] at h1
  obtain ⟨h3, h4⟩ := errT_ok.1 h1
  obtain ⟨_, h5, _⟩ := nodeE_zero.1 h3
  show ((k, t, n, (ks.cnt : Int)) :: (ks.flat ++ r.flat)).all patP = true
  rw [List.all_cons, List.all_append, qh3 ks h4, qh3 r h2, Bool.and_true, Bool.and_true]
  exact h5
termination_by structural f => f
theorem qy2 {k : Int} {t : Tx} {n : Int} {ks : F} (h : chkT k t n ks true = 0) : (tr k t n ks).flat.all patP = true := by
 obtain ⟨_, h2, _⟩ := chkT_ok.1 h
 obtain ⟨h3, h4⟩ := errT_ok.1 h2
 obtain ⟨_, h5, _⟩ := nodeE_zero.1 h3
 rw [q6g, List.all_cons, qh3 ks h4, Bool.and_true]
 exact h5
def isP (p : List ND) : Prop := ∃ k t n ks, p = (tr k t n ks).flat ∧ chkT k t n ks true = 0
theorem qn9 (p : List ND) (hp : p.length ≤ 4000) (hg : GL p) : ∃ e : Int, (∀ b, f_ea (⟨b, p⟩, ()) = some (e, ())) ∧ (∀ b, f_c8 (⟨b, p⟩, true, ()) = some (e, ())) ∧ (e = 0 ↔ isP p) := by
 rcases qxs p with h | ⟨k, t, n, ks, h⟩
 ·refine ⟨60, fun b => qv1 b p hp h, fun b => ql3 b p hp true h, fun e => by omega, fun ⟨k, t, n, ks, e, _⟩ => ?_⟩
  rw [(q31 p).2 ⟨k, t, n, ks, e⟩] at h; cases h
 ·subst h
  rw [q0v] at hp
  refine ⟨chkT k t n ks true, fun b => qv0 b k t n ks hp hg, fun b => ql2 b k t n ks true hp hg, fun e => ⟨k, t, n, ks, rfl, e⟩, fun ⟨k', t', n', ks', e, h⟩ => ?_⟩
  obtain ⟨u1, u2, u3, u4⟩ := qjb e
  subst u1 u2 u3 u4
  exact h
def qy3 (L : List DD) (T p : List ND) : Prop := ∃ k t n ks, p = (tr k t n ks).flat ∧ chkT k t n ks true = 0 ∧ ofF L (tr k t n ks) [T] = true
def qzy (L : List DD) (T v : List ND) : Prop := ∃ k t n ks, v = (tr k t n ks).flat ∧ q92 v = true ∧ ofF L (tr k t n ks) [T] = true
theorem q7d {L : List DD} (h : q8b L = true) : L.all q1x = true ∧ dupL (L.map fun d => d.1) = false ∧ dupL (q3x L) = false ∧ L.length ≤ 60 := by
 unfold q8b at h
 simp only [Bool.and_eq_true, Bool.not_eq_true'] at h
 exact ⟨h.2.1, h.2.2.1, h.2.2.2.1, of_decide_eq_true h.1⟩
theorem qzz (s : Sl DD) (hL : GD s.l) (hok : s.l.all q1x = true) (k : Int) (t : Tx) (n : Int) (ks : F) (hs : ks.size + 1 ≤ 4000) (hP : (tr k t n ks).flat.all patP = true) (T : SN) (hT : q2w T.l = true) (b : Bool) :
  f_bk (s, T, ⟨b, (tr k t n ks).flat⟩, ()) = some (ofF s.l (tr k t n ks) [T.l], ()) :=
 q3z (ks.size + 1) fun N hN => of_N s hL hok (ks.size + 1) k t n ks (Nat.le_refl _) hs hP T b hT N hN
theorem qz7 (s : Sl DD) (hL : GD s.l) (hok : s.l.all q1x = true) (k : Int) (t : Tx) (n : Int) (ks : F) (hs : ks.size + 1 ≤ 4000) (hP : (tr k t n ks).flat.all valP = true) (T : SN) (hT : q2w T.l = true) (b : Bool) :
  f_bh (s, T, ⟨b, (tr k t n ks).flat⟩, ()) = some (ofF s.l (tr k t n ks) [T.l], ()) :=
 q3z (ks.size + 1) fun N hN => qzw s hL hok (ks.size + 1) k t n ks (Nat.le_refl _) hs hP T b hT N hN
theorem qw1 (s : Sl DD) (hL : GD s.l) (hok : s.l.all q1x = true) (hn : dupL (s.l.map fun d => d.1) = false) (k : Int) (t : Tx) (n : Int) (ks : F) (hs : ks.size + 1 ≤ 4000) (T : SN) (hT : q2w T.l = true) (b : Bool) :
  f_cz (s, T, ⟨b, (tr k t n ks).flat⟩, 0, ()) = some (ofF s.l (tr k t n ks) [T.l], ()) :=
 q3z (ks.size + 1) fun N hN => qzx s hL hok hn b _ (by rw [q0v]; exact hs) (ks.size + 1) 0 k t n ks (Nat.le_refl _) (q36 k t n ks) T hT N hN
theorem qb7 (L : List DD) (hL : GD L) (T : List ND) (hT : T.length ≤ 10000) (hTg : GL T) (p : List ND) (hp : p.length ≤ 4000) (hg : GL p) :
  ∃ c : Bool, (∀ b0 b b', f_av (⟨b0, L⟩, ⟨b, T⟩, ⟨b', p⟩, ()) = some (bif c then 0 else 120, ())) ∧ (∀ b0 b b', f_cu (⟨b0, L⟩, ⟨b, T⟩, ⟨b', p⟩, ()) = some (c, ())) ∧ (c = true ↔ q8b L = true ∧ q2w T = true ∧ qy3 L T p) := by
 obtain ⟨e, e1, e2, e3⟩ := qn9 p hp hg
 have d1 : ∀ b0, f_a0 ((⟨b0, L⟩ : Sl DD), ()) = some (qec L, ()) := fun b0 => q8z ⟨b0, L⟩ hL
 have d2 : ∀ b0, f_cm ((⟨b0, L⟩ : Sl DD), ()) = some (qec L, ()) := fun b0 => qbq ⟨b0, L⟩ hL
 have t1 := fun b => q4s b T hT hTg
 have t2 := fun b => q8x b T hT hTg
 cases hd : q8b L with
 | false =>
  have hd' := qc5 L
  rw [hd] at hd'
  refine ⟨false, fun b0 b b' => ?_, fun b0 b b' => ?_, fun h => (by cases h), fun h => (by cases h.1)⟩
  ·rw [u_av, d1]; simp only [q00, hd', nF, q03, cond_false]
  ·rw [u_cu, d2]; simp only [q00, hd', q01]
 | true =>
  have hd' := qc5 L
  rw [hd] at hd'
  cases ht : q2w T with
  | false =>
   refine ⟨false, fun b0 b b' => ?_, fun b0 b b' => ?_, fun h => (by cases h), fun h => (by cases h.2.1)⟩
   ·rw [u_av, d1, t1, ht]; simp only [q00, hd', nT, q01, cond_false]; rfl
   ·rw [u_cu, d2, t2, ht]; simp only [q00, hd', q03, q01]
  | true =>
   by_cases he : e = 0
   ·obtain ⟨k, t, n, ks, hp1, hp2⟩ := e3.1 he
    subst hp1 he
    rw [q0v] at hp
    obtain ⟨q1, q2, q3, q4⟩ := q7d hd
    have o1 := fun b0 b b' => qzz (⟨b0, L⟩ : Sl DD) hL q1 k t n ks hp (qy2 hp2) (⟨b, T⟩ : SN) ht b'
    have o2 := fun b0 b b' => qw1 (⟨b0, L⟩ : Sl DD) hL q1 q2 k t n ks hp (⟨b, T⟩ : SN) ht b'
    refine ⟨ofF L (tr k t n ks) [T], fun b0 b b' => ?_, fun b0 b b' => ?_, fun h => ⟨rfl, rfl, k, t, n, ks, rfl, hp2, h⟩, fun ⟨_, _, k', t', n', ks', h1, _, h3⟩ => ?_⟩
    ·rw [u_av, d1, t1, ht, e1, o1]
     simp only [q00, hd', nT, q01, cond_true, e00]
     cases ofF L (tr k t n ks) [T] <;> rfl
    ·rw [u_cu, d2, t2, ht, e2, o2]
     simp only [q00, hd', q03, e00]
    ·obtain ⟨u1, u2, u3, u4⟩ := qjb h1
     subst u1 u2 u3 u4
     exact h3
   ·refine ⟨false, fun b0 b b' => ?_, fun b0 b b' => ?_, fun h => (by cases h), fun ⟨_, _, k', t', n', ks', h1, h2, _⟩ => absurd (e3.2 ⟨k', t', n', ks', h1, h2⟩) he⟩
    ·rw [u_av, d1, t1, ht, e1]
     simp only [q00, hd', nT, q01, cond_true, e00, q1a he, nF, q03, cond_false]
    ·rw [u_cu, d2, t2, ht, e2]
     simp only [q00, hd', q03, q01, q1a he]
theorem qh4 {v : List ND} (h : q92 v = true) : ∃ k t n ks, v = (tr k t n ks).flat ∧ ks.size + 1 ≤ 4000 ∧ v.all valN = true := by
 unfold q92 at h
 rw [Bool.and_eq_true, Bool.and_eq_true] at h
 obtain ⟨k, t, n, ks, e⟩ := (q31 v).1 h.2.1
 refine ⟨k, t, n, ks, e, ?_, h.2.2⟩
 have := of_decide_eq_true h.1
 rw [e, q0v] at this
 exact this
theorem qna (L : List DD) (hL : GD L) (T : List ND) (hT : T.length ≤ 10000) (hTg : GL T) (v : List ND) (hv : v.length ≤ 4000) (hg : GL v) :
  ∃ c : Bool, (∀ b0 b b', f_ay (⟨b0, L⟩, ⟨b, T⟩, ⟨b', v⟩, ()) = some (c, ())) ∧ (∀ b0 b b', f_cx (⟨b0, L⟩, ⟨b, T⟩, ⟨b', v⟩, ()) = some (c, ())) ∧ (c = true ↔ q8b L = true ∧ q2w T = true ∧ qzy L T v) := by
 have d1 : ∀ b0, f_a0 ((⟨b0, L⟩ : Sl DD), ()) = some (qec L, ()) := fun b0 => q8z ⟨b0, L⟩ hL
 have d2 : ∀ b0, f_cm ((⟨b0, L⟩ : Sl DD), ()) = some (qec L, ()) := fun b0 => qbq ⟨b0, L⟩ hL
 have t1 := fun b => q4s b T hT hTg
 have t2 := fun b => q8x b T hT hTg
 have v1 := fun b => qdw b v (by omega) hg
 have v2 := fun b => q93 b v (by omega) hg
 have hd' := qc5 L
 cases hd : q8b L with
 | false =>
  rw [hd] at hd'
  refine ⟨false, fun b0 b b' => ?_, fun b0 b b' => ?_, fun h => (by cases h), fun h => (by cases h.1)⟩
  ·rw [u_ay, d1]; simp only [q00, hd', q01]
  ·rw [u_cx, d2]; simp only [q00, hd', q01]
 | true =>
  rw [hd] at hd'
  cases ht : q2w T with
  | false =>
   refine ⟨false, fun b0 b b' => ?_, fun b0 b b' => ?_, fun h => (by cases h), fun h => (by cases h.2.1)⟩
   ·rw [u_ay, d1, t1, ht]; simp only [q00, hd', q03, cond_false]; rfl
   ·rw [u_cx, d2, t2, ht]; simp only [q00, hd', q03, q01]
  | true =>
   cases he : q92 v with
   | true =>
    obtain ⟨k, t, n, ks, hp1, hp, hall⟩ := qh4 he
    subst hp1
    obtain ⟨q1, q2, q3, q4⟩ := q7d hd
    have hP : (tr k t n ks).flat.all valP = true := List.all_eq_true.2 fun x hx => qz6 (List.all_eq_true.1 hall x hx)
    have o1 := fun b0 b b' => qz7 (⟨b0, L⟩ : Sl DD) hL q1 k t n ks hp hP (⟨b, T⟩ : SN) ht b'
    have o2 := fun b0 b b' => qw1 (⟨b0, L⟩ : Sl DD) hL q1 q2 k t n ks hp (⟨b, T⟩ : SN) ht b'
    refine ⟨ofF L (tr k t n ks) [T], fun b0 b b' => ?_, fun b0 b b' => ?_, fun h => ⟨rfl, rfl, k, t, n, ks, rfl, he, h⟩, fun ⟨_, _, k', t', n', ks', h1, _, h3⟩ => ?_⟩
    ·rw [u_ay, d1, t1, ht, v1, he, o1]
     simp only [q00, hd', q03, cond_true, e00]
    ·rw [u_cx, d2, t2, ht, v2, he, o2]
     simp only [q00, hd', q03]
    ·obtain ⟨u1, u2, u3, u4⟩ := qjb h1
     subst u1 u2 u3 u4
     exact h3
   | false =>
    refine ⟨false, fun b0 b b' => ?_, fun b0 b b' => ?_, fun h => (by cases h), fun ⟨_, _, k', t', n', ks', _, h2, _⟩ => by rw [he] at h2; cases h2⟩
    ·rw [u_ay, d1, t1, ht, v1, he]
     simp only [q00, hd', q03, q01, cond_true, e00]
    ·rw [u_cx, d2, t2, ht, v2, he]
     simp only [q00, hd', q03, q01]
end Fn
end Ev

namespace Ev
open Go
namespace Fn
theorem q4a (n : Bool) (l : List ND) (hl : l.length ≤ 1000000) : q0j (⟨n, l⟩, ()) = some (⟨false, l⟩, ()) := by
 have hf : fit (sumI (lenI ([] : List ND)) (lenI l)) = some () := q0u (by show 0 + l.length ≤ _; omega)
 rw [qkt, hf, q00, q7w]
 rfl
def fewN (m : Nat) (l : List ND) : Prop := l.length ≤ m ∧ ∀ x, x ∈ l → x.2.1.length ≤ 60
theorem z00 {k : Nat} (h : k < 9223372036854775807) : addI .i64 (k : Int) 1 = ((k + 1 : Nat) : Int) := by rw [q9u (by omega) (by omega)]; omega
theorem qvd (a : Sl SN) {i : Nat} {t : SN} (ht : a.l[i]? = some t) (hi : i < 9223372036854775807) :
  ∃ r, loopR l1_cv (a, (i : Int), 0, ()) = some r ∧ (r = .inr (false, ()) ∨ (r = .inl (a, ((i + 1 : Nat) : Int), ()) ∧ fewN 30 t.l)) := by
 refine q4o (f := l1_cv) (I := fun s => ∃ k : Nat, s = (a, (i : Int), (k : Int), ()) ∧ k ≤ 31 ∧ ∀ j x, j < k → t.l[j]? = some x → x.2.1.length ≤ 60) (fun s => (31 - s.2.2.1).toNat) ?_ _ ⟨0, rfl, by omega, fun j x h => by omega⟩
 rintro s ⟨k, rfl, hk, hb⟩
 have hat := q06 ht
 by_cases h1 : k < t.l.length ∧ k < 31
 ·obtain ⟨x, hx⟩ : ∃ x, t.l[k]? = some x := ⟨_, List.getElem?_eq_getElem h1.1⟩
  have c1 : ltI (k : Int) (lenI t.l) = true := ltG hx
  have c2 : ltI (k : Int) 31 = true := decide_eq_true (by omega)
  cases h2 : ltI 60 (lenI x.2.1) with
  | true =>
   refine .inr ⟨.inr (false, ()), ?_, .inl rfl⟩
   unfold l1_cv
   simp only [hat, q00, c1, c2, q03, q06 hx, h2]
  | false =>
   refine .inl ⟨(a, (i : Int), ((k + 1 : Nat) : Int), ()), ?_, ⟨k + 1, rfl, by omega, fun j y hj hy => ?_⟩, by simp only; omega⟩
   ·unfold l1_cv
    simp only [hat, q00, c1, c2, q03, q06 hx, h2, q01, add1 (show k ≤ 1000000000 by omega)]
   ·by_cases e : j = k
    ·subst e
     rw [hx] at hy; injection hy with hy; subst hy
     have := of_decide_eq_false h2
     unfold lenI at this; omega
    ·exact hb j y (by omega) hy
 ·refine .inr ?_
  have hc : (cnd (ltI (k : Int) (lenI t.l)) (some (ltI (k : Int) 31)) (some false) : Option Bool) = some false := by
   by_cases e : k < t.l.length
   ·have : ltI (k : Int) 31 = false := decide_eq_false (by omega)
    rw [this]; cases ltI (k : Int) (lenI t.l) <;> rfl
   ·have : ltI (k : Int) (lenI t.l) = false := decide_eq_false (by unfold lenI; omega)
    rw [this]; rfl
  cases h3 : ltI 30 (lenI t.l) with
  | true =>
   refine ⟨.inr (false, ()), ?_, .inl rfl⟩
   unfold l1_cv
   simp only [hat, q00, hc, q01, h3, q03]
  | false =>
   have hlen : t.l.length ≤ 30 := by have := of_decide_eq_false h3; unfold lenI at this; omega
   refine ⟨.inl (a, ((i + 1 : Nat) : Int), ()), ?_, .inr ⟨rfl, hlen, fun x hx => ?_⟩⟩
   ·unfold l1_cv
    simp only [hat, q00, hc, q01, h3, z00 hi]
   ·obtain ⟨j, hj, e⟩ := List.getElem_of_mem hx
    exact hb j x (by omega) (by rw [List.getElem?_eq_getElem hj, e])
theorem q80 (a : Sl SN) (ha : a.l.length ≤ 9223372036854775807) : ∃ c, f_cv (a, ()) = some (c, ()) ∧ (c = true → a.l.length ≤ 8 ∧ ∀ t, t ∈ a.l → fewN 30 t.l) := by
 rw [u_cv]
 have := q4o (f := l2_cv) (I := fun s => ∃ k : Nat, s = (a, (k : Int), ()) ∧ k ≤ a.l.length ∧ ∀ j t, j < k → a.l[j]? = some t → fewN 30 t.l) (Q := fun r => ∃ c, r = (c, ()) ∧ (c = true → a.l.length ≤ 8 ∧ ∀ t, t ∈ a.l → fewN 30 t.l)) (fun s => ((a.l.length : Int) - s.2.1).toNat) ?_ (a, 0, ()) ⟨0, rfl, by omega, fun j x h => by omega⟩
 ·obtain ⟨r, h1, c, h2, h3⟩ := this
  exact ⟨c, by rw [h1, h2], h3⟩
 ·rintro s ⟨k, rfl, hk, hb⟩
  by_cases h1 : k < a.l.length
  ·obtain ⟨t, ht⟩ : ∃ t, a.l[k]? = some t := ⟨_, List.getElem?_eq_getElem h1⟩
   obtain ⟨r, e, h⟩ := qvd a ht (by omega)
   rcases h with h | ⟨h, hf⟩
   ·subst h
    refine .inr ⟨(false, ()), ?_, false, rfl, fun h => by cases h⟩
    unfold l2_cv
    simp only [ltG ht, q03, e]
   ·subst h
    refine .inl ⟨(a, ((k + 1 : Nat) : Int), ()), ?_, ⟨k + 1, rfl, by omega, fun j y hj hy => ?_⟩, by simp only; omega⟩
    ·unfold l2_cv
     simp only [ltG ht, q03, e]
    ·by_cases e : j = k
     ·subst e; rw [ht] at hy; injection hy with hy; rw [← hy]; exact hf
     ·exact hb j y (by omega) hy
  ·have hk2 : k = a.l.length := by omega
   subst hk2
   refine .inr ⟨(leI (lenI a.l) 8, ()), ?_, _, rfl, fun h => ?_⟩
   ·unfold l2_cv
    simp only [ltE, q01]
   ·have := of_decide_eq_true h
    refine ⟨by unfold lenI at this; omega, fun t ht => ?_⟩
    obtain ⟨j, hj, e⟩ := List.getElem_of_mem ht
    exact hb j t hj (by rw [List.getElem?_eq_getElem hj, e])
end Fn
end Ev

namespace Ev
open Go
namespace Fn
def fewC (c : CT) : Prop := c.1.length ≤ 60 ∧ c.2.l.length ≤ 10 ∧ ∀ t, t ∈ c.2.l → fewN 60 t.l
def fewD (d : DD) : Prop := d.1.length ≤ 60 ∧ d.2.2.l.length ≤ 70 ∧ ∀ c, c ∈ d.2.2.l → fewC c
theorem few1 (s : Sl DD) (n : Int) (i k : Int) (m : Nat) (hm : m ≤ 1000000) (cn : Tx) (as : Sl SN) {t : SN} (ht : as.l[m]? = some t) :
  ∃ r, loopR l1_cn (s, n, i, k, (m : Int), 0, cn, as, ()) = some r ∧ (r = .inr (.inr (.inr (false, ()))) ∨ (r = .inl (s, n, i, k, ((m + 1 : Nat) : Int), cn, as, ()) ∧ n ≤ 300 ∧ fewN 60 t.l)) := by
 refine q4o (f := l1_cn) (I := fun z => ∃ h : Nat, z = (s, n, i, k, (m : Int), (h : Int), cn, as, ()) ∧ h ≤ 61 ∧ ∀ j x, j < h → t.l[j]? = some x → x.2.1.length ≤ 60) (fun z => (61 - z.2.2.2.2.2.1).toNat) ?_ _ ⟨0, rfl, by omega, fun j x h => by omega⟩
 rintro z ⟨h, rfl, hk, hb⟩
 have hat := q06 ht
 by_cases h1 : h < t.l.length ∧ h < 61
 ·obtain ⟨x, hx⟩ : ∃ x, t.l[h]? = some x := ⟨_, List.getElem?_eq_getElem h1.1⟩
  have c1 : ltI (h : Int) (lenI t.l) = true := ltG hx
  have c2 : ltI (h : Int) 61 = true := decide_eq_true (by omega)
  cases h2 : ltI 60 (lenI x.2.1) with
  | true =>
   refine .inr ⟨.inr (.inr (.inr (false, ()))), ?_, .inl rfl⟩
   unfold l1_cn
   simp only [hat, q00, c1, c2, q03, q06 hx, h2]
  | false =>
   refine .inl ⟨(s, n, i, k, (m : Int), ((h + 1 : Nat) : Int), cn, as, ()), ?_, ⟨h + 1, rfl, by omega, fun j y hj hy => ?_⟩, by simp only; omega⟩
   ·unfold l1_cn
    simp only [hat, q00, c1, c2, q03, q06 hx, h2, q01, add1 (show h ≤ 1000000000 by omega)]
   ·by_cases e : j = h
    ·subst e
     rw [hx] at hy; injection hy with hy; subst hy
     have := of_decide_eq_false h2
     unfold lenI at this; omega
    ·exact hb j y (by omega) hy
 ·refine .inr ?_
  have hc : (cnd (ltI (h : Int) (lenI t.l)) (some (ltI (h : Int) 61)) (some false) : Option Bool) = some false := by
   by_cases e : h < t.l.length
   ·have : ltI (h : Int) 61 = false := decide_eq_false (by omega)
    rw [this]; cases ltI (h : Int) (lenI t.l) <;> rfl
   ·have : ltI (h : Int) (lenI t.l) = false := decide_eq_false (by unfold lenI; omega)
    rw [this]; rfl
  cases h3 : ltI 60 (lenI t.l) with
  | true =>
   refine ⟨.inr (.inr (.inr (false, ()))), ?_, .inl rfl⟩
   unfold l1_cn
   simp only [hat, q00, hc, q01, h3, q03]
  | false =>
   cases h4 : ltI 300 n with
   | true =>
    refine ⟨.inr (.inr (.inr (false, ()))), ?_, .inl rfl⟩
    unfold l1_cn
    simp only [hat, q00, hc, q01, h3, h4, q03]
   | false =>
    have hlen : t.l.length ≤ 60 := by have := of_decide_eq_false h3; unfold lenI at this; omega
    have hn : ¬ (300 : Int) < n := of_decide_eq_false h4
    refine ⟨.inl (s, n, i, k, ((m + 1 : Nat) : Int), cn, as, ()), ?_, .inr ⟨rfl, by omega, hlen, fun x hx => ?_⟩⟩
    ·unfold l1_cn
     simp only [hat, q00, hc, q01, h3, h4, add1 (show m ≤ 1000000000 by omega)]
    ·obtain ⟨j, hj, e⟩ := List.getElem_of_mem hx
     exact hb j x (by omega) (by rw [List.getElem?_eq_getElem hj, e])
theorem few2 (s : Sl DD) (n : Int) (hn : 0 ≤ n ∧ n ≤ 300) (i : Int) (k : Nat) (hk : k ≤ 1000000) (cn : Tx) (as : Sl SN) (ha : as.l.length ≤ 10) :
  ∃ r, loopR l2_cn (s, n, i, (k : Int), 0, cn, as, ()) = some r ∧ (r = .inr (.inr (false, ())) ∨ ∃ n', r = .inl (s, n', i, ((k + 1 : Nat) : Int), ()) ∧ 0 ≤ n' ∧ n' ≤ 300 ∧ ∀ t, t ∈ as.l → fewN 60 t.l) := by
 refine q4o (f := l2_cn) (I := fun z => ∃ (n' : Int) (m : Nat), z = (s, n', i, (k : Int), (m : Int), cn, as, ()) ∧ 0 ≤ n' ∧ n' ≤ 300 ∧ m ≤ as.l.length ∧ ∀ j t, j < m → as.l[j]? = some t → fewN 60 t.l) (fun z => ((as.l.length : Int) - z.2.2.2.2.1).toNat) ?_ _ ⟨n, 0, rfl, hn.1, hn.2, Nat.zero_le _, fun j x h => by omega⟩
 rintro z ⟨n', m, rfl, g1, g2, g3, hb⟩
 by_cases h1 : m < as.l.length
 ·obtain ⟨t, ht⟩ : ∃ t, as.l[m]? = some t := ⟨_, List.getElem?_eq_getElem h1⟩
  obtain ⟨r, e, h⟩ := few1 s (addI .i64 n' (lenI t.l)) i (k : Int) m (by omega) cn as ht
  rcases h with h | ⟨h, hf0, hf⟩
  ·subst h
   refine .inr ⟨.inr (.inr (false, ())), ?_, .inl rfl⟩
   unfold l2_cn
   simp only [ltG ht, q03, q06 ht, q00, e]
  ·subst h
   have hft := hf.1
   have hadd : addI .i64 n' (lenI t.l) = n' + (t.l.length : Int) := q9u (by unfold lenI; omega) (by unfold lenI; omega)
   refine .inl ⟨(s, addI .i64 n' (lenI t.l), i, (k : Int), ((m + 1 : Nat) : Int), cn, as, ()), ?_, ⟨_, m + 1, rfl, by rw [hadd]; omega, hf0, by omega, fun j y hj hy => ?_⟩, by simp only; omega⟩
   ·unfold l2_cn
    simp only [ltG ht, q03, q06 ht, q00, e]
   ·by_cases e : j = m
    ·subst e; rw [ht] at hy; injection hy with hy; rw [← hy]; exact hf
    ·exact hb j y (by omega) hy
 ·obtain rfl : m = as.l.length := by omega
  refine .inr ⟨.inl (s, n', i, ((k + 1 : Nat) : Int), ()), ?_, .inr ⟨n', rfl, g1, g2, fun t ht => ?_⟩⟩
  ·unfold l2_cn
   simp only [ltE, q01, add1 (show k ≤ 1000000000 by omega)]
  ·obtain ⟨j, hj, e⟩ := List.getElem_of_mem ht
   exact hb j t hj (by rw [List.getElem?_eq_getElem hj, e])
theorem few3 (s : Sl DD) (n : Int) (hn : 0 ≤ n ∧ n ≤ 300) {i : Nat} {d : DD} (hd : s.l[i]? = some d) (hi : i ≤ 1000000) (hc70 : d.2.2.l.length ≤ 70) :
  ∃ r, loopR l3_cn (s, n, (i : Int), 0, ()) = some r ∧ (r = .inr (false, ()) ∨ ∃ n', r = .inl (s, n', ((i + 1 : Nat) : Int), ()) ∧ 0 ≤ n' ∧ n' ≤ 300 ∧ ∀ c, c ∈ d.2.2.l → fewC c) := by
 refine q4o (f := l3_cn) (I := fun z => ∃ (n' : Int) (k : Nat), z = (s, n', (i : Int), (k : Int), ()) ∧ 0 ≤ n' ∧ n' ≤ 300 ∧ k ≤ d.2.2.l.length ∧ ∀ j c, j < k → d.2.2.l[j]? = some c → fewC c) (fun z => ((d.2.2.l.length : Int) - z.2.2.2.1).toNat) ?_ _ ⟨n, 0, rfl, hn.1, hn.2, Nat.zero_le _, fun j x h => by omega⟩
 rintro z ⟨n', k, rfl, g1, g2, g3, hb⟩
 by_cases h1 : k < d.2.2.l.length
 ·obtain ⟨c, hc⟩ : ∃ c, d.2.2.l[k]? = some c := ⟨_, List.getElem?_eq_getElem h1⟩
  cases q1 : ltI 60 (lenI c.1) with
  | true =>
   refine .inr ⟨.inr (false, ()), ?_, .inl rfl⟩
   unfold l3_cn
   simp only [q06 hd, ltG hc, q03, q06 hc, q00, q1]
  | false =>
   cases q2 : ltI 10 (lenI c.2.l) with
   | true =>
    refine .inr ⟨.inr (false, ()), ?_, .inl rfl⟩
    unfold l3_cn
    simp only [q06 hd, ltG hc, q03, q06 hc, q00, q1, q2, q01]
   | false =>
    have l1 : c.1.length ≤ 60 := by have := of_decide_eq_false q1; unfold lenI at this; omega
    have l2 : c.2.l.length ≤ 10 := by have := of_decide_eq_false q2; unfold lenI at this; omega
    obtain ⟨r, e, h⟩ := few2 s n' ⟨g1, g2⟩ (i : Int) k (by omega) c.1 c.2 l2
    rcases h with h | ⟨n2, h, hf1, hf2, hf⟩
    ·subst h
     refine .inr ⟨.inr (false, ()), ?_, .inl rfl⟩
     unfold l3_cn
     simp only [q06 hd, ltG hc, q03, q06 hc, q00, q1, q2, q01, e]
    ·subst h
     refine .inl ⟨(s, n2, (i : Int), ((k + 1 : Nat) : Int), ()), ?_, ⟨_, k + 1, rfl, hf1, hf2, by omega, fun j y hj hy => ?_⟩, by simp only; omega⟩
     ·unfold l3_cn
      simp only [q06 hd, ltG hc, q03, q06 hc, q00, q1, q2, q01, e]
     ·by_cases e : j = k
      ·subst e; rw [hc] at hy; injection hy with hy; rw [← hy]; exact ⟨l1, l2, hf⟩
      ·exact hb j y (by omega) hy
 ·obtain rfl : k = d.2.2.l.length := by omega
  refine .inr ⟨.inl (s, n', ((i + 1 : Nat) : Int), ()), ?_, .inr ⟨n', rfl, g1, g2, fun t ht => ?_⟩⟩
  ·unfold l3_cn
   simp only [q06 hd, q00, ltE, q01, add1 (show i ≤ 1000000000 by omega)]
  ·obtain ⟨j, hj, e⟩ := List.getElem_of_mem ht
   exact hb j t hj (by rw [List.getElem?_eq_getElem hj, e])
theorem qpb (s : Sl DD) : ∃ c, f_cn (s, ()) = some (c, ()) ∧ (c = true → s.l.length ≤ 70 ∧ ∀ d, d ∈ s.l → fewD d) := by
 rw [u_cn]
 cases q0 : ltI 70 (lenI s.l) with
 | true => exact ⟨false, rfl, fun h => by cases h⟩
 | false =>
  have l0 : s.l.length ≤ 70 := by have := of_decide_eq_false q0; unfold lenI at this; omega
  rw [q01]
  have := q4o (f := l4_cn) (I := fun z => ∃ (n' : Int) (i : Nat), z = (s, n', (i : Int), ()) ∧ 0 ≤ n' ∧ n' ≤ 300 ∧ i ≤ s.l.length ∧ ∀ j d, j < i → s.l[j]? = some d → fewD d) (Q := fun r => ∃ c, r = (c, ()) ∧ (c = true → s.l.length ≤ 70 ∧ ∀ d, d ∈ s.l → fewD d))
   (fun z => ((s.l.length : Int) - z.2.2.1).toNat) ?_ (s, 0, 0, ()) ⟨0, 0, rfl, by omega, by omega, Nat.zero_le _, fun j x h => by omega⟩
  ·obtain ⟨r, h1, c, h2, h3⟩ := this
   exact ⟨c, by rw [h1, h2], h3⟩
  ·rintro z ⟨n', i, rfl, g1, g2, g3, hb⟩
   by_cases h1 : i < s.l.length
   ·obtain ⟨d, hd⟩ : ∃ d, s.l[i]? = some d := ⟨_, List.getElem?_eq_getElem h1⟩
    cases q1 : ltI 70 (lenI d.2.2.l) with
    | true =>
     refine .inr ⟨(false, ()), ?_, false, rfl, fun h => by cases h⟩
     unfold l4_cn
     simp only [q06 hd, ltG hd, q03, q00, q1]
    | false =>
     cases q2 : ltI 60 (lenI d.1) with
     | true =>
      refine .inr ⟨(false, ()), ?_, false, rfl, fun h => by cases h⟩
      unfold l4_cn
      simp only [q06 hd, ltG hd, q03, q00, q1, q2, q01]
     | false =>
      have l1 : d.2.2.l.length ≤ 70 := by have := of_decide_eq_false q1; unfold lenI at this; omega
      have l2 : d.1.length ≤ 60 := by have := of_decide_eq_false q2; unfold lenI at this; omega
      obtain ⟨r, e, h⟩ := few3 s n' ⟨g1, g2⟩ hd (by omega) l1
      rcases h with h | ⟨n2, h, hf1, hf2, hf⟩
      ·subst h
       refine .inr ⟨(false, ()), ?_, false, rfl, fun h => by cases h⟩
       unfold l4_cn
       simp only [q06 hd, ltG hd, q03, q00, q1, q2, q01, e]
      ·subst h
       refine .inl ⟨(s, n2, ((i + 1 : Nat) : Int), ()), ?_, ⟨_, i + 1, rfl, hf1, hf2, by omega, fun j y hj hy => ?_⟩, by simp only; omega⟩
       ·unfold l4_cn
        simp only [q06 hd, ltG hd, q03, q00, q1, q2, q01, e]
       ·by_cases e : j = i
        ·subst e; rw [hd] at hy; injection hy with hy; rw [← hy]; exact ⟨l2, l1, hf⟩
        ·exact hb j y (by omega) hy
   ·obtain rfl : i = s.l.length := by omega
    refine .inr ⟨(true, ()), ?_, true, rfl, fun _ => ⟨l0, fun t ht => ?_⟩⟩
    ·unfold l4_cn
     simp only [ltE, q01]
    ·obtain ⟨j, hj, e⟩ := List.getElem_of_mem ht
     exact hb j t hj (by rw [List.getElem?_eq_getElem hj, e])
end Fn
end Ev

namespace Ev
open Go
namespace Fn
def gW (s : Tx) : Prop := ∀ b, b ∈ s → 0 ≤ b ∧ b ≤ 255
def gND (x : ND) : Prop := gW x.2.1 ∧ rng x.2.2.1
def gL (l : List ND) : Prop := ∀ x, x ∈ l → gND x
def gDin (L : List DD) : Prop := ∀ d, d ∈ L → gW d.1 ∧ ∀ c, c ∈ d.2.2.l → gW c.1 ∧ ∀ t, t ∈ c.2.l → gL t.l
theorem q8c {m : Nat} {l : List ND} (hg : gL l) (hf : fewN m l) : GL l := fun x hx => ⟨(hg x hx).1, by have := hf.2 x hx; omega, (hg x hx).2⟩
theorem qz8 {L : List DD} (hg : gDin L) (hl : L.length ≤ 70) (hf : ∀ d, d ∈ L → fewD d) : GD L := by
 refine ⟨by omega, fun d hd => ?_⟩
 obtain ⟨f1, f2, f3⟩ := hf d hd
 obtain ⟨g1, g2⟩ := hg d hd
 refine ⟨⟨g1, by omega⟩, by omega, fun c hc => ?_⟩
 obtain ⟨f4, f5, f6⟩ := f3 c hc
 obtain ⟨g3, g4⟩ := g2 c hc
 refine ⟨⟨g3, by omega⟩, by omega, fun t ht => ⟨q8c (g4 t ht) (f6 t ht), ?_⟩⟩
 have := (f6 t ht).1
 omega
theorem qw2 (s : Sl DD) (hg : gDin s.l) (t : SN) (a : Sl SN) (ha : a.l.length ≤ 9223372036854775807) : ∃ c, q2v (s, t, a, ()) = some (c, ()) ∧ (c = true → GD s.l ∧ fewN 30 t.l ∧ a.l.length ≤ 6 ∧ ∀ p, p ∈ a.l → fewN 30 p.l) := by
 obtain ⟨c1, e1, h1⟩ := qpb s
 obtain ⟨c2, e2, h2⟩ := q80 ⟨false, [t]⟩ (by show 1 ≤ _; omega)
 obtain ⟨c3, e3, h3⟩ := q80 a ha
 refine ⟨c1 && (leI (lenI s.l) 10 && (c2 && (c3 && leI (lenI a.l) 6))), ?_, fun h => ?_⟩
 ·rw [qks, e1]
  simp only [q00, e2, e3]
  cases c1 <;> cases leI (lenI s.l) 10 <;> cases c2 <;> cases c3 <;> rfl
 ·simp only [Bool.and_eq_true] at h
  obtain ⟨q1, q2, q3, q4, q5⟩ := h
  obtain ⟨g1, g2⟩ := h1 q1
  have q5 := of_decide_eq_true q5
  exact ⟨qz8 hg g1 g2, (h2 q3).2 t (List.mem_cons_self ..), by unfold lenI at q5; omega, (h3 q4).2⟩
theorem fitD (L : List DD) (hL : L.length ≤ 1000) : fit (sumI (lenI ([] : List DD)) (lenI L)) = some () := q0u (by show 0 + L.length ≤ _; omega)
end Fn
end Ev

namespace Ev
open Go
namespace Fn
abbrev NM := List (Tx × List ND)
def q39 : F → F → Option NM
 | .nil, _ => some []
 | .cons _ _ _ _ _, .nil => none
 | .cons k t n ks r, .cons k' t' n' ks' r' =>
  match (bif eqI k 21 then some [] else bif eqI k 22 then some [(t, (tr k' t' n' ks').flat)] else bif eqI k 23 then (bif eqI k' 51 && eqI n' n then some [] else none) else
   bif eqI k' 53 && (eqS t' t && decide (ks'.cnt = ks.cnt)) then q39 ks ks' else none : Option NM) with
  | none => none
  | some a => match q39 r r' with
   | none => none
   | some b => some (a ++ b)
def q2e (k : Int) (t : Tx) (n : Int) (ks : F) (k' : Int) (t' : Tx) (n' : Int) (ks' : F) : Option NM :=
 bif eqI k 21 then some [] else bif eqI k 22 then some [(t, (tr k' t' n' ks').flat)] else bif eqI k 23 then (bif eqI k' 51 && eqI n' n then some [] else none) else
  bif eqI k' 53 && (eqS t' t && decide (ks'.cnt = ks.cnt)) then q39 ks ks' else none
theorem q4t (k : Int) (t : Tx) (n : Int) (ks r : F) (k' : Int) (t' : Tx) (n' : Int) (ks' r' : F) : q39 (.cons k t n ks r) (.cons k' t' n' ks' r') = match q2e k t n ks k' t' n' ks' with | none => none | some a => match q39 r r' with | none => none | some b => some (a ++ b) := rfl
theorem q81 : ∀ (f g : F) (ns : NM), q39 f g = some ns → ns.length ≤ f.size
 | .nil, _, ns, h => by injection h with h; subst h; exact Nat.zero_le _
 | .cons _ _ _ _ _, .nil, _, h => by cases h
 | .cons k t n ks r, .cons k' t' n' ks' r', ns, h => by
  rw [q4t] at h
  cases h1 : q2e k t n ks k' t' n' ks' with
  | none => rw [h1] at h; cases h
  | some a =>
   rw [h1] at h
   cases h2 : q39 r r' with
   | none => rw [h2] at h; cases h
   | some b =>
    rw [h2] at h
    injection h with h
    subst h
    have i2 := q81 r r' b h2
    have i1 : a.length ≤ ks.size + 1 := by
     unfold q2e at h1
     cases e1 : eqI k 21 with
     | true => rw [e1] at h1; injection h1 with h1; subst h1; exact Nat.zero_le _
     | false =>
      rw [e1, cond_false] at h1
      cases e2 : eqI k 22 with
      | true => rw [e2] at h1; injection h1 with h1; subst h1; show 1 ≤ _; omega
      | false =>
       rw [e2, cond_false] at h1
       cases e3 : eqI k 23 with
       | true =>
        rw [e3, cond_true] at h1
        cases e4 : (eqI k' 51 && eqI n' n) with
        | true => rw [e4] at h1; injection h1 with h1; subst h1; exact Nat.zero_le _
        | false => rw [e4] at h1; cases h1
       | false =>
        rw [e3, cond_false] at h1
        cases e5 : (eqI k' 53 && (eqS t' t && decide (ks'.cnt = ks.cnt))) with
        | true => rw [e5, cond_true] at h1; have := q81 ks ks' a h1; omega
        | false => rw [e5] at h1; cases h1
    rw [List.length_append]
    show _ ≤ ks.size + r.size + 1
    omega
theorem qc7 (k : Int) (t : Tx) (n : Int) (ks : F) (k' : Int) (t' : Tx) (n' : Int) (ks' : F) : q39 (tr k t n ks) (tr k' t' n' ks') = q2e k t n ks k' t' n' ks' := by
 show (match q2e k t n ks k' t' n' ks' with | none => none | some a => match q39 .nil .nil with | none => none | some b => some (a ++ b)) = _
 cases q2e k t n ks k' t' n' ks' with
 | none => rfl
 | some a => show some (a ++ []) = some a; rw [List.append_nil]
def unN (l : List (Tx × SN)) : NM := l.map fun e => (e.1, e.2.l)
theorem qy4 (a c : List (Tx × SN)) : unN (a ++ c) = unN a ++ unN c := List.map_append ..
theorem qpc (l : List ND) (hl : l.length ≤ 1000000) : f_d3 (⟨false, l⟩, ()) = some (⟨false, l⟩, ()) := by
 have hf : fit (sumI (lenI ([] : List ND)) (lenI l)) = some () := q0u (by show 0 + l.length ≤ _; omega)
 rw [u_d3, q01, hf, q00, q7w]
 rfl
def runF : F → F → Sl (Tx × SN) → Bool × Sl (Tx × SN)
 | .nil, _, out => (true, out)
 | .cons _ _ _ _ _, .nil, out => (false, out)
 | .cons k t n ks r, .cons k' t' n' ks' r', out =>
  match (bif eqI k 21 then (true, out) else bif eqI k 22 then (true, ⟨false, out.l ++ [(t, ⟨false, (tr k' t' n' ks').flat⟩)]⟩) else bif eqI k 23 then (eqI k' 51 && eqI n' n, out) else
   bif eqI k' 53 && (eqS t' t && decide (ks'.cnt = ks.cnt)) then runF ks ks' out else (false, out) : Bool × Sl (Tx × SN)) with
  | (false, o) => (false, o)
  | (true, o) => runF r r' o
def run1 (k : Int) (t : Tx) (n : Int) (ks : F) (k' : Int) (t' : Tx) (n' : Int) (ks' : F) (out : Sl (Tx × SN)) : Bool × Sl (Tx × SN) :=
 bif eqI k 21 then (true, out) else bif eqI k 22 then (true, ⟨false, out.l ++ [(t, ⟨false, (tr k' t' n' ks').flat⟩)]⟩) else bif eqI k 23 then (eqI k' 51 && eqI n' n, out) else
  bif eqI k' 53 && (eqS t' t && decide (ks'.cnt = ks.cnt)) then runF ks ks' out else (false, out)
theorem qdx (k : Int) (t : Tx) (n : Int) (ks r : F) (k' : Int) (t' : Tx) (n' : Int) (ks' r' : F) (out : Sl (Tx × SN)) : runF (.cons k t n ks r) (.cons k' t' n' ks' r') out = match run1 k t n ks k' t' n' ks' out with | (false, o) => (false, o) | (true, o) => runF r r' o := rfl
theorem qw3 (k : Int) (t : Tx) (n : Int) (ks : F) (k' : Int) (t' : Tx) (n' : Int) (ks' : F) (out : Sl (Tx × SN)) : runF (tr k t n ks) (tr k' t' n' ks') out = run1 k t n ks k' t' n' ks' out := by
 show (match run1 k t n ks k' t' n' ks' out with | (false, o) => (false, o) | (true, o) => runF .nil .nil o) = _
 generalize run1 k t n ks k' t' n' ks' out = z
 obtain ⟨a, o⟩ := z
 cases a <;> rfl
theorem qlc : ∀ (f g : F) (out : Sl (Tx × SN)), (runF f g out).2.l.length ≤ out.l.length + f.size
 | .nil, _, out => Nat.le_refl _
 | .cons _ _ _ _ _, .nil, out => Nat.le_add_right _ _
 | .cons k t n ks r, .cons k' t' n' ks' r', out => by
  rw [qdx]
  have h1 : (run1 k t n ks k' t' n' ks' out).2.l.length ≤ out.l.length + ks.size + 1 := by
   unfold run1
   cases eqI k 21 with
   | true => show out.l.length ≤ _; omega
   | false =>
    cases eqI k 22 with
    | true => show (out.l ++ [_]).length ≤ _; rw [List.length_append]; show out.l.length + 1 ≤ _; omega
    | false =>
     cases eqI k 23 with
     | true => show out.l.length ≤ _; omega
     | false =>
      cases (eqI k' 53 && (eqS t' t && decide (ks'.cnt = ks.cnt))) with
      | true => have := qlc ks ks' out; show (runF ks ks' out).2.l.length ≤ _; omega
      | false => show out.l.length ≤ _; omega
  generalize run1 k t n ks k' t' n' ks' out = z at h1
  obtain ⟨a, o⟩ := z
  have h1 : o.l.length ≤ _ := h1
  cases a with
  | false => show o.l.length ≤ out.l.length + (ks.size + r.size + 1); omega
  | true => have := qlc r r' o; show (runF r r' o).2.l.length ≤ out.l.length + (ks.size + r.size + 1); omega
theorem qdy : ∀ (f g : F) (out : Sl (Tx × SN)), (runF f g out).1 = (q39 f g).isSome ∧ ∀ ns, q39 f g = some ns → unN (runF f g out).2.l = unN out.l ++ ns
 | .nil, _, out => ⟨rfl, fun ns h => by injection h with h; subst h; exact (List.append_nil _).symm⟩
 | .cons _ _ _ _ _, .nil, out => ⟨rfl, fun ns h => by cases h⟩
 | .cons k t n ks r, .cons k' t' n' ks' r', out => by
  rw [qdx, q4t]
  have h1 : (run1 k t n ks k' t' n' ks' out).1 = (q2e k t n ks k' t' n' ks').isSome ∧ ∀ ns, q2e k t n ks k' t' n' ks' = some ns → unN (run1 k t n ks k' t' n' ks' out).2.l = unN out.l ++ ns := by
   unfold run1 q2e
   cases eqI k 21 with
   | true => exact ⟨rfl, fun ns h => by injection h with h; subst h; exact (List.append_nil _).symm⟩
   | false =>
    cases eqI k 22 with
    | true => exact ⟨rfl, fun ns h => by injection h with h; subst h; exact qy4 _ _⟩
    | false =>
     cases eqI k 23 with
     | true =>
      cases (eqI k' 51 && eqI n' n) with
      | true => exact ⟨rfl, fun ns h => by injection h with h; subst h; exact (List.append_nil _).symm⟩
      | false => exact ⟨rfl, fun ns h => by cases h⟩
     | false =>
      cases (eqI k' 53 && (eqS t' t && decide (ks'.cnt = ks.cnt))) with
      | true => exact qdy ks ks' out
      | false => exact ⟨rfl, fun ns h => by cases h⟩
  generalize run1 k t n ks k' t' n' ks' out = z at h1
  obtain ⟨a, o⟩ := z
  obtain ⟨h2, h3⟩ := h1
  have h2 : a = _ := h2
  cases hm : q2e k t n ks k' t' n' ks' with
  | none => rw [hm] at h2; subst h2; exact ⟨rfl, fun ns h => by cases h⟩
  | some c =>
   rw [hm] at h2
   subst h2
   have h3 : unN o.l = unN out.l ++ c := h3 c hm
   obtain ⟨g1, g2⟩ := qdy r r' o
   cases hr : q39 r r' with
   | none => rw [hr] at g1; exact ⟨g1, fun ns h => by cases h⟩
   | some d =>
    rw [hr] at g1
    refine ⟨g1, fun ns h => ?_⟩
    injection h with h
    subst h
    show unN (runF r r' o).2.l = _
    rw [g2 d hr, h3, List.append_assoc]
def qld (self : (SN × SN × (Sl (Tx × SN)) × Unit) → Option (Bool × (Sl (Tx × SN)) × Unit)) (p v : F) : Prop :=
 ∀ (b : Bool) (out : Sl (Tx × SN)), out.l.length + p.size ≤ 1000000 → self (⟨b, p.flat⟩, ⟨false, v.flat⟩, out, ()) = some ((runF p v out).1, (runF p v out).2, ())
theorem qpd (self : (SN × SN × (Sl (Tx × SN)) × Unit) → Option (Bool × (Sl (Tx × SN)) × Unit)) (b nv np : Bool) (VV PP : List SN) (hPP : PP.length ≤ 1000000) : ∀ (f g : F) (i : Nat) (out : Sl (Tx × SN)),
  PP.drop i = f.trees.map (fun l => (⟨b, l⟩ : SN)) → VV.drop i = g.trees.map (fun l => (⟨false, l⟩ : SN)) → i + f.cnt = PP.length → f.cnt = g.cnt → out.l.length + f.size ≤ 1000000 →
  (∀ p, p ∈ f.kidsF → ∀ v, v ∈ g.kidsF → qld self p v) →
  loopR (l3_bi self) (⟨nv, VV⟩, ⟨np, PP⟩, lenI PP, (i : Int), out, ()) = some ((runF f g out).1, (runF f g out).2, ()) := by
 intro f
 induction f with
 | nil =>
  intro g i out h1 h2 h3 h4 h5 h6
  have h3 : i + 0 = PP.length := h3
  have hi : i = PP.length := by omega
  subst hi
  refine q0a ?_
  unfold l3_bi
  simp only [ltE, q01]
  rfl
 | cons k t n ks r _ ih =>
  intro g i out h1 h2 h3 h4 h5 h6
  cases g with
  | nil => cases h4
  | cons k' t' n' ks' r' =>
   have h3 : i + (r.cnt + 1) = PP.length := h3
   have h4 : r.cnt + 1 = r'.cnt + 1 := h4
   have h5 : out.l.length + (ks.size + r.size + 1) ≤ 1000000 := h5
   have hp : PP[i]? = some ⟨b, (tr k t n ks).flat⟩ := by
    have := congrArg List.head? h1
    rw [List.head?_drop] at this
    exact this
   have hv : VV[i]? = some ⟨false, (tr k' t' n' ks').flat⟩ := by
    have := congrArg List.head? h2
    rw [List.head?_drop] at this
    exact this
   have e1 : self (⟨b, (tr k t n ks).flat⟩, ⟨false, (tr k' t' n' ks').flat⟩, out, ()) = _ := h6 (tr k t n ks) (List.mem_cons_self ..) (tr k' t' n' ks') (List.mem_cons_self ..) b out (by show _ + (ks.size + 0 + 1) ≤ _; omega)
   have hlen : (runF (tr k t n ks) (tr k' t' n' ks') out).2.l.length ≤ out.l.length + (ks.size + 0 + 1) := qlc (tr k t n ks) (tr k' t' n' ks') out
   have hd1 : PP.drop (i + 1) = r.trees.map (fun l => (⟨b, l⟩ : SN)) := by
    have := congrArg List.tail h1
    rw [List.tail_drop] at this
    exact this
   have hd2 : VV.drop (i + 1) = r'.trees.map (fun l => (⟨false, l⟩ : SN)) := by
    have := congrArg List.tail h2
    rw [List.tail_drop] at this
    exact this
   rw [qdx]
   rw [qw3] at e1 hlen
   generalize run1 k t n ks k' t' n' ks' out = z at e1 hlen
   obtain ⟨a, o⟩ := z
   have hlen : o.l.length ≤ _ := hlen
   cases a with
   | false =>
    refine q0a ?_
    unfold l3_bi
    simp only [ltG hp, q03, q06 hp, q06 hv, q00, e1, nF]
   | true =>
    have step : l3_bi self (⟨nv, VV⟩, ⟨np, PP⟩, lenI PP, (i : Int), out, ()) = some (.inl (⟨nv, VV⟩, ⟨np, PP⟩, lenI PP, ((i + 1 : Nat) : Int), o, ())) := by
     unfold l3_bi
     simp only [ltG hp, q03, q06 hp, q06 hv, q00, e1, nT, q01, add1 (show i ≤ 1000000000 by omega)]
    rw [q0e step]
    exact ih r' (i + 1) o hd1 hd2 (by omega) (by omega) (by omega) (fun p hp v hv => h6 p (List.mem_cons_of_mem _ hp) v (List.mem_cons_of_mem _ hv))
theorem qy5 : ∀ (M : Nat) (k : Int) (t : Tx) (n : Int) (ks : F), ks.size + 1 ≤ M → ks.size + 1 ≤ 4000 → ∀ (k' : Int) (t' : Tx) (n' : Int) (ks' : F), ks'.size + 1 ≤ 4000 → ∀ N, M ≤ N → qld (recN g_bi N) (tr k t n ks) (tr k' t' n' ks') := by
 intro M
 induction M with
 | zero => intro k t n ks h; omega
 | succ M ih =>
  intro k t n ks hM hs k' t' n' ks' hs' N hN b out hout
  cases N with
  | zero => omega
  | succ N =>
   have hout : out.l.length + (ks.size + 0 + 1) ≤ 1000000 := hout
   have h0 : at? (tr k t n ks).flat 0 = some (k, t, n, (ks.cnt : Int)) := q06 (i := 0) rfl
   have h1 : at? (tr k' t' n' ks').flat 0 = some (k', t', n', (ks'.cnt : Int)) := q06 (i := 0) rfl
   show g_bi (recN g_bi N) _ = _
   rw [qw3, u_bi]
   simp only [h0, h1, q00]
   unfold run1
   cases e1 : eqI k 21 with
   | true => rfl
   | false =>
    simp only [q01, cond_false]
    cases e2 : eqI k 22 with
    | true =>
     have hc := qpc (tr k' t' n' ks').flat (by rw [q0v]; omega)
     have hf : fit (sumI (lenI out.l) (lenI [(t, (⟨false, (tr k' t' n' ks').flat⟩ : SN))])) = some () := q0u (by show out.l.length + 1 ≤ _; omega)
     simp only [q03, cond_true, u_b0, hc, q00, hf, q1z, app]
    | false =>
     simp only [q01, cond_false]
     cases e3 : eqI k 23 with
     | true =>
      simp only [q03, cond_true]
      cases eqI k' 51 <;> simp only [q03, q01, Bool.true_and, Bool.false_and]
     | false =>
      simp only [q01, cond_false]
      cases e4 : eqI k' 53 with
      | false => rfl
      | true =>
       simp only [nT, q01, Bool.true_and]
       cases e5 : eqS t' t with
       | false => rfl
       | true =>
        simp only [nT, q01, Bool.true_and, qjd]
        by_cases e6 : ks'.cnt = ks.cnt
        ·rw [decide_eq_true e6]
         simp only [nT, q01, cond_true]
         obtain ⟨nbv, hv⟩ := q7z false k' t' n' ks' (by omega)
         obtain ⟨nbp, hp⟩ := q7z b k t n ks (by omega)
         simp only [hv, hp, q00]
         have hpl : (ks.trees.map fun l => (⟨b, l⟩ : SN)).length = ks.cnt := by rw [List.length_map, F.trees_len]
         have hcnt := F.cnt_le ks
         refine qpd (recN g_bi N) b nbv nbp _ _ (by omega) ks ks' 0 out rfl rfl (by rw [hpl, Nat.zero_add]) e6.symm (by omega) ?_
         intro p hp v hv
         obtain ⟨k1, t1, n1, ks1, q1, q2⟩ := F.kidsF_mem ks p hp
         obtain ⟨k2, t2, n2, ks2, q3, q4⟩ := F.kidsF_mem ks' v hv
         subst q1 q3
         exact ih k1 t1 n1 ks1 (by omega) (by omega) k2 t2 n2 ks2 (by omega) N (by omega)
        ·rw [decide_eq_false e6]
         rfl
theorem qvg (k : Int) (t : Tx) (n : Int) (ks : F) (hs : ks.size + 1 ≤ 4000) (k' : Int) (t' : Tx) (n' : Int) (ks' : F) (hs' : ks'.size + 1 ≤ 4000) : qld f_bi (tr k t n ks) (tr k' t' n' ks') :=
 fun b out hout => q3z (ks.size + 1) fun N hN => qy5 (ks.size + 1) k t n ks (Nat.le_refl _) hs k' t' n' ks' hs' N hN b out hout
end Fn
end Ev

namespace Ev
open Go
namespace Fn
def mkN (ns : NM) : List (Tx × SN) := ns.map fun e => (e.1, ⟨false, e.2⟩)
theorem qza (ns : NM) : unN (mkN ns) = ns := by
 unfold unN mkN
 rw [List.map_map]
 exact (List.map_congr_left fun x _ => rfl).trans (List.map_id' ns)
def rref (k : Int) (o : Option NM) : Sl (Tx × SN) × Bool × Unit := match o with
 | some ns => (⟨eqI k 21 || eqI k 23, mkN ns⟩, true, ())
 | none => (⟨true, []⟩, false, ())
theorem qle (self : (SN × Int × SN × Int × Unit) → Option (Sl (Tx × SN) × Bool × Unit)) (b b' fp fv : Bool) (l m : List ND) (PP VV : List Int) (hPP : PP.length ≤ 1000000) (M : Nat)
  (hself : ∀ (q q' : Nat) (k : Int) (t : Tx) (n : Int) (ks : F) (k' : Int) (t' : Tx) (n' : Int) (ks' : F), ks.size + 1 ≤ M → Sits l q (tr k t n ks) → Sits m q' (tr k' t' n' ks') → self (⟨b, l⟩, (q : Int), ⟨b', m⟩, (q' : Int), ()) = some (rref k (q2e k t n ks k' t' n' ks'))) :
  ∀ (f g : F) (i q1 q2 : Nat) (out : List (Tx × SN)), PP.drop i = f.pos q1 → VV.drop i = g.pos q2 → Sits l q1 f → Sits m q2 g → i + f.cnt = PP.length → f.cnt = g.cnt → out.length + f.size ≤ 1000000 → f.size ≤ M →
  loopR (l1_d2 self) (⟨b, l⟩, ⟨b', m⟩, ⟨fp, PP⟩, ⟨fv, VV⟩, (i : Int), ⟨false, out⟩, ()) = some (match q39 f g with | some ns => (⟨false, out ++ mkN ns⟩, true, ()) | none => (⟨true, []⟩, false, ())) := by
 intro f
 induction f with
 | nil =>
  intro g i q1 q2 out h1 h2 s1 s2 h3 h4 h5 h6
  have h3 : i + 0 = PP.length := h3
  have hi : i = PP.length := by omega
  subst hi
  refine q0a ?_
  unfold l1_d2
  simp only [ltE, q01]
  show _ = some (Sum.inr ((⟨false, out ++ []⟩ : Sl (Tx × SN)), true, ()))
  rw [List.append_nil]
 | cons k t n ks r _ ih =>
  intro g i q1 q2 out h1 h2 s1 s2 h3 h4 h5 h6
  cases g with
  | nil => cases h4
  | cons k' t' n' ks' r' =>
   have h3 : i + (r.cnt + 1) = PP.length := h3
   have h4 : r.cnt + 1 = r'.cnt + 1 := h4
   have h5 : out.length + (ks.size + r.size + 1) ≤ 1000000 := h5
   have h6 : ks.size + r.size + 1 ≤ M := h6
   have hp : PP[i]? = some (q1 : Int) := by
    have := congrArg List.head? h1
    rw [List.head?_drop] at this
    exact this
   have hv : VV[i]? = some (q2 : Int) := by
    have := congrArg List.head? h2
    rw [List.head?_drop] at this
    exact this
   have hd1 : PP.drop (i + 1) = r.pos (q1 + 1 + ks.size) := by
    have := congrArg List.tail h1
    rw [List.tail_drop] at this
    exact this
   have hd2 : VV.drop (i + 1) = r'.pos (q2 + 1 + ks'.size) := by
    have := congrArg List.tail h2
    rw [List.tail_drop] at this
    exact this
   have e1 := hself q1 q2 k t n ks k' t' n' ks' (by omega) s1.first s2.first
   rw [q4t]
   cases hm : q2e k t n ks k' t' n' ks' with
   | none =>
    rw [hm] at e1
    refine q0a ?_
    unfold l1_d2
    simp only [ltG hp, q03, q06 hp, q06 hv, q00, e1, rref, nF]
   | some a =>
    rw [hm] at e1
    have ha : a.length ≤ ks.size + 1 := by
     have := q81 (tr k t n ks) (tr k' t' n' ks') a (by rw [qc7, hm])
     exact this
    have hml : (mkN a).length = a.length := List.length_map _
    have hf : fit (sumI (lenI out) (lenI (mkN a))) = some () := q0u (by rw [hml]; omega)
    have step : l1_d2 self (⟨b, l⟩, ⟨b', m⟩, ⟨fp, PP⟩, ⟨fv, VV⟩, (i : Int), ⟨false, out⟩, ()) = some (.inl (⟨b, l⟩, ⟨b', m⟩, ⟨fp, PP⟩, ⟨fv, VV⟩, ((i + 1 : Nat) : Int), ⟨false, out ++ mkN a⟩, ())) := by
     unfold l1_d2
     simp only [ltG hp, q03, q06 hp, q06 hv, q00, e1, rref, nT, q01, hf, add1 (show i ≤ 1000000000 by omega), q7w, app]
    rw [q0e step]
    refine (ih r' (i + 1) _ _ (out ++ mkN a) hd1 hd2 s1.node.2.2.1 s2.node.2.2.1 (by omega) (by omega) (by rw [List.length_append, hml]; omega) (by omega)).trans ?_
    cases q39 r r' with
    | none => rfl
    | some c =>
     show some ((⟨false, out ++ mkN a ++ mkN c⟩ : Sl (Tx × SN)), true, ()) = some (⟨false, out ++ mkN (a ++ c)⟩, true, ())
     unfold mkN
     rw [List.map_append, List.append_assoc]
theorem qvh (b b' : Bool) (l m : List ND) (hl : l.length ≤ 4000) (hm : m.length ≤ 4000) : ∀ (M : Nat) (q q' : Nat) (k : Int) (t : Tx) (n : Int) (ks : F) (k' : Int) (t' : Tx) (n' : Int) (ks' : F), ks.size + 1 ≤ M → Sits l q (tr k t n ks) → Sits m q' (tr k' t' n' ks') → ∀ N, M ≤ N →
  recN g_d2 N (⟨b, l⟩, (q : Int), ⟨b', m⟩, (q' : Int), ()) = some (rref k (q2e k t n ks k' t' n' ks')) := by
 intro M
 induction M with
 | zero => intro q q' k t n ks k' t' n' ks' h; omega
 | succ M ih =>
  intro q q' k t n ks k' t' n' ks' hM s1 s2 N hN
  cases N with
  | zero => omega
  | succ N =>
   have n1 := s1.node
   have n2 := s2.node
   have h0 := q06 n1.1
   have h1 := q06 n2.1
   show g_d2 (recN g_d2 N) _ = _
   rw [u_d2]
   simp only [h0, h1, q00]
   unfold q2e
   cases e1 : eqI k 21 with
   | true =>
    have : k = 21 := eqI_eq.1 e1
    subst this; rfl
   | false =>
    simp only [q01, cond_false]
    cases e2 : eqI k 22 with
    | true =>
     have : k = 22 := eqI_eq.1 e2
     subst this
     have hql : q' + 1 ≤ m.length := by have := n2.2.2.2; omega
     have hk := qfg (by omega) (tr k' t' n' ks') q' s2 (by omega) _ (List.mem_cons_self ..)
     have hsub := qn8 hk (by show (tr k' t' n' ks').flat.length ≤ _; rw [q0v]; have := n2.2.2.2; omega) b'
     have hsub : f_c1 (⟨b', m⟩, (q' : Int), ()) = some (⟨false, (tr k' t' n' ks').flat⟩, ()) := hsub
     simp only [hsub, q00, q03, cond_true]
     rfl
    | false =>
     simp only [q01, cond_false]
     cases e3 : eqI k 23 with
     | true =>
      have : k = 23 := eqI_eq.1 e3
      subst this
      simp only [q03, cond_true]
      cases eqI k' 51 <;> cases eqI n' n <;> rfl
     | false =>
      simp only [q01, cond_false]
      have hr : ∀ o, rref k o = match o with | some ns => (⟨false, mkN ns⟩, true, ()) | none => (⟨true, []⟩, false, ()) := fun o => by
       unfold rref; rw [e1, e3]; rfl
      cases e4 : eqI k' 53 with
      | false => simp only [nF, q03, q00, Bool.false_and, cond_false, hr]
      | true =>
       simp only [nT, q01, q00, Bool.true_and]
       cases e5 : eqS t' t with
       | false => simp only [nF, q03, q00, Bool.false_and, cond_false, hr]
       | true =>
        simp only [nT, q01, q00, Bool.true_and, qjd]
        by_cases e6 : ks'.cnt = ks.cnt
        ·rw [decide_eq_true e6]
         simp only [nT, q01, cond_true]
         have kp := q32 b l (by omega) s1
         have kv := q32 b' m (by omega) s2
         simp only [kp, kv, q00, hr]
         have hcnt := F.cnt_le ks
         have hz := n1.2.2.2
         refine (qle (recN g_d2 N) b b' false false l m (ks.pos (q + 1)) (ks'.pos (q' + 1)) (by rw [F.pos_len]; omega) M (fun q q' k t n ks k' t' n' ks' h1 h2 h3 => ih q q' k t n ks k' t' n' ks' h1 h2 h3 N (by omega)) ks ks' 0 (q + 1) (q' + 1) [] rfl rfl n1.2.1 n2.2.1 (by rw [F.pos_len, Nat.zero_add]) e6.symm (by show 0 + ks.size ≤ _; omega) (by omega)).trans ?_
         cases q39 ks ks' <;> rfl
        ·rw [decide_eq_false e6]
         simp only [nF, q03, cond_false, hr]
theorem qt9 (b b' : Bool) (k : Int) (t : Tx) (n : Int) (ks : F) (k' : Int) (t' : Tx) (n' : Int) (ks' : F) (hs : ks.size + 1 ≤ 4000) (hs' : ks'.size + 1 ≤ 4000) :
  f_d2 (⟨b, (tr k t n ks).flat⟩, 0, ⟨b', (tr k' t' n' ks').flat⟩, 0, ()) = some (rref k (q2e k t n ks k' t' n' ks')) :=
 q3z (ks.size + 1) fun N hN => qvh b b' _ _ (by rw [q0v]; exact hs) (by rw [q0v]; exact hs') (ks.size + 1) 0 0 k t n ks k' t' n' ks' (Nat.le_refl _) (q36 k t n ks) (q36 k' t' n' ks') N hN
def qzb (p v : List ND) (o : Option NM) : Prop := (isP p ∧ q92 v = true → ∃ k t n ks k' t' n' ks', p = (tr k t n ks).flat ∧ v = (tr k' t' n' ks').flat ∧ chkT k t n ks true = 0 ∧ o = q2e k t n ks k' t' n' ks') ∧ (¬(isP p ∧ q92 v = true) → o = none)
theorem q82 (p v : List ND) (hp : p.length ≤ 4000) (hv : v.length ≤ 4000) (gp : GL p) (gv : GL v) :
  ∃ o : Option NM, qzb p v o ∧ (∀ b, ∃ A, f_az (⟨b, p⟩, ⟨false, v⟩, ()) = some (A, o.isSome, ()) ∧ unN A.l = o.getD []) ∧ (∀ b b', ∃ A, f_cy (⟨b, p⟩, ⟨b', v⟩, ()) = some (A, o.isSome, ()) ∧ unN A.l = o.getD []) := by
 obtain ⟨e, e1, e2, e3⟩ := qn9 p hp gp
 have v1 := fun b => qdw b v (by omega) gv
 have v2 := fun b => q93 b v (by omega) gv
 by_cases he : e = 0
 ·subst he
  cases hval : q92 v with
  | false =>
   refine ⟨none, ⟨fun h => (by rw [hval] at h; cases h.2), fun _ => rfl⟩, fun b => ⟨⟨true, []⟩, ?_, rfl⟩, fun b b' => ⟨⟨true, []⟩, ?_, rfl⟩⟩
   ·rw [u_az, e1, v1, hval]; rfl
   ·rw [u_cy, e2, v2, hval]; rfl
  | true =>
   obtain ⟨k, t, n, ks, hp1, hp2⟩ := e3.1 rfl
   obtain ⟨k', t', n', ks', hv1, hv2, _⟩ := qh4 hval
   subst hp1 hv1
   rw [q0v] at hp
   refine ⟨q2e k t n ks k' t' n' ks', ⟨fun _ => ⟨k, t, n, ks, k', t', n', ks', rfl, rfl, hp2, rfl⟩, fun h => absurd ⟨⟨k, t, n, ks, rfl, hp2⟩, hval⟩ h⟩, fun b => ?_, fun b b' => ?_⟩
   ·have hm := qvg k t n ks hp k' t' n' ks' hv2 b ⟨true, []⟩ (by show 0 + (ks.size + 0 + 1) ≤ _; omega)
    obtain ⟨r1, r2⟩ := qdy (tr k t n ks) (tr k' t' n' ks') ⟨true, []⟩
    rw [qc7] at r1 r2
    rw [u_az, e1, v1, hval]
    simp only [q00, e00, nT, q01, hm, r1]
    cases ho : q2e k t n ks k' t' n' ks' with
    | none => exact ⟨⟨true, []⟩, rfl, rfl⟩
    | some ns => exact ⟨_, rfl, r2 ns ho⟩
   ·rw [u_cy, e2, v2, hval, qt9 b b' k t n ks k' t' n' ks' hp hv2]
    simp only [q00, e00, nT, q01]
    cases q2e k t n ks k' t' n' ks' with
    | none => exact ⟨⟨true, []⟩, rfl, rfl⟩
    | some ns => exact ⟨_, rfl, qza ns⟩
 ·refine ⟨none, ⟨fun h => absurd (e3.2 h.1) he, fun _ => rfl⟩, fun b => ⟨⟨true, []⟩, ?_, rfl⟩, fun b b' => ⟨⟨true, []⟩, ?_, rfl⟩⟩
  ·rw [u_az, e1]; simp only [q00, q1a he, nF, q03]; rfl
  ·rw [u_cy, e2]; simp only [q00, q1a he, nF, q03]; rfl
end Fn
end Ev

namespace Ev
open Go
namespace Fn
theorem qaa : ∀ (f g : F) (ns : NM), q39 f g = some ns → ∀ e, e ∈ ns → e.2.length ≤ g.size ∧ (∀ x, x ∈ e.2 → x ∈ g.flat) ∧ ∃ k t n ks, e.2 = (tr k t n ks).flat
 | .nil, _, ns, h, e, he => by injection h with h; subst h; cases he
 | .cons _ _ _ _ _, .nil, _, h, _, _ => by cases h
 | .cons k t n ks r, .cons k' t' n' ks' r', ns, h, e, he => by
  rw [q4t] at h
  have sz : (F.cons k' t' n' ks' r').size = ks'.size + r'.size + 1 := rfl
  have fl : (F.cons k' t' n' ks' r').flat = (k', t', n', (ks'.cnt : Int)) :: (ks'.flat ++ r'.flat) := rfl
  rw [sz, fl]
  cases h1 : q2e k t n ks k' t' n' ks' with
  | none => rw [h1] at h; cases h
  | some a =>
   rw [h1] at h
   cases h2 : q39 r r' with
   | none => rw [h2] at h; cases h
   | some c =>
    rw [h2] at h
    injection h with h
    subst h
    rcases List.mem_append.1 he with he | he
    ·unfold q2e at h1
     cases e1 : eqI k 21 with
     | true => rw [e1] at h1; injection h1 with h1; subst h1; cases he
     | false =>
      rw [e1, cond_false] at h1
      cases e2 : eqI k 22 with
      | true =>
       rw [e2] at h1; injection h1 with h1; subst h1
       rw [List.mem_singleton] at he
       subst he
       refine ⟨?_, ?_, k', t', n', ks', rfl⟩
       ·show (tr k' t' n' ks').flat.length ≤ _
        rw [q0v]; omega
       ·intro x hx
        have hx : x ∈ (tr k' t' n' ks').flat := hx
        rw [q6g] at hx
        rcases List.mem_cons.1 hx with hx | hx
        ·rw [hx]; exact List.mem_cons_self ..
        ·exact List.mem_cons_of_mem _ (List.mem_append_left _ hx)
      | false =>
       rw [e2, cond_false] at h1
       cases e3 : eqI k 23 with
       | true =>
        rw [e3, cond_true] at h1
        cases e4 : (eqI k' 51 && eqI n' n) with
        | true => rw [e4] at h1; injection h1 with h1; subst h1; cases he
        | false => rw [e4] at h1; cases h1
       | false =>
        rw [e3, cond_false] at h1
        cases e5 : (eqI k' 53 && (eqS t' t && decide (ks'.cnt = ks.cnt))) with
        | true =>
         rw [e5, cond_true] at h1
         obtain ⟨g1, g2, g3⟩ := qaa ks ks' a h1 e he
         exact ⟨by omega, fun x hx => List.mem_cons_of_mem _ (List.mem_append_left _ (g2 x hx)), g3⟩
        | false => rw [e5] at h1; cases h1
    ·obtain ⟨g1, g2, g3⟩ := qaa r r' c h2 e he
     exact ⟨by omega, fun x hx => List.mem_cons_of_mem _ (List.mem_append_right _ (g2 x hx)), g3⟩
theorem q94 {m odd : Bool} : ∀ (f g : F) (ns : NM), errF m true odd f = 0 → q39 f g = some ns → ns.map (fun e => e.1) = qby f
 | .nil, _, ns, _, h => by injection h with h; subst h; rfl
 | .cons _ _ _ _ _, .nil, _, _, h => by cases h
 | .cons k t n ks r, .cons k' t' n' ks' r', ns, hv, h => by
  obtain ⟨v1, v2⟩ := errF_ok.1 hv
  rw [Bool.true_or] at v1
  obtain ⟨v3, v4⟩ := errT_ok.1 v1
  obtain ⟨_, w1, w2, _⟩ := nodeE_zero.1 v3
  have kz := (qsn w2).2.2.2.2
  rw [q4t] at h
  rw [q3j]
  cases h1 : q2e k t n ks k' t' n' ks' with
  | none => rw [h1] at h; cases h
  | some a =>
   rw [h1] at h
   cases h2 : q39 r r' with
   | none => rw [h2] at h; cases h
   | some c =>
    rw [h2] at h
    injection h with h
    subst h
    rw [List.map_append, q94 (m := m) (odd := !odd) r r' c v2 h2]
    congr 1
    unfold q2e at h1
    unfold q4r
    cases e1 : eqI k 21 with
    | true =>
     rw [e1] at h1; injection h1 with h1; subst h1
     have k21 := eqI_eq.1 e1
     obtain rfl := qc4 (kz (by omega))
     rw [k21]; rfl
    | false =>
     rw [e1, cond_false] at h1
     cases e2 : eqI k 22 with
     | true => rw [e2] at h1; injection h1 with h1; subst h1; rfl
     | false =>
      rw [e2, cond_false] at h1
      cases e3 : eqI k 23 with
      | true =>
       rw [e3, cond_true] at h1
       have k23 := eqI_eq.1 e3
       obtain rfl := qc4 (kz (by omega))
       cases e4 : (eqI k' 51 && eqI n' n) with
       | true => rw [e4] at h1; injection h1 with h1; subst h1; rfl
       | false => rw [e4] at h1; cases h1
      | false =>
       rw [e3, cond_false] at h1
       cases e5 : (eqI k' 53 && (eqS t' t && decide (ks'.cnt = ks.cnt))) with
       | true => rw [e5, cond_true] at h1; exact q94 (m := eqI k 10) (odd := false) ks ks' a v4 h1
       | false => rw [e5] at h1; cases h1
theorem qjg {p v : List ND} {o : Option NM} (h : qzb p v o) (hp : p.length ≤ 4000) (hv : v.length ≤ 4000) : (o.getD []).length ≤ 4000 ∧ ∀ e, e ∈ o.getD [] → e.2.length ≤ 4000 := by
 by_cases hc : isP p ∧ q92 v = true
 ·obtain ⟨k, t, n, ks, k', t', n', ks', e1, e2, _, e3⟩ := h.1 hc
  subst e1 e2
  rw [q0v] at hp hv
  cases ho : o with
  | none => exact ⟨Nat.zero_le _, fun e he => by cases he⟩
  | some ns =>
   rw [ho, ← qc7] at e3
   have l1 := q81 _ _ ns e3.symm
   have l1 : ns.length ≤ ks.size + 0 + 1 := l1
   refine ⟨by show ns.length ≤ _; omega, fun e he => ?_⟩
   have : e.2.length ≤ ks'.size + 0 + 1 := (qaa _ _ ns e3.symm e he).1
   omega
 ·rw [h.2 hc]; exact ⟨Nat.zero_le _, fun e he => by cases he⟩
theorem qpg (b1 b2 nb : Bool) (p v : List ND) (hp : p.length ≤ 4000) (hv : v.length ≤ 4000) (A : List (Tx × SN)) (hA : A.length ≤ 4000) (hn : A.map (fun e => e.1) = q1f p) (hg : ∀ e, e ∈ A → q92 e.2.l = true ∧ e.2.l.length ≤ v.length ∧ GL e.2.l) :
  loopR q1c (⟨b1, p⟩, ⟨b2, v⟩, ⟨nb, A⟩, 0, 0, ()) = some (true, ()) := by
 have hAl : A.length = (q1f p).length := by rw [← hn, List.length_map]
 have := q4o (f := q1c) (I := fun s => ∃ i : Nat, s = (⟨b1, p⟩, ⟨b2, v⟩, ⟨nb, A⟩, (((q1f (p.take i)).length : Nat) : Int), (i : Int), ()) ∧ i ≤ p.length) (Q := fun r => r = (true, ())) (fun s => ((p.length : Int) - s.2.2.2.2.1).toNat) ?_ (⟨b1, p⟩, ⟨b2, v⟩, ⟨nb, A⟩, 0, 0, ()) ⟨0, rfl, Nat.zero_le _⟩
 ·obtain ⟨r, h1, h2⟩ := this
  rw [h1, h2]
 ·rintro s ⟨i, rfl, hi⟩
  have hnl := qfc (p.take i)
  rw [List.length_take] at hnl
  by_cases h1 : i < p.length
  ·obtain ⟨x, hx⟩ : ∃ x, p[i]? = some x := ⟨_, List.getElem?_eq_getElem h1⟩
   have htk : p.take (i + 1) = p.take i ++ [x] := by rw [List.take_add_one, hx]; rfl
   have hall : p = p.take i ++ x :: p.drop (i + 1) := by
    have hxe : p[i] = x := by rw [List.getElem?_eq_getElem h1] at hx; injection hx
    rw [← hxe, ← q1p h1, List.take_append_drop]
   have hadd := add1 (show i ≤ 1000000000 by omega)
   refine .inl ?_
   by_cases h22 : x.1 = 22
   ·
    have hnx : q1f p = q1f (p.take i) ++ x.2.1 :: q1f (p.drop (i + 1)) := by
     have h := congrArg q1f hall
     rw [q7y, q4q, if_pos h22] at h
     exact h
    generalize hm : (q1f (p.take i)).length = m at hnl
    have hget : (A.map fun e => e.1)[m]? = some x.2.1 := by
     rw [hn, hnx, ← hm, List.getElem?_append_right (Nat.le_refl _), Nat.sub_self]; rfl
    rw [List.getElem?_map] at hget
    cases hAm : A[m]? with
    | none => rw [hAm] at hget; cases hget
    | some e =>
     obtain ⟨en, be, le⟩ := e
     rw [hAm] at hget
     injection hget with hget
     obtain ⟨q1, q2, q3⟩ := hg _ (List.mem_of_getElem? hAm)
     have q1 : q92 le = true := q1
     have q2 : le.length ≤ v.length := q2
     have q3 : GL le := q3
     have hml := getL hAm
     have c1 : leI (lenI A) (m : Int) = false := decide_eq_false (by unfold lenI; omega)
     have c2 : eqS en x.2.1 = true := eqS_eq.2 hget
     have c3 : ltI (lenI v) (lenI le) = false := decide_eq_false (by unfold lenI; omega)
     have hv2 := q93 be le (by omega) q3
     rw [q1] at hv2
     have hlen : (q1f (p.take (i + 1))).length = m + 1 := by
      rw [htk, q7y, q4q, if_pos h22, List.length_append, hm]; rfl
     have hadd2 := add1 (show m ≤ 1000000000 by omega)
     refine ⟨(⟨b1, p⟩, ⟨b2, v⟩, ⟨nb, A⟩, (((q1f (p.take (i + 1))).length : Nat) : Int), ((i + 1 : Nat) : Int), ()), ?_, ⟨i + 1, rfl, h1⟩, by simp only; omega⟩
     rw [hlen]
     unfold q1c
     have c22 : eqI x.1 22 = true := eqI_eq.2 h22
     simp only [ltG hx, q03, q06 hx, q00, c22, nT, q01, c1, q06 hAm, c2, hv2, c3, hadd2]
     exact congrArg (fun z : Int => some (Sum.inl ((⟨b1, p⟩ : SN), (⟨b2, v⟩ : SN), (⟨nb, A⟩ : Sl (Tx × SN)), ((m + 1 : Nat) : Int), z, ()))) hadd
   ·have hnx : q1f (p.take (i + 1)) = q1f (p.take i) := by
     rw [htk, q7y, q4q, if_neg h22]
     exact List.append_nil _
    refine ⟨(⟨b1, p⟩, ⟨b2, v⟩, ⟨nb, A⟩, (((q1f (p.take (i + 1))).length : Nat) : Int), ((i + 1 : Nat) : Int), ()), ?_, ⟨i + 1, rfl, h1⟩, by simp only; omega⟩
    unfold q1c
    simp only [ltG hx, q03, q06 hx, q00, q1a h22, nF, hnx]
    exact congrArg (fun z : Int => some (Sum.inl ((⟨b1, p⟩ : SN), (⟨b2, v⟩ : SN), (⟨nb, A⟩ : Sl (Tx × SN)), (((q1f (p.take i)).length : Nat) : Int), z, ()))) hadd
  ·obtain rfl : i = p.length := by omega
   refine .inr ⟨(true, ()), ?_, rfl⟩
   unfold q1c
   simp only [ltE, q01, List.take_length, ← hAl]
   show some (Sum.inr (eqI ((A.length : Nat) : Int) (lenI A), ())) = _
   rw [show eqI ((A.length : Nat) : Int) (lenI A) = true from q2i _]
theorem law_Gives (b0 b1 b2 b3 : Bool) (L : List DD) (T p v : List ND) (gd : gDin L) (gT : gL T) (gp : gL p) (gv : gL v) : f_law12_PatGives (⟨b0, L⟩, ⟨b1, T⟩, ⟨b2, p⟩, ⟨b3, v⟩, ()) = some (true, ()) := by
 obtain ⟨c, hc, hb⟩ := qw2 ⟨b0, L⟩ gd ⟨b1, T⟩ ⟨false, [⟨b2, p⟩, ⟨b3, v⟩]⟩ (by show 2 ≤ _; omega)
 rw [qbw, qgn]
 simp only [q00, nT, q01, hc]
 cases c with
 | false => rfl
 | true =>
  obtain ⟨hL, fT, _, fp⟩ := hb rfl
  have hL : GD L := hL
  have fT : fewN 30 T := fT
  have fpp : fewN 30 p := fp ⟨b2, p⟩ (List.mem_cons_self ..)
  have fvv : fewN 30 v := fp ⟨b3, v⟩ (List.mem_cons_of_mem _ (List.mem_cons_self ..))
  have lT := fT.1
  have lp := fpp.1
  have lv := fvv.1
  have hTg := q8c gT fT
  have Gp := q8c gp fpp
  have Gv := q8c gv fvv
  obtain ⟨cp, p1, p2, p3⟩ := qb7 L hL T (by omega) hTg p (by omega) Gp
  obtain ⟨cv, v1, v2, v3⟩ := qna L hL T (by omega) hTg v (by omega) Gv
  have o1 := q4a b1 T (by omega)
  have o2 := q4a b2 p (by omega)
  have o3 := q4a b3 v (by omega)
  have hf := fitD L hL.1
  have e0 : (⟨andB false (isE L), app ([] : List DD) L⟩ : Sl DD) = ⟨false, L⟩ := rfl
  simp only [nT, q01, q00, hf, o1, o2, o3, e0, p1, v1]
  cases cp with
  | false => rfl
  | true =>
   simp only [cond_true, e00, nT, q01, q00]
   cases cv with
   | false => rfl
   | true =>
    simp only [nT, q01]
    obtain ⟨_, _, k, t, n, ks, hp1, hp2, _⟩ := p3.1 rfl
    obtain ⟨_, _, k', t', n', ks', hv1, hv2, _⟩ := v3.1 rfl
    obtain ⟨o, ho, hm, _⟩ := q82 p v (by omega) (by omega) Gp Gv
    obtain ⟨A, hA, uA⟩ := hm false
    obtain ⟨k1, k2⟩ := qjg ho (by omega) (by omega)
    obtain ⟨k3, t3, n3, ks3, k4, t4, n4, ks4, u1, u2, u3, u4⟩ := ho.1 ⟨⟨k, t, n, ks, hp1, hp2⟩, hv2⟩
    simp only [hA, q00]
    cases hoo : o with
    | none =>
     rw [hoo] at uA
     have hAn : A.l = [] := by
      cases hAl : A.l with
      | nil => rfl
      | cons a r => rw [hAl] at uA; cases uA
     simp only [Option.isSome_none, nF, q03, hAn]
     rfl
    | some ns =>
     rw [hoo] at uA u4
     have uA : unN A.l = ns := uA
     simp only [Option.isSome_some, nT, q01]
     rw [← qc7] at u4
     subst u1 u2
     obtain ⟨nb, Al⟩ := A
     have uA : unN Al = ns := uA
     obtain ⟨_, e2, _⟩ := chkT_ok.1 u3
     have hnames : Al.map (fun e => e.1) = q1f (tr k3 t3 n3 ks3).flat := by
      have h1 := q94 (m := false) (odd := false) (tr k3 t3 n3 ks3) (tr k4 t4 n4 ks4) ns (errF_ok.2 ⟨by rw [Bool.true_or]; exact e2, rfl⟩) u4.symm
      rw [qbo e2, ← show _ = q4r k3 t3 ks3 from (q3j k3 t3 n3 ks3 .nil).trans (List.append_nil _), ← h1, ← uA]
      unfold unN
      rw [List.map_map]
      rfl
     have hAlen : Al.length ≤ 4000 := by
      have := congrArg List.length uA
      unfold unN at this
      rw [List.length_map] at this
      rw [hoo] at k1
      have k1 : ns.length ≤ 4000 := k1
      omega
     refine qpg b2 b3 nb _ _ (by omega) (by omega) Al hAlen hnames fun e he => ?_
     have hem : (e.1, e.2.l) ∈ ns := by rw [← uA]; exact List.mem_map.2 ⟨e, he, rfl⟩
     obtain ⟨w1, w2, k5, t5, n5, ks5, w3⟩ := qaa _ _ ns u4.symm _ hem
     have w1 : e.2.l.length ≤ ks4.size + 0 + 1 := w1
     have w2 : ∀ x, x ∈ e.2.l → x ∈ (tr k4 t4 n4 ks4).flat := w2
     have w3 : e.2.l = _ := w3
     have hvl := q0v k4 t4 n4 ks4
     obtain ⟨_, _, _, _, _, _, hvall⟩ := qh4 hv2
     refine ⟨?_, by omega, fun x hx => Gv x (w2 x hx)⟩
     unfold q92
     rw [Bool.and_eq_true, Bool.and_eq_true, decide_eq_true_eq]
     exact ⟨by omega, (q31 _).2 ⟨k5, t5, n5, ks5, w3⟩, List.all_eq_true.2 fun x hx => List.all_eq_true.1 hvall x (w2 x hx)⟩
end Fn
end Ev

namespace Ev
open Go
namespace Fn
abbrev tyN : Ty := .st (.pair (.int .i64) (.pair .str (.pair (.int .i64) (.int .i64))))
abbrev tyC : Ty := .st (.pair .str (.sl (.sl tyN)))
abbrev tyD : Ty := .st (.pair .str (.pair (.int .i64) (.sl tyC)))
theorem qlg {s : Tx} (h : good .str s) : gW s := fun b hb => by have := h.2 b hb; omega
theorem good_gL {s : SN} (h : good (.sl tyN) s) : gL s.l := fun x hx => by
 obtain ⟨_, h2, h4, _⟩ := h.2.2 x hx
 exact ⟨qlg h2, inK_i64.1 h4⟩
theorem good_gD {s : Sl DD} (h : good (.sl tyD) s) : gDin s.l := fun d hd => by
 obtain ⟨h1, _, h3⟩ := h.2.2 d hd
 refine ⟨qlg h1, fun c hc => ?_⟩
 obtain ⟨h4, h5⟩ := h3.2.2 c hc
 exact ⟨qlg h4, fun t ht => good_gL (h5.2.2 t ht)⟩
end Fn
end Ev

