/- Layers 9, 10 and 12 in plain words. No statement of its own about the program. -/
import Derived.Test.YtnihgcgcdjdhiaaGreatDoorPlainA
namespace Ev
open Go
namespace Fn
theorem ltG {α : Type} {l : List α} {k : Nat} {x : α} (h : l[k]? = some x) : ltI (k : Int) (lenI l) = true := by
 have := (List.getElem?_eq_some_iff.1 h).1
 exact decide_eq_true (by unfold lenI; omega)
theorem ltE {α : Type} (l : List α) : ltI ((l.length : Nat) : Int) (lenI l) = false := decide_eq_false (by unfold lenI; omega)
theorem qb8 {α β : Type} {x : Option α} {a : α} (h : x = some a) (f : α → Option β) : bnd x f = f a := by rw [h, q00]
theorem getL {α : Type} {l : List α} {k : Nat} {x : α} (h : l[k]? = some x) : k < l.length := (List.getElem?_eq_some_iff.1 h).1
def scan {α ρ : Type} (stop : Nat → α → Option ρ) (R : ρ) : Nat → List α → ρ
 | _, [] => R
 | k, x :: r => match stop k x with
  | some y => y
  | none => scan stop R (k + 1) r
theorem q13 {σ ρ α : Type} (f : σ → Option (σ ⊕ ρ)) (S : Int → σ) (l : List α) (hl : l.length ≤ 1000000) (stop : Nat → α → Option ρ) (R : ρ)
  (hstep : ∀ (k : Nat) x, l[k]? = some x → k ≤ 1000000 → f (S k) = some (match stop k x with | some y => .inr y | none => .inl (S ((k + 1 : Nat) : Int))))
  (hend : f (S ((l.length : Nat) : Int)) = some (.inr R)) : loopR f (S 0) = some (scan stop R 0 l) := by
 have aux : ∀ (r : List α) (k : Nat), l.drop k = r → k ≤ l.length → loopR f (S k) = some (scan stop R k r) := by
  intro r
  induction r with
  | nil =>
   intro k h hk
   have : l.length ≤ k := List.drop_eq_nil_iff.1 h
   obtain rfl : k = l.length := by omega
   exact q0b hend
  | cons x r ih =>
   intro k h hk
   have hlt : k < l.length := by
    rcases Nat.lt_or_ge k l.length with h2 | h2
    ·exact h2
    ·rw [List.drop_eq_nil_of_le h2] at h; cases h
   rw [q1y hlt] at h
   injection h with h1 h2
   have hx : l[k]? = some x := by rw [List.getElem?_eq_getElem hlt, h1]
   have hs := hstep k x hx (by omega)
   unfold scan
   cases hc : stop k x with
   | some y => rw [hc] at hs; exact q0b hs
   | none =>
    rw [hc] at hs
    rw [q0i hs]
    exact ih (k + 1) h2 (by omega)
 exact aux l 0 rfl (Nat.zero_le _)
def ixP {α : Type} (p : α → Bool) : Nat → List α → Int
 | _, [] => -1
 | k, x :: r => bif p x then (k : Int) else ixP p (k + 1) r
theorem qxz {τ α : Type} {O : Int → τ} {p : α → Bool} (r : List α) (k : Nat) : scan (fun k x => bif p x then some (O k) else none) (O (-1)) k r = O (ixP p k r) := by
 induction r generalizing k with
 | nil => rfl
 | cons x r ih =>
  unfold scan ixP
  cases p x with
  | true => rfl
  | false => exact ih (k + 1)
theorem q20 {σ τ α : Type} (f : σ → Option (σ ⊕ τ)) (S : Int → σ) (O : Int → τ) (l : List α) (hl : l.length ≤ 1000000) (p : α → Bool)
  (hstep : ∀ (k : Nat) x, l[k]? = some x → k ≤ 1000000 → f (S k) = some (bif p x then .inr (O k) else .inl (S ((k + 1 : Nat) : Int))))
  (hend : f (S ((l.length : Nat) : Int)) = some (.inr (O (-1)))) : loopR f (S 0) = some (O (ixP p 0 l)) := by
 have h := q13 f S l hl (fun k x => bif p x then some (O k) else none) (O (-1)) (fun k x hx hk => by rw [hstep k x hx hk]; cases p x <;> rfl) hend
 rw [h, qxz]
theorem q3e {α : Type} (p : α → Bool) (l : List α) (k : Nat) : leI 0 (ixP p k l) = l.any p := by
 induction l generalizing k with
 | nil => rfl
 | cons x r ih =>
  unfold ixP
  rw [List.any_cons]
  cases p x with
  | true => exact decide_eq_true (by show (0 : Int) ≤ (k : Int); omega)
  | false => exact ih (k + 1)
theorem qvv {α : Type} (p : α → Bool) (l : List α) (k : Nat) : ltI (ixP p k l) 0 = !l.any p := by
 rw [← q3e p l k]
 generalize ixP p k l = z
 unfold ltI leI
 by_cases h : z < 0
 ·rw [decide_eq_true h, decide_eq_false (by omega)]; rfl
 ·rw [decide_eq_false h, decide_eq_true (by omega)]; rfl
theorem qal {α : Type} (p : α → Bool) : ∀ (l : List α) (k : Nat), l.any p = true → ∃ (i : Nat) (x : α), ixP p k l = ((k + i : Nat) : Int) ∧ l[i]? = some x ∧ p x = true ∧ l.find? p = some x
 | [], _, h => by cases h
 | x :: r, k, h => by
  unfold ixP
  rw [List.any_cons] at h
  cases hp : p x with
  | true => exact ⟨0, x, rfl, rfl, hp, by rw [List.find?_cons_of_pos hp]⟩
  | false =>
   rw [hp] at h
   obtain ⟨i, y, h1, h2, h3, h4⟩ := qal p r (k + 1) h
   refine ⟨i + 1, y, ?_, h2, h3, by rw [List.find?_cons_of_neg (by rw [hp]; exact Bool.false_ne_true)]; exact h4⟩
   show ixP p (k + 1) r = _
   rw [h1]; congr 1; omega
theorem qge {α : Type} (p : α → Bool) (l : List α) (k : Nat) (h : l.any p = false) : ixP p k l = -1 := by
 induction l generalizing k with
 | nil => rfl
 | cons x r ih =>
  unfold ixP
  rw [List.any_cons, Bool.or_eq_false_iff] at h
  rw [h.1]
  exact ih (k + 1) h.2
def qsb {α β ρ : Type} (g : Nat → β → α → β ⊕ ρ) (fin : β → ρ) : Nat → β → List α → ρ
 | _, a, [] => fin a
 | k, a, x :: r => match g k a x with
  | .inl a' => qsb g fin (k + 1) a' r
  | .inr y => y
theorem qos {σ ρ α β : Type} (f : σ → Option (σ ⊕ ρ)) (S : Int → β → σ) (l : List α) (g : Nat → β → α → β ⊕ ρ) (fin : β → ρ) (I : Nat → β → Prop) (a0 : β) (h0 : I 0 a0)
  (hstep : ∀ (k : Nat) x a, l[k]? = some x → I k a → f (S k a) = some (match g k a x with | .inl a' => .inl (S ((k + 1 : Nat) : Int) a') | .inr y => .inr y) ∧ ∀ a', g k a x = .inl a' → I (k + 1) a')
  (hend : ∀ a, I l.length a → f (S ((l.length : Nat) : Int) a) = some (.inr (fin a))) : loopR f (S 0 a0) = some (qsb g fin 0 a0 l) := by
 have aux : ∀ (r : List α) (k : Nat) (a : β), l.drop k = r → k ≤ l.length → I k a → loopR f (S k a) = some (qsb g fin k a r) := by
  intro r
  induction r with
  | nil =>
   intro k a h hk hi
   have : l.length ≤ k := List.drop_eq_nil_iff.1 h
   obtain rfl : k = l.length := by omega
   exact q0b (hend a hi)
  | cons x r ih =>
   intro k a h hk hi
   have hlt : k < l.length := by
    rcases Nat.lt_or_ge k l.length with h2 | h2
    ·exact h2
    ·rw [List.drop_eq_nil_of_le h2] at h; cases h
   rw [q1y hlt] at h
   injection h with h1 h2
   have hx : l[k]? = some x := by rw [List.getElem?_eq_getElem hlt, h1]
   obtain ⟨hs, hi2⟩ := hstep k x a hx hi
   unfold qsb
   cases hc : g k a x with
   | inr y => rw [hc] at hs; exact q0b hs
   | inl a' =>
    rw [hc] at hs
    rw [q0i hs]
    exact ih (k + 1) a' h2 (by omega) (hi2 a' hc)
 exact aux l 0 a0 rfl (Nat.zero_le _) h0
theorem qsc {α β ρ : Type} (g : β → α → β) (fin : β → ρ) (l : List α) (k : Nat) (a : β) : qsb (fun _ a x => .inl (g a x)) fin k a l = fin (l.foldl g a) := by
 induction l generalizing k a with
 | nil => rfl
 | cons x r ih => exact ih (k + 1) (g a x)
theorem q30 {σ ρ α β : Type} (f : σ → Option (σ ⊕ ρ)) (S : Int → β → σ) (l : List α) (g : β → α → β) (fin : β → ρ) (I : Nat → β → Prop) (a0 : β) (h0 : I 0 a0)
  (hstep : ∀ (k : Nat) x a, l[k]? = some x → I k a → f (S k a) = some (.inl (S ((k + 1 : Nat) : Int) (g a x))) ∧ I (k + 1) (g a x))
  (hend : ∀ a, I l.length a → f (S ((l.length : Nat) : Int) a) = some (.inr (fin a))) : loopR f (S 0 a0) = some (fin (l.foldl g a0)) := by
 rw [qos f S l (fun _ a x => .inl (g a x)) fin I a0 h0 (fun k x a hx hi => ⟨(hstep k x a hx hi).1, fun a' e => by injection e with e; rw [← e]; exact (hstep k x a hx hi).2⟩) hend, qsc]
end Fn
end Ev

namespace Ev
open Go
namespace Fn
theorem eqS_eq {a b : List Int} : eqS a b = true ↔ a = b := by simp [eqS]
def typN (x : ND) : Bool := bif eqI x.1 31 then eqI x.2.2.2 0 && (eqS x.2.1 [] && (leI 0 x.2.2.1 && leI x.2.2.1 1048576)) else
 eqI x.1 32 && (eqI x.2.2.1 0 && (bif eqS x.2.1 [45, 62] then eqI x.2.2.2 2 else bif eqS x.2.1 [105, 110, 116] || eqS x.2.1 [116, 101, 120, 116] then eqI x.2.2.2 0 else bif eqS x.2.1 [114, 101, 102] then eqI x.2.2.2 1 else q3v x.2.1 && leI x.2.2.2 8))
theorem qko (x : ND) (hx : qin x) : f_e3 (x, ()) = some (typN x, ()) := by
 obtain ⟨a, t, n, c⟩ := x
 have hl := qah t hx.1
 rw [u_e3]
 unfold typN
 simp only
 cases h1 : eqI a 31 with
 | true => cases eqI c 0 <;> cases eqS t [] <;> cases leI 0 n <;> cases leI n 1048576 <;> rfl
 | false =>
  cases h2 : eqI a 32 with
  | false => rfl
  | true =>
   cases h3 : eqI n 0 with
   | false => rfl
   | true =>
    cases h4 : eqS t [45, 62] with
    | true => rfl
    | false =>
     cases h5 : eqS t [105, 110, 116] with
     | true => rfl
     | false =>
      cases h6 : eqS t [116, 101, 120, 116] with
      | true => rfl
      | false =>
       cases h7 : eqS t [114, 101, 102] with
       | true => simp only [nT, q01, q04, q00, h7]; rfl
       | false =>
        simp only [nT, q01, q00, cond_false, hl, Bool.true_and, Bool.false_or, h7]
        unfold q3v
        cases q3u q2v t <;> rfl
def q2w (l : List ND) : Bool := decide (l.length ≤ 4000) && (q6r l && l.all typN)
theorem ix12 (b : Bool) (l : List ND) (hl : l.length ≤ 1000000) (hg : GL l) : f_ci (⟨b, l⟩, ()) = some (!l.all typN, ()) := by
 have e : loopR l1_cs (⟨b, l⟩, lenI l, 0, ()) = some (ixP (fun x => !typN x) 0 l, ()) := by
  refine q20 l1_cs (fun k => (⟨b, l⟩, lenI l, k, ())) (fun z => (z, ())) l hl (fun x => !typN x) ?_ ?_
  ·intro k x hx hk
   obtain ⟨a, t, n, c⟩ := x
   unfold l1_cs
   simp only [ltG hx, q04, q07 hx, q00, u_e1, qko _ (hg.at hx), add1 (show k ≤ 1000000000 by omega), notB]
   cases typN (a, t, n, c) <;> rfl
  ·unfold l1_cs
   simp only [ltE, q01]
 rw [u_ci, u_cs]
 refine (qb8 e _).trans ?_
 rw [q3e, List.not_all_eq_any_not]
theorem qy0 (l : List ND) : ltI 4000 (lenI l) = !decide (l.length ≤ 4000) := by
 unfold ltI lenI
 by_cases e : l.length ≤ 4000
 ·rw [decide_eq_true e, decide_eq_false (by omega)]; rfl
 ·rw [decide_eq_false e, decide_eq_true (by omega)]; rfl
theorem q6i (b : Bool) (l : List ND) (hl : l.length ≤ 10000) (hg : GL l) : f_e0 (⟨b, l⟩, ()) = some (bif q2w l then 0 else 90, ()) := by
 rw [u_e0, ix12 b l (by omega) hg, q5r b l hl]
 simp only [qy0]
 unfold q2w
 cases decide (l.length ≤ 4000) <;> cases q6r l <;> cases l.all typN <;> rfl
end Fn
end Ev

namespace Ev
open Go
namespace Fn
theorem qz9 (v : Int) (l : List Int) : l.any (fun x => eqI v x) = decide (v ∈ l) := by
 induction l with
 | nil => rfl
 | cons a r ih =>
  rw [List.any_cons, ih]
  by_cases h : v = a
  ·subst h; rw [q4z]; exact (decide_eq_true (List.mem_cons_self ..)).symm
  ·rw [q1r h, Bool.false_or]
   exact decide_eq_decide.2 ⟨fun e => List.mem_cons_of_mem _ e, fun e => (List.mem_cons.1 e).resolve_left h⟩
theorem qgf (b : Bool) (l : List Int) (v : Int) (hl : l.length ≤ 1000000) : f_ca (⟨b, l⟩, v, ()) = some (decide (v ∈ l), ()) := by
 have e : loopR l1_cp (⟨b, l⟩, v, lenI l, 0, ()) = some (ixP (fun x => eqI v x) 0 l, ()) := by
  refine q20 l1_cp (fun k => (⟨b, l⟩, v, lenI l, k, ())) (fun z => (z, ())) l hl (fun x => eqI v x) ?_ ?_
  ·intro k x hx hk
   unfold l1_cp
   simp only [ltG hx, q04, q07 hx, q00, add1 (show k ≤ 1000000000 by omega)]
   cases eqI v x <;> rfl
  ·unfold l1_cp
   simp only [ltE, q01]
 rw [u_ca, u_cp]
 refine (qb8 e _).trans ?_
 rw [q3e, qz9]
def varG (a : List Int) (x : ND) : List Int := bif eqI x.1 31 && !decide (x.2.2.1 ∈ a) then a ++ [x.2.2.1] else a
theorem qv2 (a : List Int) (x : ND) : (varG a x).length ≤ a.length + 1 := by
 unfold varG
 cases (eqI x.1 31 && !decide (x.2.2.1 ∈ a)) with
 | true => rw [cond_true, List.length_append]; exact Nat.le_refl _
 | false => exact Nat.le_succ _
theorem qv3 (p : Int → Bool) (l : List ND) : ∀ a : List Int, (l.foldl varG a).any p = (a.any p || l.any fun x => eqI x.1 31 && p x.2.2.1) := by
 induction l with
 | nil => intro a; simp
 | cons x r ih =>
  intro a
  rw [List.foldl_cons, ih, List.any_cons, ← Bool.or_assoc]
  congr 1
  unfold varG
  cases eqI x.1 31 with
  | false => simp
  | true =>
   by_cases h : x.2.2.1 ∈ a
   ·rw [decide_eq_true h]
    simp only [Bool.not_true, Bool.and_false, cond_false, Bool.true_and]
    cases hp : p x.2.2.1 with
    | false => simp
    | true => rw [Bool.or_true]; exact List.any_eq_true.2 ⟨_, h, hp⟩
   ·rw [decide_eq_false h]
    simp
def varS (a : Sl Int) (x : ND) : Sl Int := bif eqI x.1 31 && !decide (x.2.2.1 ∈ a.l) then ⟨false, a.l ++ [x.2.2.1]⟩ else a
theorem qvw (l : List ND) : ∀ a : Sl Int, (l.foldl varS a).l = l.foldl varG a.l := by
 induction l with
 | nil => intro a; rfl
 | cons x r ih =>
  intro a
  rw [List.foldl_cons, List.foldl_cons, ih]
  congr 1
  unfold varS varG
  cases (eqI x.1 31 && !decide (x.2.2.1 ∈ a.l)) <;> rfl
theorem qmo (a : Sl Int) (x : ND) : (varS a x).l.length ≤ a.l.length + 1 := by
 have := qvw [x] a
 rw [List.foldl_cons, List.foldl_nil, List.foldl_cons, List.foldl_nil] at this
 rw [this]
 exact qv2 _ _
theorem qot (b : Bool) (l : List ND) (hl : l.length ≤ 10000) (hg : GL l) (ht : q2w l = true) : f_e2 (⟨b, l⟩, ()) = some (l.foldl varS ⟨true, []⟩, ()) := by
 rw [u_e2, q6i b l hl hg, ht, q00]
 show loopR l1_e2 (⟨b, l⟩, lenI l, 0, ⟨true, []⟩, ()) = _
 refine q30 l1_e2 (fun k a => (⟨b, l⟩, lenI l, k, a, ())) l varS (fun a => (a, ())) (fun k a => k ≤ l.length ∧ a.l.length ≤ k) ⟨true, []⟩ ⟨Nat.zero_le _, Nat.le_refl _⟩ ?_ ?_
 ·intro k x a hx hi
  obtain ⟨nb, a⟩ := a
  have hk := getL hx
  have h2 : a.length ≤ k := hi.2
  have hadd := add1 (show k ≤ 1000000000 by omega)
  have hc := qgf nb a x.2.2.1 (by omega)
  have hfit : fit (sumI (lenI a) (lenI [x.2.2.1])) = some () := q0q (by show a.length + 1 ≤ _; omega)
  refine ⟨?_, ⟨hk, by have := qmo ⟨nb, a⟩ x; have := hi.2; simp only at *; omega⟩⟩
  unfold l1_e2 varS
  simp only [ltG hx, q04, q07 hx, q00, hc, hfit, q1v, notB, app]
  cases eqI x.1 31 <;> cases decide (x.2.2.1 ∈ a) <;> simp only [Bool.not_true, Bool.not_false, Bool.and_true, Bool.and_false, cond_true, cond_false, q04, q01, q00, hadd]
 ·intro a _
  unfold l1_e2
  simp only [ltE, q01]
end Fn
end Ev

namespace Ev
open Go
namespace Fn
abbrev SN := Sl ND
abbrev CT := Tx × Sl SN
abbrev DD := Tx × Int × Sl CT
def gT (s : Tx) : Prop := (∀ b, b ∈ s → 0 ≤ b ∧ b ≤ 255) ∧ s.length ≤ 1000000
def gA (t : SN) : Prop := GL t.l ∧ t.l.length ≤ 10000
def gC (c : CT) : Prop := gT c.1 ∧ c.2.l.length ≤ 1000 ∧ ∀ t, t ∈ c.2.l → gA t
def gD (d : DD) : Prop := gT d.1 ∧ d.2.2.l.length ≤ 1000 ∧ ∀ c, c ∈ d.2.2.l → gC c
def GD (L : List DD) : Prop := L.length ≤ 1000 ∧ ∀ d, d ∈ L → gD d
def qgg (p : Int) (t : List ND) : Bool := q2w t && !(t.any fun x => eqI x.1 31 && leI p x.2.2.1)
def qf2 (p : Int) (c : CT) : Bool := q3v c.1 && (leI (lenI c.2.l) 8 && c.2.l.all fun t => qgg p t.l)
def q23 (d : DD) : Bool := q3v d.1 && (leI 0 d.2.1 && (leI d.2.1 8 && (leI 1 (lenI d.2.2.l) && (leI (lenI d.2.2.l) 60 && d.2.2.l.all (qf2 d.2.1)))))
theorem qam (s : Tx) (hs : gT s) : f_ad (s, ()) = some (q3v s, ()) := by
 rw [u_ad, qah s hs.1, q00]; rfl
theorem qv4 (s : Tx) (hs : gT s) : f_c5 (s, ()) = some (q3v s, ()) := by
 rw [u_c5, qoe s hs.2, q00]; rfl
theorem qza (a b : Int) : ltI a b = !leI b a := by
 unfold ltI leI
 by_cases h : a < b
 ·rw [decide_eq_true h, decide_eq_false (by omega)]; rfl
 ·rw [decide_eq_false h, decide_eq_true (by omega)]; rfl
theorem qsd (l : List ND) : ∀ a : Sl Int, (l.foldl varS a).l.length ≤ a.l.length + l.length := by
 induction l with
 | nil => intro a; exact Nat.le_refl _
 | cons x r ih =>
  intro a
  rw [List.foldl_cons]
  have h1 := ih (varS a x)
  have h2 := qmo a x
  rw [List.length_cons]; omega
theorem qv5 (n : Tx) (p : Int) (cs : Sl CT) (t : SN) (ht : gA t) : f_ah (t, n, p, cs, ()) = some (!qgg p t.l, n, p, cs, ()) := by
 obtain ⟨b, l⟩ := t
 obtain ⟨hg, hl⟩ := ht
 have hl : l.length ≤ 10000 := hl
 rw [u_ah, u_af, q6i b l hl hg]
 unfold qgg
 cases hc : q2w l with
 | false => rfl
 | true =>
  have hv := qot b l hl hg hc
  have hlen := qsd l ⟨true, []⟩
  have ha := qv3 (fun v => leI p v) l []
  rw [List.any_nil, Bool.false_or] at ha
  rw [← show (l.foldl varS ⟨true, []⟩).l = l.foldl varG [] from qvw l _] at ha
  have hlen : (l.foldl varS ⟨true, []⟩).l.length ≤ 0 + l.length := hlen
  generalize l.foldl varS ⟨true, []⟩ = vs at hv hlen ha
  have e : loopR l1_cz (vs, lenI vs.l, 0, n, p, cs, ()) = some (ixP (fun v => leI p v) 0 vs.l, n, p, cs, ()) := by
   refine q20 l1_cz (fun k => (vs, lenI vs.l, k, n, p, cs, ())) (fun z => (z, n, p, cs, ())) vs.l (by omega) (fun v => leI p v) ?_ ?_
   ·intro k x hx hk
    unfold l1_cz
    simp only [ltG hx, q04, q07 hx, q00, u_ag, add1 (show k ≤ 1000000000 by omega)]
    cases leI p x <;> rfl
   ·unfold l1_cz
    simp only [ltE, q01]
  rw [q00]
  simp only [cond_true, e00, q04, q00, hv, u_ce, u_cz, e, q3e, ha, Bool.true_and, notB, Bool.not_not]
theorem qse (n : Tx) (p : Int) (cs : Sl CT) (a : Sl SN) (ha : a.l.length ≤ 1000) (hg : ∀ t, t ∈ a.l → gA t) : f_ch (a, n, p, cs, ()) = some (!(a.l.all fun t => qgg p t.l), n, p, cs, ()) := by
 have e : loopR l1_d0 (a, lenI a.l, 0, n, p, cs, ()) = some (ixP (fun t => !qgg p t.l) 0 a.l, n, p, cs, ()) := by
  refine q20 l1_d0 (fun k => (a, lenI a.l, k, n, p, cs, ())) (fun z => (z, n, p, cs, ())) a.l (by omega) (fun t => !qgg p t.l) ?_ ?_
  ·intro k x hx hk
   unfold l1_d0
   simp only [ltG hx, q04, q07 hx, q00, qv5 n p cs x (hg x (List.mem_of_getElem? hx)), add1 (show k ≤ 1000000000 by omega)]
   cases qgg p x.l <;> rfl
  ·unfold l1_d0
   simp only [ltE, q01]
 rw [u_ch, u_d0, e, q00, q3e, List.not_all_eq_any_not]
theorem qgh {α ρ : Type} (p : α → Bool) (A R : ρ) (l : List α) (k : Nat) : scan (fun _ x => bif p x then none else some A) R k l = bif l.all p then R else A := by
 induction l generalizing k with
 | nil => rfl
 | cons x r ih =>
  unfold scan
  rw [List.all_cons]
  cases p x with
  | true => exact ih (k + 1)
  | false => rfl
theorem qkp (d : DD) (hd : gD d) : f_ae (d, ()) = some (q23 d, ()) := by
 obtain ⟨n, p, cs⟩ := d
 obtain ⟨h1, h2, h3⟩ := hd
 have h2 : cs.l.length ≤ 1000 := h2
 have e : loopR l1_ae (cs, lenI cs.l, 0, n, p, cs, ()) = some (cs.l.all (qf2 p), ()) := by
  refine (q13 l1_ae (fun k => (cs, lenI cs.l, k, n, p, cs, ())) cs.l (by omega) (fun _ c => bif qf2 p c then none else some (false, ())) (true, ()) ?_ ?_).trans ?_
  ·intro k c hx hk
   obtain ⟨g1, g2, g3⟩ := h3 c (List.mem_of_getElem? hx)
   have hadd := add1 (show k ≤ 1000000000 by omega)
   unfold l1_ae qf2
   simp only [ltG hx, q04, q07 hx, q00, qam c.1 g1, qza 8, qse n p cs c.2 g2 g3, hadd]
   cases q3v c.1 <;> cases leI (lenI c.2.l) 8 <;> cases (c.2.l.all fun t => qgg p t.l) <;> rfl
  ·unfold l1_ae
   simp only [ltE, q01]
  ·rw [qgh]; cases cs.l.all (qf2 p) <;> rfl
 rw [u_ae, qam n h1, e]
 unfold q23
 simp only [q00, qza]
 cases q3v n <;> cases leI 0 p <;> cases leI p 8 <;> cases leI 1 (lenI cs.l) <;> cases leI (lenI cs.l) 60 <;> rfl
end Fn
end Ev

namespace Ev
open Go
namespace Fn
theorem q48 {α ρ : Type} (p : α → Bool) (A R : ρ) (l : List α) (k : Nat) : scan (fun _ x => bif p x then some A else none) R k l = bif l.any p then A else R := by
 induction l generalizing k with
 | nil => rfl
 | cons x r ih =>
  unfold scan
  rw [List.any_cons]
  cases p x with
  | false => exact ih (k + 1)
  | true => rfl
end Fn
end Ev

namespace Ev
open Go
namespace Fn
def anyX {α : Type} (q : Nat → α → Bool) : Nat → List α → Bool
 | _, [] => false
 | k, x :: r => q k x || anyX q (k + 1) r
theorem qd5 {α ρ : Type} (q : Nat → α → Bool) (A R : ρ) (l : List α) (k : Nat) : scan (fun k x => bif q k x then some A else none) R k l = bif anyX q k l then A else R := by
 induction l generalizing k with
 | nil => rfl
 | cons x r ih =>
  unfold scan anyX
  cases q k x with
  | false => exact ih (k + 1)
  | true => rfl
def dupT : List Tx → List Tx → Bool
 | _, [] => false
 | pre, a :: r => decide (a ∈ pre) || dupT (pre ++ [a]) r
theorem qsf : ∀ (l pre : List Tx), dupT pre l = (l.any (fun x => decide (x ∈ pre)) || dupL l)
 | [], _ => rfl
 | a :: r, pre => by
  unfold dupT dupL
  rw [qsf r, List.any_cons]
  have h : (r.any fun x => decide (x ∈ pre ++ [a])) = ((r.any fun x => decide (x ∈ pre)) || decide (a ∈ r)) := by
   rw [Bool.eq_iff_iff]
   simp only [List.any_eq_true, Bool.or_eq_true, decide_eq_true_eq, List.mem_append, List.mem_singleton]
   constructor
   ·rintro ⟨x, h1, h2 | h2⟩
    ·exact .inl ⟨x, h1, h2⟩
    ·subst h2; exact .inr h1
   ·rintro (⟨x, h1, h2⟩ | h2)
    ·exact ⟨x, h1, .inl h2⟩
    ·exact ⟨a, h2, .inr rfl⟩
  rw [h]
  cases decide (a ∈ pre) <;> cases (r.any fun x => decide (x ∈ pre)) <;> cases decide (a ∈ r) <;> rfl
theorem qv6 {α : Type} (key : α → Tx) (q : Nat → α → Bool) (L : List α) (h : ∀ k x, L[k]? = some x → q k x = decide (key x ∈ (L.take k).map key)) : anyX q 0 L = dupL (L.map key) := by
 have aux : ∀ (suf pre : List α), L = pre ++ suf → anyX q pre.length suf = dupT (pre.map key) (suf.map key) := by
  intro suf
  induction suf with
  | nil => intro pre _; rfl
  | cons x r ih =>
   intro pre e
   have hx : L[pre.length]? = some x := by rw [e, List.getElem?_append_right (Nat.le_refl _), Nat.sub_self]; rfl
   have ht : L.take pre.length = pre := by rw [e, List.take_left]
   have h1 := ih (pre ++ [x]) (by rw [e, List.append_assoc]; rfl)
   rw [List.length_append, List.map_append] at h1
   unfold anyX
   rw [h _ x hx, ht]
   exact congrArg _ h1
 refine (aux L [] rfl).trans ?_
 rw [List.map_nil, qsf]
 simp
theorem qmp {α : Type} (p : α → Bool) : ∀ (l : List α) (i k : Nat) (x : α), l[i]? = some x → p x = true → ltI (ixP p k l) ((k + i : Nat) : Int) = (l.take i).any p
 | [], _, _, _, h, _ => by cases h
 | a :: r, 0, k, x, h, hp => by
  injection h with h
  subst h
  unfold ixP
  rw [hp, cond_true]
  exact decide_eq_false (by omega)
 | a :: r, i + 1, k, x, h, hp => by
  unfold ixP
  rw [List.take_succ_cons, List.any_cons]
  cases ha : p a with
  | true => exact decide_eq_true (by show (k : Int) < _; omega)
  | false =>
   have := qmp p r i (k + 1) x h hp
   rw [show k + (i + 1) = k + 1 + i by omega]
   exact this
theorem qmq (l : List DD) (n : Tx) : (l.any fun x => eqS x.1 n) = decide (n ∈ l.map fun d => d.1) := by
 rw [Bool.eq_iff_iff]
 simp only [List.any_eq_true, decide_eq_true_eq, List.mem_map]
 exact ⟨fun ⟨x, h1, h2⟩ => ⟨x, h1, eqS_eq.1 h2⟩, fun ⟨x, h1, h2⟩ => ⟨x, h1, eqS_eq.2 h2⟩⟩
def PC (i : Nat) : Nat → List CT → List ((Int × Int) × Tx)
 | _, [] => []
 | k, c :: r => ((i, k), c.1) :: PC i (k + 1) r
def PD : Nat → List DD → List ((Int × Int) × Tx)
 | _, [] => []
 | i, d :: r => PC i 0 d.2.2.l ++ PD (i + 1) r
def qgi (L : List DD) : List Tx := L.flatMap fun d => d.2.2.l.map fun c => c.1
def q7s (E : List ((Int × Int) × Tx)) (n : Tx) : Option (Int × Int) := (E.find? fun e => eqS e.2 n).map fun e => e.1
theorem qmr (i : Nat) : ∀ (l : List CT) (k : Nat), (PC i k l).map (fun e => e.2) = l.map fun c => c.1
 | [], _ => rfl
 | c :: r, k => by show c.1 :: _ = c.1 :: _; rw [qmr i r]
theorem qms : ∀ (L : List DD) (i : Nat), (PD i L).map (fun e => e.2) = qgi L
 | [], _ => rfl
 | d :: r, i => by
  show (PC i 0 d.2.2.l ++ PD (i + 1) r).map _ = _
  rw [List.map_append, qmr, qms r]; rfl
theorem qgj (i : Nat) : ∀ (l : List CT) (k : Nat) e, e ∈ PC i k l → e.1.1 = (i : Int) ∧ (k : Int) ≤ e.1.2
 | [], _, _, h => by cases h
 | c :: r, k, e, h => by
  rcases List.mem_cons.1 h with h | h
  ·subst h; exact ⟨rfl, Int.le_refl _⟩
  ·obtain ⟨h1, h2⟩ := qgj i r (k + 1) e h
   exact ⟨h1, by omega⟩
theorem qsg : ∀ (L : List DD) (i : Nat) e, e ∈ PD i L → (i : Int) ≤ e.1.1
 | [], _, _, h => by cases h
 | d :: r, i, e, h => by
  rcases List.mem_append.1 h with h | h
  ·rw [(qgj i _ _ e h).1]; exact Int.le_refl _
  ·have := qsg r (i + 1) e h; omega
theorem qmt (i : Nat) : ∀ (l : List CT) (k : Nat), ((PC i k l).map fun e => e.1).Nodup
 | [], _ => List.nodup_nil
 | c :: r, k => by
  show (((i : Int), (k : Int)) :: (PC i (k + 1) r).map _).Nodup
  refine List.nodup_cons.2 ⟨fun h => ?_, qmt i r (k + 1)⟩
  obtain ⟨e, h1, h2⟩ := List.mem_map.1 h
  have := (qgj i r (k + 1) e h1).2
  rw [h2] at this
  simp only at this
  omega
theorem qmu : ∀ (L : List DD) (i : Nat), ((PD i L).map fun e => e.1).Nodup
 | [], _ => List.nodup_nil
 | d :: r, i => by
  show ((PC i 0 d.2.2.l ++ PD (i + 1) r).map _).Nodup
  rw [List.map_append]
  refine List.nodup_append.2 ⟨qmt i _ _, qmu r (i + 1), fun a ha b hb => ?_⟩
  obtain ⟨e, h1, h2⟩ := List.mem_map.1 ha
  obtain ⟨e', h3, h4⟩ := List.mem_map.1 hb
  have g1 := (qgj i _ _ e h1).1
  have g2 := qsg r (i + 1) e' h3
  intro h
  rw [← h, ← h2] at h4
  rw [h4, g1] at g2
  omega
theorem qis : ∀ E : List ((Int × Int) × Tx), (E.map fun e => e.1).Nodup → (E.any fun e => !decide (q7s E e.2 = some e.1)) = dupL (E.map fun e => e.2)
 | [], _ => rfl
 | e0 :: r, h => by
  rw [List.map_cons] at h
  obtain ⟨h1, h2⟩ := List.nodup_cons.1 h
  have ih := qis r h2
  have f0 : q7s (e0 :: r) e0.2 = some e0.1 := by
   unfold q7s
   rw [List.find?_cons_of_pos (p := fun e : (Int × Int) × Tx => eqS e.2 e0.2) (q50 e0.2)]
   rfl
  rw [List.any_cons, f0, List.map_cons]
  unfold dupL
  rw [← ih]
  have hd : (!decide ((some e0.1 : Option (Int × Int)) = some e0.1)) = false := by simp
  rw [hd, Bool.false_or]
  rw [Bool.eq_iff_iff]
  simp only [List.any_eq_true, Bool.or_eq_true, decide_eq_true_eq, List.mem_map, Bool.not_eq_true', decide_eq_false_iff_not]
  have fr : ∀ e, e ∈ r → e.2 ≠ e0.2 → q7s (e0 :: r) e.2 = q7s r e.2 := fun e _ hne => by
   unfold q7s
   rw [List.find?_cons_of_neg (p := fun x : (Int × Int) × Tx => eqS x.2 e.2) (fun hh => hne (eqS_eq.1 hh).symm)]
  constructor
  ·rintro ⟨e, g1, g2⟩
   by_cases hn : e.2 = e0.2
   ·exact .inl ⟨e, g1, hn⟩
   ·rw [fr e g1 hn] at g2; exact .inr ⟨e, g1, g2⟩
  ·rintro (⟨e, g1, g2⟩ | ⟨e, g1, g2⟩)
   ·refine ⟨e, g1, ?_⟩
    rw [g2, f0]
    intro hh
    injection hh with hh
    exact h1 (List.mem_map.2 ⟨e, g1, hh.symm⟩)
   ·by_cases hn : e.2 = e0.2
    ·refine ⟨e, g1, ?_⟩
     rw [hn, f0]
     intro hh
     injection hh with hh
     exact h1 (List.mem_map.2 ⟨e, g1, hh.symm⟩)
    ·exact ⟨e, g1, by rw [fr e g1 hn]; exact g2⟩
end Fn
end Ev

namespace Ev
open Go
namespace Fn
def qf3 (L : List DD) (x : ND) : Bool := L.any fun d => eqS d.1 x.2.1 && eqI d.2.1 x.2.2.2
def q8m (L : List DD) (x : ND) : Bool := eqI x.1 32 && (q3v x.2.1 && !qf3 L x)
def q9n (L : List DD) (c : CT) : Bool := c.2.l.any fun t => t.l.any (q8m L)
def q80 (L : List DD) : Bool := L.any fun d => d.2.2.l.any (q9n L)
def q5t (L : List DD) : Bool := decide (L.length ≤ 60) && (L.all q23 && (!dupL (L.map fun d => d.1) && (!dupL (qgi L) && !q80 L)))
theorem qv7 (b : Bool) (L : List DD) (hL : GD L) : f_cb (⟨b, L⟩, ()) = some (!L.all q23, ()) := by
 have e : loopR l1_d2 (⟨b, L⟩, lenI L, 0, ()) = some (ixP (fun d => !q23 d) 0 L, ()) := by
  refine q20 l1_d2 (fun k => (⟨b, L⟩, lenI L, k, ())) (fun z => (z, ())) L (by have := hL.1; omega) (fun d => !q23 d) ?_ ?_
  ·intro k x hx hk
   have hd := qkp x (hL.2 x (List.mem_of_getElem? hx))
   obtain ⟨n, p, cs⟩ := x
   unfold l1_d2
   simp only [ltG hx, q04, q07 hx, q00, u_a1, hd, add1 (show k ≤ 1000000000 by omega), notB]
   cases q23 (n, p, cs) <;> rfl
  ·unfold l1_d2
   simp only [ltE, q01]
 rw [u_cb, u_d2]
 refine (qb8 e _).trans ?_
 rw [q3e, List.not_all_eq_any_not]
theorem qzb (b : Bool) (L : List DD) (hL : GD L) (d : DD) : f_d3 (⟨b, L⟩, d, ()) = some (ixP (fun x => eqS x.1 d.1) 0 L, ()) := by
 obtain ⟨n, p, cs⟩ := d
 rw [u_d3]
 refine q20 l1_d3 (fun k => (⟨b, L⟩, (n, p, cs), lenI L, k, ())) (fun z => (z, ())) L (by have := hL.1; omega) (fun x => eqS x.1 n) ?_ ?_
 ·intro k x hx hk
  obtain ⟨m, q, ds⟩ := x
  unfold l1_d3
  simp only [ltG hx, q04, q07 hx, q00, u_a2, add1 (show k ≤ 1000000000 by omega)]
  cases eqS m n <;> rfl
 ·unfold l1_d3
  simp only [ltE, q01]
def qsh (n : Tx) (i : Nat) (d : DD) : Option (Bool × Int × Int × Unit) := bif leI 0 (ixP (fun c : CT => eqS c.1 n) 0 d.2.2.l) then some (true, (i : Int), ixP (fun c : CT => eqS c.1 n) 0 d.2.2.l, ()) else none
def out3 (s : Sl DD) (n : Tx) (i : Nat) (z : Int) : ((Sl DD) × Tx × (Sl DD) × Int × Int × Int × Int × Unit) ⊕ (Bool × Int × Int × Unit) := bif leI 0 z then .inr (true, (i : Int), z, ()) else .inl (s, n, s, lenI s.l, ((i + 1 : Nat) : Int), 0, 0, ())
theorem z00 (s : Sl DD) (hL : GD s.l) (n : Tx) : f_ac (s, s, n, 0, 0, ()) = some (scan (qsh n) (false, 0, 0, ()) 0 s.l) := by
 rw [u_ac]
 refine q13 l2_ac (fun k => (s, n, s, lenI s.l, k, 0, 0, ())) s.l (by have := hL.1; omega) (qsh n) (false, 0, 0, ()) ?_ ?_
 ·intro i d hd hi
  obtain ⟨g1, g2, g3⟩ := hL.2 d (List.mem_of_getElem? hd)
  have e : loopR l1_ac (s, n, (i : Int), s, lenI s.l, (i : Int), lenI d.2.2.l, 0, 0, 0, ()) = some (out3 s n i (ixP (fun c : CT => eqS c.1 n) 0 d.2.2.l)) := by
   refine q20 l1_ac (fun k => (s, n, (i : Int), s, lenI s.l, (i : Int), lenI d.2.2.l, k, 0, 0, ())) (out3 s n i) d.2.2.l (by omega) (fun c : CT => eqS c.1 n) ?_ ?_
   ·intro k c hc hk
    have h0 : leI 0 (k : Int) = true := decide_eq_true (by omega)
    unfold l1_ac out3
    simp only [ltG hc, q04, u_a9, q07 hd, q07 hc, q00, add1 (show k ≤ 1000000000 by omega), h0, cond_true]
    cases eqS c.1 n <;> rfl
   ·have h0 : leI 0 (-1) = false := id (Eq.refl _)
    unfold l1_ac out3
    simp only [ltE, q01, h0, cond_false, add1 (show i ≤ 1000000000 by omega)]
  unfold l2_ac
  simp only [ltG hd, q04, q07 hd, q00, e]
  unfold qsh out3
  cases leI 0 (ixP (fun c : CT => eqS c.1 n) 0 d.2.2.l) <;> rfl
 ·unfold l2_ac
  simp only [ltE, q01]
end Fn
end Ev

namespace Ev
open Go
namespace Fn
theorem qsi (i : Nat) (n : Tx) : ∀ (l : List CT) (k : Nat), q7s (PC i k l) n = bif leI 0 (ixP (fun c : CT => eqS c.1 n) k l) then some ((i : Int), ixP (fun c : CT => eqS c.1 n) k l) else none
 | [], _ => rfl
 | c :: r, k => by
  unfold PC ixP q7s
  rw [List.find?_cons]
  cases hc : eqS c.1 n with
  | true =>
   have : leI 0 (k : Int) = true := decide_eq_true (by omega)
   simp only [cond_true, this]
   rfl
  | false =>
   simp only [cond_false]
   exact qsi i n r (k + 1)
theorem qf4 (n : Tx) : ∀ (L : List DD) (i : Nat), scan (qsh n) (false, 0, 0, ()) i L = match q7s (PD i L) n with | some q => (true, q.1, q.2, ()) | none => (false, 0, 0, ())
 | [], _ => rfl
 | d :: r, i => by
  have ih := qf4 n r (i + 1)
  have h : q7s (PD i (d :: r)) n = (q7s (PC i 0 d.2.2.l) n).or (q7s (PD (i + 1) r) n) := by
   show ((PC i 0 d.2.2.l ++ PD (i + 1) r).find? _).map _ = _
   unfold q7s
   rw [List.find?_append]
   cases (PC i 0 d.2.2.l).find? (fun e => eqS e.2 n) <;> rfl
  rw [h, qsi]
  unfold scan qsh
  cases leI 0 (ixP (fun c : CT => eqS c.1 n) 0 d.2.2.l) with
  | true => rfl
  | false => exact ih
theorem qvx (P : (Int × Int) × Tx → Bool) (i : Nat) : ∀ (l : List CT) (k : Nat), anyX (fun k c => P (((i : Int), (k : Int)), c.1)) k l = (PC i k l).any P
 | [], _ => rfl
 | c :: r, k => by unfold anyX PC; rw [List.any_cons, qvx P i r]
theorem qvy (P : (Int × Int) × Tx → Bool) : ∀ (L : List DD) (i : Nat), anyX (fun i d => anyX (fun k c => P (((i : Int), (k : Int)), c.1)) 0 d.2.2.l) i L = (PD i L).any P
 | [], _ => rfl
 | d :: r, i => by unfold anyX PD; rw [List.any_append, qvx, qvy P r]
def q9o (L : List DD) (e : (Int × Int) × Tx) : Bool := !decide (q7s (PD 0 L) e.2 = some e.1)
theorem qvz : ∀ (L : List DD) (i0 i k : Nat) (d : DD) (c : CT), L[i]? = some d → d.2.2.l[k]? = some c → ((((i0 + i : Nat) : Int), (k : Int)), c.1) ∈ PD i0 L
 | [], _, _, _, _, _, h, _ => by cases h
 | d0 :: r, i0, 0, k, d, c, h, hc => by
  injection h with h; subst h
  refine List.mem_append_left _ ?_
  have aux : ∀ (l : List CT) (k0 k : Nat), l[k]? = some c → (((i0 : Int), ((k0 + k : Nat) : Int)), c.1) ∈ PC i0 k0 l := by
   intro l
   induction l with
   | nil => intro k0 k h; cases h
   | cons c0 r ih =>
    intro k0 k h
    cases k with
    | zero => injection h with h; subst h; exact List.mem_cons_self ..
    | succ k =>
     have := ih (k0 + 1) k h
     rw [show k0 + 1 + k = k0 + (k + 1) by omega] at this
     exact List.mem_cons_of_mem _ this
  have := aux d0.2.2.l 0 k hc
  rw [Nat.zero_add] at this
  exact this
 | d0 :: r, i0, i + 1, k, d, c, h, hc => by
  have := qvz r (i0 + 1) i k d c h hc
  rw [show i0 + 1 + i = i0 + (i + 1) by omega] at this
  exact List.mem_append_right _ this
theorem qou (s : Sl DD) (hL : GD s.l) {i k : Nat} {d : DD} {c : CT} (hd : s.l[i]? = some d) (hc : d.2.2.l[k]? = some c) :
  f_a3 ((i : Int), (k : Int), s, ()) = some (q9o s.l (((i : Int), (k : Int)), c.1), s, ()) := by
 have hm := qvz s.l 0 i k d c hd hc
 rw [Nat.zero_add] at hm
 have hf : ∃ q, q7s (PD 0 s.l) c.1 = some q := by
  unfold q7s
  cases h : (PD 0 s.l).find? (fun e => eqS e.2 c.1) with
  | some q => exact ⟨q.1, rfl⟩
  | none => exact absurd (q50 c.1) (List.find?_eq_none.1 h _ hm)
 obtain ⟨⟨x, y⟩, hq⟩ := hf
 rw [u_a3, q07 hd, q00, q07 hc, q00, u_a8, z00 s hL, q00, qf4, hq, q00]
 unfold q9o
 rw [hq]
 simp only
 by_cases h1 : x = (i : Int)
 ·by_cases h2 : y = (k : Int)
  ·subst h1 h2
   rw [q4z, q4z, decide_eq_true rfl]; rfl
  ·subst h1
   rw [q4z, q1r h2, decide_eq_false (by intro h; injection h with h; injection h with h h'; exact h2 h')]; rfl
 ·rw [q1r h1, decide_eq_false (by intro h; injection h with h; injection h with h h'; exact h1 h)]; rfl
theorem z01 (s : Sl DD) (hL : GD s.l) : f_aa (s, s, ()) = some ((PD 0 s.l).any (q9o s.l), s, ()) := by
 rw [u_aa]
 refine (q13 l2_aa (fun k => (s, lenI s.l, k, s, ())) s.l (by have := hL.1; omega) (fun i d => bif anyX (fun k c => q9o s.l (((i : Int), (k : Int)), c.1)) 0 d.2.2.l then some (true, s, ()) else none) (false, s, ()) ?_ ?_).trans ?_
 ·intro i d hd hi
  obtain ⟨g1, g2, g3⟩ := hL.2 d (List.mem_of_getElem? hd)
  have e := q13 l1_aa (fun k => ((i : Int), s, lenI s.l, (i : Int), lenI d.2.2.l, k, s, ())) d.2.2.l (by omega)
   (fun k c => bif q9o s.l (((i : Int), (k : Int)), c.1) then some (.inr (true, s, ())) else none) (.inl (s, lenI s.l, ((i + 1 : Nat) : Int), s, ()))
   (fun k c hc hk => by
    unfold l1_aa
    simp only [ltG hc, q04, qou s hL hd hc, q00, add1 (show k ≤ 1000000000 by omega)]
    cases q9o s.l (((i : Int), (k : Int)), c.1) <;> rfl)
   (by
    unfold l1_aa
    simp only [ltE, q01, add1 (show i ≤ 1000000000 by omega)])
  rw [qd5] at e
  unfold l2_aa
  simp only [ltG hd, q04, q07 hd, q00]
  refine e.trans ?_
  cases anyX (fun k c => q9o s.l (((i : Int), (k : Int)), c.1)) 0 d.2.2.l <;> rfl
 ·unfold l2_aa
  simp only [ltE, q01]
 ·rw [qd5, qvy]
  cases (PD 0 s.l).any (q9o s.l) <;> rfl
theorem qsj (L : List DD) : (PD 0 L).any (q9o L) = dupL (qgi L) := by
 have := qis (PD 0 L) (qmu L 0)
 rw [qms] at this
 exact this
end Fn
end Ev

namespace Ev
open Go
namespace Fn
theorem qov (s : Sl DD) (hL : s.l.length ≤ 1000) (x : ND) : f_cf (s, x, ()) = some (qf3 s.l x, ()) := by
 obtain ⟨a, t, n, c⟩ := x
 have e : loopR l1_d4 (s, (a, t, n, c), lenI s.l, 0, ()) = some (ixP (fun d : DD => eqS d.1 t && eqI d.2.1 c) 0 s.l, ()) := by
  refine q20 l1_d4 (fun k => (s, (a, t, n, c), lenI s.l, k, ())) (fun z => (z, ())) s.l (by omega) (fun d : DD => eqS d.1 t && eqI d.2.1 c) ?_ ?_
  ·intro k d hx hk
   obtain ⟨m, q, ds⟩ := d
   unfold l1_d4
   simp only [ltG hx, q04, q07 hx, q00, u_a5, add1 (show k ≤ 1000000000 by omega)]
   cases eqS m t <;> cases eqI q c <;> rfl
  ·unfold l1_d4
   simp only [ltE, q01]
 rw [u_cf, u_d4, e, q00, q3e]
 rfl
theorem qow (s : Sl DD) (hL : s.l.length ≤ 1000) (x : ND) (hx : qin x) : f_a4 (x, s, ()) = some (q8m s.l x, s, ()) := by
 have hk := qov s hL x
 have hn := qam x.2.1 ⟨hx.1, hx.2.1⟩
 obtain ⟨a, t, n, c⟩ := x
 rw [u_a4]
 unfold q8m
 simp only [hk, hn, q00]
 cases eqI a 32 <;> cases q3v t <;> cases qf3 s.l (a, t, n, c) <;> rfl
theorem qox (s : Sl DD) (hL : s.l.length ≤ 1000) (t : SN) (ht : gA t) : f_a7 (t, s, ()) = some (t.l.any (q8m s.l), s, ()) := by
 have hl := ht.2
 have e : loopR l1_cu (t, lenI t.l, 0, s, ()) = some (ixP (q8m s.l) 0 t.l, s, ()) := by
  refine q20 l1_cu (fun k => (t, lenI t.l, k, s, ())) (fun z => (z, s, ())) t.l (by omega) (q8m s.l) ?_ ?_
  ·intro k x hx hk
   unfold l1_cu
   simp only [ltG hx, q04, q07 hx, q00, qow s hL x (ht.1.at hx), add1 (show k ≤ 1000000000 by omega)]
   cases q8m s.l x <;> rfl
  ·unfold l1_cu
   simp only [ltE, q01]
 rw [u_a7, u_ck, u_cu, e, q00, q00, q3e]
theorem qoy (s : Sl DD) (hL : GD s.l) {i k : Nat} {d : DD} {c : CT} (hd : s.l[i]? = some d) (hc : d.2.2.l[k]? = some c) :
  f_a6 ((i : Int), (k : Int), s, ()) = some (q9n s.l c, s, ()) := by
 obtain ⟨g1, g2, g3⟩ := (hL.2 d (List.mem_of_getElem? hd)).2.2 c (List.mem_of_getElem? hc)
 have e : loopR l1_cq (c.2, lenI c.2.l, 0, s, ()) = some (ixP (fun t : SN => t.l.any (q8m s.l)) 0 c.2.l, s, ()) := by
  refine q20 l1_cq (fun k => (c.2, lenI c.2.l, k, s, ())) (fun z => (z, s, ())) c.2.l (by omega) (fun t : SN => t.l.any (q8m s.l)) ?_ ?_
  ·intro k t hx hk
   unfold l1_cq
   simp only [ltG hx, q04, q07 hx, q00, qox s hL.1 t (g3 t (List.mem_of_getElem? hx)), add1 (show k ≤ 1000000000 by omega)]
   cases t.l.any (q8m s.l) <;> rfl
  ·unfold l1_cq
   simp only [ltE, q01]
 rw [u_a6, q07 hd, q00, q07 hc, q00, u_cg, u_cq, e, q00, q00, q3e]
 rfl
theorem z02 (s : Sl DD) (hL : GD s.l) : f_ab (s, s, ()) = some (q80 s.l, s, ()) := by
 rw [u_ab]
 refine (q13 l2_ab (fun k => (s, lenI s.l, k, s, ())) s.l (by have := hL.1; omega) (fun _ d => bif d.2.2.l.any (q9n s.l) then some (true, s, ()) else none) (false, s, ()) ?_ ?_).trans ?_
 ·intro i d hd hi
  obtain ⟨g1, g2, g3⟩ := hL.2 d (List.mem_of_getElem? hd)
  have e := q13 l1_ab (fun k => ((i : Int), s, lenI s.l, (i : Int), lenI d.2.2.l, k, s, ())) d.2.2.l (by omega)
   (fun _ c => bif q9n s.l c then some (.inr (true, s, ())) else none) (.inl (s, lenI s.l, ((i + 1 : Nat) : Int), s, ()))
   (fun k c hc hk => by
    unfold l1_ab
    simp only [ltG hc, q04, qoy s hL hd hc, q00, add1 (show k ≤ 1000000000 by omega)]
    cases q9n s.l c <;> rfl)
   (by
    unfold l1_ab
    simp only [ltE, q01, add1 (show i ≤ 1000000000 by omega)])
  rw [q48] at e
  unfold l2_ab
  simp only [ltG hd, q04, q07 hd, q00]
  refine e.trans ?_
  cases d.2.2.l.any (q9n s.l) <;> rfl
 ·unfold l2_ab
  simp only [ltE, q01]
 ·rw [q48]
  unfold q80
  cases s.l.any (fun d => d.2.2.l.any (q9n s.l)) <;> rfl
def qoz (L : List DD) : Int := bif decide (L.length ≤ 60) && L.all q23 then (bif dupL (L.map fun d => d.1) || dupL (qgi L) then 101 else bif q80 L then 102 else 0) else 100
theorem qgk (L : List DD) : eqI (qoz L) 0 = q5t L := by
 unfold qoz q5t
 cases decide (L.length ≤ 60) <;> cases L.all q23 <;> cases dupL (L.map fun d => d.1) <;> cases dupL (qgi L) <;> cases q80 L <;> rfl
theorem z03 (L : List DD) : ltI 60 (lenI L) = !decide (L.length ≤ 60) := by
 unfold ltI lenI
 by_cases e : L.length ≤ 60
 ·rw [decide_eq_true e, decide_eq_false (by omega)]; rfl
 ·rw [decide_eq_false e, decide_eq_true (by omega)]; rfl
theorem qd6 (s : Sl DD) (hL : GD s.l) : f_a0 (s, ()) = some (qoz s.l, ()) := by
 obtain ⟨b, L⟩ := s
 have hL : GD L := hL
 have e : loopR l1_a0 (⟨b, L⟩, lenI L, 0, ⟨b, L⟩, ()) = some (bif dupL (L.map fun d => d.1) || dupL (qgi L) then 101 else bif q80 L then 102 else 0, ()) := by
  refine (q13 l1_a0 (fun k => (⟨b, L⟩, lenI L, k, ⟨b, L⟩, ())) L (by have := hL.1; omega) (fun i d => bif ltI (ixP (fun x : DD => eqS x.1 d.1) 0 L) (i : Int) then some (101, ()) else none)
   (bif dupL (qgi L) then 101 else bif q80 L then 102 else 0, ()) ?_ ?_).trans ?_
  ·intro k d hx hk
   have hn := qzb b L hL d
   obtain ⟨n, p, cs⟩ := d
   unfold l1_a0
   simp only [ltG hx, q04, q07 hx, q00, hn, add1 (show k ≤ 1000000000 by omega)]
   cases ltI (ixP (fun x : DD => eqS x.1 n) 0 L) (k : Int) <;> rfl
  ·have h1 := z01 ⟨b, L⟩ hL
   have h2 := z02 ⟨b, L⟩ hL
   rw [qsj] at h1
   unfold l1_a0
   simp only [ltE, q01, h1, h2, q00]
   cases dupL (qgi L) <;> cases q80 L <;> rfl
  ·rw [qd5, qv6 (fun d : DD => d.1) (fun i d => ltI (ixP (fun x : DD => eqS x.1 d.1) 0 L) (i : Int)) L (fun k x hx => by
    have := qmp (fun y : DD => eqS y.1 x.1) L k 0 x hx (q50 _)
    rw [Nat.zero_add] at this
    rw [this, qmq])]
   cases dupL (L.map fun d => d.1) <;> rfl
 rw [u_a0, qv7 b L hL]
 simp only [z03, e, q00]
 unfold qoz
 cases decide (L.length ≤ 60) <;> cases L.all q23 <;> rfl
end Fn
end Ev

namespace Ev
open Go
namespace Fn
theorem qkq (s : Sl DD) (hL : s.l.length ≤ 1000) (x : ND) : f_c4 (s, x, ()) = some (qf3 s.l x, ()) := by
 obtain ⟨a, t, n, c⟩ := x
 rw [u_c4]
 refine (q13 l1_c4 (fun k => (s, k, a, t, n, c, ())) s.l (by omega) (fun _ d => bif eqS d.1 t && eqI d.2.1 c then some (true, ()) else none) (false, ()) ?_ ?_).trans ?_
 ·intro k d hx hk
  unfold l1_c4
  simp only [ltG hx, q04, q07 hx, q00, add1 (show k ≤ 1000000000 by omega)]
  cases eqS d.1 t <;> cases eqI d.2.1 c <;> rfl
 ·unfold l1_c4
  simp only [ltE, q01]
 ·rw [q48]; unfold qf3; cases s.l.any (fun d => eqS d.1 t && eqI d.2.1 c) <;> rfl
theorem r3 (s : Sl DD) (hL : s.l.length ≤ 1000) (i k : Int) (m : Nat) (hm : m ≤ 1000000) (t : SN) (ht : gA t) :
  loopR q2i (s, i, k, (m : Int), t, 0, ()) = some (bif t.l.any (q8m s.l) then .inr (.inr (.inr (.inr (.inr (.inr (102, ())))))) else .inl (s, i, k, ((m + 1 : Nat) : Int), ())) := by
 have hl := ht.2
 refine (q13 q2i (fun n => (s, i, k, (m : Int), t, n, ())) t.l (by omega) (fun _ x => bif q8m s.l x then some (.inr (.inr (.inr (.inr (.inr (.inr (102, ()))))))) else none) (.inl (s, i, k, ((m + 1 : Nat) : Int), ())) ?_ ?_).trans ?_
 ·intro n x hx hk
  have hg := ht.1.at hx
  have hkn := qkq s hL x
  have hn := qv4 x.2.1 ⟨hg.1, hg.2.1⟩
  unfold q2i q8m
  simp only [ltG hx, q04, q07 hx, q00, hkn, hn, add1 (show n ≤ 1000000000 by omega)]
  cases eqI x.1 32 <;> cases q3v x.2.1 <;> cases qf3 s.l x <;> rfl
 ·unfold q2i
  simp only [ltE, q01, add1 (show m ≤ 1000000000 by omega)]
 ·rw [q48]
theorem r4 (s : Sl DD) (hL : GD s.l) {i k : Nat} {d : DD} {c : CT} (hd : s.l[i]? = some d) (hc : d.2.2.l[k]? = some c) (hk : k ≤ 1000000) :
  loopR q2j (s, (i : Int), (k : Int), 0, ()) = some (bif q9n s.l c then .inr (.inr (.inr (.inr (.inr (102, ()))))) else .inl (s, (i : Int), ((k + 1 : Nat) : Int), ())) := by
 obtain ⟨g1, g2, g3⟩ := (hL.2 d (List.mem_of_getElem? hd)).2.2 c (List.mem_of_getElem? hc)
 refine (q13 q2j (fun m => (s, (i : Int), (k : Int), m, ())) c.2.l (by omega) (fun _ t => bif t.l.any (q8m s.l) then some (.inr (.inr (.inr (.inr (.inr (102, ())))))) else none) (.inl (s, (i : Int), ((k + 1 : Nat) : Int), ())) ?_ ?_).trans ?_
 ·intro m t hx hm
  unfold q2j
  simp only [q07 hd, q07 hc, ltG hx, q04, q07 hx, q00, r3 s hL.1 i k m hm t (g3 t (List.mem_of_getElem? hx))]
  cases t.l.any (q8m s.l) <;> rfl
 ·unfold q2j
  simp only [q07 hd, q07 hc, q00, ltE, q01, add1 (show k ≤ 1000000000 by omega)]
 ·rw [q48]; rfl
theorem r5 (s : Sl DD) (hL : GD s.l) {i : Nat} {d : DD} (hd : s.l[i]? = some d) (hi : i ≤ 1000000) :
  loopR q2k (s, (i : Int), 0, ()) = some (bif d.2.2.l.any (q9n s.l) then .inr (.inr (.inr (.inr (102, ())))) else .inl (s, ((i + 1 : Nat) : Int), ())) := by
 obtain ⟨g1, g2, g3⟩ := hL.2 d (List.mem_of_getElem? hd)
 refine (q13 q2k (fun k => (s, (i : Int), k, ())) d.2.2.l (by omega) (fun _ c => bif q9n s.l c then some (.inr (.inr (.inr (.inr (102, ()))))) else none) (.inl (s, ((i + 1 : Nat) : Int), ())) ?_ ?_).trans ?_
 ·intro k c hx hk
  unfold q2k
  simp only [q07 hd, q00, ltG hx, q04, r4 s hL hd hx hk]
  cases q9n s.l c <;> rfl
 ·unfold q2k
  simp only [q07 hd, q00, ltE, q01, add1 (show i ≤ 1000000000 by omega)]
 ·rw [q48]
theorem r6 (s : Sl DD) (hL : GD s.l) : loopR q3j (s, 0, ()) = some (.inr (.inr (.inr (bif q80 s.l then 102 else 0, ())))) := by
 refine (q13 q3j (fun i => (s, i, ())) s.l (by have := hL.1; omega) (fun _ d => bif d.2.2.l.any (q9n s.l) then some (.inr (.inr (.inr (102, ())))) else none) (.inr (.inr (.inr (0, ())))) ?_ ?_).trans ?_
 ·intro i d hx hi
  unfold q3j
  simp only [ltG hx, q04, r5 s hL hx hi]
  cases d.2.2.l.any (q9n s.l) <;> rfl
 ·unfold q3j
  simp only [ltE, q01]
 ·rw [q48]; unfold q80; cases s.l.any (fun d => d.2.2.l.any (q9n s.l)) <;> rfl
theorem qmv {α : Type} {l : List α} {i k : Nat} {x : α} (h : (l.take i)[k]? = some x) : l[k]? = some x ∧ k < i := by
 have h1 := getL h
 rw [List.length_take] at h1
 rw [List.getElem?_take_of_lt (by omega)] at h
 exact ⟨h, by omega⟩
theorem ltT {i k : Nat} (h : k < i) : ltI (k : Int) (i : Int) = true := decide_eq_true (by omega)
theorem qy1 (l : List Tx) (n : Tx) : (l.any fun x => eqS x n) = decide (n ∈ l) := by
 rw [Bool.eq_iff_iff]
 simp only [List.any_eq_true, decide_eq_true_eq]
 exact ⟨fun ⟨x, h1, h2⟩ => by rw [← eqS_eq.1 h2]; exact h1, fun h => ⟨n, h, q50 n⟩⟩
theorem r2 (s : Sl DD) (ns : Sl Tx) {i : Nat} {n : Tx} (hn : ns.l[i]? = some n) (hi : i ≤ 1000000) :
  loopR q3i (s, ns, (i : Int), 0, ()) = some (bif decide (n ∈ ns.l.take i) then .inr (.inr (.inr (101, ()))) else .inl (s, ns, ((i + 1 : Nat) : Int), ())) := by
 have hlen : (ns.l.take i).length = i := by rw [List.length_take]; have := getL hn; omega
 refine (q13 q3i (fun k => (s, ns, (i : Int), k, ())) (ns.l.take i) (by omega) (fun _ x => bif eqS x n then some (.inr (.inr (.inr (101, ())))) else none) (.inl (s, ns, ((i + 1 : Nat) : Int), ())) ?_ ?_).trans ?_
 ·intro k x hx hk
  obtain ⟨h1, h2⟩ := qmv hx
  unfold q3i
  simp only [ltT h2, q04, q07 h1, q07 hn, q00, add1 (show k ≤ 1000000000 by omega)]
  cases eqS x n <;> rfl
 ·have h0 : ltI (i : Int) (i : Int) = false := decide_eq_false (by omega)
  unfold q3i
  simp only [hlen, h0, q01, add1 (show i ≤ 1000000000 by omega)]
 ·rw [q48, qy1]
theorem r1 (s : Sl DD) (ns : Sl Tx) {i : Nat} {d : DD} (hn : s.l[i]? = some d) (hi : i ≤ 1000000) :
  loopR q3h (s, ns, (i : Int), 0, ()) = some (bif decide (d.1 ∈ (s.l.take i).map fun d => d.1) then .inr (.inr (101, ())) else .inl (s, ns, ((i + 1 : Nat) : Int), ())) := by
 have hlen : (s.l.take i).length = i := by rw [List.length_take]; have := getL hn; omega
 refine (q13 q3h (fun k => (s, ns, (i : Int), k, ())) (s.l.take i) (by omega) (fun _ x => bif eqS x.1 d.1 then some (.inr (.inr (101, ()))) else none) (.inl (s, ns, ((i + 1 : Nat) : Int), ())) ?_ ?_).trans ?_
 ·intro k x hx hk
  obtain ⟨h1, h2⟩ := qmv hx
  unfold q3h
  simp only [ltT h2, q04, q07 h1, q07 hn, q00, add1 (show k ≤ 1000000000 by omega)]
  cases eqS x.1 d.1 <;> rfl
 ·have h0 : ltI (i : Int) (i : Int) = false := decide_eq_false (by omega)
  unfold q3h
  simp only [hlen, h0, q01, add1 (show i ≤ 1000000000 by omega)]
 ·rw [q48, qmq]
end Fn
end Ev

namespace Ev
open Go
namespace Fn
def F.trees : F → List (List ND)
 | .nil => []
 | .cons k t n ks r => (tr k t n ks).flat :: r.trees
def F.ents : Nat → F → List (Int × List ND)
 | _, .nil => []
 | q, .cons k t n ks r => ((q : Int), (tr k t n ks).flat) :: r.ents (q + 1 + ks.size)
theorem F.ents_pos : ∀ (f : F) (q : Nat), (f.ents q).map (fun e => e.1) = f.pos q
 | .nil, _ => rfl
 | .cons _ _ _ ks r, q => by
  show (q : Int) :: _ = (q : Int) :: _
  rw [F.ents_pos r]
theorem F.ents_trees : ∀ (f : F) (q : Nat), (f.ents q).map (fun e => e.2) = f.trees
 | .nil, _ => rfl
 | .cons k t n ks r, q => by
  show (tr k t n ks).flat :: _ = (tr k t n ks).flat :: _
  rw [F.ents_trees r]
theorem F.trees_len : ∀ f : F, f.trees.length = f.cnt
 | .nil => rfl
 | .cons k t n ks r => by show r.trees.length + 1 = _; rw [F.trees_len r]; rfl
theorem F.trees_flat : ∀ f : F, f.trees.flatten = f.flat
 | .nil => rfl
 | .cons k t n ks r => by
  show (tr k t n ks).flat ++ r.trees.flatten = _
  rw [F.trees_flat r, q3d]; rfl
theorem q1w (k : Int) (t : Tx) (n : Int) (ks : F) : (tr k t n ks).flat.length = ks.size + 1 := by rw [F.len]; rfl
structure z04 (l : List ND) (e : Int × List ND) : Prop where
 pos : 0 ≤ e.1
 ends : ∀ b, f_dt (⟨b, l⟩, e.1, ()) = some (e.1 + (e.2.length : Int), ())
 rends : ∀ b, f_bw (⟨b, l⟩, e.1, ()) = some (e.1 + (e.2.length : Int), ())
 cut : cutL l e.1 (e.1 + (e.2.length : Int)) = some e.2
 sits : ∃ (q : Nat) (k : Int) (t : Tx) (n : Int) (ks : F), e = ((q : Int), (tr k t n ks).flat) ∧ Sits l q (tr k t n ks)
theorem qsk {l : List ND} (hl : l.length ≤ 10000) : ∀ (f : F) (q : Nat), Sits l q f → q ≤ l.length → ∀ e, e ∈ f.ents q → z04 l e
 | .nil, _, _, _, _, h => by cases h
 | .cons k t n ks r, q, hs, hq, e, h => by
  rcases List.mem_cons.1 h with h | h
  ·subst h
   have he := hs.ends
   have hn := hs.node
   have hlen := q1w k t n ks
   have hz : (q : Int) + ((tr k t n ks).flat.length : Int) = ((q + 1 + ks.size : Nat) : Int) := by rw [hlen]; omega
   refine ⟨by show (0 : Int) ≤ (q : Int); omega, fun b => ?_, fun b => ?_, ?_, ⟨q, k, t, n, ks, rfl, hs.first⟩⟩
   ·show f_dt (⟨b, l⟩, (q : Int), ()) = _
    rw [q7r b l hl q, he, hz]
   ·show f_bw (⟨b, l⟩, (q : Int), ()) = _
    rw [qs6 b l hl q, he, hz]
   ·show cutL l (q : Int) ((q : Int) + ((tr k t n ks).flat.length : Int)) = some (tr k t n ks).flat
    have hflat := hs.first.flat_eq
    have hsz : (tr k t n ks).size = ks.size + 1 := rfl
    rw [hz]
    unfold cutL
    rw [if_pos ⟨by omega, by omega, by have := hn.2.2.2; omega⟩]
    rw [hsz] at hflat
    rw [Int.toNat_natCast, Int.toNat_natCast, List.drop_take, show q + 1 + ks.size - q = ks.size + 1 by omega]
    exact congrArg some hflat
  ·exact qsk hl r _ hs.node.2.2.1 (by have := hs.node.2.2.2; omega) e h
theorem qd7 {α β : Type} (h : α → β) (l : List α) : ∀ a : Sl β, l.foldl (fun (a : Sl β) e => (⟨false, a.l ++ [h e]⟩ : Sl β)) a = ⟨a.nil && l.isEmpty, a.l ++ l.map h⟩ := by
 induction l with
 | nil => intro a; simp
 | cons x r ih => intro a; rw [List.foldl_cons, ih]; simp
theorem getM {α β : Type} {l : List α} {f : α → β} {k : Nat} {e : α} (h : l[k]? = some e) : (l.map f)[k]? = some (f e) := by rw [List.getElem?_map, h]; rfl
theorem q5u (b : Bool) (k : Int) (t : Tx) (n : Int) (ks : F) (hl : ks.size + 1 ≤ 10000) : ∃ nb, f_bl (⟨b, (tr k t n ks).flat⟩, ()) = some (⟨nb, ks.trees.map fun l => (⟨b, l⟩ : SN)⟩, ()) := by
 have hl' : (tr k t n ks).flat.length ≤ 10000 := by rw [q1w]; exact hl
 have hs := q9m k t n ks
 obtain ⟨nb, hk⟩ := qil b _ hl' hs
 have hat := qsk hl' ks 1 hs.node.2.1 (by rw [q1w]; omega)
 have hc : (ks.ents 1).length = ks.cnt := by rw [← F.pos_len ks 1, ← F.ents_pos, List.length_map]
 have hcnt := F.cnt_le ks
 have e := q30 l1_bl (fun i a => (⟨b, (tr k t n ks).flat⟩, ⟨nb, ks.pos (0 + 1)⟩, lenI (ks.pos (0 + 1)), i, a, ())) (ks.ents 1) (fun (a : Sl SN) e => (⟨false, a.l ++ [⟨b, e.2⟩]⟩ : Sl SN)) (fun a => (a, ())) (fun i a => i ≤ ks.cnt ∧ a.l.length = i) ⟨true, []⟩ ⟨Nat.zero_le _, rfl⟩
  (fun i e a hx hi => by
   obtain ⟨na, al⟩ := a
   have h2 : al.length = i := hi.2
   have hp : (ks.pos (0 + 1))[i]? = some e.1 := by rw [← F.ents_pos]; exact getM hx
   have hk2 := hat e (List.mem_of_getElem? hx)
   have hil := getL hx
   have hfit : fit (sumI (lenI al) (lenI [(⟨b, e.2⟩ : SN)])) = some () := q0q (by show al.length + 1 ≤ _; omega)
   refine ⟨?_, by omega, by show (al ++ [_]).length = _; rw [List.length_append, h2]; rfl⟩
   unfold l1_bl
   simp only [ltG hp, q04, q07 hp, q00, hk2.ends b, hk2.cut, hfit, q1v, add1 (show i ≤ 1000000000 by omega)]
   rfl)
  (fun a _ => by
   have hpl : (ks.ents 1).length = (ks.pos (0 + 1)).length := by rw [hc, F.pos_len]
   unfold l1_bl
   simp only [hpl, ltE, q01])
 rw [qd7] at e
 refine ⟨true && (ks.ents 1).isEmpty, ?_⟩
 rw [u_bl]
 refine (qb8 hk _).trans (e.trans ?_)
 rw [← F.ents_trees ks 1, List.map_map]
 rfl
def q7t (Ts : List (List ND)) (x : ND) : List ND := bif eqI x.1 31 then (if 0 ≤ x.2.2.1 then (Ts[x.2.2.1.toNat]?).getD [x] else [x]) else [x]
def q5v (Ts : List (List ND)) (a : List ND) : List ND := a.flatMap (q7t Ts)
def bl (b : Bool) : Nat → List (List ND) → List (Int × SN)
 | _, [] => []
 | i, T :: r => ((i : Int), ⟨b, T⟩) :: bl b (i + 1) r
theorem qw0 (b : Bool) : ∀ (Ts : List (List ND)) (i j : Nat), (bl b i Ts)[j]? = (Ts[j]?).map fun T => (((i + j : Nat) : Int), (⟨b, T⟩ : SN))
 | [], _, _ => rfl
 | T :: r, i, 0 => rfl
 | T :: r, i, j + 1 => by
  show (bl b (i + 1) r)[j]? = (r[j]?).map _
  rw [qw0 b r, show i + 1 + j = i + (j + 1) by omega]
theorem qsl (b : Bool) : ∀ (Ts : List (List ND)) (i : Nat), (bl b i Ts).length = Ts.length
 | [], _ => rfl
 | _ :: r, i => by show (bl b (i + 1) r).length + 1 = _; rw [qsl b r]; rfl
theorem qw1 (b : Bool) (v : Int) : ∀ (Ts : List (List ND)) (i k : Nat), ixP (fun x : Int × SN => eqI x.1 v) k (bl b i Ts) = if (i : Int) ≤ v ∧ v < (i : Int) + Ts.length then (k : Int) + (v - i) else -1
 | [], i, k => by
  rw [if_neg (by simp only [List.length_nil]; omega)]; rfl
 | T :: r, i, k => by
  show (bif eqI (i : Int) v then (k : Int) else ixP _ (k + 1) (bl b (i + 1) r)) = _
  rw [qw1 b v r (i + 1) (k + 1)]
  by_cases h : (i : Int) = v
  ·rw [h, q4z, cond_true, if_pos ⟨by omega, by rw [List.length_cons]; omega⟩]; omega
  ·rw [q1r h, cond_false]
   by_cases h2 : ((i + 1 : Nat) : Int) ≤ v ∧ v < ((i + 1 : Nat) : Int) + r.length
   ·rw [if_pos h2, if_pos ⟨by omega, by rw [List.length_cons]; omega⟩]; omega
   ·rw [if_neg h2, if_neg (by rw [List.length_cons]; omega)]
theorem ix15 (nb b : Bool) (Ts : List (List ND)) (hT : Ts.length ≤ 1000000) (x : ND) : f_cv (⟨nb, bl b 0 Ts⟩, x, ()) = some (if 0 ≤ x.2.2.1 ∧ x.2.2.1 < Ts.length then x.2.2.1 else -1, ()) := by
 obtain ⟨a, t, n, c⟩ := x
 rw [u_cv]
 refine (q20 l1_cv (fun k => (⟨nb, bl b 0 Ts⟩, (a, t, n, c), lenI (bl b 0 Ts), k, ())) (fun z => (z, ())) (bl b 0 Ts) (by rw [qsl]; exact hT) (fun x => eqI x.1 n) ?_ ?_).trans ?_
 ·intro k x hx hk
  obtain ⟨v, s⟩ := x
  unfold l1_cv
  simp only [ltG hx, q04, q07 hx, q00, u_dz, add1 (show k ≤ 1000000000 by omega)]
  cases eqI v n <;> rfl
 ·unfold l1_cv
  simp only [ltE, q01]
 ·rw [qw1]
  have : ((0 : Nat) : Int) + (Ts.length : Int) = (Ts.length : Int) := by omega
  simp only [Int.natCast_zero, Int.zero_add, Int.sub_zero] <;> rfl
end Fn
end Ev

namespace Ev
open Go
namespace Fn
def appV (Ts : List (List ND)) (a : Sl ND) (x : ND) : Sl ND := ⟨andB a.nil (isE (q7t Ts x)), a.l ++ q7t Ts x⟩
theorem qzc (Ts : List (List ND)) (l : List ND) : ∀ a : Sl ND, (l.foldl (appV Ts) a).l = a.l ++ q5v Ts l := by
 induction l with
 | nil => intro a; simp [q5v]
 | cons x r ih => intro a; rw [List.foldl_cons, ih]; simp [appV, q5v]
theorem qsm (Ts : List (List ND)) (hT : ∀ T, T ∈ Ts → T.length ≤ 4000) (x : ND) : (q7t Ts x).length ≤ 4000 := by
 unfold q7t
 cases eqI x.1 31 with
 | false => show 1 ≤ _; omega
 | true =>
  rw [cond_true]
  split
  ·cases h : Ts[x.2.2.1.toNat]? with
   | none => show 1 ≤ _; omega
   | some T => exact hT T (List.mem_of_getElem? h)
  ·show 1 ≤ _; omega
theorem qsn (Ts : List (List ND)) (x : ND) (h : eqI x.1 31 = true) : q7t Ts x = if 0 ≤ x.2.2.1 ∧ x.2.2.1 < Ts.length then (Ts[x.2.2.1.toNat]?).getD [x] else [x] := by
 unfold q7t
 rw [h, cond_true]
 by_cases h0 : 0 ≤ x.2.2.1
 ·rw [if_pos h0]
  by_cases h1 : x.2.2.1 < Ts.length
  ·rw [if_pos ⟨h0, h1⟩]
  ·rw [if_neg (fun h => h1 h.2), List.getElem?_eq_none (by omega)]; rfl
 ·rw [if_neg h0, if_neg (fun h => h0 h.1)]
theorem qp0 (nb b b2 : Bool) (Ts : List (List ND)) (hT : Ts.length ≤ 10000) (hT2 : ∀ T, T ∈ Ts → T.length ≤ 4000) (a : List ND) (ha : a.length ≤ 10000) :
  f_dy (⟨nb, bl b 0 Ts⟩, ⟨b2, a⟩, ()) = some (a.foldl (appV Ts) ⟨true, []⟩, ()) := by
 rw [u_dy]
 refine q30 l1_dy (fun k s => (⟨nb, bl b 0 Ts⟩, ⟨b2, a⟩, lenI a, k, s, ())) a (appV Ts) (fun s => (s, ())) (fun k s => k ≤ a.length ∧ s.l.length ≤ k * 4000) ⟨true, []⟩ ⟨Nat.zero_le _, Nat.le_refl _⟩ ?_ ?_
 ·intro k x s hx hi
  obtain ⟨ns, sl⟩ := s
  have h2 : sl.length ≤ k * 4000 := hi.2
  have hk := getL hx
  have hix := ix15 nb b Ts (by omega) x
  have hlen := qsm Ts hT2 x
  have hadd := add1 (show k ≤ 1000000000 by omega)
  have hf1 : ∀ m : List ND, m.length ≤ 4000 → fit (sumI (lenI sl) (lenI m)) = some () := fun m hm => qvu (by show (sl.length : Int) + (m.length : Int) ≤ _; omega)
  refine ⟨?_, hk, by show (sl ++ q7t Ts x).length ≤ _; rw [List.length_append]; omega⟩
  have hfx := hf1 [x] (by show 1 ≤ _; omega)
  obtain ⟨kd, t, n, c⟩ := x
  unfold l1_dy
  simp only [ltG hx, q04, q07 hx, q00, hix, hfx]
  cases h31 : eqI kd 31 with
  | false =>
   have hv : q7t Ts (kd, t, n, c) = [(kd, t, n, c)] := by unfold q7t; simp only [h31, cond_false]
   unfold appV
   rw [hv]
   simp only [nF, q04, q00, hadd]
   rfl
  | true =>
   have hv := qsn Ts (kd, t, n, c) h31
   by_cases hin : 0 ≤ n ∧ n < (Ts.length : Int)
   ·rw [if_pos hin] at hv
    have hlt : ltI n 0 = false := decide_eq_false (by omega)
    obtain ⟨T, hT3⟩ : ∃ T, Ts[n.toNat]? = some T := ⟨_, List.getElem?_eq_getElem (by omega)⟩
    have hb : at? (bl b 0 Ts) n = some (n, ⟨b, T⟩) := by
     have h5 : (bl b 0 Ts)[n.toNat]? = some (n, ⟨b, T⟩) := by
      rw [qw0, hT3]
      show some (((0 + n.toNat : Nat) : Int), _) = _
      rw [show ((0 + n.toNat : Nat) : Int) = n by omega]
     have := q07 h5
     rw [Int.toNat_of_nonneg hin.1] at this
     exact this
    rw [hT3] at hv
    have hv : q7t Ts (kd, t, n, c) = T := hv
    have hft := hf1 T (hT2 T (List.mem_of_getElem? hT3))
    unfold appV
    rw [hv, if_pos hin]
    simp only [nT, q01, q00, hlt, hb, hft, hadd]
    rfl
   ·rw [if_neg hin] at hv
    have hlt : ltI (-1) 0 = true := id (Eq.refl _)
    unfold appV
    rw [hv, if_neg hin]
    simp only [nT, q01, q04, q00, hlt, hadd]
    rfl
 ·intro s _
  unfold l1_dy
  simp only [ltE, q01]
end Fn
end Ev

namespace Ev
open Go
namespace Fn
def q49 (k : Int) (t : Tx) (c : Int) (d : DD) : Bool := eqI k 32 && (eqS d.1 t && eqI d.2.1 c)
def conV (L : List DD) (k : Int) (t : Tx) (c : Int) (con : Tx) : Option CT := (L.find? (q49 k t c)).bind fun d => d.2.2.l.find? fun x => eqS x.1 con
def argT (Ts : List (List ND)) (a : List ND) : List ND := bif ltI 4000 (lenI (q5v Ts a)) then [(31, [], 0, 0)] else q5v Ts a
def argS (b : Bool) (Ts : List (List ND)) (a : SN) : SN := bif ltI 4000 (lenI (a.l.foldl (appV Ts) ⟨b, []⟩).l) then ⟨false, [(31, [], 0, 0)]⟩ else a.l.foldl (appV Ts) ⟨b, []⟩
theorem qit (b : Bool) (Ts : List (List ND)) (a : SN) : (argS b Ts a).l = argT Ts a.l := by
 have h := qzc Ts a.l ⟨b, []⟩
 rw [show ([] : List ND) ++ q5v Ts a.l = q5v Ts a.l from rfl] at h
 unfold argS argT
 rw [h]
 cases ltI 4000 (lenI (q5v Ts a.l)) with
 | true => rfl
 | false => exact h
theorem qso (s : Sl DD) (hL : s.l.length ≤ 1000) (t : SN) (x : ND) (hx : t.l[0]? = some x) : f_d5 (s, t, ()) = some (ixP (q49 x.1 x.2.1 x.2.2.2) 0 s.l, ()) := by
 have h0 : at? t.l 0 = some x := q07 (i := 0) hx
 rw [u_d5]
 refine q20 l1_d5 (fun k => (s, t, lenI s.l, k, ())) (fun z => (z, ())) s.l (by omega) (q49 x.1 x.2.1 x.2.2.2) ?_ ?_
 ·intro k d hd hk
  obtain ⟨n, p, cs⟩ := d
  unfold l1_d5 q49
  simp only [ltG hd, q04, q07 hd, q00, u_b7, h0, add1 (show k ≤ 1000000000 by omega)]
  cases eqI x.1 32 <;> cases eqS n x.2.1 <;> cases eqI p x.2.2.2 <;> rfl
 ·unfold l1_d5
  simp only [ltE, q01]
theorem qsp (cs : Sl CT) (hc : cs.l.length ≤ 1000000) (con : Tx) : f_d6 (cs, con, ()) = some (ixP (fun c : CT => eqS c.1 con) 0 cs.l, ()) := by
 rw [u_d6]
 refine q20 l1_d6 (fun k => (cs, con, lenI cs.l, k, ())) (fun z => (z, ())) cs.l hc (fun c : CT => eqS c.1 con) ?_ ?_
 ·intro k c hx hk
  obtain ⟨n, as⟩ := c
  unfold l1_d6
  simp only [ltG hx, q04, q07 hx, q00, u_b5, add1 (show k ≤ 1000000000 by omega)]
  cases eqS n con <;> rfl
 ·unfold l1_d6
  simp only [ltE, q01]
theorem qiu {α : Type} {p : α → Bool} {l : List α} (h : l.any p = false) : l.find? p = none := by
 rw [List.find?_eq_none]
 intro x hx hp
 have := List.any_eq_true.2 ⟨x, hx, hp⟩
 rw [h] at this; cases this
theorem q6j (s : Sl DD) (hL : s.l.length ≤ 1000) (t : SN) (x : ND) (hx : t.l[0]? = some x) {d : DD} (h : s.l.find? (q49 x.1 x.2.1 x.2.2.2) = some d) : f_b6 (s, t, ()) = some (d, true, ()) := by
 have ha : s.l.any (q49 x.1 x.2.1 x.2.2.2) = true := by
  cases hb : s.l.any (q49 x.1 x.2.1 x.2.2.2) with
  | true => rfl
  | false => rw [qiu hb] at h; cases h
 obtain ⟨i, y, h1, h2, h3, h4⟩ := qal (q49 x.1 x.2.1 x.2.2.2) s.l 0 ha
 rw [h4] at h; injection h with h; subst h
 rw [Nat.zero_add] at h1
 have hlt : ltI (i : Int) 0 = false := decide_eq_false (by omega)
 rw [u_b6, qso s hL t x hx, q00]
 simp only [h1, hlt, q01, q07 h2, q00]
theorem q9p (s : Sl DD) (hL : s.l.length ≤ 1000) (t : SN) (x : ND) (hx : t.l[0]? = some x) (h : s.l.find? (q49 x.1 x.2.1 x.2.2.2) = none) : f_b6 (s, t, ()) = some (([], 0, ⟨true, []⟩), false, ()) := by
 have ha : s.l.any (q49 x.1 x.2.1 x.2.2.2) = false := by
  cases hb : s.l.any (q49 x.1 x.2.1 x.2.2.2) with
  | false => rfl
  | true =>
   obtain ⟨i, y, _, _, _, h4⟩ := qal (q49 x.1 x.2.1 x.2.2.2) s.l 0 hb
   rw [h4] at h; cases h
 have hlt : ltI (-1) 0 = true := id (Eq.refl _)
 rw [u_b6, qso s hL t x hx, q00, qge _ _ _ ha]
 simp only [hlt, q04]
theorem qsq (b : Bool) (T : List ND) : ∀ (l : List (List ND)) (i : Nat), bl b i (l ++ [T]) = bl b i l ++ [(((i + l.length : Nat) : Int), ⟨b, T⟩)]
 | [], i => by show [((i : Int), _)] = [(((i + 0 : Nat) : Int), _)]; rw [Nat.add_zero]
 | U :: r, i => by
  show _ :: bl b (i + 1) (r ++ [T]) = _ :: (bl b (i + 1) r ++ _)
  rw [qsq b T r (i + 1), List.length_cons, show i + 1 + r.length = i + (r.length + 1) by omega]
theorem qy2 (b : Bool) {Ts : List (List ND)} {k : Nat} {T : List ND} (h : Ts[k]? = some T) : bl b 0 (Ts.take (k + 1)) = bl b 0 (Ts.take k) ++ [((k : Int), ⟨b, T⟩)] := by
 have hk := getL h
 rw [List.take_add_one, h]
 show bl b 0 (Ts.take k ++ [T]) = _
 rw [qsq, List.length_take, Nat.min_eq_left (by omega), Nat.zero_add]
theorem qd8 {ks : F} {n : Nat} (h : ks.size ≤ n) : ∀ T, T ∈ ks.trees → T.length ≤ n := by
 intro T hT
 have := (List.sublist_flatten_of_mem hT).length_le
 rw [F.trees_flat, F.len] at this
 omega
theorem qy3 (nb b : Bool) (Ts : List (List ND)) (hT : Ts.length ≤ 10000) (hT2 : ∀ T, T ∈ Ts → T.length ≤ 4000) (as : Sl SN) (ha : as.l.length ≤ 1000) (hg : ∀ a, a ∈ as.l → gA a) :
  loopR l1_b4 (⟨nb, bl b 0 Ts⟩, as, lenI as.l, 0, ⟨true, []⟩, ()) = some (.inr (⟨true && as.l.isEmpty, as.l.map (argS true Ts)⟩, true, ())) := by
 refine (q30 l1_b4 (fun k a => (⟨nb, bl b 0 Ts⟩, as, lenI as.l, k, a, ())) as.l (fun (a : Sl SN) x => (⟨false, a.l ++ [argS true Ts x]⟩ : Sl SN)) (fun a => .inr (a, true, ())) (fun k a => k ≤ as.l.length ∧ a.l.length = k) ⟨true, []⟩ ⟨Nat.zero_le _, rfl⟩ ?_ ?_).trans ?_
 ·intro k x a hx hi
  obtain ⟨na, al⟩ := a
  have h2 : al.length = k := hi.2
  have hk := getL hx
  obtain ⟨bx, lx⟩ := x
  have hga := (hg _ (List.mem_of_getElem? hx)).2
  have hap := qp0 nb b bx Ts hT hT2 lx hga
  have hfit : ∀ y : SN, fit (sumI (lenI al) (lenI [y])) = some () := fun y => q0q (by show al.length + 1 ≤ _; omega)
  refine ⟨?_, hk, by show (al ++ [_]).length = _; rw [List.length_append, h2]; rfl⟩
  have hadd := add1 (show k ≤ 1000000000 by omega)
  unfold l1_b4 argS
  simp only [ltG hx, q04, q07 hx, q00, hap]
  cases ltI 4000 (lenI (lx.foldl (appV Ts) ⟨true, []⟩).l) <;> simp only [q04, q01, q00, hfit, q1v, hadd, cond_true, cond_false] <;> rfl
 ·intro a _
  unfold l1_b4
  simp only [ltE, q01]
 ·rw [qd7]; rfl
theorem qiv (s : Sl DD) (hL : GD s.l) (b : Bool) (k : Int) (t : Tx) (n : Int) (ks : F) (_hs : ks.size + 1 ≤ 10000) (con : Tx) (h : conV s.l k t (ks.cnt : Int) con = none) :
  f_b4 (s, ⟨b, (tr k t n ks).flat⟩, con, ()) = some (⟨true, []⟩, false, ()) := by
 have hx : (⟨b, (tr k t n ks).flat⟩ : SN).l[0]? = some (k, t, n, (ks.cnt : Int)) := rfl
 rw [u_b4]
 cases hd : s.l.find? (q49 k t (ks.cnt : Int)) with
 | none =>
  rw [q9p s hL.1 _ _ hx hd, q00]
  simp only [qsp ⟨true, []⟩ (Nat.zero_le _) con, q00, nF, q04]
 | some d =>
  have hmem := List.mem_of_find?_eq_some hd
  rw [q6j s hL.1 _ _ hx hd, q00]
  unfold conV at h
  rw [hd] at h
  have h : d.2.2.l.find? (fun x => eqS x.1 con) = none := h
  have ha : d.2.2.l.any (fun c : CT => eqS c.1 con) = false := by
   cases hb : d.2.2.l.any (fun c : CT => eqS c.1 con) with
   | false => rfl
   | true =>
    obtain ⟨i, y, _, _, _, h4⟩ := qal (fun c : CT => eqS c.1 con) d.2.2.l 0 hb
    rw [h4] at h; cases h
  have hlt : ltI (-1) 0 = true := id (Eq.refl _)
  have g2 := (hL.2 d hmem).2.1
  simp only [qsp d.2.2 (by omega) con, q00, qge _ _ _ ha, hlt, nT, q01, q04]
theorem qd9 (s : Sl DD) (hL : GD s.l) (b : Bool) (k : Int) (t : Tx) (n : Int) (ks : F) (hs : ks.size + 1 ≤ 4000) (con : Tx) (c : CT) (h : conV s.l k t (ks.cnt : Int) con = some c) :
  f_b4 (s, ⟨b, (tr k t n ks).flat⟩, con, ()) = some (⟨true && c.2.l.isEmpty, c.2.l.map (argS true ks.trees)⟩, true, ()) := by
 have hx : (⟨b, (tr k t n ks).flat⟩ : SN).l[0]? = some (k, t, n, (ks.cnt : Int)) := rfl
 have hl' : (tr k t n ks).flat.length ≤ 10000 := by rw [q1w]; omega
 have hst := q9m k t n ks
 obtain ⟨nb, hkids⟩ := qil b _ hl' hst
 have hkids : f_du (⟨b, (tr k t n ks).flat⟩, 0, ()) = some (⟨nb, ks.pos (0 + 1)⟩, ()) := hkids
 have hat := qsk hl' ks 1 hst.node.2.1 (by rw [q1w]; omega)
 have hcnt := F.cnt_le ks
 have hTl := F.trees_len ks
 rw [u_b4]
 unfold conV at h
 cases hd : s.l.find? (q49 k t (ks.cnt : Int)) with
 | none => rw [hd] at h; cases h
 | some d =>
  rw [hd] at h
  have h : d.2.2.l.find? (fun x => eqS x.1 con) = some c := h
  have hmem := List.mem_of_find?_eq_some hd
  obtain ⟨g1, g2, g3⟩ := hL.2 d hmem
  have ha : d.2.2.l.any (fun c : CT => eqS c.1 con) = true := by
   cases hb : d.2.2.l.any (fun c : CT => eqS c.1 con) with
   | true => rfl
   | false => rw [qiu hb] at h; cases h
  obtain ⟨i, y, h1, h2, h3, h4⟩ := qal (fun c : CT => eqS c.1 con) d.2.2.l 0 ha
  rw [h4] at h; injection h with h; subst h
  rw [Nat.zero_add] at h1
  obtain ⟨q1, q2, q3⟩ := g3 y (List.mem_of_getElem? h2)
  have hlt : ltI (i : Int) 0 = false := decide_eq_false (by omega)
  rw [q6j s hL.1 _ _ hx hd, q00]
  simp only [qsp d.2.2 (by omega) con, q00, h1, hlt, nT, q01, hkids]
  refine (q30 l2_b4 (fun v a => (⟨b, (tr k t n ks).flat⟩, (i : Int), ⟨nb, ks.pos (0 + 1)⟩, lenI (ks.pos (0 + 1)), v, d.1, d.2.1, d.2.2, a, ())) (ks.ents 1)
   (fun (a : Sl (Int × SN)) e => (⟨false, a.l ++ [((a.l.length : Int), ⟨b, e.2⟩)]⟩ : Sl (Int × SN))) (fun _ => (⟨true && y.2.l.isEmpty, y.2.l.map (argS true ks.trees)⟩, true, ())) (fun v a => v ≤ ks.cnt ∧ a.l = bl b 0 (ks.trees.take v)) ⟨true, []⟩ ⟨Nat.zero_le _, rfl⟩ ?_ ?_)
  ·intro v e a hv hi
   obtain ⟨na, al⟩ := a
   have h2' : al = bl b 0 (ks.trees.take v) := hi.2
   have hp : (ks.pos (0 + 1))[v]? = some e.1 := by rw [← F.ents_pos]; exact getM hv
   have hTv : ks.trees[v]? = some e.2 := by rw [← F.ents_trees ks 1]; exact getM hv
   have hvl := getL hTv
   have hk2 := hat e (List.mem_of_getElem? hv)
   have hall : al.length = v := by rw [h2', qsl, List.length_take]; omega
   have hfit : ∀ z : Int × SN, fit (sumI (lenI al) (lenI [z])) = some () := fun z => q0q (by show al.length + 1 ≤ _; omega)
   refine ⟨?_, by omega, ?_⟩
   ·unfold l2_b4
    simp only [ltG hp, q04, q07 hp, q00, hk2.ends b, hk2.cut, hfit, q1v, hall, add1 (show v ≤ 1000000000 by omega)]
    rfl
   ·show al ++ [((al.length : Int), (⟨b, e.2⟩ : SN))] = _
    rw [qy2 b hTv, hall, h2']
  ·intro a hi
   obtain ⟨na, al⟩ := a
   have hpl : (ks.ents 1).length = (ks.pos (0 + 1)).length := by rw [← F.ents_pos ks 1, List.length_map]
   have hel : (ks.ents 1).length = ks.trees.length := by rw [← F.ents_trees ks 1, List.length_map]
   have h2' : al = bl b 0 ks.trees := by
    have := hi.2
    rw [hel, List.take_length] at this
    exact this
   have hin := qy3 na b ks.trees (by omega) (fun T hT => by have := qd8 (Nat.le_refl ks.size) T hT; omega) y.2 q2 q3
   rw [← h2'] at hin
   unfold l2_b4
   simp only [hpl, ltE, q01, q07 h2, q00, hin]
end Fn
end Ev

namespace Ev
open Go
namespace Fn
end Fn
end Ev

namespace Ev
open Go
namespace Fn
theorem qgl : ∀ (f g : F) (x y : List ND), f.flat ++ x = g.flat ++ y → f.cnt = g.cnt → f = g ∧ x = y
 | .nil, .nil, x, y, h, _ => ⟨rfl, h⟩
 | .nil, .cons _ _ _ _ _, _, _, _, h => by cases h
 | .cons _ _ _ _ _, .nil, _, _, _, h => by cases h
 | .cons k t n ks r, .cons k' t' n' ks' r', x, y, h, hc => by
  have h : (k, t, n, (ks.cnt : Int)) :: ((ks.flat ++ r.flat) ++ x) = (k', t', n', (ks'.cnt : Int)) :: ((ks'.flat ++ r'.flat) ++ y) := h
  injection h with h1 h2
  injection h1 with e1 h1
  injection h1 with e2 h1
  injection h1 with e3 e4
  rw [List.append_assoc, List.append_assoc] at h2
  obtain ⟨g1, g2⟩ := qgl ks ks' _ _ h2 (by omega)
  have hc : r.cnt + 1 = r'.cnt + 1 := hc
  obtain ⟨g3, g4⟩ := qgl r r' _ _ g2 (by omega)
  subst e1 e2 e3 g1 g3
  exact ⟨rfl, g4⟩
theorem qf5 {k k' : Int} {t t' : Tx} {n n' : Int} {ks ks' : F} (h : (tr k t n ks).flat = (tr k' t' n' ks').flat) : k = k' ∧ t = t' ∧ n = n' ∧ ks = ks' := by
 have := (qgl (tr k t n ks) (tr k' t' n' ks') [] [] (by rw [List.append_nil, List.append_nil]; exact h) rfl).1
 injection this with h1 h2 h3 h4
 exact ⟨h1, h2, h3, h4⟩
open Classical in
noncomputable def qy4 (T : List ND) : List (List ND) := if h : ∃ ks : F, ∃ k t n, T = (tr k t n ks).flat then (Classical.choose h).trees else []
theorem qv8 (k : Int) (t : Tx) (n : Int) (ks : F) : qy4 (tr k t n ks).flat = ks.trees := by
 have h : ∃ ks' : F, ∃ k' t' n', (tr k t n ks).flat = (tr k' t' n' ks').flat := ⟨ks, k, t, n, rfl⟩
 unfold qy4
 rw [dif_pos h]
 obtain ⟨k', t', n', e⟩ := Classical.choose_spec h
 rw [← (qf5 e).2.2.2]
def F.kidsF : F → List F
 | .nil => []
 | .cons k t n ks r => tr k t n ks :: r.kidsF
theorem F.kidsF_flat : ∀ f : F, f.kidsF.map F.flat = f.trees
 | .nil => rfl
 | .cons k t n ks r => by show _ :: _ = _ :: _; rw [F.kidsF_flat r]
theorem F.kidsF_len (f : F) : f.kidsF.length = f.cnt := by rw [← F.trees_len, ← F.kidsF_flat, List.length_map]
theorem F.kidsF_mem : ∀ (f : F) (p : F), p ∈ f.kidsF → ∃ k t n ks, p = tr k t n ks ∧ ks.size + 1 ≤ f.size
 | .nil, _, h => by cases h
 | .cons k t n ks r, p, h => by
  rcases List.mem_cons.1 h with h | h
  ·exact ⟨k, t, n, ks, h, by show _ ≤ ks.size + r.size + 1; omega⟩
  ·obtain ⟨k', t', n', ks', h1, h2⟩ := F.kidsF_mem r p h
   exact ⟨k', t', n', ks', h1, by show _ ≤ ks.size + r.size + 1; omega⟩
theorem F.app_flat : ∀ f g : F, (f.app g).flat = f.flat ++ g.flat
 | .nil, _ => rfl
 | .cons k t n ks r, g => by
  show _ :: (ks.flat ++ (r.app g).flat) = _ :: ((ks.flat ++ r.flat) ++ g.flat)
  rw [F.app_flat r g, List.append_assoc]
theorem F.app_cnt : ∀ f g : F, (f.app g).cnt = f.cnt + g.cnt
 | .nil, g => (Nat.zero_add _).symm
 | .cons k t n ks r, g => by show (r.app g).cnt + 1 = r.cnt + 1 + g.cnt; rw [F.app_cnt r g]; omega
def qda (Fs : List F) : F → F
 | .nil => .nil
 | .cons k t n ks r => (bif eqI k 31 then (if 0 ≤ n then (Fs[n.toNat]?).getD (tr k t n ks) else tr k t n ks) else tr k t n (qda Fs ks)).app (qda Fs r)
theorem qan (Fs : List F) (hF : ∀ f, f ∈ Fs → f.cnt = 1) : ∀ f : F, (qda Fs f).cnt = f.cnt
 | .nil => rfl
 | .cons k t n ks r => by
  have h : (bif eqI k 31 then (if 0 ≤ n then (Fs[n.toNat]?).getD (tr k t n ks) else tr k t n ks) else tr k t n (qda Fs ks)).cnt = 1 := by
   cases eqI k 31 with
   | false => rfl
   | true =>
    rw [cond_true]
    split
    ·cases e : Fs[n.toNat]? with
     | none => rfl
     | some f => exact hF f (List.mem_of_getElem? e)
    ·rfl
  unfold qda
  rw [F.app_cnt, h, qan Fs hF r]
  show 1 + r.cnt = r.cnt + 1; omega
theorem qv9 {x : ND} (h : typN x = true) (h31 : eqI x.1 31 = true) : x.2.2.2 = 0 := by
 unfold typN at h
 rw [h31, cond_true, Bool.and_eq_true] at h
 exact eqI_eq.1 h.1
theorem q8n (Fs : List F) (hF : ∀ f, f ∈ Fs → f.cnt = 1) : ∀ f : F, f.flat.all typN = true → q5v (Fs.map F.flat) f.flat = (qda Fs f).flat
 | .nil, _ => rfl
 | .cons k t n ks r, h => by
  have h : (typN (k, t, n, (ks.cnt : Int)) && (ks.flat ++ r.flat).all typN) = true := h
  rw [Bool.and_eq_true, List.all_append, Bool.and_eq_true] at h
  obtain ⟨h1, h2, h3⟩ := h
  have i1 := q8n Fs hF ks h2
  have i2 := q8n Fs hF r h3
  unfold qda
  rw [F.app_flat, ← i2]
  show q5v _ ((k, t, n, (ks.cnt : Int)) :: (ks.flat ++ r.flat)) = _
  unfold q5v at *
  rw [List.flatMap_cons, List.flatMap_append, ← List.append_assoc]
  congr 1
  unfold q7t
  cases h31 : eqI k 31 with
  | false =>
   simp only [cond_false]
   rw [show q7t (Fs.map F.flat) = fun x => q7t (Fs.map F.flat) x from rfl] at i1
   unfold q7t at i1
   rw [i1, q3d, qan Fs hF]; rfl
  | true =>
   have h0 := qv9 h1 h31
   obtain rfl := qmn h0
   simp only [cond_true]
   by_cases hn : 0 ≤ n
   ·rw [if_pos hn, if_pos hn, List.getElem?_map]
    cases Fs[n.toNat]? with
    | none => rfl
    | some f => show f.flat ++ [] = f.flat; rw [List.append_nil]
   ·rw [if_neg hn, if_neg hn]; rfl
theorem qbi : ∀ f : F, f.cnt = 1 → ∃ k t n ks, f = tr k t n ks
 | .nil, h => by cases h
 | .cons k t n ks r, h => by
  have h : r.cnt + 1 = 1 := h
  cases r with
  | nil => exact ⟨k, t, n, ks, rfl⟩
  | cons _ _ _ _ r' => have h : r'.cnt + 1 + 1 = 1 := h; omega
theorem q31 (T : List ND) : q2w T = true ↔ T.length ≤ 4000 ∧ T.all typN = true ∧ ∃ k t n ks, T = (tr k t n ks).flat := by
 unfold q2w
 rw [Bool.and_eq_true, Bool.and_eq_true, decide_eq_true_eq, q4e]
 exact ⟨fun ⟨a, b, c⟩ => ⟨a, c, b⟩, fun ⟨a, c, b⟩ => ⟨a, b, c⟩⟩
theorem qsr {k : Int} {t : Tx} {n : Int} {ks : F} (h : q2w (tr k t n ks).flat = true) : ∀ T, T ∈ ks.trees → q2w T = true := by
 intro T hT
 obtain ⟨h1, h2, _⟩ := (q31 _).1 h
 rw [q1w] at h1
 have hs := qd8 (Nat.le_refl ks.size) T hT
 rw [← F.kidsF_flat] at hT
 obtain ⟨p, hp, e⟩ := List.mem_map.1 hT
 obtain ⟨k', t', n', ks', hp2, _⟩ := F.kidsF_mem ks p hp
 refine (q31 T).2 ⟨by omega, ?_, ⟨k', t', n', ks', by rw [← e, hp2]⟩⟩
 rw [q3d, List.all_cons, Bool.and_eq_true] at h2
 have hm : ∀ x, x ∈ T → x ∈ ks.flat := fun x hx => by
  rw [← F.trees_flat, ← F.kidsF_flat]
  exact List.mem_flatten.2 ⟨T, List.mem_map.2 ⟨p, hp, e⟩, hx⟩
 exact List.all_eq_true.2 fun x hx => List.all_eq_true.1 h2.2 x (hm x hx)
theorem qgm {k : Int} {t : Tx} {n : Int} {ks : F} (h : q2w (tr k t n ks).flat = true) {a : List ND} (ha : q2w a = true) : q2w (argT ks.trees a) = true := by
 unfold argT
 cases hb : ltI 4000 (lenI (q5v ks.trees a)) with
 | true => kernel_rfl
 | false =>
  rw [cond_false]
  have hb : ¬ (4000 : Int) < ((q5v ks.trees a).length : Int) := of_decide_eq_false hb
  obtain ⟨a1, a2, k', t', n', ks', e⟩ := (q31 a).1 ha
  have hF : ∀ f, f ∈ ks.kidsF → f.cnt = 1 := fun f hf => by
   obtain ⟨_, _, _, _, h1, _⟩ := F.kidsF_mem ks f hf
   rw [h1]; rfl
  refine (q31 _).2 ⟨by omega, ?_, ?_⟩
  ·refine List.all_eq_true.2 fun x hx => ?_
   obtain ⟨y, hy, hx⟩ := List.mem_flatMap.1 hx
   have hy' := List.all_eq_true.1 a2 y hy
   unfold q7t at hx
   have single : x ∈ [y] → typN x = true := fun hx => by rw [List.mem_singleton] at hx; rw [hx]; exact hy'
   cases hq : eqI y.1 31 with
   | false => rw [hq, cond_false] at hx; exact single hx
   | true =>
    rw [hq, cond_true] at hx
    split at hx
    ·cases hT : ks.trees[y.2.2.1.toNat]? with
     | none => rw [hT] at hx; exact single hx
     | some T =>
      rw [hT] at hx
      have := (q31 T).1 (qsr h T (List.mem_of_getElem? hT))
      exact List.all_eq_true.1 this.2.1 x hx
    ·exact single hx
  ·subst e
   rw [← F.kidsF_flat, q8n ks.kidsF hF _ a2]
   obtain ⟨k2, t2, n2, ks2, e2⟩ := qbi _ (qan ks.kidsF hF (tr k' t' n' ks'))
   exact ⟨k2, t2, n2, ks2, by rw [e2]⟩
end Fn
end Ev

namespace Ev
open Go
namespace Fn
def hd (T : List ND) : ND := T.headD (0, [], 0, 0)
noncomputable def qgn (L : List DD) (T : List ND) (con : Tx) : Option (List (List ND)) := (conV L (hd T).1 (hd T).2.1 (hd T).2.2.2 con).map fun c => c.2.l.map fun a => argT (qy4 T) a.l
noncomputable def ofN (L : List DD) (T : List ND) (k : Int) (t : Tx) (c : Nat) (rec : List (List ND) → Bool) : Bool :=
 bif eqI k 21 || eqI k 22 then true else bif eqI k 23 || eqI k 51 then eqS (hd T).2.1 [105, 110, 116] else bif eqI k 52 then eqS (hd T).2.1 [116, 101, 120, 116] else
  bif eqI k 54 then eqI (hd T).1 31 || (eqS (hd T).2.1 [45, 62] || eqS (hd T).2.1 [114, 101, 102]) else
   match qgn L T t with
   | none => false
   | some As => decide (As.length = c) && rec As
noncomputable def ofF (L : List DD) : F → List (List ND) → Bool
 | .nil, _ => true
 | .cons _ _ _ _ _, [] => false
 | .cons k t _ ks r, T :: Ts => ofN L T k t ks.cnt (fun As => ofF L ks As) && ofF L r Ts
theorem qkr (L : List DD) (k : Int) (t : Tx) (n : Int) (ks : F) (T : List ND) : ofF L (tr k t n ks) [T] = ofN L T k t ks.cnt (fun As => ofF L ks As) := by
 show (ofN L T k t ks.cnt (fun As => ofF L ks As) && true) = _
 rw [Bool.and_true]
theorem qks (L : List DD) : ∀ (f : F) (As : List (List ND)), As.length = f.cnt → ofF L f As = (f.kidsF.zip As).all fun z => ofF L z.1 [z.2]
 | .nil, [], _ => rfl
 | .nil, _ :: _, h => by cases h
 | .cons _ _ _ _ _, [], h => by cases h
 | .cons k t n ks r, T :: Ts, h => by
  show (ofN L T k t ks.cnt (fun As => ofF L ks As) && ofF L r Ts) = (((tr k t n ks, T) :: r.kidsF.zip Ts).all _)
  rw [List.all_cons, qks L r Ts (by have h : Ts.length + 1 = r.cnt + 1 := h; omega), qkr]
theorem qmw {L : List DD} {k : Int} {t : Tx} {c : Int} {con : Tx} {x : CT} (h : conV L k t c con = some x) : ∃ d, d ∈ L ∧ x ∈ d.2.2.l ∧ q49 k t c d = true ∧ eqS x.1 con = true := by
 unfold conV at h
 cases hd : L.find? (q49 k t c) with
 | none => rw [hd] at h; cases h
 | some d =>
  rw [hd] at h
  have h : d.2.2.l.find? (fun x => eqS x.1 con) = some x := h
  exact ⟨d, List.mem_of_find?_eq_some hd, List.mem_of_find?_eq_some h, List.find?_some hd, List.find?_some (p := fun x : CT => eqS x.1 con) h⟩
theorem q9q {L : List DD} (hok : L.all q23 = true) {d : DD} (hd : d ∈ L) {c : CT} (hc : c ∈ d.2.2.l) : q3v c.1 = true ∧ c.2.l.length ≤ 8 ∧ (∀ a, a ∈ c.2.l → q2w a.l = true) ∧ d.2.1 ≤ 8 ∧ 0 ≤ d.2.1 ∧ q3v d.1 = true := by
 have h1 := List.all_eq_true.1 hok d hd
 unfold q23 at h1
 simp only [Bool.and_eq_true] at h1
 obtain ⟨g0, g1, g2, g3, g4, g5⟩ := h1
 have h2 := List.all_eq_true.1 g5 c hc
 unfold qf2 at h2
 simp only [Bool.and_eq_true] at h2
 have e1 : lenI c.2.l ≤ 8 := of_decide_eq_true h2.2.1
 have e2 : d.2.1 ≤ 8 := of_decide_eq_true g2
 have e3 : 0 ≤ d.2.1 := of_decide_eq_true g1
 refine ⟨h2.1, by unfold lenI at e1; omega, fun a ha => ?_, e2, e3, g0⟩
 have h3 := List.all_eq_true.1 h2.2.2 a ha
 unfold qgg at h3
 rw [Bool.and_eq_true] at h3
 exact h3.1
theorem qiw {P : ND → Bool} {ks : F} (h : ks.flat.all P = true) : ∀ p, p ∈ ks.kidsF → p.flat.all P = true := by
 intro p hp
 refine List.all_eq_true.2 fun x hx => List.all_eq_true.1 h x ?_
 rw [← F.trees_flat, ← F.kidsF_flat]
 exact List.mem_flatten.2 ⟨p.flat, List.mem_map.2 ⟨p, hp, rfl⟩, hx⟩
theorem qbj (L : List DD) (k : Int) (t : Tx) (n : Int) (ks : F) (con : Tx) : qgn L (tr k t n ks).flat con = (conV L k t (ks.cnt : Int) con).map fun c => c.2.l.map fun a => argT ks.trees a.l := by
 unfold qgn
 rw [qv8]; rfl
def patP (x : ND) : Bool := leI 21 x.1 && leI x.1 24
def valP (x : ND) : Bool := leI 51 x.1 && leI x.1 54
theorem qy5 (a b : Nat) : eqI ((a : Nat) : Int) ((b : Nat) : Int) = decide (a = b) := by
 by_cases h : a = b
 ·subst h; rw [q4z, decide_eq_true rfl]
 ·rw [q1r (by omega), decide_eq_false h]
theorem qss {ks : F} {As : List (List ND)} {i : Nat} {z : F × List ND} (h : (ks.kidsF.zip As)[i]? = some z) : ks.kidsF[i]? = some z.1 ∧ As[i]? = some z.2 := by
 rw [List.getElem?_zip_eq_some] at h
 exact h
theorem of_N (s : Sl DD) (hL : GD s.l) (hok : s.l.all q23 = true) : ∀ (M : Nat) (k : Int) (t : Tx) (n : Int) (ks : F), ks.size + 1 ≤ M → ks.size + 1 ≤ 4000 → (tr k t n ks).flat.all patP = true → ∀ (T : SN) (b2 : Bool), q2w T.l = true → ∀ N, M ≤ N →
  recN g_bk N (s, T, ⟨b2, (tr k t n ks).flat⟩, ()) = some (ofF s.l (tr k t n ks) [T.l], ()) := by
 intro M
 induction M with
 | zero => intro k t n ks h; omega
 | succ M ih =>
  intro k t n ks hM hsz hP T b2 hT N hN
  obtain ⟨b, T⟩ := T
  cases N with
  | zero => omega
  | succ N =>
   obtain ⟨hT1, hT2, k', t', n', ks', hTe⟩ := (q31 T).1 hT
   subst hTe
   rw [q1w] at hT1
   have h0 : at? (tr k t n ks).flat 0 = some (k, t, n, (ks.cnt : Int)) := q07 (i := 0) rfl
   have h1 : at? (tr k' t' n' ks').flat 0 = some (k', t', n', (ks'.cnt : Int)) := q07 (i := 0) rfl
   show g_bk (recN g_bk N) _ = _
   rw [u_bk, qkr]
   simp only [h0, h1, q00]
   rw [q3d, List.all_cons, Bool.and_eq_true] at hP
   have hkk := hP.1
   unfold patP at hkk
   rw [Bool.and_eq_true] at hkk
   have k1 : (21 : Int) ≤ k := of_decide_eq_true hkk.1
   have k2 : k ≤ (24 : Int) := of_decide_eq_true hkk.2
   unfold ofN
   rw [q1r (show k ≠ 51 by omega), q1r (show k ≠ 52 by omega), q1r (show k ≠ 54 by omega)]
   by_cases e24 : k = 24
   ·subst e24
    have z1 : eqI 24 21 = false := rfl
    have z2 : eqI 24 22 = false := rfl
    have z3 : eqI 24 23 = false := rfl
    have z4 : eqI 24 24 = true := rfl
    simp only [z1, z2, z3, z4, q01, q04, cond_false, Bool.or_false]
    rw [qro, h0, q00, qbj]
    obtain ⟨nbp, hparts⟩ := q5u b2 24 t n ks (by omega)
    cases hc : conV s.l k' t' (ks'.cnt : Int) t with
    | none =>
     rw [qiv s hL b k' t' n' ks' (by omega) t hc]
     simp only [q00, hparts, nF, q04, Option.map_none]
    | some c =>
     obtain ⟨d, hd1, hd2, hd3, hd4⟩ := qmw hc
     obtain ⟨r1, r2, r3, r4, r5, r6⟩ := q9q hok hd1 hd2
     rw [qd9 s hL b k' t' n' ks' (by omega) t c hc]
     have hl1 : lenI (c.2.l.map (argS true ks'.trees)) = ((c.2.l.length : Nat) : Int) := by unfold lenI; rw [List.length_map]
     have hl2 : lenI (ks.trees.map fun l => (⟨b2, l⟩ : SN)) = ((ks.cnt : Nat) : Int) := by unfold lenI; rw [List.length_map, F.trees_len]
     have hl3 : (c.2.l.map fun a => argT ks'.trees a.l).length = c.2.l.length := List.length_map _
     simp only [q00, hparts, nT, q01, hl1, hl2, qy5, Option.map_some, hl3]
     by_cases hle : c.2.l.length = ks.cnt
     ·rw [decide_eq_true hle]
      simp only [nT, q01, Bool.true_and]
      rw [qks s.l ks _ (by rw [hl3]; exact hle)]
      have hlen : (ks.kidsF.zip (c.2.l.map fun a => argT ks'.trees a.l)).length = ks.cnt := by rw [List.length_zip, F.kidsF_len, hl3, hle, Nat.min_self]
      have hcnt := F.cnt_le ks
      refine (qb8 (q13 (q7q (recN g_bk N)) (fun i => (s, ⟨true && c.2.l.isEmpty, c.2.l.map (argS true ks'.trees)⟩, ⟨nbp, ks.trees.map fun l => (⟨b2, l⟩ : SN)⟩, ((ks.cnt : Nat) : Int), i, ())) (ks.kidsF.zip (c.2.l.map fun a => argT ks'.trees a.l)) (by omega)
       (fun _ z => bif ofF s.l z.1 [z.2] then none else some (false, ())) (true, ()) ?_ ?_) _).trans ?_
      ·intro i z hz hi
       obtain ⟨p, A⟩ := z
       obtain ⟨hz1, hz2⟩ := qss hz
       have hil := getL hz
       have hp := List.mem_of_getElem? hz1
       obtain ⟨kp, tp, np, ksp, hpe, hps⟩ := F.kidsF_mem ks p hp
       have hpP := qiw hP.2 p hp
       subst hpe
       have hg1 : (ks.trees.map fun l => (⟨b2, l⟩ : SN))[i]? = some ⟨b2, (tr kp tp np ksp).flat⟩ := by
        rw [← F.kidsF_flat]
        exact getM (getM hz1)
       rw [List.getElem?_map] at hz2
       cases ha : c.2.l[i]? with
       | none => rw [ha] at hz2; cases hz2
       | some a =>
        rw [ha] at hz2
        injection hz2 with hz2
        have hg2 : (c.2.l.map (argS true ks'.trees))[i]? = some (argS true ks'.trees a) := getM ha
        have hAt : q2w (argS true ks'.trees a).l = true := by rw [qit]; exact qgm hT (r3 a (List.mem_of_getElem? ha))
        have hself := ih kp tp np ksp (by omega) (by omega) hpP (argS true ks'.trees a) b2 hAt N (by omega)
        rw [qit, show argT ks'.trees a.l = A from hz2] at hself
        have hlt : ltI (i : Int) ((ks.cnt : Nat) : Int) = true := decide_eq_true (by omega)
        unfold q7q
        simp only [hlt, q04, q07 hg1, q07 hg2, q00, qo5, hself, add1 (show i ≤ 1000000000 by omega)]
        cases ofF s.l (tr kp tp np ksp) [A] <;> rfl
      ·have hlt : ltI ((ks.cnt : Nat) : Int) ((ks.cnt : Nat) : Int) = false := decide_eq_false (by omega)
       unfold q7q
       simp only [hlen, hlt, q01]
      ·rw [qgh]
       cases (ks.kidsF.zip (c.2.l.map fun a => argT ks'.trees a.l)).all (fun z => ofF s.l z.1 [z.2]) <;> rfl
     ·rw [decide_eq_false hle]
      simp only [nF, q04, q00, Bool.false_and]
   ·rw [q1r e24]
    by_cases e23 : k = 23
    ·subst e23; rfl
    ·rw [q1r e23]
     by_cases e22 : k = 22
     ·subst e22; rfl
     ·have : k = 21 := by omega
      subst this; rfl
end Fn
end Ev

namespace Ev
open Go
namespace Fn
theorem z05 (s : Sl DD) (hL : GD s.l) (hok : s.l.all q23 = true) : ∀ (M : Nat) (k : Int) (t : Tx) (n : Int) (ks : F), ks.size + 1 ≤ M → ks.size + 1 ≤ 4000 → (tr k t n ks).flat.all valP = true → ∀ (T : SN) (b2 : Bool), q2w T.l = true → ∀ N, M ≤ N →
  recN g_bh N (s, T, ⟨b2, (tr k t n ks).flat⟩, ()) = some (ofF s.l (tr k t n ks) [T.l], ()) := by
 intro M
 induction M with
 | zero => intro k t n ks h; omega
 | succ M ih =>
  intro k t n ks hM hsz hP T b2 hT N hN
  obtain ⟨b, T⟩ := T
  cases N with
  | zero => omega
  | succ N =>
   obtain ⟨hT1, hT2, k', t', n', ks', hTe⟩ := (q31 T).1 hT
   subst hTe
   rw [q1w] at hT1
   have h0 : at? (tr k t n ks).flat 0 = some (k, t, n, (ks.cnt : Int)) := q07 (i := 0) rfl
   have h1 : at? (tr k' t' n' ks').flat 0 = some (k', t', n', (ks'.cnt : Int)) := q07 (i := 0) rfl
   show g_bh (recN g_bh N) _ = _
   rw [u_bh, qkr]
   simp only [h0, h1, q00]
   rw [q3d, List.all_cons, Bool.and_eq_true] at hP
   have hkk := hP.1
   unfold valP at hkk
   rw [Bool.and_eq_true] at hkk
   have k1 : (51 : Int) ≤ k := of_decide_eq_true hkk.1
   have k2 : k ≤ (54 : Int) := of_decide_eq_true hkk.2
   unfold ofN
   rw [q1r (show k ≠ 21 by omega), q1r (show k ≠ 22 by omega), q1r (show k ≠ 23 by omega)]
   by_cases e24 : k = 53
   ·subst e24
    have z1 : eqI 53 51 = false := rfl
    have z2 : eqI 53 52 = false := rfl
    have z3 : eqI 53 54 = false := rfl
    simp only [z1, z2, z3, q01, cond_false, Bool.or_false]
    rw [qid, h0, q00, qbj]
    obtain ⟨nbp, hparts⟩ := q5u b2 53 t n ks (by omega)
    cases hc : conV s.l k' t' (ks'.cnt : Int) t with
    | none =>
     rw [qiv s hL b k' t' n' ks' (by omega) t hc]
     simp only [q00, hparts, nF, q04, Option.map_none]
    | some c =>
     obtain ⟨d, hd1, hd2, hd3, hd4⟩ := qmw hc
     obtain ⟨r1, r2, r3, r4, r5, r6⟩ := q9q hok hd1 hd2
     rw [qd9 s hL b k' t' n' ks' (by omega) t c hc]
     have hl1 : lenI (c.2.l.map (argS true ks'.trees)) = ((c.2.l.length : Nat) : Int) := by unfold lenI; rw [List.length_map]
     have hl2 : lenI (ks.trees.map fun l => (⟨b2, l⟩ : SN)) = ((ks.cnt : Nat) : Int) := by unfold lenI; rw [List.length_map, F.trees_len]
     have hl3 : (c.2.l.map fun a => argT ks'.trees a.l).length = c.2.l.length := List.length_map _
     simp only [q00, hparts, nT, q01, hl1, hl2, qy5, Option.map_some, hl3]
     by_cases hle : c.2.l.length = ks.cnt
     ·rw [decide_eq_true hle]
      simp only [nT, q01, Bool.true_and]
      rw [qks s.l ks _ (by rw [hl3]; exact hle)]
      have hlen : (ks.kidsF.zip (c.2.l.map fun a => argT ks'.trees a.l)).length = ks.cnt := by rw [List.length_zip, F.kidsF_len, hl3, hle, Nat.min_self]
      have hcnt := F.cnt_le ks
      refine (qb8 (q13 (q45 (recN g_bh N)) (fun i => (s, ⟨true && c.2.l.isEmpty, c.2.l.map (argS true ks'.trees)⟩, ⟨nbp, ks.trees.map fun l => (⟨b2, l⟩ : SN)⟩, ((ks.cnt : Nat) : Int), i, ())) (ks.kidsF.zip (c.2.l.map fun a => argT ks'.trees a.l)) (by omega)
       (fun _ z => bif ofF s.l z.1 [z.2] then none else some (false, ())) (true, ()) ?_ ?_) _).trans ?_
      ·intro i z hz hi
       obtain ⟨p, A⟩ := z
       obtain ⟨hz1, hz2⟩ := qss hz
       have hil := getL hz
       have hp := List.mem_of_getElem? hz1
       obtain ⟨kp, tp, np, ksp, hpe, hps⟩ := F.kidsF_mem ks p hp
       have hpP := qiw hP.2 p hp
       subst hpe
       have hg1 : (ks.trees.map fun l => (⟨b2, l⟩ : SN))[i]? = some ⟨b2, (tr kp tp np ksp).flat⟩ := by
        rw [← F.kidsF_flat]
        exact getM (getM hz1)
       rw [List.getElem?_map] at hz2
       cases ha : c.2.l[i]? with
       | none => rw [ha] at hz2; cases hz2
       | some a =>
        rw [ha] at hz2
        injection hz2 with hz2
        have hg2 : (c.2.l.map (argS true ks'.trees))[i]? = some (argS true ks'.trees a) := getM ha
        have hAt : q2w (argS true ks'.trees a).l = true := by rw [qit]; exact qgm hT (r3 a (List.mem_of_getElem? ha))
        have hself := ih kp tp np ksp (by omega) (by omega) hpP (argS true ks'.trees a) b2 hAt N (by omega)
        rw [qit, show argT ks'.trees a.l = A from hz2] at hself
        have hlt : ltI (i : Int) ((ks.cnt : Nat) : Int) = true := decide_eq_true (by omega)
        unfold q45
        simp only [hlt, q04, q07 hg1, q07 hg2, q00, qkf, hself, add1 (show i ≤ 1000000000 by omega)]
        cases ofF s.l (tr kp tp np ksp) [A] <;> rfl
      ·have hlt : ltI ((ks.cnt : Nat) : Int) ((ks.cnt : Nat) : Int) = false := decide_eq_false (by omega)
       unfold q45
       simp only [hlen, hlt, q01]
      ·rw [qgh]
       cases (ks.kidsF.zip (c.2.l.map fun a => argT ks'.trees a.l)).all (fun z => ofF s.l z.1 [z.2]) <;> rfl
     ·rw [decide_eq_false hle]
      simp only [nF, q04, q00, Bool.false_and]
   ·by_cases e51 : k = 51
    ·subst e51; rfl
    ·rw [q1r e51]
     by_cases e52 : k = 52
     ·subst e52; rfl
     ·rw [q1r e52]
      have : k = 54 := by omega
      subst this
      have z3 : eqI 54 54 = true := rfl
      simp only [z3, q04, q01, cond_true, cond_false, Bool.or_false, hd, List.headD_cons, q3d]
      cases eqI k' 31 <;> cases eqS t' [45, 62] <;> cases eqS t' [114, 101, 102] <;> rfl
end Fn
end Ev

namespace Ev
open Go
namespace Fn
def valN (x : ND) : Bool := bif eqI x.1 51 then eqS x.2.1 [] && (eqI x.2.2.2 0 && q7b x.2.2.1) else bif eqI x.1 52 then eqI x.2.2.1 0 && (eqI x.2.2.2 0 && leI (lenI x.2.1) 200) else
 bif eqI x.1 53 then eqI x.2.2.1 0 && q3v x.2.1 else bif eqI x.1 54 then eqS x.2.1 [] && (eqI x.2.2.1 0 && eqI x.2.2.2 0) else false
def qe0 (l : List ND) : Bool := decide (l.length ≤ 4000) && (q6r l && l.all valN)
theorem qp1 (x : ND) (hx : qin x) : f_bj (x, ()) = some (valN x, ()) := by
 obtain ⟨a, t, n, c⟩ := x
 obtain ⟨v, hv, hw⟩ := qez n hx.2.2
 have hc := qmi (s := t) hx.1
 rw [u_bj]
 unfold valN
 simp only [hv, hc, q00, hw]
 cases eqI a 51 with
 | true => cases eqS t [] <;> cases eqI c 0 <;> rfl
 | false =>
  cases eqI a 52 with
  | true => cases eqI n 0 <;> cases eqI c 0 <;> rfl
  | false =>
   cases eqI a 53 with
   | true => cases eqI n 0 <;> rfl
   | false => cases eqI a 54 <;> rfl
theorem qst (b : Bool) (l : List ND) (hl : l.length ≤ 1000000) (hg : GL l) : f_cj (⟨b, l⟩, ()) = some (!l.all valN, ()) := by
 have e : loopR l1_ct (⟨b, l⟩, lenI l, 0, ()) = some (ixP (fun x => !valN x) 0 l, ()) := by
  refine q20 l1_ct (fun k => (⟨b, l⟩, lenI l, k, ())) (fun z => (z, ())) l hl (fun x => !valN x) ?_ ?_
  ·intro k x hx hk
   obtain ⟨a, t, n, c⟩ := x
   unfold l1_ct
   simp only [ltG hx, q04, q07 hx, q00, u_bs, qp1 _ (hg.at hx), add1 (show k ≤ 1000000000 by omega), notB]
   cases valN (a, t, n, c) <;> rfl
  ·unfold l1_ct
   simp only [ltE, q01]
 rw [u_cj, u_ct]
 refine (qb8 e _).trans ?_
 rw [q3e, List.not_all_eq_any_not]
theorem qdb (b : Bool) (l : List ND) (hl : l.length ≤ 10000) (hg : GL l) : f_br (⟨b, l⟩, ()) = some (qe0 l, ()) := by
 have hle : leI (lenI l) 4000 = decide (l.length ≤ 4000) := by unfold leI lenI; exact decide_eq_decide.2 (by omega)
 rw [u_br, qst b l (by omega) hg, q5r b l hl]
 simp only [hle]
 unfold qe0
 cases decide (l.length ≤ 4000) <;> cases q6r l <;> cases l.all valN <;> rfl
theorem qw2 {x : ND} (h : valN x = true) : valP x = true := by
 unfold valN at h
 unfold valP
 by_cases h1 : x.1 = 51
 ·rw [h1]; rfl
 ·rw [q1r h1, cond_false] at h
  by_cases h2 : x.1 = 52
  ·rw [h2]; rfl
  ·rw [q1r h2, cond_false] at h
   by_cases h3 : x.1 = 53
   ·rw [h3]; rfl
   ·rw [q1r h3, cond_false] at h
    by_cases h4 : x.1 = 54
    ·rw [h4]; rfl
    ·rw [q1r h4] at h; cases h
end Fn
end Ev

namespace Ev
open Go
namespace Fn
theorem qbk {m odd : Bool} : ∀ f : F, errF m true odd f = 0 → f.flat.all patP = true
 | .nil, _ => rfl
 | .cons k t n ks r, h => by
  obtain ⟨h1, h2⟩ := errF_ok.1 h
  rw [Bool.true_or] at h1
  obtain ⟨h3, h4⟩ := errT_ok.1 h1
  obtain ⟨_, h5, _⟩ := nodeE_zero.1 h3
  show ((k, t, n, (ks.cnt : Int)) :: (ks.flat ++ r.flat)).all patP = true
  rw [List.all_cons, List.all_append, qbk ks h4, qbk r h2, Bool.and_true, Bool.and_true]
  exact h5
termination_by structural f => f
theorem qy6 {k : Int} {t : Tx} {n : Int} {ks : F} (h : chkT k t n ks true = 0) : (tr k t n ks).flat.all patP = true := by
 obtain ⟨_, h2, _⟩ := chkT_ok.1 h
 obtain ⟨h3, h4⟩ := errT_ok.1 h2
 obtain ⟨_, h5, _⟩ := nodeE_zero.1 h3
 rw [q3d, List.all_cons, qbk ks h4, Bool.and_true]
 exact h5
def isP (p : List ND) : Prop := ∃ k t n ks, p = (tr k t n ks).flat ∧ chkT k t n ks true = 0
def qix (L : List DD) (T p : List ND) : Prop := ∃ k t n ks, p = (tr k t n ks).flat ∧ chkT k t n ks true = 0 ∧ ofF L (tr k t n ks) [T] = true
def z06 (L : List DD) (T v : List ND) : Prop := ∃ k t n ks, v = (tr k t n ks).flat ∧ qe0 v = true ∧ ofF L (tr k t n ks) [T] = true
theorem q7c {L : List DD} (h : q5t L = true) : L.all q23 = true ∧ dupL (L.map fun d => d.1) = false ∧ dupL (qgi L) = false ∧ L.length ≤ 60 := by
 unfold q5t at h
 simp only [Bool.and_eq_true, Bool.not_eq_true'] at h
 exact ⟨h.2.1, h.2.2.1, h.2.2.2.1, of_decide_eq_true h.1⟩
theorem z07 (s : Sl DD) (hL : GD s.l) (hok : s.l.all q23 = true) (k : Int) (t : Tx) (n : Int) (ks : F) (hs : ks.size + 1 ≤ 4000) (hP : (tr k t n ks).flat.all patP = true) (T : SN) (hT : q2w T.l = true) (b : Bool) :
  f_bk (s, T, ⟨b, (tr k t n ks).flat⟩, ()) = some (ofF s.l (tr k t n ks) [T.l], ()) :=
 q8h (ks.size + 1) fun N hN => of_N s hL hok (ks.size + 1) k t n ks (Nat.le_refl _) hs hP T b hT N hN
theorem qzd (s : Sl DD) (hL : GD s.l) (hok : s.l.all q23 = true) (k : Int) (t : Tx) (n : Int) (ks : F) (hs : ks.size + 1 ≤ 4000) (hP : (tr k t n ks).flat.all valP = true) (T : SN) (hT : q2w T.l = true) (b : Bool) :
  f_bh (s, T, ⟨b, (tr k t n ks).flat⟩, ()) = some (ofF s.l (tr k t n ks) [T.l], ()) :=
 q8h (ks.size + 1) fun N hN => z05 s hL hok (ks.size + 1) k t n ks (Nat.le_refl _) hs hP T b hT N hN
theorem qgo {v : List ND} (h : qe0 v = true) : ∃ k t n ks, v = (tr k t n ks).flat ∧ ks.size + 1 ≤ 4000 ∧ v.all valN = true := by
 unfold qe0 at h
 rw [Bool.and_eq_true, Bool.and_eq_true] at h
 obtain ⟨k, t, n, ks, e⟩ := (q4e v).1 h.2.1
 refine ⟨k, t, n, ks, e, ?_, h.2.2⟩
 have := of_decide_eq_true h.1
 rw [e, q1w] at this
 exact this
end Fn
end Ev

namespace Ev
open Go
namespace Fn
theorem qbl (n : Bool) (l : List ND) (hl : l.length ≤ 1000000) : q0y (⟨n, l⟩, ()) = some (⟨false, l⟩, ()) := by
 have hf : fit (sumI (lenI ([] : List ND)) (lenI l)) = some () := q0q (by show 0 + l.length ≤ _; omega)
 rw [qkh, hf, q00, qey]
 rfl
def fewN (m : Nat) (l : List ND) : Prop := l.length ≤ m ∧ ∀ x, x ∈ l → x.2.1.length ≤ 60
theorem z08 {k : Nat} (h : k < 9223372036854775807) : addI .i64 (k : Int) 1 = ((k + 1 : Nat) : Int) := by rw [q6d (by omega) (by omega)]; omega
theorem qva (a : Sl SN) {i : Nat} {t : SN} (ht : a.l[i]? = some t) (hi : i < 9223372036854775807) :
  ∃ r, loopR l1_c6 (a, (i : Int), 0, ()) = some r ∧ (r = .inr (false, ()) ∨ (r = .inl (a, ((i + 1 : Nat) : Int), ()) ∧ fewN 30 t.l)) := by
 refine q29 (f := l1_c6) (I := fun s => ∃ k : Nat, s = (a, (i : Int), (k : Int), ()) ∧ k ≤ 31 ∧ ∀ j x, j < k → t.l[j]? = some x → x.2.1.length ≤ 60) (fun s => (31 - s.2.2.1).toNat) ?_ _ ⟨0, rfl, by omega, fun j x h => by omega⟩
 rintro s ⟨k, rfl, hk, hb⟩
 have hat := q07 ht
 by_cases h1 : k < t.l.length ∧ k < 31
 ·obtain ⟨x, hx⟩ : ∃ x, t.l[k]? = some x := ⟨_, List.getElem?_eq_getElem h1.1⟩
  have c1 : ltI (k : Int) (lenI t.l) = true := ltG hx
  have c2 : ltI (k : Int) 31 = true := decide_eq_true (by omega)
  cases h2 : ltI 60 (lenI x.2.1) with
  | true =>
   refine .inr ⟨.inr (false, ()), ?_, .inl rfl⟩
   unfold l1_c6
   simp only [hat, q00, c1, c2, q04, q07 hx, h2]
  | false =>
   refine .inl ⟨(a, (i : Int), ((k + 1 : Nat) : Int), ()), ?_, ⟨k + 1, rfl, by omega, fun j y hj hy => ?_⟩, by simp only; omega⟩
   ·unfold l1_c6
    simp only [hat, q00, c1, c2, q04, q07 hx, h2, q01, add1 (show k ≤ 1000000000 by omega)]
   ·by_cases e : j = k
    ·subst e
     rw [hx] at hy; injection hy with hy; subst hy
     have := of_decide_eq_false h2
     unfold lenI at this; omega
    ·exact hb j y (by omega) hy
 ·refine .inr ?_
  have hc : (cnd (ltI (k : Int) (lenI t.l)) (some (ltI (k : Int) 31)) (some false) : Option Bool) = some false := by
   by_cases e : k < t.l.length
   ·have : ltI (k : Int) 31 = false := decide_eq_false (by omega)
    rw [this]; cases ltI (k : Int) (lenI t.l) <;> rfl
   ·have : ltI (k : Int) (lenI t.l) = false := decide_eq_false (by unfold lenI; omega)
    rw [this]; rfl
  cases h3 : ltI 30 (lenI t.l) with
  | true =>
   refine ⟨.inr (false, ()), ?_, .inl rfl⟩
   unfold l1_c6
   simp only [hat, q00, hc, q01, h3, q04]
  | false =>
   have hlen : t.l.length ≤ 30 := by have := of_decide_eq_false h3; unfold lenI at this; omega
   refine ⟨.inl (a, ((i + 1 : Nat) : Int), ()), ?_, .inr ⟨rfl, hlen, fun x hx => ?_⟩⟩
   ·unfold l1_c6
    simp only [hat, q00, hc, q01, h3, z08 hi]
   ·obtain ⟨j, hj, e⟩ := List.getElem_of_mem hx
    exact hb j x (by omega) (by rw [List.getElem?_eq_getElem hj, e])
theorem qao (a : Sl SN) (ha : a.l.length ≤ 9223372036854775807) : ∃ c, f_c6 (a, ()) = some (c, ()) ∧ (c = true → a.l.length ≤ 8 ∧ ∀ t, t ∈ a.l → fewN 30 t.l) := by
 rw [u_c6]
 have := q29 (f := l2_c6) (I := fun s => ∃ k : Nat, s = (a, (k : Int), ()) ∧ k ≤ a.l.length ∧ ∀ j t, j < k → a.l[j]? = some t → fewN 30 t.l) (Q := fun r => ∃ c, r = (c, ()) ∧ (c = true → a.l.length ≤ 8 ∧ ∀ t, t ∈ a.l → fewN 30 t.l)) (fun s => ((a.l.length : Int) - s.2.1).toNat) ?_ (a, 0, ()) ⟨0, rfl, by omega, fun j x h => by omega⟩
 ·obtain ⟨r, h1, c, h2, h3⟩ := this
  exact ⟨c, by rw [h1, h2], h3⟩
 ·rintro s ⟨k, rfl, hk, hb⟩
  by_cases h1 : k < a.l.length
  ·obtain ⟨t, ht⟩ : ∃ t, a.l[k]? = some t := ⟨_, List.getElem?_eq_getElem h1⟩
   obtain ⟨r, e, h⟩ := qva a ht (by omega)
   rcases h with h | ⟨h, hf⟩
   ·subst h
    refine .inr ⟨(false, ()), ?_, false, rfl, fun h => by cases h⟩
    unfold l2_c6
    simp only [ltG ht, q04, e]
   ·subst h
    refine .inl ⟨(a, ((k + 1 : Nat) : Int), ()), ?_, ⟨k + 1, rfl, by omega, fun j y hj hy => ?_⟩, by simp only; omega⟩
    ·unfold l2_c6
     simp only [ltG ht, q04, e]
    ·by_cases e : j = k
     ·subst e; rw [ht] at hy; injection hy with hy; rw [← hy]; exact hf
     ·exact hb j y (by omega) hy
  ·have hk2 : k = a.l.length := by omega
   subst hk2
   refine .inr ⟨(leI (lenI a.l) 8, ()), ?_, _, rfl, fun h => ?_⟩
   ·unfold l2_c6
    simp only [ltE, q01]
   ·have := of_decide_eq_true h
    refine ⟨by unfold lenI at this; omega, fun t ht => ?_⟩
    obtain ⟨j, hj, e⟩ := List.getElem_of_mem ht
    exact hb j t hj (by rw [List.getElem?_eq_getElem hj, e])
end Fn
end Ev

namespace Ev
open Go
namespace Fn
def fewC (c : CT) : Prop := c.1.length ≤ 60 ∧ c.2.l.length ≤ 10 ∧ ∀ t, t ∈ c.2.l → fewN 60 t.l
def fewD (d : DD) : Prop := d.1.length ≤ 60 ∧ d.2.2.l.length ≤ 70 ∧ ∀ c, c ∈ d.2.2.l → fewC c
theorem few1 (s : Sl DD) (n : Int) (i k : Int) (m : Nat) (hm : m ≤ 1000000) (cn : Tx) (as : Sl SN) {t : SN} (ht : as.l[m]? = some t) :
  ∃ r, loopR l1_c3 (s, n, i, k, (m : Int), 0, cn, as, ()) = some r ∧ (r = .inr (.inr (.inr (false, ()))) ∨ (r = .inl (s, n, i, k, ((m + 1 : Nat) : Int), cn, as, ()) ∧ n ≤ 300 ∧ fewN 60 t.l)) := by
 refine q29 (f := l1_c3) (I := fun z => ∃ h : Nat, z = (s, n, i, k, (m : Int), (h : Int), cn, as, ()) ∧ h ≤ 61 ∧ ∀ j x, j < h → t.l[j]? = some x → x.2.1.length ≤ 60) (fun z => (61 - z.2.2.2.2.2.1).toNat) ?_ _ ⟨0, rfl, by omega, fun j x h => by omega⟩
 rintro z ⟨h, rfl, hk, hb⟩
 have hat := q07 ht
 by_cases h1 : h < t.l.length ∧ h < 61
 ·obtain ⟨x, hx⟩ : ∃ x, t.l[h]? = some x := ⟨_, List.getElem?_eq_getElem h1.1⟩
  have c1 : ltI (h : Int) (lenI t.l) = true := ltG hx
  have c2 : ltI (h : Int) 61 = true := decide_eq_true (by omega)
  cases h2 : ltI 60 (lenI x.2.1) with
  | true =>
   refine .inr ⟨.inr (.inr (.inr (false, ()))), ?_, .inl rfl⟩
   unfold l1_c3
   simp only [hat, q00, c1, c2, q04, q07 hx, h2]
  | false =>
   refine .inl ⟨(s, n, i, k, (m : Int), ((h + 1 : Nat) : Int), cn, as, ()), ?_, ⟨h + 1, rfl, by omega, fun j y hj hy => ?_⟩, by simp only; omega⟩
   ·unfold l1_c3
    simp only [hat, q00, c1, c2, q04, q07 hx, h2, q01, add1 (show h ≤ 1000000000 by omega)]
   ·by_cases e : j = h
    ·subst e
     rw [hx] at hy; injection hy with hy; subst hy
     have := of_decide_eq_false h2
     unfold lenI at this; omega
    ·exact hb j y (by omega) hy
 ·refine .inr ?_
  have hc : (cnd (ltI (h : Int) (lenI t.l)) (some (ltI (h : Int) 61)) (some false) : Option Bool) = some false := by
   by_cases e : h < t.l.length
   ·have : ltI (h : Int) 61 = false := decide_eq_false (by omega)
    rw [this]; cases ltI (h : Int) (lenI t.l) <;> rfl
   ·have : ltI (h : Int) (lenI t.l) = false := decide_eq_false (by unfold lenI; omega)
    rw [this]; rfl
  cases h3 : ltI 60 (lenI t.l) with
  | true =>
   refine ⟨.inr (.inr (.inr (false, ()))), ?_, .inl rfl⟩
   unfold l1_c3
   simp only [hat, q00, hc, q01, h3, q04]
  | false =>
   cases h4 : ltI 300 n with
   | true =>
    refine ⟨.inr (.inr (.inr (false, ()))), ?_, .inl rfl⟩
    unfold l1_c3
    simp only [hat, q00, hc, q01, h3, h4, q04]
   | false =>
    have hlen : t.l.length ≤ 60 := by have := of_decide_eq_false h3; unfold lenI at this; omega
    have hn : ¬ (300 : Int) < n := of_decide_eq_false h4
    refine ⟨.inl (s, n, i, k, ((m + 1 : Nat) : Int), cn, as, ()), ?_, .inr ⟨rfl, by omega, hlen, fun x hx => ?_⟩⟩
    ·unfold l1_c3
     simp only [hat, q00, hc, q01, h3, h4, add1 (show m ≤ 1000000000 by omega)]
    ·obtain ⟨j, hj, e⟩ := List.getElem_of_mem hx
     exact hb j x (by omega) (by rw [List.getElem?_eq_getElem hj, e])
theorem few2 (s : Sl DD) (n : Int) (hn : 0 ≤ n ∧ n ≤ 300) (i : Int) (k : Nat) (hk : k ≤ 1000000) (cn : Tx) (as : Sl SN) (ha : as.l.length ≤ 10) :
  ∃ r, loopR l2_c3 (s, n, i, (k : Int), 0, cn, as, ()) = some r ∧ (r = .inr (.inr (false, ())) ∨ ∃ n', r = .inl (s, n', i, ((k + 1 : Nat) : Int), ()) ∧ 0 ≤ n' ∧ n' ≤ 300 ∧ ∀ t, t ∈ as.l → fewN 60 t.l) := by
 refine q29 (f := l2_c3) (I := fun z => ∃ (n' : Int) (m : Nat), z = (s, n', i, (k : Int), (m : Int), cn, as, ()) ∧ 0 ≤ n' ∧ n' ≤ 300 ∧ m ≤ as.l.length ∧ ∀ j t, j < m → as.l[j]? = some t → fewN 60 t.l) (fun z => ((as.l.length : Int) - z.2.2.2.2.1).toNat) ?_ _ ⟨n, 0, rfl, hn.1, hn.2, Nat.zero_le _, fun j x h => by omega⟩
 rintro z ⟨n', m, rfl, g1, g2, g3, hb⟩
 by_cases h1 : m < as.l.length
 ·obtain ⟨t, ht⟩ : ∃ t, as.l[m]? = some t := ⟨_, List.getElem?_eq_getElem h1⟩
  obtain ⟨r, e, h⟩ := few1 s (addI .i64 n' (lenI t.l)) i (k : Int) m (by omega) cn as ht
  rcases h with h | ⟨h, hf0, hf⟩
  ·subst h
   refine .inr ⟨.inr (.inr (false, ())), ?_, .inl rfl⟩
   unfold l2_c3
   simp only [ltG ht, q04, q07 ht, q00, e]
  ·subst h
   have hft := hf.1
   have hadd : addI .i64 n' (lenI t.l) = n' + (t.l.length : Int) := q6d (by unfold lenI; omega) (by unfold lenI; omega)
   refine .inl ⟨(s, addI .i64 n' (lenI t.l), i, (k : Int), ((m + 1 : Nat) : Int), cn, as, ()), ?_, ⟨_, m + 1, rfl, by rw [hadd]; omega, hf0, by omega, fun j y hj hy => ?_⟩, by simp only; omega⟩
   ·unfold l2_c3
    simp only [ltG ht, q04, q07 ht, q00, e]
   ·by_cases e : j = m
    ·subst e; rw [ht] at hy; injection hy with hy; rw [← hy]; exact hf
    ·exact hb j y (by omega) hy
 ·obtain rfl : m = as.l.length := by omega
  refine .inr ⟨.inl (s, n', i, ((k + 1 : Nat) : Int), ()), ?_, .inr ⟨n', rfl, g1, g2, fun t ht => ?_⟩⟩
  ·unfold l2_c3
   simp only [ltE, q01, add1 (show k ≤ 1000000000 by omega)]
  ·obtain ⟨j, hj, e⟩ := List.getElem_of_mem ht
   exact hb j t hj (by rw [List.getElem?_eq_getElem hj, e])
theorem few3 (s : Sl DD) (n : Int) (hn : 0 ≤ n ∧ n ≤ 300) {i : Nat} {d : DD} (hd : s.l[i]? = some d) (hi : i ≤ 1000000) (hc70 : d.2.2.l.length ≤ 70) :
  ∃ r, loopR l3_c3 (s, n, (i : Int), 0, ()) = some r ∧ (r = .inr (false, ()) ∨ ∃ n', r = .inl (s, n', ((i + 1 : Nat) : Int), ()) ∧ 0 ≤ n' ∧ n' ≤ 300 ∧ ∀ c, c ∈ d.2.2.l → fewC c) := by
 refine q29 (f := l3_c3) (I := fun z => ∃ (n' : Int) (k : Nat), z = (s, n', (i : Int), (k : Int), ()) ∧ 0 ≤ n' ∧ n' ≤ 300 ∧ k ≤ d.2.2.l.length ∧ ∀ j c, j < k → d.2.2.l[j]? = some c → fewC c) (fun z => ((d.2.2.l.length : Int) - z.2.2.2.1).toNat) ?_ _ ⟨n, 0, rfl, hn.1, hn.2, Nat.zero_le _, fun j x h => by omega⟩
 rintro z ⟨n', k, rfl, g1, g2, g3, hb⟩
 by_cases h1 : k < d.2.2.l.length
 ·obtain ⟨c, hc⟩ : ∃ c, d.2.2.l[k]? = some c := ⟨_, List.getElem?_eq_getElem h1⟩
  cases q1 : ltI 60 (lenI c.1) with
  | true =>
   refine .inr ⟨.inr (false, ()), ?_, .inl rfl⟩
   unfold l3_c3
   simp only [q07 hd, ltG hc, q04, q07 hc, q00, q1]
  | false =>
   cases q2 : ltI 10 (lenI c.2.l) with
   | true =>
    refine .inr ⟨.inr (false, ()), ?_, .inl rfl⟩
    unfold l3_c3
    simp only [q07 hd, ltG hc, q04, q07 hc, q00, q1, q2, q01]
   | false =>
    have l1 : c.1.length ≤ 60 := by have := of_decide_eq_false q1; unfold lenI at this; omega
    have l2 : c.2.l.length ≤ 10 := by have := of_decide_eq_false q2; unfold lenI at this; omega
    obtain ⟨r, e, h⟩ := few2 s n' ⟨g1, g2⟩ (i : Int) k (by omega) c.1 c.2 l2
    rcases h with h | ⟨n2, h, hf1, hf2, hf⟩
    ·subst h
     refine .inr ⟨.inr (false, ()), ?_, .inl rfl⟩
     unfold l3_c3
     simp only [q07 hd, ltG hc, q04, q07 hc, q00, q1, q2, q01, e]
    ·subst h
     refine .inl ⟨(s, n2, (i : Int), ((k + 1 : Nat) : Int), ()), ?_, ⟨_, k + 1, rfl, hf1, hf2, by omega, fun j y hj hy => ?_⟩, by simp only; omega⟩
     ·unfold l3_c3
      simp only [q07 hd, ltG hc, q04, q07 hc, q00, q1, q2, q01, e]
     ·by_cases e : j = k
      ·subst e; rw [hc] at hy; injection hy with hy; rw [← hy]; exact ⟨l1, l2, hf⟩
      ·exact hb j y (by omega) hy
 ·obtain rfl : k = d.2.2.l.length := by omega
  refine .inr ⟨.inl (s, n', ((i + 1 : Nat) : Int), ()), ?_, .inr ⟨n', rfl, g1, g2, fun t ht => ?_⟩⟩
  ·unfold l3_c3
   simp only [q07 hd, q00, ltE, q01, add1 (show i ≤ 1000000000 by omega)]
  ·obtain ⟨j, hj, e⟩ := List.getElem_of_mem ht
   exact hb j t hj (by rw [List.getElem?_eq_getElem hj, e])
theorem qp2 (s : Sl DD) : ∃ c, f_c3 (s, ()) = some (c, ()) ∧ (c = true → s.l.length ≤ 70 ∧ ∀ d, d ∈ s.l → fewD d) := by
 rw [u_c3]
 cases q0 : ltI 70 (lenI s.l) with
 | true => exact ⟨false, rfl, fun h => by cases h⟩
 | false =>
  have l0 : s.l.length ≤ 70 := by have := of_decide_eq_false q0; unfold lenI at this; omega
  rw [q01]
  have := q29 (f := l4_c3) (I := fun z => ∃ (n' : Int) (i : Nat), z = (s, n', (i : Int), ()) ∧ 0 ≤ n' ∧ n' ≤ 300 ∧ i ≤ s.l.length ∧ ∀ j d, j < i → s.l[j]? = some d → fewD d) (Q := fun r => ∃ c, r = (c, ()) ∧ (c = true → s.l.length ≤ 70 ∧ ∀ d, d ∈ s.l → fewD d))
   (fun z => ((s.l.length : Int) - z.2.2.1).toNat) ?_ (s, 0, 0, ()) ⟨0, 0, rfl, by omega, by omega, Nat.zero_le _, fun j x h => by omega⟩
  ·obtain ⟨r, h1, c, h2, h3⟩ := this
   exact ⟨c, by rw [h1, h2], h3⟩
  ·rintro z ⟨n', i, rfl, g1, g2, g3, hb⟩
   by_cases h1 : i < s.l.length
   ·obtain ⟨d, hd⟩ : ∃ d, s.l[i]? = some d := ⟨_, List.getElem?_eq_getElem h1⟩
    cases q1 : ltI 70 (lenI d.2.2.l) with
    | true =>
     refine .inr ⟨(false, ()), ?_, false, rfl, fun h => by cases h⟩
     unfold l4_c3
     simp only [q07 hd, ltG hd, q04, q00, q1]
    | false =>
     cases q2 : ltI 60 (lenI d.1) with
     | true =>
      refine .inr ⟨(false, ()), ?_, false, rfl, fun h => by cases h⟩
      unfold l4_c3
      simp only [q07 hd, ltG hd, q04, q00, q1, q2, q01]
     | false =>
      have l1 : d.2.2.l.length ≤ 70 := by have := of_decide_eq_false q1; unfold lenI at this; omega
      have l2 : d.1.length ≤ 60 := by have := of_decide_eq_false q2; unfold lenI at this; omega
      obtain ⟨r, e, h⟩ := few3 s n' ⟨g1, g2⟩ hd (by omega) l1
      rcases h with h | ⟨n2, h, hf1, hf2, hf⟩
      ·subst h
       refine .inr ⟨(false, ()), ?_, false, rfl, fun h => by cases h⟩
       unfold l4_c3
       simp only [q07 hd, ltG hd, q04, q00, q1, q2, q01, e]
      ·subst h
       refine .inl ⟨(s, n2, ((i + 1 : Nat) : Int), ()), ?_, ⟨_, i + 1, rfl, hf1, hf2, by omega, fun j y hj hy => ?_⟩, by simp only; omega⟩
       ·unfold l4_c3
        simp only [q07 hd, ltG hd, q04, q00, q1, q2, q01, e]
       ·by_cases e : j = i
        ·subst e; rw [hd] at hy; injection hy with hy; rw [← hy]; exact ⟨l2, l1, hf⟩
        ·exact hb j y (by omega) hy
   ·obtain rfl : i = s.l.length := by omega
    refine .inr ⟨(true, ()), ?_, true, rfl, fun _ => ⟨l0, fun t ht => ?_⟩⟩
    ·unfold l4_c3
     simp only [ltE, q01]
    ·obtain ⟨j, hj, e⟩ := List.getElem_of_mem ht
     exact hb j t hj (by rw [List.getElem?_eq_getElem hj, e])
end Fn
end Ev

namespace Ev
open Go
namespace Fn
def gW (s : Tx) : Prop := ∀ b, b ∈ s → 0 ≤ b ∧ b ≤ 255
def gND (x : ND) : Prop := gW x.2.1 ∧ rng x.2.2.1
def gL (l : List ND) : Prop := ∀ x, x ∈ l → gND x
def gDin (L : List DD) : Prop := ∀ d, d ∈ L → gW d.1 ∧ ∀ c, c ∈ d.2.2.l → gW c.1 ∧ ∀ t, t ∈ c.2.l → gL t.l
theorem qmx {m : Nat} {l : List ND} (hg : gL l) (hf : fewN m l) : GL l := fun x hx => ⟨(hg x hx).1, by have := hf.2 x hx; omega, (hg x hx).2⟩
theorem qze {L : List DD} (hg : gDin L) (hl : L.length ≤ 70) (hf : ∀ d, d ∈ L → fewD d) : GD L := by
 refine ⟨by omega, fun d hd => ?_⟩
 obtain ⟨f1, f2, f3⟩ := hf d hd
 obtain ⟨g1, g2⟩ := hg d hd
 refine ⟨⟨g1, by omega⟩, by omega, fun c hc => ?_⟩
 obtain ⟨f4, f5, f6⟩ := f3 c hc
 obtain ⟨g3, g4⟩ := g2 c hc
 refine ⟨⟨g3, by omega⟩, by omega, fun t ht => ⟨qmx (g4 t ht) (f6 t ht), ?_⟩⟩
 have := (f6 t ht).1
 omega
theorem qzf (s : Sl DD) (hg : gDin s.l) (t : SN) (a : Sl SN) (ha : a.l.length ≤ 9223372036854775807) : ∃ c, q4q (s, t, a, ()) = some (c, ()) ∧ (c = true → GD s.l ∧ fewN 30 t.l ∧ a.l.length ≤ 6 ∧ ∀ p, p ∈ a.l → fewN 30 p.l) := by
 obtain ⟨c1, e1, h1⟩ := qp2 s
 obtain ⟨c2, e2, h2⟩ := qao ⟨false, [t]⟩ (by show 1 ≤ _; omega)
 obtain ⟨c3, e3, h3⟩ := qao a ha
 refine ⟨c1 && (leI (lenI s.l) 10 && (c2 && (c3 && leI (lenI a.l) 6))), ?_, fun h => ?_⟩
 ·rw [qkg, e1]
  simp only [q00, e2, e3]
  cases c1 <;> cases leI (lenI s.l) 10 <;> cases c2 <;> cases c3 <;> rfl
 ·simp only [Bool.and_eq_true] at h
  obtain ⟨q1, q2, q3, q4, q5⟩ := h
  obtain ⟨g1, g2⟩ := h1 q1
  have q5 := of_decide_eq_true q5
  exact ⟨qze hg g1 g2, (h2 q3).2 t (List.mem_cons_self ..), by unfold lenI at q5; omega, (h3 q4).2⟩
theorem fitD (L : List DD) (hL : L.length ≤ 1000) : fit (sumI (lenI ([] : List DD)) (lenI L)) = some () := q0q (by show 0 + L.length ≤ _; omega)
theorem gAny : GL [((21 : Int), ([] : Tx), (0 : Int), (0 : Int))] := fun x hx => by
 rw [List.mem_singleton] at hx
 subst hx
 exact ⟨fun b hb => (by cases hb), Nat.zero_le _, by show (-9223372036854775808 : Int) ≤ 0 ∧ (0 : Int) ≤ _; omega⟩
end Fn
end Ev

namespace Ev
open Go
namespace Fn
abbrev NM := List (Tx × List ND)
def q4r : F → F → Option NM
 | .nil, _ => some []
 | .cons _ _ _ _ _, .nil => none
 | .cons k t n ks r, .cons k' t' n' ks' r' =>
  match (bif eqI k 21 then some [] else bif eqI k 22 then some [(t, (tr k' t' n' ks').flat)] else bif eqI k 23 then (bif eqI k' 51 && eqI n' n then some [] else none) else
   bif eqI k' 53 && (eqS t' t && decide (ks'.cnt = ks.cnt)) then q4r ks ks' else none : Option NM) with
  | none => none
  | some a => match q4r r r' with
   | none => none
   | some b => some (a ++ b)
def q2c (k : Int) (t : Tx) (n : Int) (ks : F) (k' : Int) (t' : Tx) (n' : Int) (ks' : F) : Option NM :=
 bif eqI k 21 then some [] else bif eqI k 22 then some [(t, (tr k' t' n' ks').flat)] else bif eqI k 23 then (bif eqI k' 51 && eqI n' n then some [] else none) else
  bif eqI k' 53 && (eqS t' t && decide (ks'.cnt = ks.cnt)) then q4r ks ks' else none
theorem qdc (k : Int) (t : Tx) (n : Int) (ks r : F) (k' : Int) (t' : Tx) (n' : Int) (ks' r' : F) : q4r (.cons k t n ks r) (.cons k' t' n' ks' r') = match q2c k t n ks k' t' n' ks' with | none => none | some a => match q4r r r' with | none => none | some b => some (a ++ b) := rfl
theorem qmy (k : Int) (t : Tx) (n : Int) (ks : F) (k' : Int) (t' : Tx) (n' : Int) (ks' : F) : q4r (tr k t n ks) (tr k' t' n' ks') = q2c k t n ks k' t' n' ks' := by
 show (match q2c k t n ks k' t' n' ks' with | none => none | some a => match q4r .nil .nil with | none => none | some b => some (a ++ b)) = _
 cases q2c k t n ks k' t' n' ks' with
 | none => rfl
 | some a => show some (a ++ []) = some a; rw [List.append_nil]
def unN (l : List (Tx × SN)) : NM := l.map fun e => (e.1, e.2.l)
theorem qy7 (a c : List (Tx × SN)) : unN (a ++ c) = unN a ++ unN c := List.map_append ..
theorem qp3 (l : List ND) (hl : l.length ≤ 1000000) : f_c7 (⟨false, l⟩, ()) = some (⟨false, l⟩, ()) := by
 have hf : fit (sumI (lenI ([] : List ND)) (lenI l)) = some () := q0q (by show 0 + l.length ≤ _; omega)
 rw [u_c7, q01, hf, q00, qey]
 rfl
def runF : F → F → Sl (Tx × SN) → Bool × Sl (Tx × SN)
 | .nil, _, out => (true, out)
 | .cons _ _ _ _ _, .nil, out => (false, out)
 | .cons k t n ks r, .cons k' t' n' ks' r', out =>
  match (bif eqI k 21 then (true, out) else bif eqI k 22 then (true, ⟨false, out.l ++ [(t, ⟨false, (tr k' t' n' ks').flat⟩)]⟩) else bif eqI k 23 then (eqI k' 51 && eqI n' n, out) else
   bif eqI k' 53 && (eqS t' t && decide (ks'.cnt = ks.cnt)) then runF ks ks' out else (false, out) : Bool × Sl (Tx × SN)) with
  | (false, o) => (false, o)
  | (true, o) => runF r r' o
def run1 (k : Int) (t : Tx) (n : Int) (ks : F) (k' : Int) (t' : Tx) (n' : Int) (ks' : F) (out : Sl (Tx × SN)) : Bool × Sl (Tx × SN) :=
 bif eqI k 21 then (true, out) else bif eqI k 22 then (true, ⟨false, out.l ++ [(t, ⟨false, (tr k' t' n' ks').flat⟩)]⟩) else bif eqI k 23 then (eqI k' 51 && eqI n' n, out) else
  bif eqI k' 53 && (eqS t' t && decide (ks'.cnt = ks.cnt)) then runF ks ks' out else (false, out)
theorem qdd (k : Int) (t : Tx) (n : Int) (ks r : F) (k' : Int) (t' : Tx) (n' : Int) (ks' r' : F) (out : Sl (Tx × SN)) : runF (.cons k t n ks r) (.cons k' t' n' ks' r') out = match run1 k t n ks k' t' n' ks' out with | (false, o) => (false, o) | (true, o) => runF r r' o := rfl
theorem qw3 (k : Int) (t : Tx) (n : Int) (ks : F) (k' : Int) (t' : Tx) (n' : Int) (ks' : F) (out : Sl (Tx × SN)) : runF (tr k t n ks) (tr k' t' n' ks') out = run1 k t n ks k' t' n' ks' out := by
 show (match run1 k t n ks k' t' n' ks' out with | (false, o) => (false, o) | (true, o) => runF .nil .nil o) = _
 generalize run1 k t n ks k' t' n' ks' out = z
 obtain ⟨a, o⟩ := z
 cases a <;> rfl
theorem qkt : ∀ (f g : F) (out : Sl (Tx × SN)), (runF f g out).2.l.length ≤ out.l.length + f.size
 | .nil, _, out => Nat.le_refl _
 | .cons _ _ _ _ _, .nil, out => Nat.le_add_right _ _
 | .cons k t n ks r, .cons k' t' n' ks' r', out => by
  rw [qdd]
  have h1 : (run1 k t n ks k' t' n' ks' out).2.l.length ≤ out.l.length + ks.size + 1 := by
   unfold run1
   cases eqI k 21 with
   | true => show out.l.length ≤ _; omega
   | false =>
    cases eqI k 22 with
    | true => show (out.l ++ [_]).length ≤ _; rw [List.length_append]; show out.l.length + 1 ≤ _; omega
    | false =>
     cases eqI k 23 with
     | true => show out.l.length ≤ _; omega
     | false =>
      cases (eqI k' 53 && (eqS t' t && decide (ks'.cnt = ks.cnt))) with
      | true => have := qkt ks ks' out; show (runF ks ks' out).2.l.length ≤ _; omega
      | false => show out.l.length ≤ _; omega
  generalize run1 k t n ks k' t' n' ks' out = z at h1
  obtain ⟨a, o⟩ := z
  have h1 : o.l.length ≤ _ := h1
  cases a with
  | false => show o.l.length ≤ out.l.length + (ks.size + r.size + 1); omega
  | true => have := qkt r r' o; show (runF r r' o).2.l.length ≤ out.l.length + (ks.size + r.size + 1); omega
theorem qde : ∀ (f g : F) (out : Sl (Tx × SN)), (runF f g out).1 = (q4r f g).isSome ∧ ∀ ns, q4r f g = some ns → unN (runF f g out).2.l = unN out.l ++ ns
 | .nil, _, out => ⟨rfl, fun ns h => by injection h with h; subst h; exact (List.append_nil _).symm⟩
 | .cons _ _ _ _ _, .nil, out => ⟨rfl, fun ns h => by cases h⟩
 | .cons k t n ks r, .cons k' t' n' ks' r', out => by
  rw [qdd, qdc]
  have h1 : (run1 k t n ks k' t' n' ks' out).1 = (q2c k t n ks k' t' n' ks').isSome ∧ ∀ ns, q2c k t n ks k' t' n' ks' = some ns → unN (run1 k t n ks k' t' n' ks' out).2.l = unN out.l ++ ns := by
   unfold run1 q2c
   cases eqI k 21 with
   | true => exact ⟨rfl, fun ns h => by injection h with h; subst h; exact (List.append_nil _).symm⟩
   | false =>
    cases eqI k 22 with
    | true => exact ⟨rfl, fun ns h => by injection h with h; subst h; exact qy7 _ _⟩
    | false =>
     cases eqI k 23 with
     | true =>
      cases (eqI k' 51 && eqI n' n) with
      | true => exact ⟨rfl, fun ns h => by injection h with h; subst h; exact (List.append_nil _).symm⟩
      | false => exact ⟨rfl, fun ns h => by cases h⟩
     | false =>
      cases (eqI k' 53 && (eqS t' t && decide (ks'.cnt = ks.cnt))) with
      | true => exact qde ks ks' out
      | false => exact ⟨rfl, fun ns h => by cases h⟩
  generalize run1 k t n ks k' t' n' ks' out = z at h1
  obtain ⟨a, o⟩ := z
  obtain ⟨h2, h3⟩ := h1
  have h2 : a = _ := h2
  cases hm : q2c k t n ks k' t' n' ks' with
  | none => rw [hm] at h2; subst h2; exact ⟨rfl, fun ns h => by cases h⟩
  | some c =>
   rw [hm] at h2
   subst h2
   have h3 : unN o.l = unN out.l ++ c := h3 c hm
   obtain ⟨g1, g2⟩ := qde r r' o
   cases hr : q4r r r' with
   | none => rw [hr] at g1; exact ⟨g1, fun ns h => by cases h⟩
   | some d =>
    rw [hr] at g1
    refine ⟨g1, fun ns h => ?_⟩
    injection h with h
    subst h
    show unN (runF r r' o).2.l = _
    rw [g2 d hr, h3, List.append_assoc]
def qku (self : (SN × SN × (Sl (Tx × SN)) × Unit) → Option (Bool × (Sl (Tx × SN)) × Unit)) (p v : F) : Prop :=
 ∀ (b : Bool) (out : Sl (Tx × SN)), out.l.length + p.size ≤ 1000000 → self (⟨b, p.flat⟩, ⟨false, v.flat⟩, out, ()) = some ((runF p v out).1, (runF p v out).2, ())
theorem qp4 (self : (SN × SN × (Sl (Tx × SN)) × Unit) → Option (Bool × (Sl (Tx × SN)) × Unit)) (b nv np : Bool) (VV PP : List SN) (hPP : PP.length ≤ 1000000) : ∀ (f g : F) (i : Nat) (out : Sl (Tx × SN)),
  PP.drop i = f.trees.map (fun l => (⟨b, l⟩ : SN)) → VV.drop i = g.trees.map (fun l => (⟨false, l⟩ : SN)) → i + f.cnt = PP.length → f.cnt = g.cnt → out.l.length + f.size ≤ 1000000 →
  (∀ p, p ∈ f.kidsF → ∀ v, v ∈ g.kidsF → qku self p v) →
  loopR (l3_bi self) (⟨nv, VV⟩, ⟨np, PP⟩, lenI PP, (i : Int), out, ()) = some ((runF f g out).1, (runF f g out).2, ()) := by
 intro f
 induction f with
 | nil =>
  intro g i out h1 h2 h3 h4 h5 h6
  have h3 : i + 0 = PP.length := h3
  have hi : i = PP.length := by omega
  subst hi
  refine q0b ?_
  unfold l3_bi
  simp only [ltE, q01]
  rfl
 | cons k t n ks r _ ih =>
  intro g i out h1 h2 h3 h4 h5 h6
  cases g with
  | nil => cases h4
  | cons k' t' n' ks' r' =>
   have h3 : i + (r.cnt + 1) = PP.length := h3
   have h4 : r.cnt + 1 = r'.cnt + 1 := h4
   have h5 : out.l.length + (ks.size + r.size + 1) ≤ 1000000 := h5
   have hp : PP[i]? = some ⟨b, (tr k t n ks).flat⟩ := by
    have := congrArg List.head? h1
    rw [List.head?_drop] at this
    exact this
   have hv : VV[i]? = some ⟨false, (tr k' t' n' ks').flat⟩ := by
    have := congrArg List.head? h2
    rw [List.head?_drop] at this
    exact this
   have e1 : self (⟨b, (tr k t n ks).flat⟩, ⟨false, (tr k' t' n' ks').flat⟩, out, ()) = _ := h6 (tr k t n ks) (List.mem_cons_self ..) (tr k' t' n' ks') (List.mem_cons_self ..) b out (by show _ + (ks.size + 0 + 1) ≤ _; omega)
   have hlen : (runF (tr k t n ks) (tr k' t' n' ks') out).2.l.length ≤ out.l.length + (ks.size + 0 + 1) := qkt (tr k t n ks) (tr k' t' n' ks') out
   have hd1 : PP.drop (i + 1) = r.trees.map (fun l => (⟨b, l⟩ : SN)) := by
    have := congrArg List.tail h1
    rw [List.tail_drop] at this
    exact this
   have hd2 : VV.drop (i + 1) = r'.trees.map (fun l => (⟨false, l⟩ : SN)) := by
    have := congrArg List.tail h2
    rw [List.tail_drop] at this
    exact this
   rw [qdd]
   rw [qw3] at e1 hlen
   generalize run1 k t n ks k' t' n' ks' out = z at e1 hlen
   obtain ⟨a, o⟩ := z
   have hlen : o.l.length ≤ _ := hlen
   cases a with
   | false =>
    refine q0b ?_
    unfold l3_bi
    simp only [ltG hp, q04, q07 hp, q07 hv, q00, e1, nF]
   | true =>
    have step : l3_bi self (⟨nv, VV⟩, ⟨np, PP⟩, lenI PP, (i : Int), out, ()) = some (.inl (⟨nv, VV⟩, ⟨np, PP⟩, lenI PP, ((i + 1 : Nat) : Int), o, ())) := by
     unfold l3_bi
     simp only [ltG hp, q04, q07 hp, q07 hv, q00, e1, nT, q01, add1 (show i ≤ 1000000000 by omega)]
    rw [q0i step]
    exact ih r' (i + 1) o hd1 hd2 (by omega) (by omega) (by omega) (fun p hp v hv => h6 p (List.mem_cons_of_mem _ hp) v (List.mem_cons_of_mem _ hv))
theorem qy8 : ∀ (M : Nat) (k : Int) (t : Tx) (n : Int) (ks : F), ks.size + 1 ≤ M → ks.size + 1 ≤ 4000 → ∀ (k' : Int) (t' : Tx) (n' : Int) (ks' : F), ks'.size + 1 ≤ 4000 → ∀ N, M ≤ N → qku (recN g_bi N) (tr k t n ks) (tr k' t' n' ks') := by
 intro M
 induction M with
 | zero => intro k t n ks h; omega
 | succ M ih =>
  intro k t n ks hM hs k' t' n' ks' hs' N hN b out hout
  cases N with
  | zero => omega
  | succ N =>
   have hout : out.l.length + (ks.size + 0 + 1) ≤ 1000000 := hout
   have h0 : at? (tr k t n ks).flat 0 = some (k, t, n, (ks.cnt : Int)) := q07 (i := 0) rfl
   have h1 : at? (tr k' t' n' ks').flat 0 = some (k', t', n', (ks'.cnt : Int)) := q07 (i := 0) rfl
   show g_bi (recN g_bi N) _ = _
   rw [qw3, u_bi]
   simp only [h0, h1, q00]
   unfold run1
   cases e1 : eqI k 21 with
   | true => rfl
   | false =>
    simp only [q01, cond_false]
    cases e2 : eqI k 22 with
    | true =>
     have hc := qp3 (tr k' t' n' ks').flat (by rw [q1w]; omega)
     have hf : fit (sumI (lenI out.l) (lenI [(t, (⟨false, (tr k' t' n' ks').flat⟩ : SN))])) = some () := q0q (by show out.l.length + 1 ≤ _; omega)
     simp only [q04, cond_true, u_b0, hc, q00, hf, q1v, app]
    | false =>
     simp only [q01, cond_false]
     cases e3 : eqI k 23 with
     | true =>
      simp only [q04, cond_true]
      cases eqI k' 51 <;> simp only [q04, q01, Bool.true_and, Bool.false_and]
     | false =>
      simp only [q01, cond_false]
      cases e4 : eqI k' 53 with
      | false => rfl
      | true =>
       simp only [nT, q01, Bool.true_and]
       cases e5 : eqS t' t with
       | false => rfl
       | true =>
        simp only [nT, q01, Bool.true_and, qy5]
        by_cases e6 : ks'.cnt = ks.cnt
        ·rw [decide_eq_true e6]
         simp only [nT, q01, cond_true]
         obtain ⟨nbv, hv⟩ := q5u false k' t' n' ks' (by omega)
         obtain ⟨nbp, hp⟩ := q5u b k t n ks (by omega)
         simp only [hv, hp, q00]
         have hpl : (ks.trees.map fun l => (⟨b, l⟩ : SN)).length = ks.cnt := by rw [List.length_map, F.trees_len]
         have hcnt := F.cnt_le ks
         refine qp4 (recN g_bi N) b nbv nbp _ _ (by omega) ks ks' 0 out rfl rfl (by rw [hpl, Nat.zero_add]) e6.symm (by omega) ?_
         intro p hp v hv
         obtain ⟨k1, t1, n1, ks1, q1, q2⟩ := F.kidsF_mem ks p hp
         obtain ⟨k2, t2, n2, ks2, q3, q4⟩ := F.kidsF_mem ks' v hv
         subst q1 q3
         exact ih k1 t1 n1 ks1 (by omega) (by omega) k2 t2 n2 ks2 (by omega) N (by omega)
        ·rw [decide_eq_false e6]
         rfl
theorem qvb (k : Int) (t : Tx) (n : Int) (ks : F) (hs : ks.size + 1 ≤ 4000) (k' : Int) (t' : Tx) (n' : Int) (ks' : F) (hs' : ks'.size + 1 ≤ 4000) : qku f_bi (tr k t n ks) (tr k' t' n' ks') :=
 fun b out hout => q8h (ks.size + 1) fun N hN => qy8 (ks.size + 1) k t n ks (Nat.le_refl _) hs k' t' n' ks' hs' N hN b out hout
end Fn
end Ev

namespace Ev
open Go
namespace Fn
def mkN (ns : NM) : List (Tx × SN) := ns.map fun e => (e.1, ⟨false, e.2⟩)
def qzg (p v : List ND) (o : Option NM) : Prop := (isP p ∧ qe0 v = true → ∃ k t n ks k' t' n' ks', p = (tr k t n ks).flat ∧ v = (tr k' t' n' ks').flat ∧ chkT k t n ks true = 0 ∧ o = q2c k t n ks k' t' n' ks') ∧ (¬(isP p ∧ qe0 v = true) → o = none)
end Fn
end Ev

namespace Ev
open Go
namespace Fn
theorem qsu (a : Sl SN) (ha : a.l.length ≤ 1000) (hg : ∀ x, x ∈ a.l → x.l.length ≤ 1000000) : q2b (a, ()) = some (⟨false, a.l.map fun x => (⟨false, x.l⟩ : SN)⟩, ()) := by
 rw [qie]
 refine (q30 q46 (fun k s => (a, k, s, ())) a.l (fun (s : Sl SN) x => (⟨false, s.l ++ [⟨false, x.l⟩]⟩ : Sl SN)) (fun s => (s, ())) (fun k s => k ≤ a.l.length ∧ s.l.length = k) ⟨false, []⟩ ⟨Nat.zero_le _, rfl⟩ ?_ ?_).trans ?_
 ·intro k x s hx hi
  obtain ⟨ns, sl⟩ := s
  have h2 : sl.length = k := hi.2
  have hk := getL hx
  obtain ⟨bx, lx⟩ := x
  have ho := qbl bx lx (hg _ (List.mem_of_getElem? hx))
  have hf : fit (sumI (lenI sl) (lenI [(⟨false, lx⟩ : SN)])) = some () := q0q (by show sl.length + 1 ≤ _; omega)
  refine ⟨?_, hk, by show (sl ++ [_]).length = _; rw [List.length_append, h2]; rfl⟩
  unfold q46
  simp only [ltG hx, q04, q07 hx, q00, ho, hf, q1v, add1 (show k ≤ 1000000000 by omega)]
  rfl
 ·intro s _
  unfold q46
  simp only [ltE, q01]
 ·rw [qd7]; rfl
noncomputable def q5w (v p : List ND) : Bool := match f_az (⟨false, p⟩, ⟨false, v⟩, ()) with
 | some r => r.2.1
 | none => false
theorem qiy {v p : List ND} {A : Sl (Tx × SN)} {o : Bool} (h : f_az (⟨false, p⟩, ⟨false, v⟩, ()) = some (A, o, ())) : q5w v p = o := by unfold q5w; rw [h]
end Fn
end Ev

namespace Ev
open Go
namespace Fn
abbrev tyN : Ty := .st (.pair (.int .i64) (.pair .str (.pair (.int .i64) (.int .i64))))
abbrev tyC : Ty := .st (.pair .str (.sl (.sl tyN)))
abbrev tyD : Ty := .st (.pair .str (.pair (.int .i64) (.sl tyC)))
theorem qkv {s : Tx} (h : good .str s) : gW s := fun b hb => by have := h.2 b hb; omega
theorem good_gL {s : SN} (h : good (.sl tyN) s) : gL s.l := fun x hx => by
 obtain ⟨_, h2, h4, _⟩ := h.2.2 x hx
 exact ⟨qkv h2, inK_i64.1 h4⟩
theorem good_gD {s : Sl DD} (h : good (.sl tyD) s) : gDin s.l := fun d hd => by
 obtain ⟨h1, _, h3⟩ := h.2.2 d hd
 refine ⟨qkv h1, fun c hc => ?_⟩
 obtain ⟨h4, h5⟩ := h3.2.2 c hc
 exact ⟨qkv h4, fun t ht => good_gL (h5.2.2 t ht)⟩
theorem good_gR {s : Sl SN} (h : good (.sl (.sl tyN)) s) : (∀ x, x ∈ s.l → gL x.l) ∧ s.l.length ≤ 9223372036854775807 := ⟨fun x hx => good_gL (h.2.2 x hx), h.1⟩
end Fn
end Ev

namespace Ev
open Go
namespace Fn
abbrev SSN := Sl SN
abbrev SR := Sl SSN
theorem q2s (nb : Bool) (a c : SSN) (h : a.l.length + c.l.length ≤ 1000000) : ∃ nb', f_c9 (⟨nb, [a, c]⟩, ()) = some (⟨nb', a.l ++ c.l⟩, ()) := by
 have f1 : addI .i64 0 (lenI a.l) = ((a.l.length : Nat) : Int) := by rw [q6d (by unfold lenI; omega) (by unfold lenI; omega)]; unfold lenI; omega
 have f2 : addI .i64 ((a.l.length : Nat) : Int) (lenI c.l) = ((a.l.length + c.l.length : Nat) : Int) := by rw [q6d (by unfold lenI; omega) (by unfold lenI; omega)]; unfold lenI; omega
 have z1 : ltI ((a.l.length : Nat) : Int) 0 = false := decide_eq_false (by omega)
 have z2 : ltI ((a.l.length + c.l.length : Nat) : Int) 0 = false := decide_eq_false (by omega)
 have c0 : ltI 0 2 = true := rfl
 have c1 : ltI 1 2 = true := rfl
 have c2 : ltI 2 2 = false := rfl
 have a0 : at? [a, c] 0 = some a := rfl
 have a1 : at? [a, c] 1 = some c := rfl
 have q1 : addI .i64 0 1 = 1 := rfl
 have q2 : addI .i64 1 1 = 2 := rfl
 have s0 : l2_c9 (⟨nb, [a, c]⟩, 0, ⟨nb, [a, c]⟩, 2, 0, ()) = some (.inl (⟨nb, [a, c]⟩, ((a.l.length : Nat) : Int), ⟨nb, [a, c]⟩, 2, 1, ())) := by
  unfold l2_c9; simp only [c0, q04, a0, q00, f1, z1, q01, q1]
 have s1 : l2_c9 (⟨nb, [a, c]⟩, ((a.l.length : Nat) : Int), ⟨nb, [a, c]⟩, 2, 1, ()) = some (.inl (⟨nb, [a, c]⟩, ((a.l.length + c.l.length : Nat) : Int), ⟨nb, [a, c]⟩, 2, 2, ())) := by
  unfold l2_c9; simp only [c1, q04, a1, q00, f2, z2, q01, q2]
 have hg : f_co (⟨true, []⟩, ((a.l.length + c.l.length : Nat) : Int), ()) = some (⟨decide (((a.l.length + c.l.length : Nat) : Int) = 0), []⟩, ()) := by
  have e : (decide ((0 : Int) ≤ ((a.l.length + c.l.length : Nat) : Int)) && decide (((a.l.length + c.l.length : Nat) : Int) ≤ 1000000)) = true := by
   rw [Bool.and_eq_true]; exact ⟨decide_eq_true (by omega), decide_eq_true (by omega)⟩
  show (bif (decide ((0 : Int) ≤ ((a.l.length + c.l.length : Nat) : Int)) && decide (((a.l.length + c.l.length : Nat) : Int) ≤ 1000000)) then _ else none) = _
  rw [e]; rfl
 generalize decide (((a.l.length + c.l.length : Nat) : Int) = 0) = g0 at hg
 have fa : fit (sumI (lenI ([] : List SN)) (lenI a.l)) = some () := q0q (by show 0 + a.l.length ≤ _; omega)
 have fc : fit (sumI (lenI a.l) (lenI c.l)) = some () := q0q (by omega)
 have t0 : l1_c9 (⟨nb, [a, c]⟩, 2, 0, ⟨g0, []⟩, ()) = some (.inl (⟨nb, [a, c]⟩, 2, 1, ⟨andB g0 (isE a.l), a.l⟩, ())) := by
  unfold l1_c9; simp only [c0, q04, a0, q00, fa, q1]; rfl
 have t1 : l1_c9 (⟨nb, [a, c]⟩, 2, 1, ⟨andB g0 (isE a.l), a.l⟩, ()) = some (.inl (⟨nb, [a, c]⟩, 2, 2, ⟨andB (andB g0 (isE a.l)) (isE c.l), a.l ++ c.l⟩, ())) := by
  unfold l1_c9; simp only [c1, q04, a1, q00, fc, q2]; rfl
 have t2 : l1_c9 (⟨nb, [a, c]⟩, 2, 2, ⟨andB (andB g0 (isE a.l)) (isE c.l), a.l ++ c.l⟩, ()) = some (.inr (.inr (⟨andB (andB g0 (isE a.l)) (isE c.l), a.l ++ c.l⟩, ()))) := by
  unfold l1_c9; simp only [c2, q01]
 have s2 : l2_c9 (⟨nb, [a, c]⟩, ((a.l.length + c.l.length : Nat) : Int), ⟨nb, [a, c]⟩, 2, 2, ()) = some (.inr (⟨andB (andB g0 (isE a.l)) (isE c.l), a.l ++ c.l⟩, ())) := by
  unfold l2_c9
  simp only [c2, q01, hg, q00]
  show loopR l1_c9 (⟨nb, [a, c]⟩, 2, 0, ⟨g0, []⟩, ()) = _
  rw [q0i t0, q0i t1]
  exact q0b t2
 refine ⟨andB (andB g0 (isE a.l)) (isE c.l), ?_⟩
 rw [u_c9]
 show loopR l2_c9 (⟨nb, [a, c]⟩, 0, ⟨nb, [a, c]⟩, 2, 0, ()) = _
 rw [q0i s0, q0i s1]
 exact q0b s2
def anyS : SN := ⟨false, [(21, [], 0, 0)]⟩
theorem qiz (n : Nat) (hn : n ≤ 1000000) : ∃ nb, f_bp ((n : Int), ()) = some (⟨nb, List.replicate n anyS⟩, ()) := by
 rw [u_bp]
 have e := q30 l1_bp (fun k s => ((n : Int), k, s, ())) (List.replicate n ()) (fun (s : SSN) _ => (⟨false, s.l ++ [anyS]⟩ : SSN)) (fun s => (s, ())) (fun k s => k ≤ n ∧ s.l.length = k) ⟨true, []⟩ ⟨Nat.zero_le _, rfl⟩
  (fun k x s hx hi => by
   obtain ⟨nb, sl⟩ := s
   have h2 : sl.length = k := hi.2
   have hk := getL hx
   rw [List.length_replicate] at hk
   have c0 : ltI (k : Int) (n : Int) = true := ltT hk
   have hf : fit (sumI (lenI sl) (lenI [(⟨false, [(21, [], 0, 0)]⟩ : SN)])) = some () := q0q (by show sl.length + 1 ≤ _; omega)
   refine ⟨?_, hk, by show (sl ++ [anyS]).length = _; rw [List.length_append, h2]; rfl⟩
   unfold l1_bp
   simp only [c0, q04, u_b3, q00, hf, q1v, add1 (show k ≤ 1000000000 by omega)]
   rfl)
  (fun s _ => by
   have c0 : ltI ((n : Nat) : Int) ((n : Nat) : Int) = false := decide_eq_false (by omega)
   unfold l1_bp
   simp only [List.length_replicate, c0, q01])
 rw [qd7 (fun _ : Unit => anyS)] at e
 refine ⟨true && (List.replicate n ()).isEmpty, e.trans ?_⟩
 rw [List.map_replicate]; rfl
def q1q (k : Int) : Bool := eqI k 21 || eqI k 22
theorem qdf (s : SN) (x : ND) (h : s.l[0]? = some x) : f_bt (s, ()) = some (q1q x.1, ()) := by
 have h0 : at? s.l 0 = some x := q07 (i := 0) h
 rw [u_bt, h0]
 unfold q1q
 simp only [q00]
 cases eqI x.1 21 <;> rfl
theorem qj0 (k : Int) (t : Tx) (n c : Int) (s : SSN) (hs : s.l.length ≤ 1000000) (hg : (s.l.map Sl.l).flatten.length ≤ 1000000) : ∃ nb, f_dv ((k, t, n, c), s, ()) = some (⟨nb, (k, t, n, (s.l.length : Int)) :: (s.l.map Sl.l).flatten⟩, ()) := by
 rw [u_dv]
 have hfold : ∀ (l : List SN) (a : SN), (l.foldl (fun (a : SN) x => (⟨andB a.nil (isE x.l), a.l ++ x.l⟩ : SN)) a).l = a.l ++ (l.map Sl.l).flatten := by
  intro l
  induction l with
  | nil => intro a; simp
  | cons x r ih => intro a; rw [List.foldl_cons, ih]; simp
 have e := q30 l1_dv (fun i a => (s, lenI s.l, i, a, ())) s.l (fun (a : SN) x => (⟨andB a.nil (isE x.l), a.l ++ x.l⟩ : SN)) (fun a => (a, ())) (fun i a => i ≤ s.l.length ∧ a.l.length = 1 + ((s.l.take i).map Sl.l).flatten.length) ⟨false, [(k, t, n, lenI s.l)]⟩ ⟨Nat.zero_le _, rfl⟩
  (fun i x a hx hi => by
   obtain ⟨nb, al⟩ := a
   have h2 : al.length = 1 + ((s.l.take i).map Sl.l).flatten.length := hi.2
   have hil := getL hx
   have htk : s.l.take (i + 1) = s.l.take i ++ [x] := by rw [List.take_add_one, hx]; rfl
   have hle : ((s.l.take (i + 1)).map Sl.l).flatten.length ≤ (s.l.map Sl.l).flatten.length := by
    conv => rhs; rw [← List.take_append_drop (i + 1) s.l, List.map_append, List.flatten_append, List.length_append]
    exact Nat.le_add_right _ _
   have hsum : ((s.l.take (i + 1)).map Sl.l).flatten.length = ((s.l.take i).map Sl.l).flatten.length + x.l.length := by
    rw [htk, List.map_append, List.flatten_append, List.length_append]; simp
   have hf : fit (sumI (lenI al) (lenI x.l)) = some () := q0q (by omega)
   refine ⟨?_, hil, by show (al ++ x.l).length = _; rw [List.length_append, h2, hsum]; omega⟩
   unfold l1_dv
   simp only [ltG hx, q04, q07 hx, q00, hf, add1 (show i ≤ 1000000000 by omega), app])
  (fun a _ => by
   unfold l1_dv
   simp only [ltE, q01])
 have hl := hfold s.l ⟨false, [(k, t, n, lenI s.l)]⟩
 refine ⟨(s.l.foldl (fun (a : SN) x => (⟨andB a.nil (isE x.l), a.l ++ x.l⟩ : SN)) ⟨false, [(k, t, n, lenI s.l)]⟩).nil, e.trans ?_⟩
 rw [show (k, t, n, (s.l.length : Int)) :: (s.l.map Sl.l).flatten = _ from hl.symm]
end Fn
end Ev

namespace Ev
open Go
namespace Fn
def anyF : Nat → F
 | 0 => .nil
 | n + 1 => .cons 21 [] 0 .nil (anyF n)
theorem q9r : ∀ n, (anyF n).cnt = n
 | 0 => rfl
 | n + 1 => by show (anyF n).cnt + 1 = n + 1; rw [q9r n]
theorem qap : ∀ n, (anyF n).trees = List.replicate n [((21 : Int), ([] : Tx), (0 : Int), (0 : Int))]
 | 0 => rfl
 | n + 1 => by rw [List.replicate_succ, ← qap n]; rfl
theorem q9s : ∀ n, (anyF n).size = n
 | 0 => rfl
 | n + 1 => by show 0 + (anyF n).size + 1 = n + 1; rw [q9s n]; omega
def F.clo : F → Nat
 | .nil => 0
 | .cons k _ _ ks r => (bif q1q k then 0 else 1) + ks.clo + r.clo
theorem qgp : ∀ n, (anyF n).clo = 0
 | 0 => rfl
 | n + 1 => by show 0 + 0 + (anyF n).clo = 0; rw [qgp n]
theorem qaq : ∀ f g : F, (f.app g).clo = f.clo + g.clo
 | .nil, g => (Nat.zero_add _).symm
 | .cons k t n ks r, g => by
  show (bif q1q k then 0 else 1) + ks.clo + (r.app g).clo = _
  rw [qaq r g]
  show _ = (bif q1q k then 0 else 1) + ks.clo + r.clo + g.clo
  omega
theorem qdg : ∀ f g : F, (f.app g).trees = f.trees ++ g.trees
 | .nil, g => rfl
 | .cons k t n ks r, g => by show _ :: (r.app g).trees = _ :: (r.trees ++ g.trees); rw [qdg r g]
theorem qbm : ∀ f g : F, (f.app g).size = f.size + g.size
 | .nil, g => (Nat.zero_add _).symm
 | .cons k t n ks r, g => by
  show ks.size + (r.app g).size + 1 = ks.size + r.size + 1 + g.size
  rw [qbm r g]; omega
def mt (f g : F) : Bool := (q4r f g).isSome
theorem q4s (k : Int) (t : Tx) (n : Int) (ks r : F) (k' : Int) (t' : Tx) (n' : Int) (ks' r' : F) : mt (.cons k t n ks r) (.cons k' t' n' ks' r') = ((q2c k t n ks k' t' n' ks').isSome && mt r r') := by
 unfold mt
 rw [qdc]
 cases q2c k t n ks k' t' n' ks' with
 | none => rfl
 | some a => cases q4r r r' <;> rfl
theorem qmz : ∀ (f f' g g' : F), f.cnt = f'.cnt → mt (f.app g) (f'.app g') = (mt f f' && mt g g')
 | .nil, .nil, g, g', _ => by show mt g g' = (true && mt g g'); rw [Bool.true_and]
 | .nil, .cons _ _ _ _ _, _, _, h => by cases h
 | .cons _ _ _ _ _, .nil, _, _, h => by cases h
 | .cons k t n ks r, .cons k' t' n' ks' r', g, g', h => by
  show mt (.cons k t n ks (r.app g)) (.cons k' t' n' ks' (r'.app g')) = _
  rw [q4s, q4s, qmz r r' g g' (by have h : r.cnt + 1 = r'.cnt + 1 := h; omega), Bool.and_assoc]
theorem qw4 : ∀ (n : Nat) (g : F), g.cnt = n → mt (anyF n) g = true
 | 0, _, _ => rfl
 | n + 1, .nil, h => by cases h
 | n + 1, .cons k' t' n' ks' r', h => by
  show mt (.cons 21 [] 0 .nil (anyF n)) _ = true
  rw [q4s, qw4 n r' (by have h : r'.cnt + 1 = n + 1 := h; omega)]; rfl
theorem qn0 (L : List DD) : ∀ (f g : F) (As Ts : List (List ND)), As.length = f.cnt → ofF L (f.app g) (As ++ Ts) = (ofF L f As && ofF L g Ts)
 | .nil, g, [], Ts, _ => by show ofF L g Ts = (true && ofF L g Ts); rw [Bool.true_and]
 | .nil, _, _ :: _, _, h => by cases h
 | .cons _ _ _ _ _, _, [], _, h => by cases h
 | .cons k t n ks r, g, T :: As, Ts, h => by
  show (ofN L T k t ks.cnt (fun As => ofF L ks As) && ofF L (r.app g) (As ++ Ts)) = _
  rw [qn0 L r g As Ts (by have h : As.length + 1 = r.cnt + 1 := h; omega), ← Bool.and_assoc]; rfl
theorem qw5 (L : List DD) : ∀ (n : Nat) (As : List (List ND)), As.length = n → ofF L (anyF n) As = true
 | 0, [], _ => rfl
 | 0, _ :: _, h => by cases h
 | n + 1, [], h => by cases h
 | n + 1, T :: As, h => by
  show (ofN L T 21 [] 0 _ && ofF L (anyF n) As) = true
  rw [qw5 L n As (by have h : As.length + 1 = n + 1 := h; omega)]; rfl
def patQ (x : ND) : Bool := patP x && ((!eqI x.1 23 || eqS x.2.1 []) && (!eqI x.1 24 || eqI x.2.2.1 0))
theorem qkw {P : ND → Bool} {f g : F} (hf : f.flat.all P = true) (hg : g.flat.all P = true) : (f.app g).flat.all P = true := by rw [F.app_flat, List.all_append, hf, hg]; rfl
theorem all_cons {P : ND → Bool} {k : Int} {t : Tx} {n : Int} {ks r : F} (h : (F.cons k t n ks r).flat.all P = true) : P (k, t, n, (ks.cnt : Int)) = true ∧ ks.flat.all P = true ∧ r.flat.all P = true := by
 have h : ((k, t, n, (ks.cnt : Int)) :: (ks.flat ++ r.flat)).all P = true := h
 rw [List.all_cons, List.all_append, Bool.and_eq_true, Bool.and_eq_true] at h
 exact h
theorem qzh : ∀ n, (anyF n).flat.all patQ = true
 | 0 => rfl
 | n + 1 => by
  show ((21, ([] : Tx), 0, 0) :: (([] : List ND) ++ (anyF n).flat)).all patQ = true
  rw [List.nil_append, List.all_cons, qzh n]; rfl
def q37 (c : Tx) (m : Nat) : F → Option F
 | .nil => none
 | .cons k t _ ks r => bif q1q k then some ((anyF m).app r) else bif eqI k 24 && eqS t c then some (ks.app r) else none
def q8o : F → Option F
 | .nil => none
 | .cons k _ _ _ r => bif q1q k then some r else none
def q1a (k : Int) (t : Tx) (n : Int) : F → Bool
 | .nil => false
 | .cons k' t' n' _ _ => eqI k' k && (eqS t' t && eqI n' n)
def q3k : F → Bool
 | .nil => true
 | .cons k _ _ _ _ => q1q k
theorem qar {k : Int} (h : q1q k = true) (t : Tx) (n : Int) (ks : F) (k' : Int) (t' : Tx) (n' : Int) (ks' : F) : (q2c k t n ks k' t' n' ks').isSome = true := by
 unfold q1q at h
 unfold q2c
 cases e1 : eqI k 21 with
 | true => rfl
 | false =>
  rw [e1, Bool.false_or] at h
  rw [h]; rfl
theorem qvc (c : Tx) (n' : Int) (ks' r' : F) : ∀ f : F, f.flat.all patQ = true → (∀ k t n ks r, f = .cons k t n ks r → (eqI k 24 && eqS t c) = true → ks.cnt = ks'.cnt) → f ≠ .nil → mt f (.cons 53 c n' ks' r') = match q37 c ks'.cnt f with | some g => mt g (ks'.app r') | none => false
 | .nil, _, _, h => absurd rfl h
 | .cons k t n ks r, hQ, hc, _ => by
  rw [q4s]
  have hu : q37 c ks'.cnt (.cons k t n ks r) = bif q1q k then some ((anyF ks'.cnt).app r) else bif eqI k 24 && eqS t c then some (ks.app r) else none := rfl
  rw [hu]
  cases hw : q1q k with
  | true =>
   rw [qar hw]
   show (true && mt r r') = mt ((anyF ks'.cnt).app r) (ks'.app r')
   rw [qmz _ _ _ _ (q9r _), qw4 _ _ rfl]
  | false =>
   have hP := (all_cons hQ).1
   unfold patQ patP at hP
   simp only [Bool.and_eq_true] at hP
   have k1 : (21 : Int) ≤ k := of_decide_eq_true hP.1.1
   have k2 : k ≤ (24 : Int) := of_decide_eq_true hP.1.2
   unfold q1q at hw
   rw [Bool.or_eq_false_iff] at hw
   have n21 : k ≠ 21 := fun e => by rw [e] at hw; cases hw.1
   have n22 : k ≠ 22 := fun e => by rw [e] at hw; cases hw.2
   unfold q2c
   rw [hw.1, hw.2]
   by_cases e23 : k = 23
   ·subst e23; rfl
   ·have e24 : k = 24 := by omega
    subst e24
    have z1 : eqI 24 23 = false := rfl
    have z2 : eqI 53 53 = true := rfl
    have z3 : eqI 24 24 = true := rfl
    simp only [z1, z2, z3, cond_false, Bool.true_and]
    cases ht : eqS t c with
    | false =>
     have : eqS c t = false := by
      cases h : eqS c t with
      | false => rfl
      | true => rw [eqS_eq.1 h, q50] at ht; cases ht
     rw [this]; rfl
    | true =>
     have htc := eqS_eq.1 ht
     have hcnt := hc 24 t n ks r rfl (by rw [ht]; rfl)
     rw [htc, q50, decide_eq_true hcnt.symm]
     show ((q4r ks ks').isSome && mt r r') = mt (ks.app r) (ks'.app r')
     rw [qmz _ _ _ _ hcnt]; rfl
end Fn
end Ev

namespace Ev
open Go
namespace Fn
def RowOf (r : SSN) (f : F) : Prop := r.l.map Sl.l = f.trees
def RS (s : SR) (fs : List F) : Prop := s.l.map (fun r => r.l.map Sl.l) = fs.map F.trees
theorem RS.len {s : SR} {fs : List F} (h : RS s fs) : s.l.length = fs.length := by
 have := congrArg List.length h
 rwa [List.length_map, List.length_map] at this
theorem RS.get {s : SR} {fs : List F} (h : RS s fs) {i : Nat} {r : SSN} (hr : s.l[i]? = some r) : ∃ f, fs[i]? = some f ∧ RowOf r f := by
 have h1 : (s.l.map (fun r => r.l.map Sl.l))[i]? = some (r.l.map Sl.l) := getM hr
 rw [show s.l.map (fun r => r.l.map Sl.l) = fs.map F.trees from h, List.getElem?_map] at h1
 cases hf : fs[i]? with
 | none => rw [hf] at h1; cases h1
 | some f => rw [hf] at h1; injection h1 with h1; exact ⟨f, rfl, h1.symm⟩
theorem RowOf.len {r : SSN} {f : F} (h : RowOf r f) : r.l.length = f.cnt := by
 have := congrArg List.length h
 rwa [List.length_map, F.trees_len] at this
theorem RowOf.cons {r : SSN} {k : Int} {t : Tx} {n : Int} {ks g : F} (h : RowOf r (.cons k t n ks g)) : ∃ (b : Bool) (rest : List SN), r.l = ⟨b, (tr k t n ks).flat⟩ :: rest ∧ rest.map Sl.l = g.trees := by
 unfold RowOf at h
 cases hr : r.l with
 | nil => rw [hr] at h; cases h
 | cons a rest =>
  rw [hr] at h
  injection h with h1 h2
  obtain ⟨b, l⟩ := a
  have h1 : l = (tr k t n ks).flat := h1
  subst h1
  exact ⟨b, rest, rfl, h2⟩
theorem cut1 {a : SN} {rest : List SN} : cutL (a :: rest) 1 (lenI (a :: rest)) = some rest := by
 unfold cutL lenI
 rw [if_pos ⟨by omega, by rw [List.length_cons]; omega, Int.le_refl _⟩, Int.toNat_natCast, List.take_length]
 rfl
theorem qdh (k : Int) (t : Tx) (n : Int) (s : SR) (fs : List F) (h : RS s fs) (hn : ∀ f, f ∈ fs → f ≠ .nil) (hl : fs.length ≤ 1000) : f_b9 (k, t, n, s, ()) = some (fs.any (q1a k t n), s, ()) := by
 have hlen := h.len
 have e := q20 l1_cw (fun i => (s, k, t, n, lenI s.l, i, ())) (fun z => (z, ())) s.l (by omega) (fun r => (r.l.headD ⟨true, []⟩).l.head?.elim false fun x => eqI x.1 k && (eqS x.2.1 t && eqI x.2.2.1 n))
  (fun i r hr hi => by
   obtain ⟨f, hf, hrow⟩ := h.get hr
   cases f with
   | nil => exact absurd rfl (hn _ (List.mem_of_getElem? hf))
   | cons k' t' n' ks' g =>
    obtain ⟨b, rest, e1, e2⟩ := hrow.cons
    have h0 : at? r.l 0 = some ⟨b, (tr k' t' n' ks').flat⟩ := by rw [e1]; rfl
    have h1 : at? (tr k' t' n' ks').flat 0 = some (k', t', n', (ks'.cnt : Int)) := q07 (i := 0) rfl
    unfold l1_cw
    simp only [ltG hr, q04, q07 hr, q00, u_ba, h0, h1, add1 (show i ≤ 1000000000 by omega)]
    rw [e1]
    show _ = some (bif eqI k' k && (eqS t' t && eqI n' n) then _ else _)
    cases eqI k' k <;> cases eqS t' t <;> cases eqI n' n <;> rfl)
  (by
   unfold l1_cw
   simp only [ltE, q01])
 have hany : (s.l.any fun r => (r.l.headD ⟨true, []⟩).l.head?.elim false fun x => eqI x.1 k && (eqS x.2.1 t && eqI x.2.2.1 n)) = fs.any (q1a k t n) := by
  clear e hl hlen
  obtain ⟨ns, sl⟩ := s
  replace h : sl.map (fun r => r.l.map Sl.l) = fs.map F.trees := h
  show (sl.any _) = _
  induction sl generalizing fs with
  | nil => cases fs with
   | nil => rfl
   | cons _ _ => cases h
  | cons r sl ih => cases fs with
   | nil => cases h
   | cons f fs =>
    injection h with h1 h2
    rw [List.any_cons, List.any_cons, ih fs (fun g hg => hn g (List.mem_cons_of_mem _ hg)) h2]
    congr 1
    cases f with
    | nil => exact absurd rfl (hn _ (List.mem_cons_self ..))
    | cons k' t' n' ks' g =>
     obtain ⟨b, rest, e1, e2⟩ := (show RowOf r (.cons k' t' n' ks' g) from h1).cons
     rw [e1]; rfl
 rw [u_b9, u_cl, u_cw, e, q00, q00, q3e, hany]
theorem qkx (s : SR) (fs : List F) (h : RS s fs) (hn : ∀ f, f ∈ fs → f ≠ .nil) (hl : fs.length ≤ 1000) : f_cm (s, ()) = some (fs.any fun f => !q3k f, ()) := by
 have hlen := h.len
 have e := q20 l1_cx (fun i => (s, lenI s.l, i, ())) (fun z => (z, ())) s.l (by omega) (fun r => (r.l.headD ⟨true, []⟩).l.head?.elim false fun x => !q1q x.1)
  (fun i r hr hi => by
   obtain ⟨f, hf, hrow⟩ := h.get hr
   cases f with
   | nil => exact absurd rfl (hn _ (List.mem_of_getElem? hf))
   | cons k' t' n' ks' g =>
    obtain ⟨b, rest, e1, e2⟩ := hrow.cons
    have h0 : at? r.l 0 = some ⟨b, (tr k' t' n' ks').flat⟩ := by rw [e1]; rfl
    have hw := qdf ⟨b, (tr k' t' n' ks').flat⟩ (k', t', n', (ks'.cnt : Int)) rfl
    unfold l1_cx
    simp only [ltG hr, q04, q07 hr, q00, u_bc, h0, hw, add1 (show i ≤ 1000000000 by omega)]
    rw [e1]
    show _ = some (bif !q1q k' then _ else _)
    cases q1q k' <;> rfl)
  (by
   unfold l1_cx
   simp only [ltE, q01])
 have hany : (s.l.any fun r => (r.l.headD ⟨true, []⟩).l.head?.elim false fun x => !q1q x.1) = fs.any fun f => !q3k f := by
  clear e hl hlen
  obtain ⟨ns, sl⟩ := s
  replace h : sl.map (fun r => r.l.map Sl.l) = fs.map F.trees := h
  show (sl.any _) = _
  induction sl generalizing fs with
  | nil => cases fs with
   | nil => rfl
   | cons _ _ => cases h
  | cons r sl ih => cases fs with
   | nil => cases h
   | cons f fs =>
    injection h with h1 h2
    rw [List.any_cons, List.any_cons, ih fs (fun g hg => hn g (List.mem_cons_of_mem _ hg)) h2]
    congr 1
    cases f with
    | nil => exact absurd rfl (hn _ (List.mem_cons_self ..))
    | cons k' t' n' ks' g =>
     obtain ⟨b, rest, e1, e2⟩ := (show RowOf r (.cons k' t' n' ks' g) from h1).cons
     rw [e1]; rfl
 rw [u_cm, u_cx, e, q00, q3e, hany]
theorem qsv (cs : Sl CT) (hc : cs.l.length ≤ 1000) (s : SR) (fs : List F) (h : RS s fs) (hn : ∀ f, f ∈ fs → f ≠ .nil) (hl : fs.length ≤ 1000) : f_d7 (cs, s, ()) = some (ixP (fun c : CT => !fs.any (q1a 24 c.1 0)) 0 cs.l, s, ()) := by
 rw [u_d7]
 refine q20 l1_d7 (fun i => (cs, lenI cs.l, i, s, ())) (fun z => (z, s, ())) cs.l (by omega) (fun c : CT => !fs.any (q1a 24 c.1 0)) ?_ ?_
 ·intro i c hx hi
  obtain ⟨cn, ca⟩ := c
  have hb := qdh 24 cn 0 s fs h hn hl
  unfold l1_d7
  simp only [ltG hx, q04, q07 hx, q00, u_bb, hb, add1 (show i ≤ 1000000000 by omega)]
  cases fs.any (q1a 24 cn 0) <;> rfl
 ·unfold l1_d7
  simp only [ltE, q01]
theorem q5d {α β : Type} (g : α → Option β) (l : List α) (x : α) : (l ++ [x]).filterMap g = l.filterMap g ++ (g x).toList := by
 rw [List.filterMap_append]
 congr 1
theorem qj1 {α : Type} {l : List α} {i : Nat} {x : α} (h : l[i]? = some x) : l.take (i + 1) = l.take i ++ [x] := by rw [List.take_add_one, h]; rfl
theorem qsw (s : SR) (fs : List F) (h : RS s fs) (hn : ∀ f, f ∈ fs → f ≠ .nil) (hl : fs.length ≤ 1000) : ∃ s', f_bm (s, ()) = some (s', ()) ∧ RS s' (fs.filterMap q8o) := by
 have hlen := h.len
 rw [u_bm]
 have := q29 (f := l1_bm) (I := fun z => ∃ (i : Nat) (o : SR), z = (s, lenI s.l, (i : Int), o, ()) ∧ i ≤ fs.length ∧ o.l.length ≤ i ∧ RS o ((fs.take i).filterMap q8o)) (Q := fun r => ∃ s', r = (s', ()) ∧ RS s' (fs.filterMap q8o)) (fun z => ((fs.length : Int) - z.2.2.1).toNat) ?_ (s, lenI s.l, 0, ⟨true, []⟩, ()) ⟨0, ⟨true, []⟩, rfl, Nat.zero_le _, Nat.le_refl _, rfl⟩
 ·obtain ⟨r, h1, s', h2, h3⟩ := this
  exact ⟨s', by rw [h1, h2], h3⟩
 ·rintro z ⟨i, ⟨no, o⟩, rfl, hi, ho, hR⟩
  have ho : o.length ≤ i := ho
  by_cases h1 : i < fs.length
  ·obtain ⟨r, hr⟩ : ∃ r, s.l[i]? = some r := ⟨_, List.getElem?_eq_getElem (by omega)⟩
   obtain ⟨f, hf, hrow⟩ := h.get hr
   have htk := qj1 hf
   cases f with
   | nil => exact absurd rfl (hn _ (List.mem_of_getElem? hf))
   | cons k t n ks g =>
    obtain ⟨b, rest, e1, e2⟩ := hrow.cons
    obtain ⟨rn, rl⟩ := r
    have e1 : rl = _ := e1
    subst e1
    have h0 : at? ((⟨b, (tr k t n ks).flat⟩ : SN) :: rest) 0 = some ⟨b, (tr k t n ks).flat⟩ := rfl
    have hw := qdf ⟨b, (tr k t n ks).flat⟩ (k, t, n, (ks.cnt : Int)) rfl
    have hcut : cutL ((⟨b, (tr k t n ks).flat⟩ : SN) :: rest) 1 (lenI ((⟨b, (tr k t n ks).flat⟩ : SN) :: rest)) = some rest := cut1
    have hfit : fit (sumI (lenI o) (lenI [(⟨rn, rest⟩ : SSN)])) = some () := q0q (by show o.length + 1 ≤ _; omega)
    have hadd := add1 (show i ≤ 1000000000 by omega)
    refine .inl ?_
    cases hwk : q1q k with
    | true =>
     refine ⟨(s, lenI s.l, ((i + 1 : Nat) : Int), ⟨false, o ++ [⟨rn, rest⟩]⟩, ()), ?_, ⟨i + 1, _, rfl, h1, by show (o ++ [_]).length ≤ _; rw [List.length_append]; show o.length + 1 ≤ _; omega, ?_⟩, by simp only; omega⟩
     ·unfold l1_bm
      simp only [ltG hr, q04, q07 hr, q00, h0, hw, hwk, hcut, hfit, q1v, app, hadd]
     ·rw [htk, q5d]
      have : q8o (.cons k t n ks g) = some g := by show (bif q1q k then some g else none) = _; rw [hwk]; rfl
      rw [this]
      show (o ++ [(⟨rn, rest⟩ : SSN)]).map _ = _
      rw [List.map_append, List.map_append, show o.map _ = _ from hR]
      show _ ++ [rest.map Sl.l] = _ ++ [g.trees]
      rw [e2]
    | false =>
     refine ⟨(s, lenI s.l, ((i + 1 : Nat) : Int), ⟨no, o⟩, ()), ?_, ⟨i + 1, _, rfl, h1, by show o.length ≤ _; omega, ?_⟩, by simp only; omega⟩
     ·unfold l1_bm
      simp only [ltG hr, q04, q07 hr, q00, h0, hw, hwk, q01, hadd]
     ·rw [htk, q5d]
      have : q8o (.cons k t n ks g) = none := by show (bif q1q k then some g else none) = _; rw [hwk]; rfl
      rw [this]
      show RS _ (_ ++ [])
      rw [List.append_nil]
      exact hR
  ·obtain rfl : i = fs.length := by omega
   refine .inr ⟨(⟨no, o⟩, ()), ?_, ⟨no, o⟩, rfl, ?_⟩
   ·unfold l1_bm
    simp only [← hlen, ltE, q01]
   ·rw [List.take_length] at hR; exact hR
end Fn
end Ev

namespace Ev
open Go
namespace Fn
theorem RS.snoc {nb nb' : Bool} {o : List SSN} {gs : List F} {r : SSN} {g : F} (h : RS ⟨nb, o⟩ gs) (hr : RowOf r g) : RS ⟨nb', o ++ [r]⟩ (gs ++ [g]) := by
 show (o ++ [r]).map _ = (gs ++ [g]).map _
 rw [List.map_append, List.map_append, show o.map _ = gs.map _ from h]
 show _ ++ [r.l.map Sl.l] = _ ++ [g.trees]
 rw [show r.l.map Sl.l = g.trees from hr]
theorem qsx {a c : List SN} {f g : F} {nb : Bool} (ha : a.map Sl.l = f.trees) (hc : c.map Sl.l = g.trees) : RowOf ⟨nb, a ++ c⟩ (f.app g) := by
 show (a ++ c).map Sl.l = _
 rw [List.map_append, ha, hc, qdg]
theorem qp5 (c : Tx) (m : Nat) (hm : m ≤ 1000) (s : SR) {i : Nat} {r : SSN} (hr : s.l[i]? = some r) (hi : i ≤ 1000) {f : F} (hrow : RowOf r f) (hn : f ≠ .nil) (hQ : f.flat.all patQ = true) (hk : f.size ≤ 9999) (no : Bool) (o : List SSN) (ho : o.length ≤ 1000) :
  ∃ s', l1_bq ((m : Int), s, lenI s.l, (i : Int), 24, c, 0, 0, ⟨no, o⟩, ()) = some (.inl ((m : Int), s, lenI s.l, ((i + 1 : Nat) : Int), 24, c, 0, 0, s', ())) ∧
   match q37 c m f with
   | some g => ∃ nb r', s' = ⟨nb, o ++ [r']⟩ ∧ RowOf r' g
   | none => s' = ⟨no, o⟩ := by
 cases f with
 | nil => exact absurd rfl hn
 | cons k t n ks g =>
  have hg : (F.cons k t n ks g).size = ks.size + g.size + 1 := rfl
  obtain ⟨b, rest, e1, e2⟩ := hrow.cons
  obtain ⟨rn, rl⟩ := r
  have e1 : rl = _ := e1
  subst e1
  have hrl : rest.length = g.cnt := by rw [← F.trees_len, ← e2, List.length_map]
  have hgc : g.cnt ≤ g.size := F.cnt_le g
  have hkc : ks.cnt ≤ ks.size := F.cnt_le ks
  have h0 : at? ((⟨b, (tr k t n ks).flat⟩ : SN) :: rest) 0 = some ⟨b, (tr k t n ks).flat⟩ := rfl
  have h1 : at? (tr k t n ks).flat 0 = some (k, t, n, (ks.cnt : Int)) := q07 (i := 0) rfl
  have hw := qdf ⟨b, (tr k t n ks).flat⟩ (k, t, n, (ks.cnt : Int)) rfl
  have hcut : cutL ((⟨b, (tr k t n ks).flat⟩ : SN) :: rest) 1 (lenI ((⟨b, (tr k t n ks).flat⟩ : SN) :: rest)) = some rest := cut1
  have hfit : ∀ x : SSN, fit (sumI (lenI o) (lenI [x])) = some () := fun x => q0q (by show o.length + 1 ≤ _; omega)
  have hadd := add1 (show i ≤ 1000000000 by omega)
  have hP := (all_cons hQ).1
  unfold patQ at hP
  simp only [Bool.and_eq_true] at hP
  have hu : q37 c m (.cons k t n ks g) = bif q1q k then some ((anyF m).app g) else bif eqI k 24 && eqS t c then some (ks.app g) else none := rfl
  rw [hu]
  cases hwk : q1q k with
  | true =>
   obtain ⟨nb, hsome⟩ := qiz m (by omega)
   obtain ⟨nb', hcc⟩ := q2s false ⟨nb, List.replicate m anyS⟩ ⟨rn, rest⟩ (by show (List.replicate m anyS).length + rest.length ≤ _; rw [List.length_replicate]; omega)
   refine ⟨⟨false, o ++ [⟨nb', List.replicate m anyS ++ rest⟩]⟩, ?_, false, _, rfl, qsx ?_ e2⟩
   ·unfold l1_bq
    simp only [ltG hr, q04, q07 hr, q00, h0, hw, hwk, hsome, hcut, hcc, hfit, hadd, q1v, app]
   ·rw [qap, List.map_replicate]; rfl
  | false =>
   cases hk24 : eqI k 24 with
   | false =>
    refine ⟨⟨no, o⟩, ?_, rfl⟩
    unfold l1_bq
    simp only [ltG hr, q04, q07 hr, q00, h0, hw, hwk, h1, hk24, q01, hadd]
   | true =>
    cases htc : eqS t c with
    | false =>
     refine ⟨⟨no, o⟩, ?_, rfl⟩
     unfold l1_bq
     simp only [ltG hr, q04, q07 hr, q00, h0, hw, hwk, h1, hk24, htc, q01, hadd]
    | true =>
     have hn0 : eqI n 0 = true := by
      have := hP.2.2
      rw [hk24] at this; exact this
     obtain ⟨nb, hpa⟩ := q5u b k t n ks (by omega)
     obtain ⟨nb', hcc⟩ := q2s false ⟨nb, ks.trees.map fun l => (⟨b, l⟩ : SN)⟩ ⟨rn, rest⟩ (by show (ks.trees.map _).length + rest.length ≤ _; rw [List.length_map, F.trees_len]; omega)
     refine ⟨⟨false, o ++ [⟨nb', (ks.trees.map fun l => (⟨b, l⟩ : SN)) ++ rest⟩]⟩, ?_, false, _, rfl, qsx ?_ e2⟩
     ·unfold l1_bq
      simp only [ltG hr, q04, q07 hr, q00, h0, hw, hwk, h1, hk24, htc, hn0, q01, hpa, hcut, hcc, hfit, hadd, q1v, app]
     ·rw [List.map_map]; exact List.map_id _
theorem qp6 (c : Tx) (m : Nat) (hm : m ≤ 1000) (s : SR) (fs : List F) (h : RS s fs) (hn : ∀ f, f ∈ fs → f ≠ .nil) (hQ : ∀ f, f ∈ fs → f.flat.all patQ = true) (hk : ∀ f, f ∈ fs → f.size ≤ 9999) (hl : fs.length ≤ 1000) :
  ∃ s', f_bq (s, (24, c, 0, 0), (m : Int), ()) = some (s', ()) ∧ RS s' (fs.filterMap (q37 c m)) := by
 have hlen := h.len
 rw [u_bq]
 have := q29 (f := l1_bq) (I := fun z => ∃ (i : Nat) (o : SR), z = ((m : Int), s, lenI s.l, (i : Int), 24, c, 0, 0, o, ()) ∧ i ≤ fs.length ∧ o.l.length ≤ i ∧ RS o ((fs.take i).filterMap (q37 c m))) (Q := fun r => ∃ s', r = (s', ()) ∧ RS s' (fs.filterMap (q37 c m))) (fun z => ((fs.length : Int) - z.2.2.2.1).toNat) ?_ ((m : Int), s, lenI s.l, 0, 24, c, 0, 0, ⟨true, []⟩, ()) ⟨0, ⟨true, []⟩, rfl, Nat.zero_le _, Nat.le_refl _, rfl⟩
 ·obtain ⟨r, h1, s', h2, h3⟩ := this
  exact ⟨s', by rw [h1, h2], h3⟩
 ·rintro z ⟨i, ⟨no, o⟩, rfl, hi, ho, hR⟩
  have ho : o.length ≤ i := ho
  by_cases h1 : i < fs.length
  ·obtain ⟨r, hr⟩ : ∃ r, s.l[i]? = some r := ⟨_, List.getElem?_eq_getElem (by omega)⟩
   obtain ⟨f, hf, hrow⟩ := h.get hr
   have hmem := List.mem_of_getElem? hf
   obtain ⟨s', g1, g2⟩ := qp5 c m hm s hr (by omega) hrow (hn f hmem) (hQ f hmem) (hk f hmem) no o (by omega)
   refine .inl ⟨_, g1, ⟨i + 1, s', rfl, h1, ?_, ?_⟩, by simp only; omega⟩
   ·cases hu : q37 c m f with
    | some g =>
     rw [hu] at g2
     obtain ⟨nb, r', rfl, _⟩ := g2
     show (o ++ [r']).length ≤ _
     rw [List.length_append]; show o.length + 1 ≤ _; omega
    | none => rw [hu] at g2; rw [g2]; show o.length ≤ _; omega
   ·rw [qj1 hf, q5d]
    cases hu : q37 c m f with
    | some g =>
     rw [hu] at g2
     obtain ⟨nb, r', rfl, hr'⟩ := g2
     exact hR.snoc hr'
    | none =>
     rw [hu] at g2
     rw [g2]
     show RS _ (_ ++ [])
     rw [List.append_nil]; exact hR
  ·obtain rfl : i = fs.length := by omega
   refine .inr ⟨(⟨no, o⟩, ()), ?_, ⟨no, o⟩, rfl, ?_⟩
   ·unfold l1_bq
    simp only [← hlen, ltE, q01]
   ·rw [List.take_length] at hR; exact hR
end Fn
end Ev

namespace Ev
open Go
namespace Fn
def q3s : List F → Nat
 | [] => 0
 | f :: fs => f.clo + q3s fs
def mu (fs : List F) (n : Nat) : Nat := 20 * q3s fs + n
theorem F.cut2 : ∀ (W : F) (m : Nat), m ≤ W.cnt → ∃ p q : F, W = p.app q ∧ p.cnt = m
 | W, 0, _ => ⟨.nil, W, rfl, rfl⟩
 | .nil, m + 1, h => absurd (show m + 1 ≤ 0 from h) (by omega)
 | .cons k t n ks r, m + 1, h => by
  obtain ⟨p, q, e, hc⟩ := F.cut2 r m (by have h : m + 1 ≤ r.cnt + 1 := h; omega)
  exact ⟨.cons k t n ks p, q, by rw [e]; rfl, by show p.cnt + 1 = _; rw [hc]⟩
theorem qdi (u : F → Option F) (h : ∀ f g, u f = some g → g.clo ≤ f.clo) : ∀ fs : List F, q3s (fs.filterMap u) ≤ q3s fs ∧ ∀ x, x ∈ fs → (u x).elim 0 F.clo + 1 ≤ x.clo → q3s (fs.filterMap u) + 1 ≤ q3s fs
 | [] => ⟨Nat.le_refl _, fun x hx => by cases hx⟩
 | f :: fs => by
  obtain ⟨h1, h2⟩ := qdi u h fs
  have e : q3s ((f :: fs).filterMap u) = (u f).elim 0 F.clo + q3s (fs.filterMap u) := by
   cases hu : u f with
   | none => rw [List.filterMap_cons_none hu]; exact (Nat.zero_add _).symm
   | some g => rw [List.filterMap_cons_some hu]; rfl
  have h3 : (u f).elim 0 F.clo ≤ f.clo := by
   cases hu : u f with
   | none => exact Nat.zero_le _
   | some g => exact h f g hu
  have e2 : q3s (f :: fs) = f.clo + q3s fs := rfl
  rw [e, e2]
  refine ⟨by omega, fun x hx hlt => ?_⟩
  rcases List.mem_cons.1 hx with rfl | hx
  ·omega
  ·have := h2 x hx hlt
   omega
theorem qw6 {α β : Type} (u : α → Option β) (l : List α) : (l.filterMap u).length ≤ l.length := List.length_filterMap_le u l
theorem qy9 (L : List DD) (T : List ND) (k : Int) (hk : k = 24 ∨ k = 53) (t : Tx) (c : Nat) (rec : List (List ND) → Bool) : ofN L T k t c rec = match qgn L T t with | none => false | some As => decide (As.length = c) && rec As := by
 rcases hk with rfl | rfl <;> rfl
theorem qn1 {L : List DD} {T : List ND} {Ts : List (List ND)} {k : Int} (hk : k = 24 ∨ k = 53) {t : Tx} {n : Int} {ks r : F} (h : ofF L (.cons k t n ks r) (T :: Ts) = true) : ∃ As, qgn L T t = some As ∧ As.length = ks.cnt ∧ ofF L ks As = true ∧ ofF L r Ts = true := by
 have h : (ofN L T k t ks.cnt (fun As => ofF L ks As) && ofF L r Ts) = true := h
 rw [Bool.and_eq_true, qy9 L T k hk] at h
 cases hA : qgn L T t with
 | none => rw [hA] at h; cases h.1
 | some As =>
  rw [hA] at h
  obtain ⟨h1, h2⟩ := h
  have h1 : (decide (As.length = ks.cnt) && ofF L ks As) = true := h1
  rw [Bool.and_eq_true] at h1
  exact ⟨As, rfl, of_decide_eq_true h1.1, h1.2, h2⟩
theorem qky {L : List DD} {T : List ND} {Ts : List (List ND)} {k : Int} {t : Tx} {n : Int} {ks r : F} (h : ofF L (.cons k t n ks r) (T :: Ts) = true) : ofF L r Ts = true := by
 have h : (ofN L T k t ks.cnt (fun As => ofF L ks As) && ofF L r Ts) = true := h
 rw [Bool.and_eq_true] at h
 exact h.2
theorem q54 (k : Int) (t : Tx) (n : Int) (ks r : F) : (F.cons k t n ks r).clo = (bif q1q k then 0 else 1) + ks.clo + r.clo := rfl
theorem qsy {L : List DD} {T : List ND} {Ts As : List (List ND)} {c : Tx} {m : Nat} (hA : qgn L T c = some As) (hm : As.length = m) {f g : F} (hof : ofF L f (T :: Ts) = true) (hQ : f.flat.all patQ = true) (hu : q37 c m f = some g) :
  g.cnt + 1 = m + f.cnt ∧ g.flat.all patQ = true ∧ g.size ≤ f.size + m ∧ ofF L g (As ++ Ts) = true ∧ g.clo ≤ f.clo := by
 cases f with
 | nil => cases hu
 | cons k t n ks r =>
  have hu : (bif q1q k then some ((anyF m).app r) else bif eqI k 24 && eqS t c then some (ks.app r) else none) = some g := hu
  have hc : (F.cons k t n ks r).cnt = r.cnt + 1 := rfl
  have hs : (F.cons k t n ks r).size = ks.size + r.size + 1 := rfl
  have hP := all_cons hQ
  have ht := qky hof
  cases hw : q1q k with
  | true =>
   rw [hw] at hu; injection hu with hu; subst hu
   refine ⟨by rw [F.app_cnt, q9r]; omega, qkw (qzh m) hP.2.2, by rw [qbm, q9s]; omega, ?_, ?_⟩
   ·rw [qn0 L _ _ _ _ (by rw [q9r]; exact hm), qw5 L m As hm, ht]; rfl
   ·rw [qaq, qgp, q54]; omega
  | false =>
   cases hk : eqI k 24 && eqS t c with
   | false => rw [hw, hk] at hu; cases hu
   | true =>
    rw [hw, hk] at hu; injection hu with hu; subst hu
    rw [Bool.and_eq_true] at hk
    have e1 : k = 24 := of_decide_eq_true hk.1
    have e2 := eqS_eq.1 hk.2
    subst e1 e2
    obtain ⟨As', a1, a2, a3, a4⟩ := qn1 (.inl rfl) hof
    rw [hA] at a1; injection a1 with a1; subst a1
    refine ⟨by rw [F.app_cnt]; omega, qkw hP.2.1 hP.2.2, by rw [qbm]; omega, ?_, ?_⟩
    ·rw [qn0 L _ _ _ _ a2, a3, a4]; rfl
    ·rw [qaq, q54]; omega
theorem qsz {L : List DD} {T : List ND} {Ts As : List (List ND)} {c : Tx} {m : Nat} (hA : qgn L T c = some As) (hm : As.length = m) {f : F} (hof : ofF L f (T :: Ts) = true) : ∀ k t n ks r, f = .cons k t n ks r → (eqI k 24 && eqS t c) = true → ks.cnt = m := by
 rintro k t n ks r rfl hk
 rw [Bool.and_eq_true] at hk
 have e1 : k = 24 := of_decide_eq_true hk.1
 have e2 := eqS_eq.1 hk.2
 subst e1 e2
 obtain ⟨As', a1, a2, a3, a4⟩ := qn1 (.inl rfl) hof
 rw [hA] at a1; injection a1 with a1; subst a1
 omega
theorem qp7 {c : Tx} {m : Nat} {f : F} (h : q1a 24 c 0 f = true) : (q37 c m f).elim 0 F.clo + 1 ≤ f.clo := by
 cases f with
 | nil => cases h
 | cons k t n ks r =>
  have h : (eqI k 24 && (eqS t c && eqI n 0)) = true := h
  rw [Bool.and_eq_true, Bool.and_eq_true] at h
  have e1 : k = 24 := of_decide_eq_true h.1
  subst e1
  have hu : q37 c m (.cons 24 t n ks r) = bif eqI 24 24 && eqS t c then some (ks.app r) else none := rfl
  rw [hu, h.2.1]
  show (ks.app r).clo + 1 ≤ _
  rw [qaq, q54]
  show _ ≤ 1 + ks.clo + r.clo
  omega
theorem qvd {L : List DD} {T : List ND} {Ts : List (List ND)} {f g : F} (hof : ofF L f (T :: Ts) = true) (hQ : f.flat.all patQ = true) (hu : q8o f = some g) :
  g.cnt + 1 = f.cnt ∧ g.flat.all patQ = true ∧ g.size ≤ f.size ∧ ofF L g Ts = true ∧ g.clo ≤ f.clo := by
 cases f with
 | nil => cases hu
 | cons k t n ks r =>
  have hu : (bif q1q k then some r else none) = some g := hu
  have hs : (F.cons k t n ks r).size = ks.size + r.size + 1 := rfl
  cases hw : q1q k with
  | false => rw [hw] at hu; cases hu
  | true =>
   rw [hw] at hu; injection hu with hu; subst hu
   exact ⟨rfl, (all_cons hQ).2.2, by omega, qky hof, by rw [q54]; omega⟩
theorem qkz {f : F} (h : q3k f = false) : (q8o f).elim 0 F.clo + 1 ≤ f.clo := by
 cases f with
 | nil => cases h
 | cons k t n ks r =>
  have h : q1q k = false := h
  have hu : q8o (.cons k t n ks r) = bif q1q k then some r else none := rfl
  rw [hu, q54, h]
  show 0 + 1 ≤ 1 + _ + _
  omega
theorem qve {L : List DD} (hok : L.all q23 = true) {k : Int} {t : Tx} {n : Int} {ks : F} {d : DD} (hd : L.find? (q49 k t (ks.cnt : Int)) = some d) {Ts : List (List ND)} {k' : Int} {t' : Tx} {n' : Int} {ks' r' : F}
  (hv : (F.cons k' t' n' ks' r').flat.all valP = true) (hof : ofF L (.cons k' t' n' ks' r') ((tr k t n ks).flat :: Ts) = true) : k' = 53 ∧ ∃ c, c ∈ d.2.2.l ∧ c.1 = t' := by
 have hv1 := (all_cons hv).1
 unfold valP at hv1
 rw [Bool.and_eq_true] at hv1
 have k1 : (51 : Int) ≤ k' := of_decide_eq_true hv1.1
 have k2 : k' ≤ (54 : Int) := of_decide_eq_true hv1.2
 have hm := List.mem_of_find?_eq_some hd
 have hb := List.find?_some hd
 unfold q49 at hb
 rw [Bool.and_eq_true, Bool.and_eq_true] at hb
 have e32 : k = 32 := of_decide_eq_true hb.1
 have et := eqS_eq.1 hb.2.1
 have hcon : q3v t = true := by
  have h1 := List.all_eq_true.1 hok d hm
  unfold q23 at h1
  rw [Bool.and_eq_true] at h1
  rw [← et]; exact h1.1
 have hof1 : ofN L (tr k t n ks).flat k' t' ks'.cnt (fun As => ofF L ks' As) = true := by
  have h : (ofN L (tr k t n ks).flat k' t' ks'.cnt (fun As => ofF L ks' As) && ofF L r' Ts) = true := hof
  rw [Bool.and_eq_true] at h
  exact h.1
 rcases (show k' = 51 ∨ k' = 52 ∨ k' = 53 ∨ k' = 54 by omega) with rfl | rfl | rfl | rfl
 ·have h : eqS t [105, 110, 116] = true := hof1
  rw [eqS_eq.1 h] at hcon
  exact absurd hcon (by decide +kernel)
 ·have h : eqS t [116, 101, 120, 116] = true := hof1
  rw [eqS_eq.1 h] at hcon
  exact absurd hcon (by decide +kernel)
 ·refine ⟨rfl, ?_⟩
  obtain ⟨As, a1, _⟩ := qn1 (.inr rfl) hof
  rw [qbj] at a1
  cases hc : conV L k t (ks.cnt : Int) t' with
  | none => rw [hc] at a1; cases a1
  | some c =>
   unfold conV at hc
   rw [hd] at hc
   have hc : d.2.2.l.find? (fun x => eqS x.1 t') = some c := hc
   exact ⟨c, List.mem_of_find?_eq_some hc, eqS_eq.1 (List.find?_some (p := fun x : CT => eqS x.1 t') hc)⟩
 ·have h : (eqI k 31 || (eqS t [45, 62] || eqS t [114, 101, 102])) = true := hof1
  rw [e32] at h
  have h : (eqS t [45, 62] || eqS t [114, 101, 102]) = true := h
  rcases Bool.or_eq_true _ _ ▸ h with h | h
  ·rw [eqS_eq.1 h] at hcon
   exact absurd hcon (by decide +kernel)
  ·rw [eqS_eq.1 h] at hcon
   exact absurd hcon (by decide +kernel)
end Fn
end Ev

namespace Ev
open Go
namespace Fn
def ql0 (L : List DD) (Ts : List (List ND)) (fs : List F) (w : SSN) (ok : Bool) : Prop :=
 (ok = true → ∃ W : F, RowOf w W ∧ W.cnt = Ts.length ∧ W.size ≤ mu fs Ts.length ∧ GL W.flat ∧ ∀ g : F, g.cnt = Ts.length → mt W g = true → ∀ f, f ∈ fs → mt f g = false) ∧
 (ok = false → ∀ g : F, g.cnt = Ts.length → g.flat.all valP = true → ofF L g Ts = true → ∃ f, f ∈ fs ∧ mt f g = true)
def qdj (L : List DD) (Ts : List (List ND)) (fs : List F) : Prop := fs.length ≤ 1000 ∧ ∀ f, f ∈ fs → f.cnt = Ts.length ∧ f.flat.all patQ = true ∧ f.size + mu fs Ts.length ≤ 9999 ∧ ofF L f Ts = true
def qp8 (Ts : List (List ND)) : Prop := ∀ T, T ∈ Ts → q2w T = true
def qn2 (s : Sl DD) (M : Nat) (self : (SSN × SR × Sl DD × Unit) → Option (SSN × Bool × Sl DD × Unit)) : Prop :=
 ∀ (types : SSN) (rows : SR) (Ts : List (List ND)) (fs : List F), types.l.map Sl.l = Ts → RS rows fs → qdj s.l Ts fs → qp8 Ts → mu fs Ts.length ≤ M → ∃ w ok, self (types, rows, s, ()) = some (w, ok, s, ()) ∧ ql0 s.l Ts fs w ok
def NoV (L : List DD) (Ts : List (List ND)) (fs : List F) (c : Tx) : Prop :=
 ∀ (n' : Int) (ks' r' : F), (F.cons 53 c n' ks' r').cnt = Ts.length → (F.cons 53 c n' ks' r').flat.all valP = true → ofF L (.cons 53 c n' ks' r') Ts = true → ∃ f, f ∈ fs ∧ mt f (.cons 53 c n' ks' r') = true
theorem qya {α : Type} (l : List α) (m : Nat) (h : m ≤ l.length) : cutL l 0 (m : Int) = some (l.take m) := by
 unfold cutL
 rw [if_pos ⟨Int.le_refl _, by omega, by omega⟩]
 rfl
theorem qzi {α : Type} (l : List α) (m : Nat) (h : m ≤ l.length) : cutL l (m : Int) (lenI l) = some (l.drop m) := by
 unfold cutL lenI
 rw [if_pos ⟨by omega, by omega, Int.le_refl _⟩, Int.toNat_natCast, Int.toNat_natCast, List.take_length]
theorem qzj {c : Tx} {p q g : F} (h : mt (.cons 24 c 0 p q) g = true) : ∃ n' ks' r', g = .cons 53 c n' ks' r' ∧ ks'.cnt = p.cnt ∧ mt p ks' = true ∧ mt q r' = true := by
 cases g with
 | nil => cases h
 | cons k' t' n' ks' r' =>
  rw [q4s, Bool.and_eq_true] at h
  obtain ⟨h1, h2⟩ := h
  have e : q2c 24 c 0 p k' t' n' ks' = bif eqI k' 53 && (eqS t' c && decide (ks'.cnt = p.cnt)) then q4r p ks' else none := rfl
  rw [e] at h1
  cases hc : eqI k' 53 && (eqS t' c && decide (ks'.cnt = p.cnt)) with
  | false => rw [hc] at h1; cases h1
  | true =>
   rw [hc] at h1
   rw [Bool.and_eq_true, Bool.and_eq_true] at hc
   have e1 : k' = 53 := of_decide_eq_true hc.1
   have e2 := eqS_eq.1 hc.2.1
   have e3 := of_decide_eq_true hc.2.2
   subst e1 e2
   exact ⟨n', ks', r', rfl, e3, h1, h2⟩
theorem qvf {s : Sl DD} (hL : GD s.l) (hok : s.l.all q23 = true) {k : Int} {t : Tx} {n : Int} {ks : F} {d : DD} (hd : s.l.find? (q49 k t (ks.cnt : Int)) = some d) (hT : q2w (tr k t n ks).flat = true) {c : CT} (hc : c ∈ d.2.2.l) (b : Bool) :
  ∃ (nb : Bool) (al : List SN) (As : List (List ND)), f_b4 (s, ⟨b, (tr k t n ks).flat⟩, c.1, ()) = some (⟨nb, al⟩, true, ()) ∧ al.map Sl.l = As ∧ qgn s.l (tr k t n ks).flat c.1 = some As ∧ As.length ≤ 8 ∧ qp8 As ∧ gT c.1 := by
 have hm := List.mem_of_find?_eq_some hd
 obtain ⟨hT1, _⟩ := (q31 _).1 hT
 rw [q1w] at hT1
 cases hf : d.2.2.l.find? (fun x => eqS x.1 c.1) with
 | none => exact absurd (q50 c.1) (List.find?_eq_none.1 hf c hc)
 | some c0 =>
  have hv : conV s.l k t (ks.cnt : Int) c.1 = some c0 := by unfold conV; rw [hd]; exact hf
  have hc0 := List.mem_of_find?_eq_some hf
  obtain ⟨r1, r2, r3, r4, r5, r6⟩ := q9q hok hm hc0
  refine ⟨_, _, c0.2.l.map fun a => argT ks.trees a.l, qd9 s hL b k t n ks hT1 c.1 c0 hv, ?_, ?_, by rw [List.length_map]; exact r2, ?_, ((hL.2 d hm).2.2 c hc).1⟩
  ·rw [List.map_map]
   exact List.map_congr_left fun a _ => qit true ks.trees a
  ·rw [qbj, hv]; rfl
  ·intro A hA
   obtain ⟨a, ha, rfl⟩ := List.mem_map.1 hA
   exact qgm hT (r3 a ha)
theorem qvg {s : Sl DD} (hL : GD s.l) (hok : s.l.all q23 = true) {M : Nat} {self : (SSN × SR × Sl DD × Unit) → Option (SSN × Bool × Sl DD × Unit)} (hself : qn2 s M self) {types : SSN} {rows : SR} {fs : List F} {b : Bool} {k : Int} {t : Tx} {n : Int} {ks : F} {tl : List SN}
  (hty : types.l = ⟨b, (tr k t n ks).flat⟩ :: tl) {Ts : List (List ND)} (htl : tl.map Sl.l = Ts) (hR : RS rows fs) (hrows : qdj s.l ((tr k t n ks).flat :: Ts) fs) (htys : qp8 ((tr k t n ks).flat :: Ts)) (hmu : mu fs (Ts.length + 1) ≤ M + 1) (hM : M ≤ 8000)
  {d : DD} (hd : s.l.find? (q49 k t (ks.cnt : Int)) = some d) {i : Nat} {c : CT} (hc : d.2.2.l[i]? = some c) (hi : i ≤ 1000) (hbeg : fs.any (q1a 24 c.1 0) = true) :
  (l1_b8 self (types, ⟨b, (tr k t n ks).flat⟩, d.2.2, lenI d.2.2.l, (i : Int), s, rows, ()) = some (.inl (types, ⟨b, (tr k t n ks).flat⟩, d.2.2, lenI d.2.2.l, ((i + 1 : Nat) : Int), s, rows, ())) ∧ NoV s.l ((tr k t n ks).flat :: Ts) fs c.1) ∨
  (∃ w, l1_b8 self (types, ⟨b, (tr k t n ks).flat⟩, d.2.2, lenI d.2.2.l, (i : Int), s, rows, ()) = some (.inr (w, true, s, ())) ∧ ql0 s.l ((tr k t n ks).flat :: Ts) fs w true) := by
 have hT := htys _ (List.mem_cons_self ..)
 obtain ⟨nb, al, As, ha, hal, hAs, h8, hAt, hgc⟩ := qvf hL hok hd hT (List.mem_of_getElem? hc) b
 have hall : al.length = As.length := by rw [← hal, List.length_map]
 have htll : tl.length = Ts.length := by rw [← htl, List.length_map]
 have hmu' : mu fs (Ts.length + 1) = 20 * q3s fs + (Ts.length + 1) := rfl
 obtain ⟨nb1, hcc⟩ := q2s false ⟨nb, al⟩ ⟨types.nil, tl⟩ (by show al.length + tl.length ≤ _; omega)
 have hcc : f_c9 (⟨false, [⟨nb, al⟩, ⟨types.nil, tl⟩]⟩, ()) = some (⟨nb1, al ++ tl⟩, ()) := hcc
 have hnn : ∀ f, f ∈ fs → f ≠ .nil := fun f hf e => by
  have := (hrows.2 f hf).1
  rw [e] at this
  exact absurd this (by show ¬ (0 = Ts.length + 1); omega)
 obtain ⟨rows', hun, hR'⟩ := qp6 c.1 As.length (by omega) rows fs hR hnn (fun f hf => (hrows.2 f hf).2.1) (fun f hf => by have := (hrows.2 f hf).2.2.1; omega) hrows.1
 have hclo := qdi (q37 c.1 As.length) (fun f g hu => by
  cases f with
  | nil => cases hu
  | cons k t n ks r =>
   have hu : (bif q1q k then some ((anyF As.length).app r) else bif eqI k 24 && eqS t c.1 then some (ks.app r) else none) = some g := hu
   rw [q54]
   cases hw : q1q k with
   | true => rw [hw] at hu; injection hu with hu; subst hu; rw [qaq, qgp]; omega
   | false =>
    cases hk : eqI k 24 && eqS t c.1 with
    | false => rw [hw, hk] at hu; cases hu
    | true => rw [hw, hk] at hu; injection hu with hu; subst hu; rw [qaq]; omega) fs
 obtain ⟨x, hx, hxr⟩ := List.any_eq_true.1 hbeg
 have hless := hclo.2 x hx (qp7 hxr)
 have hlen2 : (As ++ Ts).length = As.length + Ts.length := List.length_append
 have hmu2 : mu (fs.filterMap (q37 c.1 As.length)) (As ++ Ts).length + 13 ≤ mu fs (Ts.length + 1) := by
  rw [hlen2, hmu']
  show 20 * q3s (fs.filterMap _) + (As.length + Ts.length) + 13 ≤ _
  omega
 have hrows' : qdj s.l (As ++ Ts) (fs.filterMap (q37 c.1 As.length)) := by
  refine ⟨Nat.le_trans (qw6 _ _) hrows.1, fun g hg => ?_⟩
  obtain ⟨f, hf, hu⟩ := List.mem_filterMap.1 hg
  obtain ⟨q1, q2, q3, q4⟩ := hrows.2 f hf
  obtain ⟨p1, p2, p3, p4, _⟩ := qsy hAs rfl q4 q2 hu
  have q1 : f.cnt = Ts.length + 1 := q1
  have q3 : f.size + mu fs (Ts.length + 1) ≤ 9999 := q3
  exact ⟨by omega, p2, by omega, p4⟩
 obtain ⟨w, ok, hs, hF⟩ := hself ⟨nb1, al ++ tl⟩ rows' (As ++ Ts) _ (by show (al ++ tl).map Sl.l = _; rw [List.map_append, hal, htl]) hR' hrows' (fun T h => by
  rcases List.mem_append.1 h with h | h
  ·exact hAt T h
  ·exact htys T (List.mem_cons_of_mem _ h)) (by omega)
 have hlA : lenI al = ((As.length : Nat) : Int) := by unfold lenI; rw [hall]
 have hcut : cutL types.l 1 (lenI types.l) = some tl := by rw [hty]; exact cut1
 have hadd := add1 (show i ≤ 1000000000 by omega)
 have hmt : ∀ (n' : Int) (ks' r' : F), ks'.cnt = As.length → ∀ f, f ∈ fs → mt f (.cons 53 c.1 n' ks' r') = match q37 c.1 As.length f with | some g => mt g (ks'.app r') | none => false := fun n' ks' r' hk f hf => by
  obtain ⟨q1, q2, q3, q4⟩ := hrows.2 f hf
  rw [qvc c.1 n' ks' r' f q2 (fun k t n ks r e h => (qsz hAs rfl q4 k t n ks r e h).trans hk.symm) (hnn f hf), hk] <;> (cases q37 c.1 As.length f <;> rfl)
 cases ok with
 | false =>
  refine .inl ⟨?_, fun n' ks' r' g1 g2 g3 => ?_⟩
  ·unfold l1_b8
   simp only [ltG hc, q04, q07 hc, q00, ha, hcut, hcc, hlA, hun, hs, q01, hadd]
  ·obtain ⟨As', a1, a2, a3, a4⟩ := qn1 (.inr rfl) g3
   rw [hAs] at a1; injection a1 with a1; subst a1
   have g1 : r'.cnt + 1 = Ts.length + 1 := g1
   have hv := all_cons g2
   obtain ⟨f', hf', hm'⟩ := hF.2 rfl (ks'.app r') (by rw [F.app_cnt, hlen2]; omega) (qkw hv.2.1 hv.2.2) (by rw [qn0 s.l _ _ _ _ a2, a3, a4]; rfl)
   obtain ⟨f, hf, hu⟩ := List.mem_filterMap.1 hf'
   refine ⟨f, hf, ?_⟩
   rw [hmt n' ks' r' a2.symm f hf, hu]
   exact hm'
 | true =>
  obtain ⟨W, w1, w2, w3, w4, w5⟩ := hF.1 rfl
  obtain ⟨p, q, hW, hp⟩ := W.cut2 As.length (by rw [w2, hlen2]; omega)
  subst hW
  rw [F.app_cnt, hlen2] at w2
  have hwm : w.l.map Sl.l = p.trees ++ q.trees := by rw [← qdg]; exact w1
  have hwl : w.l.length = As.length + Ts.length := by
   have := congrArg List.length hwm
   rw [List.length_map, List.length_append, F.trees_len, F.trees_len] at this
   omega
  have htk : (w.l.take As.length).map Sl.l = p.trees := by
   rw [List.map_take, hwm, List.take_append_of_le_length (by rw [F.trees_len]; omega), List.take_of_length_le (by rw [F.trees_len]; omega)]
  have hdr : (w.l.drop As.length).map Sl.l = q.trees := by
   rw [List.map_drop, hwm, List.drop_append_of_le_length (by rw [F.trees_len]; omega), List.drop_of_length_le (by rw [F.trees_len]; omega), List.nil_append]
  have hsz : (p.app q).size = p.size + q.size := qbm p q
  obtain ⟨nb2, hmk⟩ := qj0 24 c.1 0 0 ⟨w.nil, w.l.take As.length⟩ (by show (w.l.take As.length).length ≤ _; rw [List.length_take]; omega) (by
   show ((w.l.take As.length).map Sl.l).flatten.length ≤ _
   rw [htk, F.trees_flat, F.len]; omega)
  have hnode : (24, c.1, 0, ((w.l.take As.length).length : Int)) :: ((w.l.take As.length).map Sl.l).flatten = (tr 24 c.1 0 p).flat := by
   rw [htk, F.trees_flat, q3d, List.length_take, hwl, hp, Nat.min_eq_left (by omega)]
  have hmk : f_dv ((24, c.1, 0, 0), ⟨w.nil, w.l.take As.length⟩, ()) = some (⟨nb2, (tr 24 c.1 0 p).flat⟩, ()) := by rw [hmk]; exact congrArg (fun l => some ((⟨nb2, l⟩ : SN), ())) hnode
  obtain ⟨nb3, hcc2⟩ := q2s false ⟨false, [⟨nb2, (tr 24 c.1 0 p).flat⟩]⟩ ⟨w.nil, w.l.drop As.length⟩ (by show 1 + (w.l.drop As.length).length ≤ _; rw [List.length_drop]; omega)
  refine .inr ⟨⟨nb3, (⟨nb2, (tr 24 c.1 0 p).flat⟩ : SN) :: w.l.drop As.length⟩, ?_, fun _ => ⟨.cons 24 c.1 0 p q, ?_, ?_, ?_, ?_, ?_⟩, fun h => by cases h⟩
  ·unfold l1_b8
   simp only [ltG hc, q04, q07 hc, q00, ha, hcut, hcc, hlA, hun, hs, qya w.l As.length (by omega), hmk, qzi w.l As.length (by omega), hcc2]
   rfl
  ·show (tr 24 c.1 0 p).flat :: (w.l.drop As.length).map Sl.l = (tr 24 c.1 0 p).flat :: q.trees
   rw [hdr]
  ·show q.cnt + 1 = Ts.length + 1
   omega
  ·show p.size + q.size + 1 ≤ mu fs (Ts.length + 1)
   omega
  ·intro x hx
   have hx : x ∈ (24, c.1, 0, (p.cnt : Int)) :: (p.flat ++ q.flat) := hx
   rcases List.mem_cons.1 hx with rfl | hx
   ·exact ⟨hgc.1, hgc.2, by show rng 0; unfold rng; omega⟩
   ·exact w4 x (by rw [F.app_flat]; exact hx)
  ·intro g hg hm f hf
   obtain ⟨n', ks', r', rfl, e1, e2, e3⟩ := qzj hm
   have hg : r'.cnt + 1 = Ts.length + 1 := hg
   have hks : ks'.cnt = As.length := by omega
   rw [hmt n' ks' r' hks f hf]
   cases hu : q37 c.1 As.length f with
   | none => rfl
   | some f' =>
    exact w5 (ks'.app r') (by rw [F.app_cnt, hlen2]; omega) (by rw [qmz _ _ _ _ (by omega), e2, e3]; rfl) f' (List.mem_filterMap.2 ⟨f, hf, hu⟩)
end Fn
end Ev

namespace Ev
open Go
namespace Fn
theorem gap : ∀ (n : Nat) (l : List Int), l.length ≤ n → ∃ N : Nat, N ≤ n ∧ (N : Int) ∉ l
 | 0, l, h => ⟨0, Nat.le_refl _, by rw [List.eq_nil_of_length_eq_zero (Nat.le_zero.1 h)]; exact fun h => by cases h⟩
 | n + 1, l, h => by
  by_cases hm : (((n + 1 : Nat)) : Int) ∈ l
  ·obtain ⟨N, h1, h2⟩ := gap n (l.erase ((n + 1 : Nat) : Int)) (by rw [List.length_erase_of_mem hm]; omega)
   exact ⟨N, by omega, fun hN => h2 ((List.mem_erase_of_ne (by omega)).2 hN)⟩
  ·exact ⟨n + 1, Nat.le_refl _, hm⟩
def z09 : F → Int
 | .nil => 0
 | .cons _ _ n _ _ => n
theorem qyb (fs : List F) : ∃ N : Nat, N ≤ fs.length ∧ fs.any (q1a 23 [] N) = false := by
 obtain ⟨N, h1, h2⟩ := gap fs.length (fs.map z09) (by rw [List.length_map]; exact Nat.le_refl _)
 refine ⟨N, h1, ?_⟩
 cases h : fs.any (q1a 23 [] N) with
 | false => rfl
 | true =>
  obtain ⟨f, hf, hr⟩ := List.any_eq_true.1 h
  refine absurd (List.mem_map.2 ⟨f, hf, ?_⟩) h2
  cases f with
  | nil => cases hr
  | cons k t n ks r =>
   have hr : (eqI k 23 && (eqS t [] && eqI n N)) = true := hr
   rw [Bool.and_eq_true, Bool.and_eq_true] at hr
   exact of_decide_eq_true hr.2.2
theorem qvh (s : Sl DD) (w : SSN) (rows : SR) (fs : List F) (h : RS rows fs) (hn : ∀ f, f ∈ fs → f ≠ .nil) (hl : fs.length ≤ 1000) :
  ∃ N : Nat, N ≤ 1000 ∧ fs.any (q1a 23 [] N) = false ∧ loopR l2_b8 (w, 0, s, rows, ()) = some (.inl (w, ⟨false, [(23, [], (N : Int), 0)]⟩, s, ())) := by
 obtain ⟨B, b1, b2⟩ := qyb fs
 have := q29 (f := l2_b8) (I := fun z => ∃ n : Nat, z = (w, (n : Int), s, rows, ()) ∧ n ≤ B)
  (Q := fun r => ∃ N : Nat, N ≤ 1000 ∧ fs.any (q1a 23 [] N) = false ∧ r = .inl (w, ⟨false, [(23, [], (N : Int), 0)]⟩, s, ())) (fun z => ((B : Int) - z.2.1).toNat) ?_ (w, 0, s, rows, ()) ⟨0, rfl, Nat.zero_le _⟩
 ·obtain ⟨r, h1, N, h2, h3, h4⟩ := this
  exact ⟨N, h2, h3, by rw [h1, h4]⟩
 ·rintro z ⟨n, rfl, hnB⟩
  have hb := qdh 23 [] (n : Int) rows fs h hn hl
  cases hc : fs.any (q1a 23 [] n) with
  | true =>
   rw [hc] at hb
   have hne : n ≠ B := fun e => by rw [e, b2] at hc; cases hc
   refine .inl ⟨(w, ((n + 1 : Nat) : Int), s, rows, ()), ?_, ⟨n + 1, rfl, by omega⟩, by simp only; omega⟩
   unfold l2_b8
   simp only [hb, q00, q04, add1 (show n ≤ 1000000000 by omega)]
  | false =>
   rw [hc] at hb
   refine .inr ⟨.inl (w, ⟨false, [(23, [], (n : Int), 0)]⟩, s, ()), ?_, n, by omega, hc, rfl⟩
   unfold l2_b8
   simp only [hb, q00, q01]
theorem q8p {L : List DD} {T : List ND} {Ts : List (List ND)} {fs : List F} {w : SSN} {q : F} (w1 : RowOf w q) (w2 : q.cnt = Ts.length) (w4 : GL q.flat) (w5 : ∀ g : F, g.cnt = Ts.length → mt q g = true → ∀ f, f ∈ fs.filterMap q8o → mt f g = false)
  (hnn : ∀ f, f ∈ fs → f ≠ .nil) {kN : Int} {tN : Tx} {nN : Int} {ksN : F} (hgN : GL (tr kN tN nN ksN).flat) (hsz : ksN.size + q.size + 1 ≤ mu fs (Ts.length + 1))
  (hcl : ∀ f, f ∈ fs → q3k f = false → ∀ k' t' n' ks' r', (q2c kN tN nN ksN k' t' n' ks').isSome = true → mt f (.cons k' t' n' ks' r') = false) (nb b : Bool) :
  ql0 L (T :: Ts) fs ⟨nb, (⟨b, (tr kN tN nN ksN).flat⟩ : SN) :: w.l⟩ true := by
 refine ⟨fun _ => ⟨.cons kN tN nN ksN q, ?_, ?_, hsz, ?_, ?_⟩, fun h => by cases h⟩
 ·show (tr kN tN nN ksN).flat :: w.l.map Sl.l = (tr kN tN nN ksN).flat :: q.trees
  rw [show w.l.map Sl.l = q.trees from w1]
 ·show q.cnt + 1 = Ts.length + 1
  rw [w2]
 ·intro x hx
  have hx : x ∈ (kN, tN, nN, (ksN.cnt : Int)) :: (ksN.flat ++ q.flat) := hx
  have hg' : GL ((kN, tN, nN, (ksN.cnt : Int)) :: ksN.flat) := by rw [← q3d]; exact hgN
  rcases List.mem_cons.1 hx with rfl | hx
  ·exact hg' _ (List.mem_cons_self ..)
  ·rcases List.mem_append.1 hx with hx | hx
   ·exact hg' _ (List.mem_cons_of_mem _ hx)
   ·exact w4 x hx
 ·intro g hg hm f hf
  cases g with
  | nil => cases hm
  | cons k' t' n' ks' r' =>
   rw [q4s, Bool.and_eq_true] at hm
   cases hw : q3k f with
   | false => exact hcl f hf hw k' t' n' ks' r' hm.1
   | true =>
    cases f with
    | nil => exact absurd rfl (hnn _ hf)
    | cons k t n ks r =>
     have hw : q1q k = true := hw
     have hg : r'.cnt + 1 = Ts.length + 1 := hg
     rw [q4s, qar hw, Bool.true_and]
     refine w5 r' (by omega) hm.2 r (List.mem_filterMap.2 ⟨_, hf, ?_⟩)
     show (bif q1q k then some r else none) = _
     rw [hw]; rfl
theorem qt0 {k : Int} {t : Tx} {n : Int} {ks r : F} (hQ : (F.cons k t n ks r).flat.all patQ = true) (hw : q1q k = false) : (k = 23 ∧ t = []) ∨ (k = 24 ∧ n = 0) := by
 have hP := (all_cons hQ).1
 unfold patQ patP at hP
 simp only [Bool.and_eq_true] at hP
 have k1 : (21 : Int) ≤ k := of_decide_eq_true hP.1.1
 have k2 : k ≤ (24 : Int) := of_decide_eq_true hP.1.2
 unfold q1q at hw
 rw [Bool.or_eq_false_iff] at hw
 have n21 : k ≠ 21 := fun e => by rw [e] at hw; cases hw.1
 have n22 : k ≠ 22 := fun e => by rw [e] at hw; cases hw.2
 by_cases e23 : k = 23
 ·subst e23
  have h : eqS t [] = true := hP.2.1
  exact .inl ⟨rfl, eqS_eq.1 h⟩
 ·have e24 : k = 24 := by omega
  subst e24
  have h : eqI n 0 = true := hP.2.2
  exact .inr ⟨rfl, of_decide_eq_true h⟩
theorem qp9 {fs : List F} (hQ : ∀ f, f ∈ fs → f.flat.all patQ = true) {c : Tx} {ksN : F} (hno : fs.any (q1a 24 c 0) = false) : ∀ f, f ∈ fs → q3k f = false → ∀ k' t' n' ks' r', (q2c 24 c 0 ksN k' t' n' ks').isSome = true → mt f (.cons k' t' n' ks' r') = false := by
 intro f hf hw k' t' n' ks' r' hm
 have hm2 : mt (.cons 24 c 0 ksN .nil) (.cons k' t' n' ks' .nil) = true := by rw [q4s, hm]; rfl
 obtain ⟨_, _, _, e, _⟩ := qzj hm2
 injection e with e1 e2 _ _ _
 subst e1 e2
 cases f with
 | nil => cases hw
 | cons k t n ks r =>
  have hr : q1a 24 t' 0 (.cons k t n ks r) = false := by
   cases h : q1a 24 t' 0 (.cons k t n ks r) with
   | false => rfl
   | true => rw [List.any_eq_true.2 ⟨_, hf, h⟩] at hno; cases hno
  rw [q4s]
  rcases qt0 (hQ _ hf) hw with ⟨rfl, rfl⟩ | ⟨rfl, rfl⟩
  ·rfl
  ·have hr : (true && (eqS t t' && true)) = false := hr
   rw [Bool.true_and, Bool.and_true] at hr
   have hr' : eqS t' t = false := by
    cases h : eqS t' t with
    | false => rfl
    | true => rw [eqS_eq.1 h, q50] at hr; cases hr
   have e : q2c 24 t 0 ks 53 t' n' ks' = bif true && (eqS t' t && decide (ks'.cnt = ks.cnt)) then q4r ks ks' else none := rfl
   rw [e, hr']; rfl
theorem qpa {fs : List F} (hQ : ∀ f, f ∈ fs → f.flat.all patQ = true) {N : Int} {ksN : F} (hno : fs.any (q1a 23 [] N) = false) : ∀ f, f ∈ fs → q3k f = false → ∀ k' t' n' ks' r', (q2c 23 [] N ksN k' t' n' ks').isSome = true → mt f (.cons k' t' n' ks' r') = false := by
 intro f hf hw k' t' n' ks' r' hm
 have e : q2c 23 [] N ksN k' t' n' ks' = bif eqI k' 51 && eqI n' N then some [] else none := rfl
 rw [e] at hm
 cases hc : eqI k' 51 && eqI n' N with
 | false => rw [hc] at hm; cases hm
 | true =>
  rw [Bool.and_eq_true] at hc
  have e1 : k' = 51 := of_decide_eq_true hc.1
  have e2 : n' = N := of_decide_eq_true hc.2
  subst e1 e2
  cases f with
  | nil => cases hw
  | cons k t n ks r =>
   have hr : q1a 23 [] n' (.cons k t n ks r) = false := by
    cases h : q1a 23 [] n' (.cons k t n ks r) with
    | false => rfl
    | true => rw [List.any_eq_true.2 ⟨_, hf, h⟩] at hno; cases hno
   rw [q4s]
   rcases qt0 (hQ _ hf) hw with ⟨rfl, rfl⟩ | ⟨rfl, rfl⟩
   ·have hr : eqI n n' = false := hr
    have hr' : eqI n' n = false := by
     cases h : eqI n' n with
     | false => rfl
     | true =>
      have : n' = n := of_decide_eq_true h
      rw [this, q4z] at hr; cases hr
    have e : q2c 23 [] n ks 51 t' n' ks' = bif true && eqI n' n then some [] else none := rfl
    rw [e, hr']; rfl
   ·rfl
end Fn
end Ev

namespace Ev
open Go
namespace Fn
theorem qyc {α γ : Type} (f : α → Option γ) (a : α) : sumE f (Sum.inl a : α ⊕ γ) = f a := rfl
theorem ql1 (s : Sl DD) (hL : GD s.l) (b : Bool) (k : Int) (t : Tx) (n : Int) (ks : F) :
  ∃ (d : DD) (o : Bool), f_b6 (s, ⟨b, (tr k t n ks).flat⟩, ()) = some (d, o, ()) ∧ (s.l.find? (q49 k t (ks.cnt : Int)) = some d ∨ d.2.2.l = []) := by
 have hx : (⟨b, (tr k t n ks).flat⟩ : SN).l[0]? = some (k, t, n, (ks.cnt : Int)) := rfl
 cases hd : s.l.find? (q49 k t (ks.cnt : Int)) with
 | none => exact ⟨_, _, q9p s hL.1 _ _ hx hd, .inr rfl⟩
 | some d => exact ⟨_, _, q6j s hL.1 _ _ hx hd, .inl rfl⟩
theorem qn3 {s : Sl DD} {self : (SSN × SR × Sl DD × Unit) → Option (SSN × Bool × Sl DD × Unit)} {types : SSN} {rows : SR} {fs : List F} (hty : types.l = []) (hR : RS rows fs) (hrows : qdj s.l [] fs) :
  ∃ w ok, g_b8 self (types, rows, s, ()) = some (w, ok, s, ()) ∧ ql0 s.l [] fs w ok := by
 obtain ⟨tn, tl⟩ := types
 have hty : tl = [] := hty
 subst hty
 refine ⟨⟨true, []⟩, eqI (lenI rows.l) 0, ?_, ?_, ?_⟩
 ·rw [u_b8]; rfl
 ·intro h
  have h0 : (rows.l.length : Int) = 0 := of_decide_eq_true h
  have hl := hR.len
  have : fs = [] := List.eq_nil_of_length_eq_zero (by omega)
  subst this
  exact ⟨.nil, rfl, rfl, Nat.zero_le _, (fun x hx => by cases hx), fun g _ _ f hf => by cases hf⟩
 ·intro h g hg _ _
  cases fs with
  | nil =>
   have hl := hR.len
   have hl : rows.l.length = 0 := hl
   unfold lenI at h
   rw [hl] at h; cases h
  | cons f fs =>
   refine ⟨f, List.mem_cons_self .., ?_⟩
   have h1 : f.cnt = 0 := (hrows.2 f (List.mem_cons_self ..)).1
   have h2 : g.cnt = 0 := hg
   cases f with
   | cons k t n ks r => exact absurd h1 (by show ¬ (r.cnt + 1 = 0); omega)
   | nil => cases g with
    | cons k t n ks r => exact absurd h2 (by show ¬ (r.cnt + 1 = 0); omega)
    | nil => rfl
theorem qt1 {s : Sl DD} (hL : GD s.l) (hok : s.l.all q23 = true) {M : Nat} {self : (SSN × SR × Sl DD × Unit) → Option (SSN × Bool × Sl DD × Unit)} (hself : qn2 s M self) (hM : M ≤ 8000) : qn2 s (M + 1) (g_b8 self) := by
 intro types rows Ts0 fs hT0 hR hrows htys hmu
 cases hty : types.l with
 | nil =>
  rw [hty] at hT0
  subst hT0
  exact qn3 hty hR hrows
 | cons T0 tl =>
  rw [hty] at hT0
  obtain ⟨b, T⟩ := T0
  subst hT0
  have htys' : qp8 (T :: tl.map Sl.l) := htys
  obtain ⟨k, t, n, ks, rfl⟩ := ((q31 T).1 (htys' T (List.mem_cons_self ..))).2.2
  generalize hTs : tl.map Sl.l = Ts at *
  have hrows : qdj s.l ((tr k t n ks).flat :: Ts) fs := by rw [← hTs]; exact hrows
  have hmu : mu fs (Ts.length + 1) ≤ M + 1 := by rw [← hTs]; exact hmu
  have htys : qp8 ((tr k t n ks).flat :: Ts) := by rw [← hTs]; exact htys
  show ∃ w ok, _ ∧ ql0 s.l ((tr k t n ks).flat :: tl.map Sl.l) fs w ok
  rw [hTs]
  have htll : tl.length = Ts.length := by rw [← hTs, List.length_map]
  have hmu' : mu fs (Ts.length + 1) = 20 * q3s fs + (Ts.length + 1) := rfl
  have hnn : ∀ f, f ∈ fs → f ≠ .nil := fun f hf e => by
   have := (hrows.2 f hf).1
   rw [e] at this
   exact absurd this (by show ¬ (0 = Ts.length + 1); omega)
  have hQ : ∀ f, f ∈ fs → f.flat.all patQ = true := fun f hf => (hrows.2 f hf).2.1
  obtain ⟨d, o, hdec, hd⟩ := ql1 s hL b k t n ks
  have hcs : d.2.2.l.length ≤ 1000 := by
   rcases hd with hd | hd
   ·exact (hL.2 d (List.mem_of_find?_eq_some hd)).2.1
   ·rw [hd]; exact Nat.zero_le _
  have hop := qsv d.2.2 hcs rows fs hR hnn hrows.1
  have hn0 : eqI (lenI types.l) 0 = false := q1r (by rw [hty]; show ((tl.length + 1 : Nat) : Int) ≠ 0; omega)
  have ha0 : at? types.l 0 = some ⟨b, (tr k t n ks).flat⟩ := by rw [hty]; rfl
  have hcut : cutL types.l 1 (lenI types.l) = some tl := by rw [hty]; exact cut1
  rw [u_b8]
  simp only [hn0, q01, ha0, q00, hdec, hop]
  by_cases hA : ltI 0 (lenI d.2.2.l) = true ∧ (d.2.2.l.any fun c : CT => !fs.any (q1a 24 c.1 0)) = false
  ·
   obtain ⟨hA1, hA2⟩ := hA
   have hd : s.l.find? (q49 k t (ks.cnt : Int)) = some d := by
    rcases hd with hd | hd
    ·exact hd
    ·rw [hd] at hA1; cases hA1
   have hx : ltI (ixP (fun c : CT => !fs.any (q1a 24 c.1 0)) 0 d.2.2.l) 0 = true := by rw [qvv, hA2]; rfl
   simp only [hA1, q04, hx, q00]
   have := q29 (f := l1_b8 self) (I := fun z => ∃ i : Nat, z = (types, ⟨b, (tr k t n ks).flat⟩, d.2.2, lenI d.2.2.l, (i : Int), s, rows, ()) ∧ i ≤ d.2.2.l.length ∧ ∀ (j : Nat) c, j < i → d.2.2.l[j]? = some c → NoV s.l ((tr k t n ks).flat :: Ts) fs c.1)
    (Q := fun r => ∃ w ok, r = (w, ok, s, ()) ∧ ql0 s.l ((tr k t n ks).flat :: Ts) fs w ok) (fun z => ((d.2.2.l.length : Int) - z.2.2.2.2.1).toNat) ?_ (types, ⟨b, (tr k t n ks).flat⟩, d.2.2, lenI d.2.2.l, 0, s, rows, ()) ⟨0, rfl, Nat.zero_le _, fun j c hj => by omega⟩
   ·obtain ⟨r, h1, w, ok, h2, h3⟩ := this
    exact ⟨w, ok, by rw [h1, h2], h3⟩
   ·rintro z ⟨i, rfl, hi, hall⟩
    by_cases h1 : i < d.2.2.l.length
    ·obtain ⟨c, hc⟩ : ∃ c, d.2.2.l[i]? = some c := ⟨_, List.getElem?_eq_getElem h1⟩
     have hbeg : fs.any (q1a 24 c.1 0) = true := by
      cases hb : fs.any (q1a 24 c.1 0) with
      | true => rfl
      | false => rw [List.any_eq_true.2 ⟨c, List.mem_of_getElem? hc, by rw [hb]; rfl⟩] at hA2; cases hA2
     rcases qvg hL hok hself hty hTs hR hrows htys hmu hM hd hc (by omega) hbeg with ⟨g1, g2⟩ | ⟨w, g1, g2⟩
     ·refine .inl ⟨_, g1, ⟨i + 1, rfl, h1, fun j c' hj hc' => ?_⟩, by simp only; omega⟩
      by_cases hji : j = i
      ·subst hji
       rw [hc] at hc'; injection hc' with hc'; subst hc'
       exact g2
      ·exact hall j c' (by omega) hc'
     ·exact .inr ⟨_, g1, w, true, rfl, g2⟩
    ·obtain rfl : i = d.2.2.l.length := by omega
     refine .inr ⟨(⟨true, []⟩, false, s, ()), ?_, _, _, rfl, fun h => (by cases h), fun _ g hg hv hof => ?_⟩
     ·unfold l1_b8
      simp only [ltE, q01]
     ·cases g with
      | nil => exact absurd hg (by show ¬ (0 = Ts.length + 1); omega)
      | cons k' t' n' ks' r' =>
       obtain ⟨rfl, c, hc, rfl⟩ := qve hok hd hv hof
       obtain ⟨j, hj, hje⟩ := List.mem_iff_getElem.1 hc
       exact hall j c hj (by rw [List.getElem?_eq_getElem hj, hje]) n' ks' r' hg hv hof
  ·
   have hx3 : bnd (cnd (ltI 0 (lenI d.2.2.l)) (some (ltI (ixP (fun c : CT => !fs.any (q1a 24 c.1 0)) 0 d.2.2.l) 0)) (some false)) (fun x3 => some x3) = some false := by
    cases h0 : ltI 0 (lenI d.2.2.l) with
    | false => rfl
    | true =>
     rw [qvv]
     cases h1 : d.2.2.l.any fun c : CT => !fs.any (q1a 24 c.1 0) with
     | true => rfl
     | false => exact absurd ⟨h0, h1⟩ hA
   have hx3 : cnd (ltI 0 (lenI d.2.2.l)) (some (ltI (ixP (fun c : CT => !fs.any (q1a 24 c.1 0)) 0 d.2.2.l) 0)) (some false) = some false := by
    cases h : cnd (ltI 0 (lenI d.2.2.l)) (some (ltI (ixP (fun c : CT => !fs.any (q1a 24 c.1 0)) 0 d.2.2.l) 0)) (some false) with
    | none => rw [h] at hx3; cases hx3
    | some y => rw [h] at hx3; exact hx3
   obtain ⟨rows', hrest, hR'⟩ := qsw rows fs hR hnn hrows.1
   have hclo := qdi q8o (fun f g hu => by
    cases f with
    | nil => cases hu
    | cons k t n ks r =>
     have hu : (bif q1q k then some r else none) = some g := hu
     rw [q54]
     cases hw : q1q k with
     | true => rw [hw] at hu; injection hu with hu; subst hu; omega
     | false => rw [hw] at hu; cases hu) fs
   have hmu2 : mu (fs.filterMap q8o) Ts.length + 1 ≤ mu fs (Ts.length + 1) := by
    rw [hmu']
    show 20 * q3s (fs.filterMap q8o) + Ts.length + 1 ≤ _
    have := hclo.1
    omega
   have hrows' : qdj s.l Ts (fs.filterMap q8o) := by
    refine ⟨Nat.le_trans (qw6 _ _) hrows.1, fun g hg => ?_⟩
    obtain ⟨f, hf, hu⟩ := List.mem_filterMap.1 hg
    obtain ⟨q1, q2, q3, q4⟩ := hrows.2 f hf
    obtain ⟨p1, p2, p3, p4, _⟩ := qvd q4 q2 hu
    have q1 : f.cnt = Ts.length + 1 := q1
    have q3 : f.size + mu fs (Ts.length + 1) ≤ 9999 := q3
    exact ⟨by omega, p2, by omega, p4⟩
   obtain ⟨w, ok, hs, hF⟩ := hself ⟨types.nil, tl⟩ rows' Ts _ hTs hR' hrows' (fun T h => htys T (List.mem_cons_of_mem _ h)) (by omega)
   have hcl := qkx rows fs hR hnn hrows.1
   simp only [hx3, q00, q01, hcut, hrest, hs]
   cases ok with
   | false =>
    simp only [nF, q04]
    refine ⟨_, _, rfl, (fun h => by cases h), fun _ g hg hv hof => ?_⟩
    cases g with
    | nil => exact absurd hg (by show ¬ (0 = Ts.length + 1); omega)
    | cons k' t' n' ks' r' =>
     have hg : r'.cnt + 1 = Ts.length + 1 := hg
     obtain ⟨f', hf', hm'⟩ := hF.2 rfl r' (by omega) (all_cons hv).2.2 (qky hof)
     obtain ⟨f, hf, hu⟩ := List.mem_filterMap.1 hf'
     refine ⟨f, hf, ?_⟩
     cases f with
     | nil => cases hu
     | cons kf tf nf ksf rf =>
      have hu : (bif q1q kf then some rf else none) = some f' := hu
      cases hw : q1q kf with
      | false => rw [hw] at hu; cases hu
      | true =>
       rw [hw] at hu; injection hu with hu; subst hu
       rw [q4s, qar hw, Bool.true_and]
       exact hm'
   | true =>
    obtain ⟨q, w1, w2, w3, w4, w5⟩ := hF.1 rfl
    have hwl : w.l.length = Ts.length := by
     have := congrArg List.length (show w.l.map Sl.l = q.trees from w1)
     rw [List.length_map, F.trees_len] at this
     omega
    simp only [nT, q01, u_b3, q00, hcl]
    cases hc : fs.any fun f => !q3k f with
    | false =>
     obtain ⟨nb3, hcc⟩ := q2s false ⟨false, [⟨false, [((21 : Int), ([] : Tx), (0 : Int), (0 : Int))]⟩]⟩ w (by show 1 + w.l.length ≤ _; omega)
     simp only [nF, q04, q00, qyc, hcc]
     refine ⟨_, _, rfl, q8p (T := (tr k t n ks).flat) (kN := 21) (tN := []) (nN := 0) (ksN := .nil) w1 w2 w4 w5 hnn ?_ ?_ ?_ nb3 false⟩
     ·exact gAny
     ·show 0 + q.size + 1 ≤ _
      omega
     ·intro f hf hw
      rw [List.any_eq_true.2 ⟨f, hf, by rw [hw]; rfl⟩] at hc; cases hc
    | true =>
     obtain ⟨x, hx, hxw⟩ := List.any_eq_true.1 hc
     have hxw : q3k x = false := by
      cases h : q3k x with
      | false => rfl
      | true => rw [h] at hxw; cases hxw
     have hless := hclo.2 x hx (qkz hxw)
     have hmu3 : mu (fs.filterMap q8o) Ts.length + 21 ≤ mu fs (Ts.length + 1) := by
      rw [hmu']
      show 20 * q3s (fs.filterMap q8o) + Ts.length + 21 ≤ _
      omega
     simp only [nT, q01]
     cases h0 : ltI 0 (lenI d.2.2.l) with
     | true =>
      have hany : d.2.2.l.any (fun c : CT => !fs.any (q1a 24 c.1 0)) = true := by
       cases h1 : d.2.2.l.any fun c : CT => !fs.any (q1a 24 c.1 0) with
       | true => rfl
       | false => exact absurd ⟨h0, h1⟩ hA
      obtain ⟨i, c, i1, i2, i3, _⟩ := qal _ d.2.2.l 0 hany
      rw [Nat.zero_add] at i1
      have hd : s.l.find? (q49 k t (ks.cnt : Int)) = some d := by
       rcases hd with hd | hd
       ·exact hd
       ·rw [hd] at h0; cases h0
      have hm := List.mem_of_find?_eq_some hd
      have hcm := List.mem_of_getElem? i2
      have h8 : c.2.l.length ≤ 8 := (q9q hok hm hcm).2.1
      have hgc := ((hL.2 d hm).2.2 c hcm).1
      have hno : fs.any (q1a 24 c.1 0) = false := by
       have i3 : (!fs.any (q1a 24 c.1 0)) = true := i3
       cases h : fs.any (q1a 24 c.1 0) with
       | false => rfl
       | true => rw [h] at i3; cases i3
      obtain ⟨nbs, hsm⟩ := qiz c.2.l.length (by omega)
      have hsm : f_bp (lenI c.2.l, ()) = some (⟨nbs, List.replicate c.2.l.length anyS⟩, ()) := hsm
      have htr : (List.replicate c.2.l.length anyS).map Sl.l = (anyF c.2.l.length).trees := by rw [qap, List.map_replicate]; rfl
      obtain ⟨nbm, hmk⟩ := qj0 24 c.1 0 0 ⟨nbs, List.replicate c.2.l.length anyS⟩ (by show (List.replicate _ _).length ≤ _; rw [List.length_replicate]; omega) (by
       show ((List.replicate _ _).map Sl.l).flatten.length ≤ _
       rw [htr, F.trees_flat, F.len, q9s]; omega)
      have hnode : (24, c.1, 0, ((List.replicate c.2.l.length anyS).length : Int)) :: ((List.replicate c.2.l.length anyS).map Sl.l).flatten = (tr 24 c.1 0 (anyF c.2.l.length)).flat := by
       rw [htr, F.trees_flat, q3d, List.length_replicate, q9r]
      have hmk : f_dv ((24, c.1, 0, 0), ⟨nbs, List.replicate c.2.l.length anyS⟩, ()) = some (⟨nbm, (tr 24 c.1 0 (anyF c.2.l.length)).flat⟩, ()) := by rw [hmk]; exact congrArg (fun l => some ((⟨nbm, l⟩ : SN), ())) hnode
      obtain ⟨nb3, hcc⟩ := q2s false ⟨false, [⟨nbm, (tr 24 c.1 0 (anyF c.2.l.length)).flat⟩]⟩ w (by show 1 + w.l.length ≤ _; omega)
      simp only [q04, i1, q07 i2, q00, hsm, hmk, qyc, hcc]
      refine ⟨_, _, rfl, q8p (T := (tr k t n ks).flat) (kN := 24) (tN := c.1) (nN := 0) (ksN := anyF c.2.l.length) w1 w2 w4 w5 hnn ?_ ?_ (qp9 hQ hno) nb3 nbm⟩
      ·intro x hx
       rw [q3d] at hx
       rcases List.mem_cons.1 hx with rfl | hx
       ·exact ⟨hgc.1, hgc.2, by show rng 0; unfold rng; omega⟩
       ·have hall : ∀ m, ∀ y, y ∈ (anyF m).flat → y = (21, [], 0, 0) := by
         intro m
         induction m with
         | zero => intro y hy; cases hy
         | succ m ih =>
          intro y hy
          have hy : y ∈ ((21 : Int), ([] : Tx), (0 : Int), (0 : Int)) :: (([] : List ND) ++ (anyF m).flat) := hy
          rcases List.mem_cons.1 hy with rfl | hy
          ·rfl
          ·exact ih y hy
        rw [hall _ x hx]
        exact gAny _ (List.mem_singleton.2 rfl)
      ·rw [q9s]; omega
     | false =>
      obtain ⟨N, n1, n2, n3⟩ := qvh s w rows fs hR hnn hrows.1
      obtain ⟨nb3, hcc⟩ := q2s false ⟨false, [⟨false, [((23 : Int), ([] : Tx), (N : Int), (0 : Int))]⟩]⟩ w (by show 1 + w.l.length ≤ _; omega)
      simp only [q01, n3, q00, qyc, hcc]
      refine ⟨_, _, rfl, q8p (T := (tr k t n ks).flat) (kN := 23) (tN := []) (nN := (N : Int)) (ksN := .nil) w1 w2 w4 w5 hnn ?_ ?_ (qpa hQ n2) nb3 false⟩
      ·intro x hx
       rw [q3d] at hx
       rcases List.mem_cons.1 hx with rfl | hx
       ·exact ⟨fun b hb => (by cases hb), Nat.zero_le _, by show rng (N : Int); unfold rng; omega⟩
       ·cases hx
      ·show 0 + q.size + 1 ≤ _
       omega
end Fn
end Ev

namespace Ev
open Go
namespace Fn
theorem qt2 {σ ρ : Type} {f g : σ → Option (σ ⊕ ρ)} (h : ∀ s, lq (f s) (g s)) (s : σ) : lq (loopR f s) (loopR g s) := fun r e => by
 obtain ⟨n, hn⟩ := q4c e
 exact q6c n (qg9 h n s r hn)
theorem qj2 {K K' : (SSN × SR × Sl DD × Unit) → Option (SSN × Bool × Sl DD × Unit)} (h : ∀ x, lq (K x) (K' x)) (z : SSN × SN × Sl CT × Int × Int × Sl DD × SR × Unit) : lq (l1_b8 K z) (l1_b8 K' z) := by
 unfold l1_b8
 repeat' first | exact h _ | exact q05 _ | apply qih | apply qii | (intro _) | apply qd1
theorem qt3 {K K' : (SSN × SR × Sl DD × Unit) → Option (SSN × Bool × Sl DD × Unit)} (h : ∀ x, lq (K x) (K' x)) (x : SSN × SR × Sl DD × Unit) : lq (g_b8 K x) (g_b8 K' x) := by
 obtain ⟨a, b, c, ⟨⟩⟩ := x
 rw [u_b8, u_b8]
 repeat' first | exact h _ | exact q05 _ | exact qt2 (fun s => qj2 h s) _ | apply qih | apply qii | (intro _) | apply qd1
theorem qt4 : ∀ N, ∀ x, lq (recN g_b8 N x) (recN g_b8 (N + 1) x)
 | 0, _ => fun _ e => by cases e
 | N + 1, x => qt3 (qt4 N) x
theorem qt5 {N : Nat} {x : SSN × SR × Sl DD × Unit} {y : SSN × Bool × Sl DD × Unit} (h : recN g_b8 N x = some y) : ∀ k, recN g_b8 (N + k) x = some y
 | 0 => h
 | k + 1 => qt4 (N + k) x y (qt5 h k)
theorem qw7 {s : Sl DD} (hL : GD s.l) (hok : s.l.all q23 = true) : ∀ M, M ≤ 8000 → qn2 s M (recN g_b8 (M + 1))
 | 0, _ => by
  intro types rows Ts fs hT hR hrows htys hmu
  have h0 : Ts.length = 0 := by unfold mu at hmu; omega
  have : Ts = [] := List.eq_nil_of_length_eq_zero h0
  subst this
  exact qn3 (List.map_eq_nil_iff.1 hT) hR hrows
 | M + 1, h => qt1 hL hok (qw7 hL hok M (by omega)) (by omega)
theorem find_spec {s : Sl DD} (hL : GD s.l) (hok : s.l.all q23 = true) {types : SSN} {rows : SR} {Ts : List (List ND)} {fs : List F} (hT : types.l.map Sl.l = Ts) (hR : RS rows fs) (hrows : qdj s.l Ts fs) (htys : qp8 Ts) (hmu : mu fs Ts.length ≤ 8000) :
  ∃ w ok, f_b8 (types, rows, s, ()) = some (w, ok, s, ()) ∧ ql0 s.l Ts fs w ok := by
 obtain ⟨w, ok, h, hF⟩ := qw7 hL hok 8000 (Nat.le_refl _) types rows Ts fs hT hR hrows htys hmu
 refine ⟨w, ok, q8h 8001 fun n hn => ?_, hF⟩
 obtain ⟨k, rfl⟩ := Nat.le.dest hn
 exact qt5 h k
end Fn
end Ev

namespace Ev
open Go
namespace Fn
theorem qt6 (p : List ND) (hp : p.length ≤ 4000) (hg : GL p) : ∃ e : Int, (∀ b, f_de (⟨b, p⟩, ()) = some (e, ())) ∧ (e = 0 ↔ isP p) := by
 rcases qxy p with h | ⟨k, t, n, ks, h⟩
 ·refine ⟨60, fun b => qv1 b p hp h, fun e => by omega, fun ⟨k, t, n, ks, e, _⟩ => ?_⟩
  rw [(q4e p).2 ⟨k, t, n, ks, e⟩] at h; cases h
 ·subst h
  rw [q1w] at hp
  refine ⟨chkT k t n ks true, fun b => qv0 b k t n ks hp hg, fun e => ⟨k, t, n, ks, rfl, e⟩, fun ⟨k', t', n', ks', e, h⟩ => ?_⟩
  obtain ⟨u1, u2, u3, u4⟩ := qf5 e
  subst u1 u2 u3 u4
  exact h
theorem qt7 (L : List DD) (hL : GD L) (T : List ND) (hT : T.length ≤ 10000) (hTg : GL T) (p : List ND) (hp : p.length ≤ 4000) (hg : GL p) :
  ∃ c : Bool, (∀ b0 b b', f_av (⟨b0, L⟩, ⟨b, T⟩, ⟨b', p⟩, ()) = some (bif c then 0 else 120, ())) ∧ (c = true ↔ q5t L = true ∧ q2w T = true ∧ qix L T p) := by
 obtain ⟨e, e1, e3⟩ := qt6 p hp hg
 have d1 : ∀ b0, f_a0 ((⟨b0, L⟩ : Sl DD), ()) = some (qoz L, ()) := fun b0 => qd6 ⟨b0, L⟩ hL
 have t1 := fun b => q6i b T hT hTg
 cases hd : q5t L with
 | false =>
  have hd' := qgk L
  rw [hd] at hd'
  refine ⟨false, fun b0 b b' => ?_, fun h => (by cases h), fun h => (by cases h.1)⟩
  ·rw [u_av, d1]; simp only [q00, hd', nF, q04, cond_false]
 | true =>
  have hd' := qgk L
  rw [hd] at hd'
  cases ht : q2w T with
  | false =>
   refine ⟨false, fun b0 b b' => ?_, fun h => (by cases h), fun h => (by cases h.2.1)⟩
   ·rw [u_av, d1, t1, ht]; simp only [q00, hd', nT, q01, cond_false]; rfl
  | true =>
   by_cases he : e = 0
   ·obtain ⟨k, t, n, ks, hp1, hp2⟩ := e3.1 he
    subst hp1 he
    rw [q1w] at hp
    obtain ⟨q1, q2, q3, q4⟩ := q7c hd
    have o1 := fun b0 b b' => z07 (⟨b0, L⟩ : Sl DD) hL q1 k t n ks hp (qy6 hp2) (⟨b, T⟩ : SN) ht b'
    refine ⟨ofF L (tr k t n ks) [T], fun b0 b b' => ?_, fun h => ⟨rfl, rfl, k, t, n, ks, rfl, hp2, h⟩, fun ⟨_, _, k', t', n', ks', h1, _, h3⟩ => ?_⟩
    ·rw [u_av, d1, t1, ht, e1, o1]
     simp only [q00, hd', nT, q01, cond_true, e00]
     cases ofF L (tr k t n ks) [T] <;> rfl
    ·obtain ⟨u1, u2, u3, u4⟩ := qf5 h1
     subst u1 u2 u3 u4
     exact h3
   ·refine ⟨false, fun b0 b b' => ?_, fun h => (by cases h), fun ⟨_, _, k', t', n', ks', h1, h2, _⟩ => absurd (e3.2 ⟨k', t', n', ks', h1, h2⟩) he⟩
    ·rw [u_av, d1, t1, ht, e1]
     simp only [q00, hd', nT, q01, cond_true, e00, q1r he, nF, q04, cond_false]
theorem qyd (L : List DD) (hL : GD L) (T : List ND) (hT : T.length ≤ 10000) (hTg : GL T) (v : List ND) (hv : v.length ≤ 4000) (hg : GL v) :
  ∃ c : Bool, (∀ b0 b b', f_ay (⟨b0, L⟩, ⟨b, T⟩, ⟨b', v⟩, ()) = some (c, ())) ∧ (c = true ↔ q5t L = true ∧ q2w T = true ∧ z06 L T v) := by
 have d1 : ∀ b0, f_a0 ((⟨b0, L⟩ : Sl DD), ()) = some (qoz L, ()) := fun b0 => qd6 ⟨b0, L⟩ hL
 have t1 := fun b => q6i b T hT hTg
 have v1 := fun b => qdb b v (by omega) hg
 have hd' := qgk L
 cases hd : q5t L with
 | false =>
  rw [hd] at hd'
  refine ⟨false, fun b0 b b' => ?_, fun h => (by cases h), fun h => (by cases h.1)⟩
  ·rw [u_ay, d1]; simp only [q00, hd', q01]
 | true =>
  rw [hd] at hd'
  cases ht : q2w T with
  | false =>
   refine ⟨false, fun b0 b b' => ?_, fun h => (by cases h), fun h => (by cases h.2.1)⟩
   ·rw [u_ay, d1, t1, ht]; simp only [q00, hd', q04, cond_false]; rfl
  | true =>
   cases he : qe0 v with
   | true =>
    obtain ⟨k, t, n, ks, hp1, hp, hall⟩ := qgo he
    subst hp1
    obtain ⟨q1, q2, q3, q4⟩ := q7c hd
    have hP : (tr k t n ks).flat.all valP = true := List.all_eq_true.2 fun x hx => qw2 (List.all_eq_true.1 hall x hx)
    have o1 := fun b0 b b' => qzd (⟨b0, L⟩ : Sl DD) hL q1 k t n ks hp hP (⟨b, T⟩ : SN) ht b'
    refine ⟨ofF L (tr k t n ks) [T], fun b0 b b' => ?_, fun h => ⟨rfl, rfl, k, t, n, ks, rfl, he, h⟩, fun ⟨_, _, k', t', n', ks', h1, _, h3⟩ => ?_⟩
    ·rw [u_ay, d1, t1, ht, v1, he, o1]
     simp only [q00, hd', q04, cond_true, e00]
    ·obtain ⟨u1, u2, u3, u4⟩ := qf5 h1
     subst u1 u2 u3 u4
     exact h3
   | false =>
    refine ⟨false, fun b0 b b' => ?_, fun h => (by cases h), fun ⟨_, _, k', t', n', ks', _, h2, _⟩ => by rw [he] at h2; cases h2⟩
    ·rw [u_ay, d1, t1, ht, v1, he]
     simp only [q00, hd', q04, q01, cond_true, e00]
theorem qdk (p v : List ND) (hp : p.length ≤ 4000) (hv : v.length ≤ 4000) (gp : GL p) (gv : GL v) :
  ∃ o : Option NM, qzg p v o ∧ (∀ b, ∃ A, f_az (⟨b, p⟩, ⟨false, v⟩, ()) = some (A, o.isSome, ()) ∧ unN A.l = o.getD []) := by
 obtain ⟨e, e1, e3⟩ := qt6 p hp gp
 have v1 := fun b => qdb b v (by omega) gv
 by_cases he : e = 0
 ·subst he
  cases hval : qe0 v with
  | false =>
   refine ⟨none, ⟨fun h => (by rw [hval] at h; cases h.2), fun _ => rfl⟩, fun b => ⟨⟨true, []⟩, ?_, rfl⟩⟩
   ·rw [u_az, e1, v1, hval]; rfl
  | true =>
   obtain ⟨k, t, n, ks, hp1, hp2⟩ := e3.1 rfl
   obtain ⟨k', t', n', ks', hv1, hv2, _⟩ := qgo hval
   subst hp1 hv1
   rw [q1w] at hp
   refine ⟨q2c k t n ks k' t' n' ks', ⟨fun _ => ⟨k, t, n, ks, k', t', n', ks', rfl, rfl, hp2, rfl⟩, fun h => absurd ⟨⟨k, t, n, ks, rfl, hp2⟩, hval⟩ h⟩, fun b => ?_⟩
   ·have hm := qvb k t n ks hp k' t' n' ks' hv2 b ⟨true, []⟩ (by show 0 + (ks.size + 0 + 1) ≤ _; omega)
    obtain ⟨r1, r2⟩ := qde (tr k t n ks) (tr k' t' n' ks') ⟨true, []⟩
    rw [qmy] at r1 r2
    rw [u_az, e1, v1, hval]
    simp only [q00, e00, nT, q01, hm, r1]
    cases ho : q2c k t n ks k' t' n' ks' with
    | none => exact ⟨⟨true, []⟩, rfl, rfl⟩
    | some ns => exact ⟨_, rfl, r2 ns ho⟩
 ·refine ⟨none, ⟨fun h => absurd (e3.2 h.1) he, fun _ => rfl⟩, fun b => ⟨⟨true, []⟩, ?_, rfl⟩⟩
  ·rw [u_az, e1]; simp only [q00, q1r he, nF, q04]; rfl
theorem qt8 (a : List (List ND)) (v : List ND) (ha : a.length ≤ 1000) (hg : ∀ p, p ∈ a → p.length ≤ 4000 ∧ GL p) (hv : v.length ≤ 4000) (gv : GL v) (nb : Bool) :
  f_aw (⟨nb, a.map fun l => (⟨false, l⟩ : SN)⟩, ⟨false, v⟩, ()) = some (ixP (q5w v) 0 a, ()) := by
 have hix : ∀ (l : List (List ND)) (k : Nat), ixP (fun x : SN => q5w v x.l) k (l.map fun l => (⟨false, l⟩ : SN)) = ixP (q5w v) k l := by
  intro l
  induction l with
  | nil => intro k; rfl
  | cons x r ih => intro k; show (bif q5w v x then _ else _) = (bif q5w v x then _ else _); rw [ih]
 have e : loopR l1_d1 (⟨nb, a.map fun l => (⟨false, l⟩ : SN)⟩, ⟨false, v⟩, lenI (a.map fun l => (⟨false, l⟩ : SN)), 0, ()) = some (ixP (q5w v) 0 a, ()) := by
  rw [← hix]
  refine q20 l1_d1 (fun k => (⟨nb, a.map fun l => (⟨false, l⟩ : SN)⟩, ⟨false, v⟩, lenI (a.map fun l => (⟨false, l⟩ : SN)), k, ())) (fun z => (z, ())) (a.map fun l => (⟨false, l⟩ : SN)) (by rw [List.length_map]; omega) (fun x : SN => q5w v x.l) ?_ ?_
  ·intro k x hx hk
   obtain ⟨p, hp, hpe⟩ := List.mem_map.1 (List.mem_of_getElem? hx)
   subst hpe
   obtain ⟨o, _, hm⟩ := qdk p v (hg p hp).1 hv (hg p hp).2 gv
   obtain ⟨A, hA, _⟩ := hm false
   have hB := qiy hA
   unfold l1_d1
   simp only [ltG hx, q04, q07 hx, q00, u_ax, hA, hB, add1 (show k ≤ 1000000000 by omega)]
   cases o.isSome <;> rfl
  ·unfold l1_d1
   simp only [ltE, q01]
 rw [u_aw, u_d1]
 exact qb8 e _
end Fn
end Ev

namespace Ev
open Go
namespace Fn
theorem qt9 : ∀ f : F, f.clo ≤ f.size
 | .nil => Nat.le_refl _
 | .cons k t n ks r => by
  rw [q54]
  have h1 := qt9 ks
  have h2 := qt9 r
  show _ ≤ ks.size + r.size + 1
  cases q1q k <;> simp only [cond_true, cond_false] <;> omega
theorem qj3 {m : Nat} : ∀ fs : List F, (∀ f, f ∈ fs → f.size ≤ m) → q3s fs ≤ fs.length * m
 | [], _ => Nat.zero_le _
 | f :: fs, h => by
  have h1 := qj3 fs fun g hg => h g (List.mem_cons_of_mem _ hg)
  have h2 := qt9 f
  have h3 := h f (List.mem_cons_self ..)
  show f.clo + q3s fs ≤ (fs.length + 1) * m
  rw [Nat.succ_mul]; omega
theorem qta {m odd : Bool} : ∀ f : F, errF m true odd f = 0 → f.flat.all patQ = true
 | .nil, _ => rfl
 | .cons k t n ks r, h => by
  obtain ⟨h1, h2⟩ := errF_ok.1 h
  rw [Bool.true_or] at h1
  obtain ⟨h3, h4⟩ := errT_ok.1 h1
  have hp : patP (k, t, n, (ks.cnt : Int)) = true := by
   have := qbk (m := false) (odd := false) (.cons k t n ks .nil) (errF_ok.2 ⟨by rw [Bool.true_or]; exact h1, rfl⟩)
   exact (all_cons this).1
  obtain ⟨_, _, _, g4, g5, _⟩ := nodeE_zero.1 h3
  have hq : patQ (k, t, n, (ks.cnt : Int)) = true := by
   unfold patQ
   rw [hp, Bool.true_and, Bool.and_eq_true]
   constructor
   ·cases e : eqI k 23 with
    | false => rfl
    | true =>
     have e : k = 23 := of_decide_eq_true e
     subst e
     unfold qmm at g5
     rw [Bool.and_eq_true, Bool.and_eq_true] at g5
     exact g5.1.1
   ·cases e : eqI k 24 with
    | false => rfl
    | true =>
     have e : k = 24 := of_decide_eq_true e
     subst e
     exact g4
  show ((k, t, n, (ks.cnt : Int)) :: (ks.flat ++ r.flat)).all patQ = true
  rw [List.all_cons, List.all_append, hq, qta ks h4, qta r h2]; rfl
theorem z0a {k : Int} {t : Tx} {n : Int} {ks : F} (h : chkT k t n ks true = 0) : (tr k t n ks).flat.all patQ = true := by
 obtain ⟨_, h2, _⟩ := chkT_ok.1 h
 exact qta (m := false) (odd := false) (tr k t n ks) (errF_ok.2 ⟨by rw [Bool.true_or]; exact h2, rfl⟩)
theorem qpb (b0 b : Bool) (L : List DD) (hL : GD L) (T : List ND) (hT : T.length ≤ 4000) (hTg : GL T) (a : SSN) (ha : a.l.length ≤ 1000) (hg : ∀ x, x ∈ a.l → x.l.length ≤ 4000 ∧ GL x.l) :
  ∃ e : Int, f_bn (⟨b0, L⟩, ⟨b, T⟩, a, ()) = some (e, ()) ∧ (e = 0 → q5t L = true ∧ q2w T = true ∧ ∀ x, x ∈ a.l → qix L T x.l) := by
 have hX : ∀ x, x ∈ (⟨false, [((21 : Int), ([] : Tx), (0 : Int), (0 : Int))]⟩ : SN) :: a.l → ∃ c : Bool, f_av (⟨b0, L⟩, ⟨b, T⟩, x, ()) = some (bif c then 0 else 120, ()) ∧ (c = true → q5t L = true ∧ q2w T = true ∧ qix L T x.l) := by
  intro x hx
  have : x.l.length ≤ 4000 ∧ GL x.l := by
   rcases List.mem_cons.1 hx with rfl | hx
   ·exact ⟨by show 1 ≤ _; omega, gAny⟩
   ·exact hg x hx
  obtain ⟨c, c1, c3⟩ := qt7 L hL T (by omega) hTg x.l this.1 this.2
  exact ⟨c, c1 b0 b x.nil, c3.1⟩
 have hfit : fit (sumI (lenI [(⟨false, [((21 : Int), ([] : Tx), (0 : Int), (0 : Int))]⟩ : SN)]) (lenI a.l)) = some () := q0q (by show 1 + a.l.length ≤ _; omega)
 rw [u_bn, u_b3]
 simp only [q00, hfit]
 generalize hgen : (app [(⟨false, [((21 : Int), ([] : Tx), (0 : Int), (0 : Int))]⟩ : SN)] a.l) = X
 generalize hnb : andB false (isE a.l) = nb
 have hXe : X = (⟨false, [((21 : Int), ([] : Tx), (0 : Int), (0 : Int))]⟩ : SN) :: a.l := hgen.symm
 have hXl : X.length = a.l.length + 1 := by rw [hXe]; rfl
 rw [← hXe] at hX
 have := q29 (f := l1_bn) (I := fun z => ∃ i : Nat, z = (⟨b0, L⟩, ⟨b, T⟩, lenI X, (i : Int), ⟨nb, X⟩, ()) ∧ i ≤ X.length ∧ ∀ (j : Nat) x, j < i → X[j]? = some x → q5t L = true ∧ q2w T = true ∧ qix L T x.l)
  (Q := fun r => ∃ e : Int, r = (e, ()) ∧ (e = 0 → q5t L = true ∧ q2w T = true ∧ ∀ x, x ∈ a.l → qix L T x.l)) (fun z => ((X.length : Int) - z.2.2.2.1).toNat) ?_ (⟨b0, L⟩, ⟨b, T⟩, lenI X, 0, ⟨nb, X⟩, ()) ⟨0, rfl, Nat.zero_le _, fun j x hj => by omega⟩
 ·obtain ⟨r, h1, e, h2, h3⟩ := this
  exact ⟨e, by rw [h1, h2], h3⟩
 ·rintro z ⟨i, rfl, hi, hall⟩
  by_cases h1 : i < X.length
  ·obtain ⟨x, hx⟩ : ∃ x, X[i]? = some x := ⟨_, List.getElem?_eq_getElem h1⟩
   obtain ⟨c, c1, c2⟩ := hX x (List.mem_of_getElem? hx)
   have hnth : nth X i = some x := hx
   cases c with
   | true =>
    have e0 : eqI (bif true then 0 else 120) 0 = true := rfl
    refine .inl ⟨(⟨b0, L⟩, ⟨b, T⟩, lenI X, ((i + 1 : Nat) : Int), ⟨nb, X⟩, ()), ?_, ⟨i + 1, rfl, h1, fun j y hj hy => ?_⟩, by simp only; omega⟩
    ·unfold l1_bn
     simp only [ltG hx, q04, q2m h1, q00, hnth, c1, e0, nT, q01, add1 (show i ≤ 1000000000 by omega)]
    ·by_cases hji : j = i
     ·subst hji
      rw [hx] at hy; injection hy with hy; subst hy
      exact c2 rfl
     ·exact hall j y (by omega) hy
   | false =>
    have e0 : eqI (bif false then 0 else 120) 0 = false := rfl
    refine .inr ⟨(120, ()), ?_, 120, rfl, fun h => by cases h⟩
    unfold l1_bn
    simp only [ltG hx, q04, q2m h1, q00, hnth, c1, e0, nF]
    rfl
  ·obtain rfl : i = X.length := by omega
   refine .inr ⟨(0, ()), ?_, 0, rfl, fun _ => ?_⟩
   ·unfold l1_bn
    simp only [ltE, q01]
   ·have h0 := hall 0 ⟨false, [(21, [], 0, 0)]⟩ (by omega) (by rw [hXe]; rfl)
    refine ⟨h0.1, h0.2.1, fun x hx => ?_⟩
    obtain ⟨j, hj, hje⟩ := List.mem_iff_getElem.1 hx
    exact (hall (j + 1) x (by omega) (by rw [hXe, List.getElem?_cons_succ, List.getElem?_eq_getElem hj, hje])).2.2
theorem qpc (a : SSN) (ha : a.l.length ≤ 1000) : ∃ nb, f_bo (a, ()) = some (⟨nb, a.l.map fun x => (⟨false, [x]⟩ : SSN)⟩, ()) := by
 rw [u_bo]
 have e := q30 l1_bo (fun k s => (a, lenI a.l, k, s, ())) a.l (fun (s : SR) x => (⟨false, s.l ++ [⟨false, [x]⟩]⟩ : SR)) (fun s => (s, ())) (fun k s => k ≤ a.l.length ∧ s.l.length = k) ⟨true, []⟩ ⟨Nat.zero_le _, rfl⟩
  (fun k x s hx hi => by
   obtain ⟨nb, sl⟩ := s
   have h2 : sl.length = k := hi.2
   have hk := getL hx
   have hf : fit (sumI (lenI sl) (lenI [(⟨false, [x]⟩ : SSN)])) = some () := q0q (by show sl.length + 1 ≤ _; omega)
   refine ⟨?_, hk, by show (sl ++ [_]).length = _; rw [List.length_append, h2]; rfl⟩
   unfold l1_bo
   simp only [ltG hx, q04, q07 hx, q00, hf, q1v, add1 (show k ≤ 1000000000 by omega)]
   rfl)
  (fun s _ => by
   unfold l1_bo
   simp only [ltE, q01])
 rw [qd7 (fun x : SN => (⟨false, [x]⟩ : SSN))] at e
 exact ⟨_, e⟩
end Fn
end Ev

namespace Ev
open Go
namespace Fn
theorem z0b {p : List ND} {L : List DD} {T : List ND} (h : qix L T p) (hl : p.length ≤ 30) : ∃ f : F, f.flat = p ∧ f.cnt = 1 ∧ f.trees = [p] ∧ f.flat.all patQ = true ∧ f.size ≤ 30 ∧ ofF L f [T] = true ∧ isP p := by
 obtain ⟨k, t, n, ks, rfl, h2, h3⟩ := h
 rw [q1w] at hl
 exact ⟨tr k t n ks, rfl, rfl, rfl, z0a h2, by rw [q7a]; exact hl, h3, k, t, n, ks, rfl, h2⟩
theorem qw8 {L : List DD} {T : List ND} : ∀ a : List SN, (∀ x, x ∈ a → qix L T x.l ∧ x.l.length ≤ 30) →
  ∃ fs : List F, fs.length = a.length ∧ a.map (fun x => [x.l]) = fs.map F.trees ∧ (∀ f, f ∈ fs → f.cnt = 1 ∧ f.flat.all patQ = true ∧ f.size ≤ 30 ∧ ofF L f [T] = true ∧ ∃ x, x ∈ a ∧ x.l = f.flat ∧ isP x.l) ∧ (∀ x, x ∈ a → ∃ f, f ∈ fs ∧ f.flat = x.l ∧ f.cnt = 1)
 | [], _ => ⟨[], rfl, rfl, (fun f hf => by cases hf), fun x hx => by cases hx⟩
 | x :: a, h => by
  obtain ⟨fs, h1, h2, h3, h4⟩ := qw8 a fun y hy => h y (List.mem_cons_of_mem _ hy)
  obtain ⟨f, f1, f2, f3, f4, f5, f6, f7⟩ := z0b (h x (List.mem_cons_self ..)).1 (h x (List.mem_cons_self ..)).2
  refine ⟨f :: fs, by rw [List.length_cons, List.length_cons, h1], ?_, fun g hg => ?_, fun y hy => ?_⟩
  ·rw [List.map_cons, List.map_cons, h2, f3]
  ·rcases List.mem_cons.1 hg with rfl | hg
   ·exact ⟨f2, f4, f5, f6, x, List.mem_cons_self .., f1.symm, f7⟩
   ·obtain ⟨q1, q2, q3, q4, y, q5, q6⟩ := h3 g hg
    exact ⟨q1, q2, q3, q4, y, List.mem_cons_of_mem _ q5, q6⟩
  ·rcases List.mem_cons.1 hy with rfl | hy
   ·exact ⟨f, List.mem_cons_self .., f1, f2⟩
   ·obtain ⟨g, q1, q2⟩ := h4 y hy
    exact ⟨g, List.mem_cons_of_mem _ q1, q2⟩
theorem qn4 {p v : List ND} {f g : F} (hp : f.flat = p) (hf : f.cnt = 1) (hv : g.flat = v) (hg : g.cnt = 1) {o : Option NM} (ho : qzg p v o) (hval : qe0 v = true) : (isP p → o.isSome = mt f g) ∧ (o.isSome = true → mt f g = true) := by
 have key : isP p → o.isSome = mt f g := by
  intro hP
  obtain ⟨k, t, n, ks, k', t', n', ks', h1, h2, _, h4⟩ := ho.1 ⟨hP, hval⟩
  obtain ⟨k1, t1, n1, ks1, rfl⟩ := qbi f hf
  obtain ⟨k2, t2, n2, ks2, rfl⟩ := qbi g hg
  obtain ⟨rfl, rfl, rfl, rfl⟩ := qf5 (hp.trans h1)
  obtain ⟨rfl, rfl, rfl, rfl⟩ := qf5 (hv.trans h2)
  unfold mt
  rw [qmy, h4]
 refine ⟨key, fun h => ?_⟩
 by_cases hP : isP p
 ·rw [← key hP]; exact h
 ·have := ho.2 fun hh => hP hh.1
  rw [this] at h; cases h
theorem qj4 (b0 b1 b2 : Bool) (L : List DD) (hL : GD L) (T : List ND) (hT : T.length ≤ 4000) (hTg : GL T) (a : List SN) (ha : a.length ≤ 6) (hg : ∀ x, x ∈ a → x.l.length ≤ 30 ∧ GL x.l) :
  ∃ (w : SN) (ok : Bool) (e : Int), f_b1 (⟨b0, L⟩, ⟨b1, T⟩, ⟨b2, a⟩, ()) = some (w, ok, e, ()) ∧ (e = 0 → q5t L = true ∧ q2w T = true ∧ (∀ x, x ∈ a → qix L T x.l) ∧ ∃ fs : List F, (∀ f, f ∈ fs → f.cnt = 1 ∧ ∃ x, x ∈ a ∧ x.l = f.flat ∧ isP x.l) ∧ (∀ x, x ∈ a → ∃ f, f ∈ fs ∧ f.flat = x.l ∧ f.cnt = 1) ∧
   (ok = true → ∃ W : F, w.l = W.flat ∧ W.cnt = 1 ∧ W.size ≤ 4000 ∧ GL W.flat ∧ ∀ g : F, g.cnt = 1 → mt W g = true → ∀ f, f ∈ fs → mt f g = false) ∧
   (ok = false → ∀ g : F, g.cnt = 1 → g.flat.all valP = true → ofF L g [T] = true → ∃ f, f ∈ fs ∧ mt f g = true)) := by
 obtain ⟨e, he, h0⟩ := qpb b0 b1 L hL T hT hTg ⟨b2, a⟩ (by show a.length ≤ _; omega) (fun x hx => ⟨by have := (hg x hx).1; omega, (hg x hx).2⟩)
 rw [u_b1]
 simp only [he, q00]
 by_cases he0 : e = 0
 ·subst he0
  obtain ⟨h1, h2, h3⟩ := h0 rfl
  have e00 : eqI 0 0 = true := rfl
  simp only [e00, nT, q01]
  obtain ⟨fs, r1, r2, r3, r4⟩ := qw8 (L := L) (T := T) a fun x hx => ⟨h3 x hx, (hg x hx).1⟩
  obtain ⟨nb, hrows⟩ := qpc ⟨b2, a⟩ (by show a.length ≤ _; omega)
  have hclo := qj3 (m := 30) fs fun f hf => (r3 f hf).2.2.1
  have hmu : mu fs 1 ≤ 3601 := by unfold mu; omega
  have hmu1 : mu fs ([T] : List (List ND)).length = mu fs 1 := rfl
  obtain ⟨w, ok, hf, hF⟩ := find_spec (s := ⟨b0, L⟩) hL (q7c h1).1 (types := ⟨false, [⟨b1, T⟩]⟩) (rows := ⟨nb, a.map fun x => (⟨false, [x]⟩ : SSN)⟩) (Ts := [T]) (fs := fs) rfl (by
   show (a.map fun x => (⟨false, [x]⟩ : SSN)).map (fun r => r.l.map Sl.l) = _
   rw [List.map_map]; exact r2) ⟨by omega, fun f hf => by
    obtain ⟨q1, q2, q3, q4, _⟩ := r3 f hf
    exact ⟨q1, q2, by omega, q4⟩⟩ (fun T' hT' => by
    rcases List.mem_cons.1 hT' with rfl | hT'
    ·exact h2
    ·cases hT') (by omega)
  simp only [hrows, q00, hf]
  have hfs : ∀ f, f ∈ fs → f.cnt = 1 ∧ ∃ x, x ∈ a ∧ x.l = f.flat ∧ isP x.l := fun f hf => ⟨(r3 f hf).1, (r3 f hf).2.2.2.2⟩
  cases ok with
  | false =>
   simp only [nF, q04]
   exact ⟨_, _, _, rfl, fun _ => ⟨h1, h2, h3, fs, hfs, r4, (fun h => by cases h), fun _ => hF.2 rfl⟩⟩
  | true =>
   obtain ⟨W, w1, w2, w3, w4, w5⟩ := hF.1 rfl
   have w2 : W.cnt = 1 := w2
   obtain ⟨kW, tW, nW, ksW, rfl⟩ := qbi W w2
   have w1 : w.l.map Sl.l = [(tr kW tW nW ksW).flat] := w1
   cases hw : w.l with
   | nil => rw [hw] at w1; cases w1
   | cons y r =>
    rw [hw] at w1
    injection w1 with w6 w7
    have hat : at? (y :: r) 0 = some y := rfl
    simp only [nT, q01, hat, q00]
    exact ⟨_, _, _, rfl, fun _ => ⟨h1, h2, h3, fs, hfs, r4, (fun _ => ⟨_, w6, w2, by omega, w4, w5⟩), fun h => by cases h⟩⟩
 ·have : eqI e 0 = false := q1r he0
  simp only [this, nF, q04]
  exact ⟨_, _, _, rfl, fun h => absurd h he0⟩
theorem law_All (b0 b1 b2 b3 : Bool) (L : List DD) (T : List ND) (a : List SN) (v : List ND) (gd : gDin L) (gT : gL T) (ga : ∀ x, x ∈ a → gL x.l) (hal : a.length ≤ 9223372036854775807) (gv : gL v) :
  f_law12_PatAll (⟨b0, L⟩, ⟨b1, T⟩, ⟨b2, a⟩, ⟨b3, v⟩, ()) = some (true, ()) := by
 obtain ⟨c, hc, hb⟩ := qzf ⟨b0, L⟩ gd ⟨b1, T⟩ ⟨b2, a⟩ hal
 obtain ⟨c2, e2, h2⟩ := qao ⟨false, [⟨b3, v⟩]⟩ (by show 1 ≤ _; omega)
 rw [qdw, quj]
 simp only [q00, nT, q01, hc]
 cases c with
 | false => rfl
 | true =>
  simp only [nT, q01, e2, q00]
  cases c2 with
  | false => rfl
  | true =>
   obtain ⟨hL, fT, la, fa⟩ := hb rfl
   have hL : GD L := hL
   have fT : fewN 30 T := fT
   have la : a.length ≤ 6 := la
   have fa : ∀ p, p ∈ a → fewN 30 p.l := fa
   have fv : fewN 30 v := (h2 rfl).2 ⟨b3, v⟩ (List.mem_cons_self ..)
   have lT := fT.1
   have lv := fv.1
   have hTg := qmx gT fT
   have Gv := qmx gv fv
   have o1 := qbl b1 T (by omega)
   have o3 := qbl b3 v (by omega)
   have hf := fitD L hL.1
   have e0 : (⟨andB false (isE L), app ([] : List DD) L⟩ : Sl DD) = ⟨false, L⟩ := rfl
   have hga : ∀ x, x ∈ a → x.l.length ≤ 4000 ∧ GL x.l := fun x hx => ⟨by have := (fa x hx).1; omega, qmx (ga x hx) (fa x hx)⟩
   have hrows := qsu ⟨b2, a⟩ (by show a.length ≤ _; omega) (fun x hx => by have := (hga x hx).1; omega)
   have hf1 := qt8 (a.map Sl.l) v (by rw [List.length_map]; omega) (fun p hp => by
    obtain ⟨x, hx, e⟩ := List.mem_map.1 hp
    rw [← e]; exact hga x hx) (by omega) Gv false
   rw [List.map_map] at hf1
   have hrows : q2b (⟨b2, a⟩, ()) = some (⟨false, a.map ((fun l => (⟨false, l⟩ : SN)) ∘ Sl.l)⟩, ()) := hrows
   obtain ⟨w, ok, e, hm, hE⟩ := qj4 false false false L hL T (by omega) hTg (a.map ((fun l => (⟨false, l⟩ : SN)) ∘ Sl.l)) (by rw [List.length_map]; exact la) (fun x hx => by
    obtain ⟨y, hy, rfl⟩ := List.mem_map.1 hx
    exact ⟨(fa y hy).1, (hga y hy).2⟩)
   obtain ⟨cv, v1, v3⟩ := qyd L hL T (by omega) hTg v (by omega) Gv
   simp only [nT, q01, q00, hf, o1, o3, e0, hrows, hm, v1, hf1]
   by_cases he : e = 0
   ·subst he
    have e00 : eqI 0 0 = true := rfl
    simp only [e00, nT, q01]
    cases cv with
    | false => rfl
    | true =>
     obtain ⟨_, _, kv, tv, nv, ksv, rfl, hval, hof⟩ := v3.1 rfl
     obtain ⟨_, _, _, fs, g1, g2, g3, g4⟩ := hE rfl
     have hvalP : (tr kv tv nv ksv).flat.all valP = true := by
      obtain ⟨_, _, _, _, _, _, hall⟩ := qgo hval
      exact List.all_eq_true.2 fun x hx => qw2 (List.all_eq_true.1 hall x hx)
     have hmB : ∀ x : SN, x ∈ a → ∀ f : F, f.flat = x.l → f.cnt = 1 → isP x.l → q5w (tr kv tv nv ksv).flat x.l = mt f (tr kv tv nv ksv) := by
      intro x hx f hfx hf1 hP
      obtain ⟨o, ho, hmm⟩ := qdk x.l (tr kv tv nv ksv).flat (hga x hx).1 (by omega) (hga x hx).2 Gv
      obtain ⟨A, hA, _⟩ := hmm false
      rw [qiy hA]
      exact (qn4 hfx hf1 rfl rfl ho hval).1 hP
     simp only [nT]
     cases ok with
     | false =>
      obtain ⟨f, hfm, hmt⟩ := g4 rfl (tr kv tv nv ksv) rfl hvalP hof
      obtain ⟨hf1, x, hx, hxf, hxP⟩ := g1 f hfm
      obtain ⟨y, hy, rfl⟩ := List.mem_map.1 hx
      have hb := hmB y hy f hxf.symm hf1 hxP
      have hany : (a.map Sl.l).any (q5w (tr kv tv nv ksv).flat) = true := List.any_eq_true.2 ⟨y.l, List.mem_map.2 ⟨y, hy, rfl⟩, by rw [hb]; exact hmt⟩
      simp only [nF, q04, q3e, hany]
      rfl
     | true =>
      obtain ⟨W, w1, w2, w3, w4, w5⟩ := g3 rfl
      have hwl : w.l.length ≤ 4000 := by rw [w1, F.len]; exact w3
      have ow : q0y (w, ()) = some (⟨false, w.l⟩, ()) := qbl w.nil w.l (by omega)
      obtain ⟨o, ho, hmm⟩ := qdk w.l (tr kv tv nv ksv).flat hwl (by omega) (by rw [w1]; exact w4) Gv
      obtain ⟨A, hA, _⟩ := hmm false
      simp only [nT, q01, ow, q00, hA]
      cases hos : o.isSome with
      | false => rfl
      | true =>
       have hWm := (qn4 w1.symm w2 rfl rfl ho hval).2 hos
       have hno := w5 (tr kv tv nv ksv) rfl hWm
       have hany : (a.map Sl.l).any (q5w (tr kv tv nv ksv).flat) = false := by
        cases h : (a.map Sl.l).any (q5w (tr kv tv nv ksv).flat) with
        | false => rfl
        | true =>
         obtain ⟨l, hl, hlm⟩ := List.any_eq_true.1 h
         obtain ⟨y, hy, rfl⟩ := List.mem_map.1 hl
         obtain ⟨f, hfm, hfy, hf1⟩ := g2 ⟨false, y.l⟩ (List.mem_map.2 ⟨y, hy, rfl⟩)
         obtain ⟨_, x, hx, hxf, hxP⟩ := g1 f hfm
         have hfy : f.flat = y.l := hfy
         rw [hmB y hy f hfy hf1 (by rw [← hfy, ← hxf]; exact hxP), hno f hfm] at hlm
         cases hlm
       simp only [nT, q01, qge _ _ _ hany, q4z, q00]
   ·have : eqI e 0 = false := q1r he
    simp only [this, nF, q04, q00]
end Fn
end Ev

