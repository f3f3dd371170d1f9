/- Layers 9, 10 and 12 in plain words. No statement of its own about the program. -/
import Derived.Test.YtnihgcgcdjdhiaaGreatDoorPlainA
namespace Ev
open Go
namespace Fn
theorem ltG {α : Type} {l : List α} {k : Nat} {x : α} (h : l[k]? = some x) : ltI (k : Int) (lenI l) = true := by
 have := (List.getElem?_eq_some_iff.1 h).1
 exact decide_eq_true (by unfold lenI; omega)
theorem ltE {α : Type} (l : List α) : ltI ((l.length : Nat) : Int) (lenI l) = false := decide_eq_false (by unfold lenI; omega)
theorem qbp {α β : Type} {x : Option α} {a : α} (h : x = some a) (f : α → Option β) : bnd x f = f a := by rw [h, q00]
theorem getL {α : Type} {l : List α} {k : Nat} {x : α} (h : l[k]? = some x) : k < l.length := (List.getElem?_eq_some_iff.1 h).1
def scan {α ρ : Type} (stop : Nat → α → Option ρ) (R : ρ) : Nat → List α → ρ
 | _, [] => R
 | k, x :: r => match stop k x with
  | some y => y
  | none => scan stop R (k + 1) r
theorem q0i {σ ρ α : Type} (f : σ → Option (σ ⊕ ρ)) (S : Int → σ) (l : List α) (hl : l.length ≤ 1000000) (stop : Nat → α → Option ρ) (R : ρ)
  (hstep : ∀ (k : Nat) x, l[k]? = some x → k ≤ 1000000 → f (S k) = some (match stop k x with | some y => .inr y | none => .inl (S ((k + 1 : Nat) : Int))))
  (hend : f (S ((l.length : Nat) : Int)) = some (.inr R)) : loopR f (S 0) = some (scan stop R 0 l) := by
 have aux : ∀ (r : List α) (k : Nat), l.drop k = r → k ≤ l.length → loopR f (S k) = some (scan stop R k r) := by
  intro r
  induction r with
  | nil =>
   intro k h hk
   have : l.length ≤ k := List.drop_eq_nil_iff.1 h
   obtain rfl : k = l.length := by omega
   exact q0a hend
  | cons x r ih =>
   intro k h hk
   have hlt : k < l.length := by
    rcases Nat.lt_or_ge k l.length with h2 | h2
    ·exact h2
    ·rw [List.drop_eq_nil_of_le h2] at h; cases h
   rw [q1p hlt] at h
   injection h with h1 h2
   have hx : l[k]? = some x := by rw [List.getElem?_eq_getElem hlt, h1]
   have hs := hstep k x hx (by omega)
   unfold scan
   cases hc : stop k x with
   | some y => rw [hc] at hs; exact q0a hs
   | none =>
    rw [hc] at hs
    rw [q0e hs]
    exact ih (k + 1) h2 (by omega)
 exact aux l 0 rfl (Nat.zero_le _)
def ixP {α : Type} (p : α → Bool) : Nat → List α → Int
 | _, [] => -1
 | k, x :: r => bif p x then (k : Int) else ixP p (k + 1) r
theorem qxt {τ α : Type} {O : Int → τ} {p : α → Bool} (r : List α) (k : Nat) : scan (fun k x => bif p x then some (O k) else none) (O (-1)) k r = O (ixP p k r) := by
 induction r generalizing k with
 | nil => rfl
 | cons x r ih =>
  unfold scan ixP
  cases p x with
  | true => rfl
  | false => exact ih (k + 1)
theorem q24 {σ τ α : Type} (f : σ → Option (σ ⊕ τ)) (S : Int → σ) (O : Int → τ) (l : List α) (hl : l.length ≤ 1000000) (p : α → Bool)
  (hstep : ∀ (k : Nat) x, l[k]? = some x → k ≤ 1000000 → f (S k) = some (bif p x then .inr (O k) else .inl (S ((k + 1 : Nat) : Int))))
  (hend : f (S ((l.length : Nat) : Int)) = some (.inr (O (-1)))) : loopR f (S 0) = some (O (ixP p 0 l)) := by
 have h := q0i f S l hl (fun k x => bif p x then some (O k) else none) (O (-1)) (fun k x hx hk => by rw [hstep k x hx hk]; cases p x <;> rfl) hend
 rw [h, qxt]
theorem q5g {α : Type} (p : α → Bool) (l : List α) (k : Nat) : leI 0 (ixP p k l) = l.any p := by
 induction l generalizing k with
 | nil => rfl
 | cons x r ih =>
  unfold ixP
  rw [List.any_cons]
  cases p x with
  | true => exact decide_eq_true (by show (0 : Int) ≤ (k : Int); omega)
  | false => exact ih (k + 1)
def qso {α β ρ : Type} (g : Nat → β → α → β ⊕ ρ) (fin : β → ρ) : Nat → β → List α → ρ
 | _, a, [] => fin a
 | k, a, x :: r => match g k a x with
  | .inl a' => qso g fin (k + 1) a' r
  | .inr y => y
theorem qp0 {σ ρ α β : Type} (f : σ → Option (σ ⊕ ρ)) (S : Int → β → σ) (l : List α) (g : Nat → β → α → β ⊕ ρ) (fin : β → ρ) (I : Nat → β → Prop) (a0 : β) (h0 : I 0 a0)
  (hstep : ∀ (k : Nat) x a, l[k]? = some x → I k a → f (S k a) = some (match g k a x with | .inl a' => .inl (S ((k + 1 : Nat) : Int) a') | .inr y => .inr y) ∧ ∀ a', g k a x = .inl a' → I (k + 1) a')
  (hend : ∀ a, I l.length a → f (S ((l.length : Nat) : Int) a) = some (.inr (fin a))) : loopR f (S 0 a0) = some (qso g fin 0 a0 l) := by
 have aux : ∀ (r : List α) (k : Nat) (a : β), l.drop k = r → k ≤ l.length → I k a → loopR f (S k a) = some (qso g fin k a r) := by
  intro r
  induction r with
  | nil =>
   intro k a h hk hi
   have : l.length ≤ k := List.drop_eq_nil_iff.1 h
   obtain rfl : k = l.length := by omega
   exact q0a (hend a hi)
  | cons x r ih =>
   intro k a h hk hi
   have hlt : k < l.length := by
    rcases Nat.lt_or_ge k l.length with h2 | h2
    ·exact h2
    ·rw [List.drop_eq_nil_of_le h2] at h; cases h
   rw [q1p hlt] at h
   injection h with h1 h2
   have hx : l[k]? = some x := by rw [List.getElem?_eq_getElem hlt, h1]
   obtain ⟨hs, hi2⟩ := hstep k x a hx hi
   unfold qso
   cases hc : g k a x with
   | inr y => rw [hc] at hs; exact q0a hs
   | inl a' =>
    rw [hc] at hs
    rw [q0e hs]
    exact ih (k + 1) a' h2 (by omega) (hi2 a' hc)
 exact aux l 0 a0 rfl (Nat.zero_le _) h0
theorem qsp {α β ρ : Type} (g : β → α → β) (fin : β → ρ) (l : List α) (k : Nat) (a : β) : qso (fun _ a x => .inl (g a x)) fin k a l = fin (l.foldl g a) := by
 induction l generalizing k a with
 | nil => rfl
 | cons x r ih => exact ih (k + 1) (g a x)
theorem q21 {σ ρ α β : Type} (f : σ → Option (σ ⊕ ρ)) (S : Int → β → σ) (l : List α) (g : β → α → β) (fin : β → ρ) (I : Nat → β → Prop) (a0 : β) (h0 : I 0 a0)
  (hstep : ∀ (k : Nat) x a, l[k]? = some x → I k a → f (S k a) = some (.inl (S ((k + 1 : Nat) : Int) (g a x))) ∧ I (k + 1) (g a x))
  (hend : ∀ a, I l.length a → f (S ((l.length : Nat) : Int) a) = some (.inr (fin a))) : loopR f (S 0 a0) = some (fin (l.foldl g a0)) := by
 rw [qp0 f S l (fun _ a x => .inl (g a x)) fin I a0 h0 (fun k x a hx hi => ⟨(hstep k x a hx hi).1, fun a' e => by injection e with e; rw [← e]; exact (hstep k x a hx hi).2⟩) hend, qsp]
end Fn
end Ev

namespace Ev
open Go
namespace Fn
theorem eqS_eq {a b : List Int} : eqS a b = true ↔ a = b := by simp [eqS]
theorem ql5 (l : List ND) : ltI 4000 (lenI l) = !decide (l.length ≤ 4000) := by
 unfold ltI lenI
 by_cases e : l.length ≤ 4000
 ·rw [decide_eq_true e, decide_eq_false (by omega)]; rfl
 ·rw [decide_eq_false e, decide_eq_true (by omega)]; rfl
end Fn
end Ev

namespace Ev
open Go
namespace Fn
end Fn
end Ev

namespace Ev
open Go
namespace Fn
abbrev SN := Sl ND
abbrev CT := Tx × Sl SN
abbrev DD := Tx × Int × Sl CT
def gT (s : Tx) : Prop := (∀ b, b ∈ s → 0 ≤ b ∧ b ≤ 255) ∧ s.length ≤ 1000000
def gA (t : SN) : Prop := GL t.l ∧ t.l.length ≤ 10000
theorem qgt (s : Tx) (hs : gT s) : f_cq (s, ()) = some (q27 s, ()) := by
 rw [u_cq, qb0 s hs.2, q00]; rfl
theorem q37 {α ρ : Type} (p : α → Bool) (A R : ρ) (l : List α) (k : Nat) : scan (fun _ x => bif p x then none else some A) R k l = bif l.all p then R else A := by
 induction l generalizing k with
 | nil => rfl
 | cons x r ih =>
  unfold scan
  rw [List.all_cons]
  cases p x with
  | true => exact ih (k + 1)
  | false => rfl
end Fn
end Ev

namespace Ev
open Go
namespace Fn
theorem q3m {α ρ : Type} (p : α → Bool) (A R : ρ) (l : List α) (k : Nat) : scan (fun _ x => bif p x then some A else none) R k l = bif l.any p then A else R := by
 induction l generalizing k with
 | nil => rfl
 | cons x r ih =>
  unfold scan
  rw [List.any_cons]
  cases p x with
  | false => exact ih (k + 1)
  | true => rfl
end Fn
end Ev

namespace Ev
open Go
namespace Fn
theorem qn2 (l : List DD) (n : Tx) : (l.any fun x => eqS x.1 n) = decide (n ∈ l.map fun d => d.1) := by
 rw [Bool.eq_iff_iff]
 simp only [List.any_eq_true, decide_eq_true_eq, List.mem_map]
 exact ⟨fun ⟨x, h1, h2⟩ => ⟨x, h1, eqS_eq.1 h2⟩, fun ⟨x, h1, h2⟩ => ⟨x, h1, eqS_eq.2 h2⟩⟩
end Fn
end Ev

namespace Ev
open Go
namespace Fn
def qfe (L : List DD) (x : ND) : Bool := L.any fun d => eqS d.1 x.2.1 && eqI d.2.1 x.2.2.2
def q8y (L : List DD) (x : ND) : Bool := eqI x.1 32 && (q27 x.2.1 && !qfe L x)
end Fn
end Ev

namespace Ev
open Go
namespace Fn
end Fn
end Ev

namespace Ev
open Go
namespace Fn
end Fn
end Ev

namespace Ev
open Go
namespace Fn
theorem ql8 (s : Sl DD) (hL : s.l.length ≤ 1000) (x : ND) : f_cp (s, x, ()) = some (qfe s.l x, ()) := by
 obtain ⟨a, t, n, c⟩ := x
 rw [u_cp]
 refine (q0i l1_cp (fun k => (s, k, a, t, n, c, ())) s.l (by omega) (fun _ d => bif eqS d.1 t && eqI d.2.1 c then some (true, ()) else none) (false, ()) ?_ ?_).trans ?_
 ·intro k d hx hk
  unfold l1_cp
  simp only [ltG hx, q03, q06 hx, q00, add1 (show k ≤ 1000000000 by omega)]
  cases eqS d.1 t <;> cases eqI d.2.1 c <;> rfl
 ·unfold l1_cp
  simp only [ltE, q01]
 ·rw [q3m]; unfold qfe; cases s.l.any (fun d => eqS d.1 t && eqI d.2.1 c) <;> rfl
theorem r3 (s : Sl DD) (hL : s.l.length ≤ 1000) (i k : Int) (m : Nat) (hm : m ≤ 1000000) (t : SN) (ht : gA t) :
  loopR l3_cm (s, i, k, (m : Int), t, 0, ()) = some (bif t.l.any (q8y s.l) then .inr (.inr (.inr (.inr (.inr (.inr (102, ())))))) else .inl (s, i, k, ((m + 1 : Nat) : Int), ())) := by
 have hl := ht.2
 refine (q0i l3_cm (fun n => (s, i, k, (m : Int), t, n, ())) t.l (by omega) (fun _ x => bif q8y s.l x then some (.inr (.inr (.inr (.inr (.inr (.inr (102, ()))))))) else none) (.inl (s, i, k, ((m + 1 : Nat) : Int), ())) ?_ ?_).trans ?_
 ·intro n x hx hk
  have hg := ht.1.at hx
  have hkn := ql8 s hL x
  have hn := qgt x.2.1 ⟨hg.1, hg.2.1⟩
  unfold l3_cm q8y
  simp only [ltG hx, q03, q06 hx, q00, hkn, hn, add1 (show n ≤ 1000000000 by omega)]
  cases eqI x.1 32 <;> cases q27 x.2.1 <;> cases qfe s.l x <;> rfl
 ·unfold l3_cm
  simp only [ltE, q01, add1 (show m ≤ 1000000000 by omega)]
 ·rw [q3m]
theorem qn7 {α : Type} {l : List α} {i k : Nat} {x : α} (h : (l.take i)[k]? = some x) : l[k]? = some x ∧ k < i := by
 have h1 := getL h
 rw [List.length_take] at h1
 rw [List.getElem?_take_of_lt (by omega)] at h
 exact ⟨h, by omega⟩
theorem ltT {i k : Nat} (h : k < i) : ltI (k : Int) (i : Int) = true := decide_eq_true (by omega)
theorem qxy (l : List Tx) (n : Tx) : (l.any fun x => eqS x n) = decide (n ∈ l) := by
 rw [Bool.eq_iff_iff]
 simp only [List.any_eq_true, decide_eq_true_eq]
 exact ⟨fun ⟨x, h1, h2⟩ => by rw [← eqS_eq.1 h2]; exact h1, fun h => ⟨n, h, q7q n⟩⟩
theorem r2 (s : Sl DD) (ns : Sl Tx) {i : Nat} {n : Tx} (hn : ns.l[i]? = some n) (hi : i ≤ 1000000) :
  loopR l2_cm (s, ns, (i : Int), 0, ()) = some (bif decide (n ∈ ns.l.take i) then .inr (.inr (.inr (101, ()))) else .inl (s, ns, ((i + 1 : Nat) : Int), ())) := by
 have hlen : (ns.l.take i).length = i := by rw [List.length_take]; have := getL hn; omega
 refine (q0i l2_cm (fun k => (s, ns, (i : Int), k, ())) (ns.l.take i) (by omega) (fun _ x => bif eqS x n then some (.inr (.inr (.inr (101, ())))) else none) (.inl (s, ns, ((i + 1 : Nat) : Int), ())) ?_ ?_).trans ?_
 ·intro k x hx hk
  obtain ⟨h1, h2⟩ := qn7 hx
  unfold l2_cm
  simp only [ltT h2, q03, q06 h1, q06 hn, q00, add1 (show k ≤ 1000000000 by omega)]
  cases eqS x n <;> rfl
 ·have h0 : ltI (i : Int) (i : Int) = false := decide_eq_false (by omega)
  unfold l2_cm
  simp only [hlen, h0, q01, add1 (show i ≤ 1000000000 by omega)]
 ·rw [q3m, qxy]
theorem r1 (s : Sl DD) (ns : Sl Tx) {i : Nat} {d : DD} (hn : s.l[i]? = some d) (hi : i ≤ 1000000) :
  loopR l1_cm (s, ns, (i : Int), 0, ()) = some (bif decide (d.1 ∈ (s.l.take i).map fun d => d.1) then .inr (.inr (101, ())) else .inl (s, ns, ((i + 1 : Nat) : Int), ())) := by
 have hlen : (s.l.take i).length = i := by rw [List.length_take]; have := getL hn; omega
 refine (q0i l1_cm (fun k => (s, ns, (i : Int), k, ())) (s.l.take i) (by omega) (fun _ x => bif eqS x.1 d.1 then some (.inr (.inr (101, ()))) else none) (.inl (s, ns, ((i + 1 : Nat) : Int), ())) ?_ ?_).trans ?_
 ·intro k x hx hk
  obtain ⟨h1, h2⟩ := qn7 hx
  unfold l1_cm
  simp only [ltT h2, q03, q06 h1, q06 hn, q00, add1 (show k ≤ 1000000000 by omega)]
  cases eqS x.1 d.1 <;> rfl
 ·have h0 : ltI (i : Int) (i : Int) = false := decide_eq_false (by omega)
  unfold l1_cm
  simp only [hlen, h0, q01, add1 (show i ≤ 1000000000 by omega)]
 ·rw [q3m, qn2]
end Fn
end Ev

namespace Ev
open Go
namespace Fn
def F.trees : F → List (List ND)
 | .nil => []
 | .cons k t n ks r => (tr k t n ks).flat :: r.trees
def F.ents : Nat → F → List (Int × List ND)
 | _, .nil => []
 | q, .cons k t n ks r => ((q : Int), (tr k t n ks).flat) :: r.ents (q + 1 + ks.size)
theorem F.ents_pos : ∀ (f : F) (q : Nat), (f.ents q).map (fun e => e.1) = f.pos q
 | .nil, _ => rfl
 | .cons _ _ _ ks r, q => by
  show (q : Int) :: _ = (q : Int) :: _
  rw [F.ents_pos r]
theorem F.ents_trees : ∀ (f : F) (q : Nat), (f.ents q).map (fun e => e.2) = f.trees
 | .nil, _ => rfl
 | .cons k t n ks r, q => by
  show (tr k t n ks).flat :: _ = (tr k t n ks).flat :: _
  rw [F.ents_trees r]
theorem F.trees_len : ∀ f : F, f.trees.length = f.cnt
 | .nil => rfl
 | .cons k t n ks r => by show r.trees.length + 1 = _; rw [F.trees_len r]; rfl
theorem q0v (k : Int) (t : Tx) (n : Int) (ks : F) : (tr k t n ks).flat.length = ks.size + 1 := by rw [F.len]; rfl
structure qz3 (l : List ND) (e : Int × List ND) : Prop where
 pos : 0 ≤ e.1
 ends : ∀ b, f_ep (⟨b, l⟩, e.1, ()) = some (e.1 + (e.2.length : Int), ())
 rends : ∀ b, f_bx (⟨b, l⟩, e.1, ()) = some (e.1 + (e.2.length : Int), ())
 cut : cutL l e.1 (e.1 + (e.2.length : Int)) = some e.2
 sits : ∃ (q : Nat) (k : Int) (t : Tx) (n : Int) (ks : F), e = ((q : Int), (tr k t n ks).flat) ∧ Sits l q (tr k t n ks)
theorem qfg {l : List ND} (hl : l.length ≤ 10000) : ∀ (f : F) (q : Nat), Sits l q f → q ≤ l.length → ∀ e, e ∈ f.ents q → qz3 l e
 | .nil, _, _, _, _, h => by cases h
 | .cons k t n ks r, q, hs, hq, e, h => by
  rcases List.mem_cons.1 h with h | h
  ·subst h
   have he := hs.ends
   have hn := hs.node
   have hlen := q0v k t n ks
   have hz : (q : Int) + ((tr k t n ks).flat.length : Int) = ((q + 1 + ks.size : Nat) : Int) := by rw [hlen]; omega
   refine ⟨by show (0 : Int) ≤ (q : Int); omega, fun b => ?_, fun b => ?_, ?_, ⟨q, k, t, n, ks, rfl, hs.first⟩⟩
   ·show f_ep (⟨b, l⟩, (q : Int), ()) = _
    rw [q7v b l hl q, he, hz]
   ·show f_bx (⟨b, l⟩, (q : Int), ()) = _
    rw [qa3 b l hl q, he, hz]
   ·show cutL l (q : Int) ((q : Int) + ((tr k t n ks).flat.length : Int)) = some (tr k t n ks).flat
    have hflat := hs.first.flat_eq
    have hsz : (tr k t n ks).size = ks.size + 1 := rfl
    rw [hz]
    unfold cutL
    rw [if_pos ⟨by omega, by omega, by have := hn.2.2.2; omega⟩]
    rw [hsz] at hflat
    rw [Int.toNat_natCast, Int.toNat_natCast, List.drop_take, show q + 1 + ks.size - q = ks.size + 1 by omega]
    exact congrArg some hflat
  ·exact qfg hl r _ hs.node.2.2.1 (by have := hs.node.2.2.2; omega) e h
theorem qgw {α β : Type} (h : α → β) (l : List α) : ∀ a : Sl β, l.foldl (fun (a : Sl β) e => (⟨false, a.l ++ [h e]⟩ : Sl β)) a = ⟨a.nil && l.isEmpty, a.l ++ l.map h⟩ := by
 induction l with
 | nil => intro a; simp
 | cons x r ih => intro a; rw [List.foldl_cons, ih]; simp
theorem getM {α β : Type} {l : List α} {f : α → β} {k : Nat} {e : α} (h : l[k]? = some e) : (l.map f)[k]? = some (f e) := by rw [List.getElem?_map, h]; rfl
theorem q7z (b : Bool) (k : Int) (t : Tx) (n : Int) (ks : F) (hl : ks.size + 1 ≤ 10000) : ∃ nb, f_bl (⟨b, (tr k t n ks).flat⟩, ()) = some (⟨nb, ks.trees.map fun l => (⟨b, l⟩ : SN)⟩, ()) := by
 have hl' : (tr k t n ks).flat.length ≤ 10000 := by rw [q0v]; exact hl
 have hs := q36 k t n ks
 obtain ⟨nb, hk⟩ := qj0 b _ hl' hs
 have hat := qfg hl' ks 1 hs.node.2.1 (by rw [q0v]; omega)
 have hc : (ks.ents 1).length = ks.cnt := by rw [← F.pos_len ks 1, ← F.ents_pos, List.length_map]
 have hcnt := F.cnt_le ks
 have e := q21 l1_bl (fun i a => (⟨b, (tr k t n ks).flat⟩, ⟨nb, ks.pos (0 + 1)⟩, lenI (ks.pos (0 + 1)), i, a, ())) (ks.ents 1) (fun (a : Sl SN) e => (⟨false, a.l ++ [⟨b, e.2⟩]⟩ : Sl SN)) (fun a => (a, ())) (fun i a => i ≤ ks.cnt ∧ a.l.length = i) ⟨true, []⟩ ⟨Nat.zero_le _, rfl⟩
  (fun i e a hx hi => by
   obtain ⟨na, al⟩ := a
   have h2 : al.length = i := hi.2
   have hp : (ks.pos (0 + 1))[i]? = some e.1 := by rw [← F.ents_pos]; exact getM hx
   have hk2 := hat e (List.mem_of_getElem? hx)
   have hil := getL hx
   have hfit : fit (sumI (lenI al) (lenI [(⟨b, e.2⟩ : SN)])) = some () := q0u (by show al.length + 1 ≤ _; omega)
   refine ⟨?_, by omega, by show (al ++ [_]).length = _; rw [List.length_append, h2]; rfl⟩
   unfold l1_bl
   simp only [ltG hp, q03, q06 hp, q00, hk2.ends b, hk2.cut, hfit, q1z, add1 (show i ≤ 1000000000 by omega)]
   rfl)
  (fun a _ => by
   have hpl : (ks.ents 1).length = (ks.pos (0 + 1)).length := by rw [hc, F.pos_len]
   unfold l1_bl
   simp only [hpl, ltE, q01])
 rw [qgw] at e
 refine ⟨true && (ks.ents 1).isEmpty, ?_⟩
 rw [u_bl]
 refine (qbp hk _).trans (e.trans ?_)
 rw [← F.ents_trees ks 1, List.map_map]
 rfl
def bl (b : Bool) : Nat → List (List ND) → List (Int × SN)
 | _, [] => []
 | i, T :: r => ((i : Int), ⟨b, T⟩) :: bl b (i + 1) r
end Fn
end Ev

namespace Ev
open Go
namespace Fn
end Fn
end Ev

namespace Ev
open Go
namespace Fn
end Fn
end Ev

namespace Ev
open Go
namespace Fn
theorem qn8 {l : List ND} {e : Int × List ND} (h : qz3 l e) (he : e.2.length ≤ 1000000) (b : Bool) : f_c1 (⟨b, l⟩, e.1, ()) = some (⟨false, e.2⟩, ()) := by
 have hf : fit (sumI (lenI ([] : List ND)) (lenI e.2)) = some () := q0u (by show 0 + e.2.length ≤ _; omega)
 rw [u_c1, h.rends b, q00, h.cut, q00, hf, q00]
 rfl
end Fn
end Ev

namespace Ev
open Go
namespace Fn
theorem qgy : ∀ (f g : F) (x y : List ND), f.flat ++ x = g.flat ++ y → f.cnt = g.cnt → f = g ∧ x = y
 | .nil, .nil, x, y, h, _ => ⟨rfl, h⟩
 | .nil, .cons _ _ _ _ _, _, _, _, h => by cases h
 | .cons _ _ _ _ _, .nil, _, _, _, h => by cases h
 | .cons k t n ks r, .cons k' t' n' ks' r', x, y, h, hc => by
  have h : (k, t, n, (ks.cnt : Int)) :: ((ks.flat ++ r.flat) ++ x) = (k', t', n', (ks'.cnt : Int)) :: ((ks'.flat ++ r'.flat) ++ y) := h
  injection h with h1 h2
  injection h1 with e1 h1
  injection h1 with e2 h1
  injection h1 with e3 e4
  rw [List.append_assoc, List.append_assoc] at h2
  obtain ⟨g1, g2⟩ := qgy ks ks' _ _ h2 (by omega)
  have hc : r.cnt + 1 = r'.cnt + 1 := hc
  obtain ⟨g3, g4⟩ := qgy r r' _ _ g2 (by omega)
  subst e1 e2 e3 g1 g3
  exact ⟨rfl, g4⟩
theorem qjb {k k' : Int} {t t' : Tx} {n n' : Int} {ks ks' : F} (h : (tr k t n ks).flat = (tr k' t' n' ks').flat) : k = k' ∧ t = t' ∧ n = n' ∧ ks = ks' := by
 have := (qgy (tr k t n ks) (tr k' t' n' ks') [] [] (by rw [List.append_nil, List.append_nil]; exact h) rfl).1
 injection this with h1 h2 h3 h4
 exact ⟨h1, h2, h3, h4⟩
def F.kidsF : F → List F
 | .nil => []
 | .cons k t n ks r => tr k t n ks :: r.kidsF
theorem F.kidsF_mem : ∀ (f : F) (p : F), p ∈ f.kidsF → ∃ k t n ks, p = tr k t n ks ∧ ks.size + 1 ≤ f.size
 | .nil, _, h => by cases h
 | .cons k t n ks r, p, h => by
  rcases List.mem_cons.1 h with h | h
  ·exact ⟨k, t, n, ks, h, by show _ ≤ ks.size + r.size + 1; omega⟩
  ·obtain ⟨k', t', n', ks', h1, h2⟩ := F.kidsF_mem r p h
   exact ⟨k', t', n', ks', h1, by show _ ≤ ks.size + r.size + 1; omega⟩
end Fn
end Ev

namespace Ev
open Go
namespace Fn
def hd (T : List ND) : ND := T.headD (0, [], 0, 0)
theorem qjd (a b : Nat) : eqI ((a : Nat) : Int) ((b : Nat) : Int) = decide (a = b) := by
 by_cases h : a = b
 ·subst h; rw [q2i, decide_eq_true rfl]
 ·rw [q1a (by omega), decide_eq_false h]
end Fn
end Ev

namespace Ev
open Go
namespace Fn
end Fn
end Ev

namespace Ev
open Go
namespace Fn
def valN (x : ND) : Bool := bif eqI x.1 51 then eqS x.2.1 [] && (eqI x.2.2.2 0 && q40 x.2.2.1) else bif eqI x.1 52 then eqI x.2.2.1 0 && (eqI x.2.2.2 0 && leI (lenI x.2.1) 200) else
 bif eqI x.1 53 then eqI x.2.2.1 0 && q27 x.2.1 else bif eqI x.1 54 then eqS x.2.1 [] && (eqI x.2.2.1 0 && eqI x.2.2.2 0) else false
def q92 (l : List ND) : Bool := decide (l.length ≤ 4000) && (q3v l && l.all valN)
theorem qpa (x : ND) (hx : qj2 x) : f_bj (x, ()) = some (valN x, ()) := by
 obtain ⟨a, t, n, c⟩ := x
 obtain ⟨v, hv, hw⟩ := qf9 n hx.2.2
 have hc := qmv (s := t) hx.1
 rw [u_bj]
 unfold valN
 simp only [hv, hc, q00, hw]
 cases eqI a 51 with
 | true => cases eqS t [] <;> cases eqI c 0 <;> rfl
 | false =>
  cases eqI a 52 with
  | true => cases eqI n 0 <;> cases eqI c 0 <;> rfl
  | false =>
   cases eqI a 53 with
   | true => cases eqI n 0 <;> rfl
   | false => cases eqI a 54 <;> rfl
theorem qt8 (b : Bool) (l : List ND) (hl : l.length ≤ 1000000) (hg : GL l) : f_df (⟨b, l⟩, ()) = some (!l.all valN, ()) := by
 have e : loopR l1_dp (⟨b, l⟩, lenI l, 0, ()) = some (ixP (fun x => !valN x) 0 l, ()) := by
  refine q24 l1_dp (fun k => (⟨b, l⟩, lenI l, k, ())) (fun z => (z, ())) l hl (fun x => !valN x) ?_ ?_
  ·intro k x hx hk
   obtain ⟨a, t, n, c⟩ := x
   unfold l1_dp
   simp only [ltG hx, q03, q06 hx, q00, u_bs, qpa _ (hg.at hx), add1 (show k ≤ 1000000000 by omega), notB]
   cases valN (a, t, n, c) <;> rfl
  ·unfold l1_dp
   simp only [ltE, q01]
 rw [u_df, u_dp]
 refine (qbp e _).trans ?_
 rw [q5g, List.not_all_eq_any_not]
theorem qdw (b : Bool) (l : List ND) (hl : l.length ≤ 10000) (hg : GL l) : f_br (⟨b, l⟩, ()) = some (q92 l, ()) := by
 have hle : leI (lenI l) 4000 = decide (l.length ≤ 4000) := by unfold leI lenI; exact decide_eq_decide.2 (by omega)
 rw [u_br, qt8 b l (by omega) hg, q5v b l hl]
 simp only [hle]
 unfold q92
 cases decide (l.length ≤ 4000) <;> cases q3v l <;> cases l.all valN <;> rfl
theorem q93 (b : Bool) (l : List ND) (hl : l.length ≤ 10000) (hg : GL l) : f_d1 (⟨b, l⟩, ()) = some (q92 l, ()) := by
 have loop : loopR l1_d1 (⟨b, l⟩, 0, ()) = some (l.all valN, ()) := by
  refine (q0i l1_d1 (fun k => (⟨b, l⟩, k, ())) l (by omega) (fun _ x => bif valN x then none else some (false, ())) (true, ()) ?_ ?_).trans ?_
  ·intro k x hx hk
   have hgx := hg.at hx
   obtain ⟨a, t, n, c⟩ := x
   obtain ⟨v, hv, hw⟩ := qfa n hgx.2.2
   have hc := qiz (s := t) hgx.2.1
   have hadd := add1 (show k ≤ 1000000000 by omega)
   unfold l1_d1 valN
   simp only [ltG hx, q03, q06 hx, q00, hv, hc, hw, hadd]
   by_cases h1 : a = 51
   ·subst h1
    have z1 : eqI 51 51 = true := rfl
    have z2 : eqI 51 52 = false := rfl
    have z3 : eqI 51 53 = false := rfl
    have z4 : eqI 51 54 = false := rfl
    simp only [z1, z2, z3, z4]
    cases eqS t [] <;> cases eqI c 0 <;> cases q40 n <;> rfl
   ·rw [q1a h1]
    by_cases h2 : a = 52
    ·subst h2
     have z2 : eqI 52 52 = true := rfl
     have z3 : eqI 52 53 = false := rfl
     have z4 : eqI 52 54 = false := rfl
     simp only [z2, z3, z4]
     cases eqI n 0 <;> cases eqI c 0 <;> cases leI (lenI t) 200 <;> rfl
    ·rw [q1a h2]
     by_cases h3 : a = 53
     ·subst h3
      have z3 : eqI 53 53 = true := rfl
      have z4 : eqI 53 54 = false := rfl
      simp only [z3, z4]
      cases eqI n 0 <;> cases q27 t <;> rfl
     ·rw [q1a h3]
      cases eqI a 54 <;> cases eqI n 0 <;> cases eqI c 0 <;> cases eqS t [] <;> rfl
  ·unfold l1_d1
   simp only [ltE, q01]
  ·rw [q37]; cases l.all valN <;> rfl
 rw [u_d1, loop, q6i b l hl]
 simp only [ql5]
 unfold q92
 cases decide (l.length ≤ 4000) <;> cases q3v l <;> cases l.all valN <;> rfl
end Fn
end Ev

namespace Ev
open Go
namespace Fn
def isP (p : List ND) : Prop := ∃ k t n ks, p = (tr k t n ks).flat ∧ chkT k t n ks true = 0
theorem qn9 (p : List ND) (hp : p.length ≤ 4000) (hg : GL p) : ∃ e : Int, (∀ b, f_ea (⟨b, p⟩, ()) = some (e, ())) ∧ (∀ b, f_c8 (⟨b, p⟩, true, ()) = some (e, ())) ∧ (e = 0 ↔ isP p) := by
 rcases qxs p with h | ⟨k, t, n, ks, h⟩
 ·refine ⟨60, fun b => qv1 b p hp h, fun b => ql3 b p hp true h, fun e => by omega, fun ⟨k, t, n, ks, e, _⟩ => ?_⟩
  rw [(q31 p).2 ⟨k, t, n, ks, e⟩] at h; cases h
 ·subst h
  rw [q0v] at hp
  refine ⟨chkT k t n ks true, fun b => qv0 b k t n ks hp hg, fun b => ql2 b k t n ks true hp hg, fun e => ⟨k, t, n, ks, rfl, e⟩, fun ⟨k', t', n', ks', e, h⟩ => ?_⟩
  obtain ⟨u1, u2, u3, u4⟩ := qjb e
  subst u1 u2 u3 u4
  exact h
theorem qh4 {v : List ND} (h : q92 v = true) : ∃ k t n ks, v = (tr k t n ks).flat ∧ ks.size + 1 ≤ 4000 ∧ v.all valN = true := by
 unfold q92 at h
 rw [Bool.and_eq_true, Bool.and_eq_true] at h
 obtain ⟨k, t, n, ks, e⟩ := (q31 v).1 h.2.1
 refine ⟨k, t, n, ks, e, ?_, h.2.2⟩
 have := of_decide_eq_true h.1
 rw [e, q0v] at this
 exact this
end Fn
end Ev

namespace Ev
open Go
namespace Fn
theorem qje (a c : SN) (ha : a.l.length ≤ 1000000) : f_c0 (a, c, ()) = some (decide (a.l = c.l), ()) := by
 rw [u_c0]
 have hl : eqI (lenI a.l) (lenI c.l) = decide (a.l.length = c.l.length) := qjd _ _
 rw [hl]
 by_cases hle : a.l.length = c.l.length
 ·rw [decide_eq_true hle, nT, q01]
  have hz : (a.l.zip c.l).length = a.l.length := by rw [List.length_zip]; omega
  refine (q0i l1_c0 (fun k => (a, c, k, ())) (a.l.zip c.l) (by omega) (fun _ z => bif decide (z.1 = z.2) then none else some (false, ())) (true, ()) ?_ ?_).trans ?_
  ·intro k z hx hk
   obtain ⟨x, y⟩ := z
   rw [List.getElem?_zip_eq_some] at hx
   obtain ⟨h1, h2⟩ := hx
   obtain ⟨x1, x2, x3, x4⟩ := x
   obtain ⟨y1, y2, y3, y4⟩ := y
   have he : andB (eqI x1 y1) (andB (eqS x2 y2) (andB (eqI x3 y3) (eqI x4 y4))) = decide ((x1, x2, x3, x4) = (y1, y2, y3, y4)) := by
    by_cases e : (x1, x2, x3, x4) = (y1, y2, y3, y4)
    ·injection e with e1 e; injection e with e2 e; injection e with e3 e4
     subst e1 e2 e3 e4
     rw [q2i, q7q, q2i, q2i, decide_eq_true rfl]; rfl
    ·rw [decide_eq_false e]
     cases q1 : eqI x1 y1 <;> cases q2 : eqS x2 y2 <;> cases q3 : eqI x3 y3 <;> cases q4 : eqI x4 y4 <;> first | rfl | exact absurd (by rw [eqI_eq.1 q1, eqS_eq.1 q2, eqI_eq.1 q3, eqI_eq.1 q4]) e
   unfold l1_c0
   simp only [ltG h1, q03, q06 h1, q06 h2, q00, he, add1 (show k ≤ 1000000000 by omega)]
   cases decide ((x1, x2, x3, x4) = (y1, y2, y3, y4)) <;> rfl
  ·unfold l1_c0
   simp only [hz, ltE, q01]
  ·rw [q37]
   have : (a.l.zip c.l).all (fun z => decide (z.1 = z.2)) = decide (a.l = c.l) := by
    generalize a.l = u at *
    generalize c.l = v at *
    clear hz hl ha
    induction u generalizing v with
    | nil => cases v with
     | nil => rfl
     | cons _ _ => cases hle
    | cons x r ih => cases v with
     | nil => cases hle
     | cons y w =>
      rw [List.zip_cons_cons, List.all_cons, ih w (by simpa using hle)]
      by_cases e : x = y
      ·subst e
       rw [decide_eq_true rfl, Bool.true_and]
       exact decide_eq_decide.2 (by simp)
      ·rw [decide_eq_false e, Bool.false_and]
       exact (decide_eq_false (by intro h; injection h with h; exact e h)).symm
   rw [this]
   cases decide (a.l = c.l) <;> rfl
 ·rw [decide_eq_false hle, nF, q03, decide_eq_false (fun h => hle (by rw [h]))]
theorem q4a (n : Bool) (l : List ND) (hl : l.length ≤ 1000000) : q0j (⟨n, l⟩, ()) = some (⟨false, l⟩, ()) := by
 have hf : fit (sumI (lenI ([] : List ND)) (lenI l)) = some () := q0u (by show 0 + l.length ≤ _; omega)
 rw [qkt, hf, q00, q7w]
 rfl
def fewN (m : Nat) (l : List ND) : Prop := l.length ≤ m ∧ ∀ x, x ∈ l → x.2.1.length ≤ 60
theorem z00 {k : Nat} (h : k < 9223372036854775807) : addI .i64 (k : Int) 1 = ((k + 1 : Nat) : Int) := by rw [q9u (by omega) (by omega)]; omega
theorem qvd (a : Sl SN) {i : Nat} {t : SN} (ht : a.l[i]? = some t) (hi : i < 9223372036854775807) :
  ∃ r, loopR l1_cv (a, (i : Int), 0, ()) = some r ∧ (r = .inr (false, ()) ∨ (r = .inl (a, ((i + 1 : Nat) : Int), ()) ∧ fewN 30 t.l)) := by
 refine q4o (f := l1_cv) (I := fun s => ∃ k : Nat, s = (a, (i : Int), (k : Int), ()) ∧ k ≤ 31 ∧ ∀ j x, j < k → t.l[j]? = some x → x.2.1.length ≤ 60) (fun s => (31 - s.2.2.1).toNat) ?_ _ ⟨0, rfl, by omega, fun j x h => by omega⟩
 rintro s ⟨k, rfl, hk, hb⟩
 have hat := q06 ht
 by_cases h1 : k < t.l.length ∧ k < 31
 ·obtain ⟨x, hx⟩ : ∃ x, t.l[k]? = some x := ⟨_, List.getElem?_eq_getElem h1.1⟩
  have c1 : ltI (k : Int) (lenI t.l) = true := ltG hx
  have c2 : ltI (k : Int) 31 = true := decide_eq_true (by omega)
  cases h2 : ltI 60 (lenI x.2.1) with
  | true =>
   refine .inr ⟨.inr (false, ()), ?_, .inl rfl⟩
   unfold l1_cv
   simp only [hat, q00, c1, c2, q03, q06 hx, h2]
  | false =>
   refine .inl ⟨(a, (i : Int), ((k + 1 : Nat) : Int), ()), ?_, ⟨k + 1, rfl, by omega, fun j y hj hy => ?_⟩, by simp only; omega⟩
   ·unfold l1_cv
    simp only [hat, q00, c1, c2, q03, q06 hx, h2, q01, add1 (show k ≤ 1000000000 by omega)]
   ·by_cases e : j = k
    ·subst e
     rw [hx] at hy; injection hy with hy; subst hy
     have := of_decide_eq_false h2
     unfold lenI at this; omega
    ·exact hb j y (by omega) hy
 ·refine .inr ?_
  have hc : (cnd (ltI (k : Int) (lenI t.l)) (some (ltI (k : Int) 31)) (some false) : Option Bool) = some false := by
   by_cases e : k < t.l.length
   ·have : ltI (k : Int) 31 = false := decide_eq_false (by omega)
    rw [this]; cases ltI (k : Int) (lenI t.l) <;> rfl
   ·have : ltI (k : Int) (lenI t.l) = false := decide_eq_false (by unfold lenI; omega)
    rw [this]; rfl
  cases h3 : ltI 30 (lenI t.l) with
  | true =>
   refine ⟨.inr (false, ()), ?_, .inl rfl⟩
   unfold l1_cv
   simp only [hat, q00, hc, q01, h3, q03]
  | false =>
   have hlen : t.l.length ≤ 30 := by have := of_decide_eq_false h3; unfold lenI at this; omega
   refine ⟨.inl (a, ((i + 1 : Nat) : Int), ()), ?_, .inr ⟨rfl, hlen, fun x hx => ?_⟩⟩
   ·unfold l1_cv
    simp only [hat, q00, hc, q01, h3, z00 hi]
   ·obtain ⟨j, hj, e⟩ := List.getElem_of_mem hx
    exact hb j x (by omega) (by rw [List.getElem?_eq_getElem hj, e])
theorem q80 (a : Sl SN) (ha : a.l.length ≤ 9223372036854775807) : ∃ c, f_cv (a, ()) = some (c, ()) ∧ (c = true → a.l.length ≤ 8 ∧ ∀ t, t ∈ a.l → fewN 30 t.l) := by
 rw [u_cv]
 have := q4o (f := l2_cv) (I := fun s => ∃ k : Nat, s = (a, (k : Int), ()) ∧ k ≤ a.l.length ∧ ∀ j t, j < k → a.l[j]? = some t → fewN 30 t.l) (Q := fun r => ∃ c, r = (c, ()) ∧ (c = true → a.l.length ≤ 8 ∧ ∀ t, t ∈ a.l → fewN 30 t.l)) (fun s => ((a.l.length : Int) - s.2.1).toNat) ?_ (a, 0, ()) ⟨0, rfl, by omega, fun j x h => by omega⟩
 ·obtain ⟨r, h1, c, h2, h3⟩ := this
  exact ⟨c, by rw [h1, h2], h3⟩
 ·rintro s ⟨k, rfl, hk, hb⟩
  by_cases h1 : k < a.l.length
  ·obtain ⟨t, ht⟩ : ∃ t, a.l[k]? = some t := ⟨_, List.getElem?_eq_getElem h1⟩
   obtain ⟨r, e, h⟩ := qvd a ht (by omega)
   rcases h with h | ⟨h, hf⟩
   ·subst h
    refine .inr ⟨(false, ()), ?_, false, rfl, fun h => by cases h⟩
    unfold l2_cv
    simp only [ltG ht, q03, e]
   ·subst h
    refine .inl ⟨(a, ((k + 1 : Nat) : Int), ()), ?_, ⟨k + 1, rfl, by omega, fun j y hj hy => ?_⟩, by simp only; omega⟩
    ·unfold l2_cv
     simp only [ltG ht, q03, e]
    ·by_cases e : j = k
     ·subst e; rw [ht] at hy; injection hy with hy; rw [← hy]; exact hf
     ·exact hb j y (by omega) hy
  ·have hk2 : k = a.l.length := by omega
   subst hk2
   refine .inr ⟨(leI (lenI a.l) 8, ()), ?_, _, rfl, fun h => ?_⟩
   ·unfold l2_cv
    simp only [ltE, q01]
   ·have := of_decide_eq_true h
    refine ⟨by unfold lenI at this; omega, fun t ht => ?_⟩
    obtain ⟨j, hj, e⟩ := List.getElem_of_mem ht
    exact hb j t hj (by rw [List.getElem?_eq_getElem hj, e])
end Fn
end Ev

namespace Ev
open Go
namespace Fn
end Fn
end Ev

namespace Ev
open Go
namespace Fn
def gW (s : Tx) : Prop := ∀ b, b ∈ s → 0 ≤ b ∧ b ≤ 255
def gND (x : ND) : Prop := gW x.2.1 ∧ rng x.2.2.1
def gL (l : List ND) : Prop := ∀ x, x ∈ l → gND x
theorem q8c {m : Nat} {l : List ND} (hg : gL l) (hf : fewN m l) : GL l := fun x hx => ⟨(hg x hx).1, by have := hf.2 x hx; omega, (hg x hx).2⟩
end Fn
end Ev

namespace Ev
open Go
namespace Fn
abbrev NM := List (Tx × List ND)
def q39 : F → F → Option NM
 | .nil, _ => some []
 | .cons _ _ _ _ _, .nil => none
 | .cons k t n ks r, .cons k' t' n' ks' r' =>
  match (bif eqI k 21 then some [] else bif eqI k 22 then some [(t, (tr k' t' n' ks').flat)] else bif eqI k 23 then (bif eqI k' 51 && eqI n' n then some [] else none) else
   bif eqI k' 53 && (eqS t' t && decide (ks'.cnt = ks.cnt)) then q39 ks ks' else none : Option NM) with
  | none => none
  | some a => match q39 r r' with
   | none => none
   | some b => some (a ++ b)
def q2e (k : Int) (t : Tx) (n : Int) (ks : F) (k' : Int) (t' : Tx) (n' : Int) (ks' : F) : Option NM :=
 bif eqI k 21 then some [] else bif eqI k 22 then some [(t, (tr k' t' n' ks').flat)] else bif eqI k 23 then (bif eqI k' 51 && eqI n' n then some [] else none) else
  bif eqI k' 53 && (eqS t' t && decide (ks'.cnt = ks.cnt)) then q39 ks ks' else none
theorem q4t (k : Int) (t : Tx) (n : Int) (ks r : F) (k' : Int) (t' : Tx) (n' : Int) (ks' r' : F) : q39 (.cons k t n ks r) (.cons k' t' n' ks' r') = match q2e k t n ks k' t' n' ks' with | none => none | some a => match q39 r r' with | none => none | some b => some (a ++ b) := rfl
theorem q81 : ∀ (f g : F) (ns : NM), q39 f g = some ns → ns.length ≤ f.size
 | .nil, _, ns, h => by injection h with h; subst h; exact Nat.zero_le _
 | .cons _ _ _ _ _, .nil, _, h => by cases h
 | .cons k t n ks r, .cons k' t' n' ks' r', ns, h => by
  rw [q4t] at h
  cases h1 : q2e k t n ks k' t' n' ks' with
  | none => rw [h1] at h; cases h
  | some a =>
   rw [h1] at h
   cases h2 : q39 r r' with
   | none => rw [h2] at h; cases h
   | some b =>
    rw [h2] at h
    injection h with h
    subst h
    have i2 := q81 r r' b h2
    have i1 : a.length ≤ ks.size + 1 := by
     unfold q2e at h1
     cases e1 : eqI k 21 with
     | true => rw [e1] at h1; injection h1 with h1; subst h1; exact Nat.zero_le _
     | false =>
      rw [e1, cond_false] at h1
      cases e2 : eqI k 22 with
      | true => rw [e2] at h1; injection h1 with h1; subst h1; show 1 ≤ _; omega
      | false =>
       rw [e2, cond_false] at h1
       cases e3 : eqI k 23 with
       | true =>
        rw [e3, cond_true] at h1
        cases e4 : (eqI k' 51 && eqI n' n) with
        | true => rw [e4] at h1; injection h1 with h1; subst h1; exact Nat.zero_le _
        | false => rw [e4] at h1; cases h1
       | false =>
        rw [e3, cond_false] at h1
        cases e5 : (eqI k' 53 && (eqS t' t && decide (ks'.cnt = ks.cnt))) with
        | true => rw [e5, cond_true] at h1; have := q81 ks ks' a h1; omega
        | false => rw [e5] at h1; cases h1
    rw [List.length_append]
    show _ ≤ ks.size + r.size + 1
    omega
theorem qc7 (k : Int) (t : Tx) (n : Int) (ks : F) (k' : Int) (t' : Tx) (n' : Int) (ks' : F) : q39 (tr k t n ks) (tr k' t' n' ks') = q2e k t n ks k' t' n' ks' := by
 show (match q2e k t n ks k' t' n' ks' with | none => none | some a => match q39 .nil .nil with | none => none | some b => some (a ++ b)) = _
 cases q2e k t n ks k' t' n' ks' with
 | none => rfl
 | some a => show some (a ++ []) = some a; rw [List.append_nil]
def unN (l : List (Tx × SN)) : NM := l.map fun e => (e.1, e.2.l)
theorem qy4 (a c : List (Tx × SN)) : unN (a ++ c) = unN a ++ unN c := List.map_append ..
theorem qpc (l : List ND) (hl : l.length ≤ 1000000) : f_d3 (⟨false, l⟩, ()) = some (⟨false, l⟩, ()) := by
 have hf : fit (sumI (lenI ([] : List ND)) (lenI l)) = some () := q0u (by show 0 + l.length ≤ _; omega)
 rw [u_d3, q01, hf, q00, q7w]
 rfl
def runF : F → F → Sl (Tx × SN) → Bool × Sl (Tx × SN)
 | .nil, _, out => (true, out)
 | .cons _ _ _ _ _, .nil, out => (false, out)
 | .cons k t n ks r, .cons k' t' n' ks' r', out =>
  match (bif eqI k 21 then (true, out) else bif eqI k 22 then (true, ⟨false, out.l ++ [(t, ⟨false, (tr k' t' n' ks').flat⟩)]⟩) else bif eqI k 23 then (eqI k' 51 && eqI n' n, out) else
   bif eqI k' 53 && (eqS t' t && decide (ks'.cnt = ks.cnt)) then runF ks ks' out else (false, out) : Bool × Sl (Tx × SN)) with
  | (false, o) => (false, o)
  | (true, o) => runF r r' o
def run1 (k : Int) (t : Tx) (n : Int) (ks : F) (k' : Int) (t' : Tx) (n' : Int) (ks' : F) (out : Sl (Tx × SN)) : Bool × Sl (Tx × SN) :=
 bif eqI k 21 then (true, out) else bif eqI k 22 then (true, ⟨false, out.l ++ [(t, ⟨false, (tr k' t' n' ks').flat⟩)]⟩) else bif eqI k 23 then (eqI k' 51 && eqI n' n, out) else
  bif eqI k' 53 && (eqS t' t && decide (ks'.cnt = ks.cnt)) then runF ks ks' out else (false, out)
theorem qdx (k : Int) (t : Tx) (n : Int) (ks r : F) (k' : Int) (t' : Tx) (n' : Int) (ks' r' : F) (out : Sl (Tx × SN)) : runF (.cons k t n ks r) (.cons k' t' n' ks' r') out = match run1 k t n ks k' t' n' ks' out with | (false, o) => (false, o) | (true, o) => runF r r' o := rfl
theorem qw3 (k : Int) (t : Tx) (n : Int) (ks : F) (k' : Int) (t' : Tx) (n' : Int) (ks' : F) (out : Sl (Tx × SN)) : runF (tr k t n ks) (tr k' t' n' ks') out = run1 k t n ks k' t' n' ks' out := by
 show (match run1 k t n ks k' t' n' ks' out with | (false, o) => (false, o) | (true, o) => runF .nil .nil o) = _
 generalize run1 k t n ks k' t' n' ks' out = z
 obtain ⟨a, o⟩ := z
 cases a <;> rfl
theorem qlc : ∀ (f g : F) (out : Sl (Tx × SN)), (runF f g out).2.l.length ≤ out.l.length + f.size
 | .nil, _, out => Nat.le_refl _
 | .cons _ _ _ _ _, .nil, out => Nat.le_add_right _ _
 | .cons k t n ks r, .cons k' t' n' ks' r', out => by
  rw [qdx]
  have h1 : (run1 k t n ks k' t' n' ks' out).2.l.length ≤ out.l.length + ks.size + 1 := by
   unfold run1
   cases eqI k 21 with
   | true => show out.l.length ≤ _; omega
   | false =>
    cases eqI k 22 with
    | true => show (out.l ++ [_]).length ≤ _; rw [List.length_append]; show out.l.length + 1 ≤ _; omega
    | false =>
     cases eqI k 23 with
     | true => show out.l.length ≤ _; omega
     | false =>
      cases (eqI k' 53 && (eqS t' t && decide (ks'.cnt = ks.cnt))) with
      | true => have := qlc ks ks' out; show (runF ks ks' out).2.l.length ≤ _; omega
      | false => show out.l.length ≤ _; omega
  generalize run1 k t n ks k' t' n' ks' out = z at h1
  obtain ⟨a, o⟩ := z
  have h1 : o.l.length ≤ _ := h1
  cases a with
  | false => show o.l.length ≤ out.l.length + (ks.size + r.size + 1); omega
  | true => have := qlc r r' o; show (runF r r' o).2.l.length ≤ out.l.length + (ks.size + r.size + 1); omega
theorem qdy : ∀ (f g : F) (out : Sl (Tx × SN)), (runF f g out).1 = (q39 f g).isSome ∧ ∀ ns, q39 f g = some ns → unN (runF f g out).2.l = unN out.l ++ ns
 | .nil, _, out => ⟨rfl, fun ns h => by injection h with h; subst h; exact (List.append_nil _).symm⟩
 | .cons _ _ _ _ _, .nil, out => ⟨rfl, fun ns h => by cases h⟩
 | .cons k t n ks r, .cons k' t' n' ks' r', out => by
  rw [qdx, q4t]
  have h1 : (run1 k t n ks k' t' n' ks' out).1 = (q2e k t n ks k' t' n' ks').isSome ∧ ∀ ns, q2e k t n ks k' t' n' ks' = some ns → unN (run1 k t n ks k' t' n' ks' out).2.l = unN out.l ++ ns := by
   unfold run1 q2e
   cases eqI k 21 with
   | true => exact ⟨rfl, fun ns h => by injection h with h; subst h; exact (List.append_nil _).symm⟩
   | false =>
    cases eqI k 22 with
    | true => exact ⟨rfl, fun ns h => by injection h with h; subst h; exact qy4 _ _⟩
    | false =>
     cases eqI k 23 with
     | true =>
      cases (eqI k' 51 && eqI n' n) with
      | true => exact ⟨rfl, fun ns h => by injection h with h; subst h; exact (List.append_nil _).symm⟩
      | false => exact ⟨rfl, fun ns h => by cases h⟩
     | false =>
      cases (eqI k' 53 && (eqS t' t && decide (ks'.cnt = ks.cnt))) with
      | true => exact qdy ks ks' out
      | false => exact ⟨rfl, fun ns h => by cases h⟩
  generalize run1 k t n ks k' t' n' ks' out = z at h1
  obtain ⟨a, o⟩ := z
  obtain ⟨h2, h3⟩ := h1
  have h2 : a = _ := h2
  cases hm : q2e k t n ks k' t' n' ks' with
  | none => rw [hm] at h2; subst h2; exact ⟨rfl, fun ns h => by cases h⟩
  | some c =>
   rw [hm] at h2
   subst h2
   have h3 : unN o.l = unN out.l ++ c := h3 c hm
   obtain ⟨g1, g2⟩ := qdy r r' o
   cases hr : q39 r r' with
   | none => rw [hr] at g1; exact ⟨g1, fun ns h => by cases h⟩
   | some d =>
    rw [hr] at g1
    refine ⟨g1, fun ns h => ?_⟩
    injection h with h
    subst h
    show unN (runF r r' o).2.l = _
    rw [g2 d hr, h3, List.append_assoc]
def qld (self : (SN × SN × (Sl (Tx × SN)) × Unit) → Option (Bool × (Sl (Tx × SN)) × Unit)) (p v : F) : Prop :=
 ∀ (b : Bool) (out : Sl (Tx × SN)), out.l.length + p.size ≤ 1000000 → self (⟨b, p.flat⟩, ⟨false, v.flat⟩, out, ()) = some ((runF p v out).1, (runF p v out).2, ())
theorem qpd (self : (SN × SN × (Sl (Tx × SN)) × Unit) → Option (Bool × (Sl (Tx × SN)) × Unit)) (b nv np : Bool) (VV PP : List SN) (hPP : PP.length ≤ 1000000) : ∀ (f g : F) (i : Nat) (out : Sl (Tx × SN)),
  PP.drop i = f.trees.map (fun l => (⟨b, l⟩ : SN)) → VV.drop i = g.trees.map (fun l => (⟨false, l⟩ : SN)) → i + f.cnt = PP.length → f.cnt = g.cnt → out.l.length + f.size ≤ 1000000 →
  (∀ p, p ∈ f.kidsF → ∀ v, v ∈ g.kidsF → qld self p v) →
  loopR (l3_bi self) (⟨nv, VV⟩, ⟨np, PP⟩, lenI PP, (i : Int), out, ()) = some ((runF f g out).1, (runF f g out).2, ()) := by
 intro f
 induction f with
 | nil =>
  intro g i out h1 h2 h3 h4 h5 h6
  have h3 : i + 0 = PP.length := h3
  have hi : i = PP.length := by omega
  subst hi
  refine q0a ?_
  unfold l3_bi
  simp only [ltE, q01]
  rfl
 | cons k t n ks r _ ih =>
  intro g i out h1 h2 h3 h4 h5 h6
  cases g with
  | nil => cases h4
  | cons k' t' n' ks' r' =>
   have h3 : i + (r.cnt + 1) = PP.length := h3
   have h4 : r.cnt + 1 = r'.cnt + 1 := h4
   have h5 : out.l.length + (ks.size + r.size + 1) ≤ 1000000 := h5
   have hp : PP[i]? = some ⟨b, (tr k t n ks).flat⟩ := by
    have := congrArg List.head? h1
    rw [List.head?_drop] at this
    exact this
   have hv : VV[i]? = some ⟨false, (tr k' t' n' ks').flat⟩ := by
    have := congrArg List.head? h2
    rw [List.head?_drop] at this
    exact this
   have e1 : self (⟨b, (tr k t n ks).flat⟩, ⟨false, (tr k' t' n' ks').flat⟩, out, ()) = _ := h6 (tr k t n ks) (List.mem_cons_self ..) (tr k' t' n' ks') (List.mem_cons_self ..) b out (by show _ + (ks.size + 0 + 1) ≤ _; omega)
   have hlen : (runF (tr k t n ks) (tr k' t' n' ks') out).2.l.length ≤ out.l.length + (ks.size + 0 + 1) := qlc (tr k t n ks) (tr k' t' n' ks') out
   have hd1 : PP.drop (i + 1) = r.trees.map (fun l => (⟨b, l⟩ : SN)) := by
    have := congrArg List.tail h1
    rw [List.tail_drop] at this
    exact this
   have hd2 : VV.drop (i + 1) = r'.trees.map (fun l => (⟨false, l⟩ : SN)) := by
    have := congrArg List.tail h2
    rw [List.tail_drop] at this
    exact this
   rw [qdx]
   rw [qw3] at e1 hlen
   generalize run1 k t n ks k' t' n' ks' out = z at e1 hlen
   obtain ⟨a, o⟩ := z
   have hlen : o.l.length ≤ _ := hlen
   cases a with
   | false =>
    refine q0a ?_
    unfold l3_bi
    simp only [ltG hp, q03, q06 hp, q06 hv, q00, e1, nF]
   | true =>
    have step : l3_bi self (⟨nv, VV⟩, ⟨np, PP⟩, lenI PP, (i : Int), out, ()) = some (.inl (⟨nv, VV⟩, ⟨np, PP⟩, lenI PP, ((i + 1 : Nat) : Int), o, ())) := by
     unfold l3_bi
     simp only [ltG hp, q03, q06 hp, q06 hv, q00, e1, nT, q01, add1 (show i ≤ 1000000000 by omega)]
    rw [q0e step]
    exact ih r' (i + 1) o hd1 hd2 (by omega) (by omega) (by omega) (fun p hp v hv => h6 p (List.mem_cons_of_mem _ hp) v (List.mem_cons_of_mem _ hv))
theorem qy5 : ∀ (M : Nat) (k : Int) (t : Tx) (n : Int) (ks : F), ks.size + 1 ≤ M → ks.size + 1 ≤ 4000 → ∀ (k' : Int) (t' : Tx) (n' : Int) (ks' : F), ks'.size + 1 ≤ 4000 → ∀ N, M ≤ N → qld (recN g_bi N) (tr k t n ks) (tr k' t' n' ks') := by
 intro M
 induction M with
 | zero => intro k t n ks h; omega
 | succ M ih =>
  intro k t n ks hM hs k' t' n' ks' hs' N hN b out hout
  cases N with
  | zero => omega
  | succ N =>
   have hout : out.l.length + (ks.size + 0 + 1) ≤ 1000000 := hout
   have h0 : at? (tr k t n ks).flat 0 = some (k, t, n, (ks.cnt : Int)) := q06 (i := 0) rfl
   have h1 : at? (tr k' t' n' ks').flat 0 = some (k', t', n', (ks'.cnt : Int)) := q06 (i := 0) rfl
   show g_bi (recN g_bi N) _ = _
   rw [qw3, u_bi]
   simp only [h0, h1, q00]
   unfold run1
   cases e1 : eqI k 21 with
   | true => rfl
   | false =>
    simp only [q01, cond_false]
    cases e2 : eqI k 22 with
    | true =>
     have hc := qpc (tr k' t' n' ks').flat (by rw [q0v]; omega)
     have hf : fit (sumI (lenI out.l) (lenI [(t, (⟨false, (tr k' t' n' ks').flat⟩ : SN))])) = some () := q0u (by show out.l.length + 1 ≤ _; omega)
     simp only [q03, cond_true, u_b0, hc, q00, hf, q1z, app]
    | false =>
     simp only [q01, cond_false]
     cases e3 : eqI k 23 with
     | true =>
      simp only [q03, cond_true]
      cases eqI k' 51 <;> simp only [q03, q01, Bool.true_and, Bool.false_and]
     | false =>
      simp only [q01, cond_false]
      cases e4 : eqI k' 53 with
      | false => rfl
      | true =>
       simp only [nT, q01, Bool.true_and]
       cases e5 : eqS t' t with
       | false => rfl
       | true =>
        simp only [nT, q01, Bool.true_and, qjd]
        by_cases e6 : ks'.cnt = ks.cnt
        ·rw [decide_eq_true e6]
         simp only [nT, q01, cond_true]
         obtain ⟨nbv, hv⟩ := q7z false k' t' n' ks' (by omega)
         obtain ⟨nbp, hp⟩ := q7z b k t n ks (by omega)
         simp only [hv, hp, q00]
         have hpl : (ks.trees.map fun l => (⟨b, l⟩ : SN)).length = ks.cnt := by rw [List.length_map, F.trees_len]
         have hcnt := F.cnt_le ks
         refine qpd (recN g_bi N) b nbv nbp _ _ (by omega) ks ks' 0 out rfl rfl (by rw [hpl, Nat.zero_add]) e6.symm (by omega) ?_
         intro p hp v hv
         obtain ⟨k1, t1, n1, ks1, q1, q2⟩ := F.kidsF_mem ks p hp
         obtain ⟨k2, t2, n2, ks2, q3, q4⟩ := F.kidsF_mem ks' v hv
         subst q1 q3
         exact ih k1 t1 n1 ks1 (by omega) (by omega) k2 t2 n2 ks2 (by omega) N (by omega)
        ·rw [decide_eq_false e6]
         rfl
theorem qvg (k : Int) (t : Tx) (n : Int) (ks : F) (hs : ks.size + 1 ≤ 4000) (k' : Int) (t' : Tx) (n' : Int) (ks' : F) (hs' : ks'.size + 1 ≤ 4000) : qld f_bi (tr k t n ks) (tr k' t' n' ks') :=
 fun b out hout => q3z (ks.size + 1) fun N hN => qy5 (ks.size + 1) k t n ks (Nat.le_refl _) hs k' t' n' ks' hs' N hN b out hout
end Fn
end Ev

namespace Ev
open Go
namespace Fn
def mkN (ns : NM) : List (Tx × SN) := ns.map fun e => (e.1, ⟨false, e.2⟩)
theorem qza (ns : NM) : unN (mkN ns) = ns := by
 unfold unN mkN
 rw [List.map_map]
 exact (List.map_congr_left fun x _ => rfl).trans (List.map_id' ns)
def rref (k : Int) (o : Option NM) : Sl (Tx × SN) × Bool × Unit := match o with
 | some ns => (⟨eqI k 21 || eqI k 23, mkN ns⟩, true, ())
 | none => (⟨true, []⟩, false, ())
theorem qle (self : (SN × Int × SN × Int × Unit) → Option (Sl (Tx × SN) × Bool × Unit)) (b b' fp fv : Bool) (l m : List ND) (PP VV : List Int) (hPP : PP.length ≤ 1000000) (M : Nat)
  (hself : ∀ (q q' : Nat) (k : Int) (t : Tx) (n : Int) (ks : F) (k' : Int) (t' : Tx) (n' : Int) (ks' : F), ks.size + 1 ≤ M → Sits l q (tr k t n ks) → Sits m q' (tr k' t' n' ks') → self (⟨b, l⟩, (q : Int), ⟨b', m⟩, (q' : Int), ()) = some (rref k (q2e k t n ks k' t' n' ks'))) :
  ∀ (f g : F) (i q1 q2 : Nat) (out : List (Tx × SN)), PP.drop i = f.pos q1 → VV.drop i = g.pos q2 → Sits l q1 f → Sits m q2 g → i + f.cnt = PP.length → f.cnt = g.cnt → out.length + f.size ≤ 1000000 → f.size ≤ M →
  loopR (l1_d2 self) (⟨b, l⟩, ⟨b', m⟩, ⟨fp, PP⟩, ⟨fv, VV⟩, (i : Int), ⟨false, out⟩, ()) = some (match q39 f g with | some ns => (⟨false, out ++ mkN ns⟩, true, ()) | none => (⟨true, []⟩, false, ())) := by
 intro f
 induction f with
 | nil =>
  intro g i q1 q2 out h1 h2 s1 s2 h3 h4 h5 h6
  have h3 : i + 0 = PP.length := h3
  have hi : i = PP.length := by omega
  subst hi
  refine q0a ?_
  unfold l1_d2
  simp only [ltE, q01]
  show _ = some (Sum.inr ((⟨false, out ++ []⟩ : Sl (Tx × SN)), true, ()))
  rw [List.append_nil]
 | cons k t n ks r _ ih =>
  intro g i q1 q2 out h1 h2 s1 s2 h3 h4 h5 h6
  cases g with
  | nil => cases h4
  | cons k' t' n' ks' r' =>
   have h3 : i + (r.cnt + 1) = PP.length := h3
   have h4 : r.cnt + 1 = r'.cnt + 1 := h4
   have h5 : out.length + (ks.size + r.size + 1) ≤ 1000000 := h5
   have h6 : ks.size + r.size + 1 ≤ M := h6
   have hp : PP[i]? = some (q1 : Int) := by
    have := congrArg List.head? h1
    rw [List.head?_drop] at this
    exact this
   have hv : VV[i]? = some (q2 : Int) := by
    have := congrArg List.head? h2
    rw [List.head?_drop] at this
    exact this
   have hd1 : PP.drop (i + 1) = r.pos (q1 + 1 + ks.size) := by
    have := congrArg List.tail h1
    rw [List.tail_drop] at this
    exact this
   have hd2 : VV.drop (i + 1) = r'.pos (q2 + 1 + ks'.size) := by
    have := congrArg List.tail h2
    rw [List.tail_drop] at this
    exact this
   have e1 := hself q1 q2 k t n ks k' t' n' ks' (by omega) s1.first s2.first
   rw [q4t]
   cases hm : q2e k t n ks k' t' n' ks' with
   | none =>
    rw [hm] at e1
    refine q0a ?_
    unfold l1_d2
    simp only [ltG hp, q03, q06 hp, q06 hv, q00, e1, rref, nF]
   | some a =>
    rw [hm] at e1
    have ha : a.length ≤ ks.size + 1 := by
     have := q81 (tr k t n ks) (tr k' t' n' ks') a (by rw [qc7, hm])
     exact this
    have hml : (mkN a).length = a.length := List.length_map _
    have hf : fit (sumI (lenI out) (lenI (mkN a))) = some () := q0u (by rw [hml]; omega)
    have step : l1_d2 self (⟨b, l⟩, ⟨b', m⟩, ⟨fp, PP⟩, ⟨fv, VV⟩, (i : Int), ⟨false, out⟩, ()) = some (.inl (⟨b, l⟩, ⟨b', m⟩, ⟨fp, PP⟩, ⟨fv, VV⟩, ((i + 1 : Nat) : Int), ⟨false, out ++ mkN a⟩, ())) := by
     unfold l1_d2
     simp only [ltG hp, q03, q06 hp, q06 hv, q00, e1, rref, nT, q01, hf, add1 (show i ≤ 1000000000 by omega), q7w, app]
    rw [q0e step]
    refine (ih r' (i + 1) _ _ (out ++ mkN a) hd1 hd2 s1.node.2.2.1 s2.node.2.2.1 (by omega) (by omega) (by rw [List.length_append, hml]; omega) (by omega)).trans ?_
    cases q39 r r' with
    | none => rfl
    | some c =>
     show some ((⟨false, out ++ mkN a ++ mkN c⟩ : Sl (Tx × SN)), true, ()) = some (⟨false, out ++ mkN (a ++ c)⟩, true, ())
     unfold mkN
     rw [List.map_append, List.append_assoc]
theorem qvh (b b' : Bool) (l m : List ND) (hl : l.length ≤ 4000) (hm : m.length ≤ 4000) : ∀ (M : Nat) (q q' : Nat) (k : Int) (t : Tx) (n : Int) (ks : F) (k' : Int) (t' : Tx) (n' : Int) (ks' : F), ks.size + 1 ≤ M → Sits l q (tr k t n ks) → Sits m q' (tr k' t' n' ks') → ∀ N, M ≤ N →
  recN g_d2 N (⟨b, l⟩, (q : Int), ⟨b', m⟩, (q' : Int), ()) = some (rref k (q2e k t n ks k' t' n' ks')) := by
 intro M
 induction M with
 | zero => intro q q' k t n ks k' t' n' ks' h; omega
 | succ M ih =>
  intro q q' k t n ks k' t' n' ks' hM s1 s2 N hN
  cases N with
  | zero => omega
  | succ N =>
   have n1 := s1.node
   have n2 := s2.node
   have h0 := q06 n1.1
   have h1 := q06 n2.1
   show g_d2 (recN g_d2 N) _ = _
   rw [u_d2]
   simp only [h0, h1, q00]
   unfold q2e
   cases e1 : eqI k 21 with
   | true =>
    have : k = 21 := eqI_eq.1 e1
    subst this; rfl
   | false =>
    simp only [q01, cond_false]
    cases e2 : eqI k 22 with
    | true =>
     have : k = 22 := eqI_eq.1 e2
     subst this
     have hql : q' + 1 ≤ m.length := by have := n2.2.2.2; omega
     have hk := qfg (by omega) (tr k' t' n' ks') q' s2 (by omega) _ (List.mem_cons_self ..)
     have hsub := qn8 hk (by show (tr k' t' n' ks').flat.length ≤ _; rw [q0v]; have := n2.2.2.2; omega) b'
     have hsub : f_c1 (⟨b', m⟩, (q' : Int), ()) = some (⟨false, (tr k' t' n' ks').flat⟩, ()) := hsub
     simp only [hsub, q00, q03, cond_true]
     rfl
    | false =>
     simp only [q01, cond_false]
     cases e3 : eqI k 23 with
     | true =>
      have : k = 23 := eqI_eq.1 e3
      subst this
      simp only [q03, cond_true]
      cases eqI k' 51 <;> cases eqI n' n <;> rfl
     | false =>
      simp only [q01, cond_false]
      have hr : ∀ o, rref k o = match o with | some ns => (⟨false, mkN ns⟩, true, ()) | none => (⟨true, []⟩, false, ()) := fun o => by
       unfold rref; rw [e1, e3]; rfl
      cases e4 : eqI k' 53 with
      | false => simp only [nF, q03, q00, Bool.false_and, cond_false, hr]
      | true =>
       simp only [nT, q01, q00, Bool.true_and]
       cases e5 : eqS t' t with
       | false => simp only [nF, q03, q00, Bool.false_and, cond_false, hr]
       | true =>
        simp only [nT, q01, q00, Bool.true_and, qjd]
        by_cases e6 : ks'.cnt = ks.cnt
        ·rw [decide_eq_true e6]
         simp only [nT, q01, cond_true]
         have kp := q32 b l (by omega) s1
         have kv := q32 b' m (by omega) s2
         simp only [kp, kv, q00, hr]
         have hcnt := F.cnt_le ks
         have hz := n1.2.2.2
         refine (qle (recN g_d2 N) b b' false false l m (ks.pos (q + 1)) (ks'.pos (q' + 1)) (by rw [F.pos_len]; omega) M (fun q q' k t n ks k' t' n' ks' h1 h2 h3 => ih q q' k t n ks k' t' n' ks' h1 h2 h3 N (by omega)) ks ks' 0 (q + 1) (q' + 1) [] rfl rfl n1.2.1 n2.2.1 (by rw [F.pos_len, Nat.zero_add]) e6.symm (by show 0 + ks.size ≤ _; omega) (by omega)).trans ?_
         cases q39 ks ks' <;> rfl
        ·rw [decide_eq_false e6]
         simp only [nF, q03, cond_false, hr]
theorem qt9 (b b' : Bool) (k : Int) (t : Tx) (n : Int) (ks : F) (k' : Int) (t' : Tx) (n' : Int) (ks' : F) (hs : ks.size + 1 ≤ 4000) (hs' : ks'.size + 1 ≤ 4000) :
  f_d2 (⟨b, (tr k t n ks).flat⟩, 0, ⟨b', (tr k' t' n' ks').flat⟩, 0, ()) = some (rref k (q2e k t n ks k' t' n' ks')) :=
 q3z (ks.size + 1) fun N hN => qvh b b' _ _ (by rw [q0v]; exact hs) (by rw [q0v]; exact hs') (ks.size + 1) 0 0 k t n ks k' t' n' ks' (Nat.le_refl _) (q36 k t n ks) (q36 k' t' n' ks') N hN
def qzb (p v : List ND) (o : Option NM) : Prop := (isP p ∧ q92 v = true → ∃ k t n ks k' t' n' ks', p = (tr k t n ks).flat ∧ v = (tr k' t' n' ks').flat ∧ chkT k t n ks true = 0 ∧ o = q2e k t n ks k' t' n' ks') ∧ (¬(isP p ∧ q92 v = true) → o = none)
theorem q82 (p v : List ND) (hp : p.length ≤ 4000) (hv : v.length ≤ 4000) (gp : GL p) (gv : GL v) :
  ∃ o : Option NM, qzb p v o ∧ (∀ b, ∃ A, f_az (⟨b, p⟩, ⟨false, v⟩, ()) = some (A, o.isSome, ()) ∧ unN A.l = o.getD []) ∧ (∀ b b', ∃ A, f_cy (⟨b, p⟩, ⟨b', v⟩, ()) = some (A, o.isSome, ()) ∧ unN A.l = o.getD []) := by
 obtain ⟨e, e1, e2, e3⟩ := qn9 p hp gp
 have v1 := fun b => qdw b v (by omega) gv
 have v2 := fun b => q93 b v (by omega) gv
 by_cases he : e = 0
 ·subst he
  cases hval : q92 v with
  | false =>
   refine ⟨none, ⟨fun h => (by rw [hval] at h; cases h.2), fun _ => rfl⟩, fun b => ⟨⟨true, []⟩, ?_, rfl⟩, fun b b' => ⟨⟨true, []⟩, ?_, rfl⟩⟩
   ·rw [u_az, e1, v1, hval]; rfl
   ·rw [u_cy, e2, v2, hval]; rfl
  | true =>
   obtain ⟨k, t, n, ks, hp1, hp2⟩ := e3.1 rfl
   obtain ⟨k', t', n', ks', hv1, hv2, _⟩ := qh4 hval
   subst hp1 hv1
   rw [q0v] at hp
   refine ⟨q2e k t n ks k' t' n' ks', ⟨fun _ => ⟨k, t, n, ks, k', t', n', ks', rfl, rfl, hp2, rfl⟩, fun h => absurd ⟨⟨k, t, n, ks, rfl, hp2⟩, hval⟩ h⟩, fun b => ?_, fun b b' => ?_⟩
   ·have hm := qvg k t n ks hp k' t' n' ks' hv2 b ⟨true, []⟩ (by show 0 + (ks.size + 0 + 1) ≤ _; omega)
    obtain ⟨r1, r2⟩ := qdy (tr k t n ks) (tr k' t' n' ks') ⟨true, []⟩
    rw [qc7] at r1 r2
    rw [u_az, e1, v1, hval]
    simp only [q00, e00, nT, q01, hm, r1]
    cases ho : q2e k t n ks k' t' n' ks' with
    | none => exact ⟨⟨true, []⟩, rfl, rfl⟩
    | some ns => exact ⟨_, rfl, r2 ns ho⟩
   ·rw [u_cy, e2, v2, hval, qt9 b b' k t n ks k' t' n' ks' hp hv2]
    simp only [q00, e00, nT, q01]
    cases q2e k t n ks k' t' n' ks' with
    | none => exact ⟨⟨true, []⟩, rfl, rfl⟩
    | some ns => exact ⟨_, rfl, qza ns⟩
 ·refine ⟨none, ⟨fun h => absurd (e3.2 h.1) he, fun _ => rfl⟩, fun b => ⟨⟨true, []⟩, ?_, rfl⟩, fun b b' => ⟨⟨true, []⟩, ?_, rfl⟩⟩
  ·rw [u_az, e1]; simp only [q00, q1a he, nF, q03]; rfl
  ·rw [u_cy, e2]; simp only [q00, q1a he, nF, q03]; rfl
end Fn
end Ev

namespace Ev
open Go
namespace Fn
theorem qaa : ∀ (f g : F) (ns : NM), q39 f g = some ns → ∀ e, e ∈ ns → e.2.length ≤ g.size ∧ (∀ x, x ∈ e.2 → x ∈ g.flat) ∧ ∃ k t n ks, e.2 = (tr k t n ks).flat
 | .nil, _, ns, h, e, he => by injection h with h; subst h; cases he
 | .cons _ _ _ _ _, .nil, _, h, _, _ => by cases h
 | .cons k t n ks r, .cons k' t' n' ks' r', ns, h, e, he => by
  rw [q4t] at h
  have sz : (F.cons k' t' n' ks' r').size = ks'.size + r'.size + 1 := rfl
  have fl : (F.cons k' t' n' ks' r').flat = (k', t', n', (ks'.cnt : Int)) :: (ks'.flat ++ r'.flat) := rfl
  rw [sz, fl]
  cases h1 : q2e k t n ks k' t' n' ks' with
  | none => rw [h1] at h; cases h
  | some a =>
   rw [h1] at h
   cases h2 : q39 r r' with
   | none => rw [h2] at h; cases h
   | some c =>
    rw [h2] at h
    injection h with h
    subst h
    rcases List.mem_append.1 he with he | he
    ·unfold q2e at h1
     cases e1 : eqI k 21 with
     | true => rw [e1] at h1; injection h1 with h1; subst h1; cases he
     | false =>
      rw [e1, cond_false] at h1
      cases e2 : eqI k 22 with
      | true =>
       rw [e2] at h1; injection h1 with h1; subst h1
       rw [List.mem_singleton] at he
       subst he
       refine ⟨?_, ?_, k', t', n', ks', rfl⟩
       ·show (tr k' t' n' ks').flat.length ≤ _
        rw [q0v]; omega
       ·intro x hx
        have hx : x ∈ (tr k' t' n' ks').flat := hx
        rw [q6g] at hx
        rcases List.mem_cons.1 hx with hx | hx
        ·rw [hx]; exact List.mem_cons_self ..
        ·exact List.mem_cons_of_mem _ (List.mem_append_left _ hx)
      | false =>
       rw [e2, cond_false] at h1
       cases e3 : eqI k 23 with
       | true =>
        rw [e3, cond_true] at h1
        cases e4 : (eqI k' 51 && eqI n' n) with
        | true => rw [e4] at h1; injection h1 with h1; subst h1; cases he
        | false => rw [e4] at h1; cases h1
       | false =>
        rw [e3, cond_false] at h1
        cases e5 : (eqI k' 53 && (eqS t' t && decide (ks'.cnt = ks.cnt))) with
        | true =>
         rw [e5, cond_true] at h1
         obtain ⟨g1, g2, g3⟩ := qaa ks ks' a h1 e he
         exact ⟨by omega, fun x hx => List.mem_cons_of_mem _ (List.mem_append_left _ (g2 x hx)), g3⟩
        | false => rw [e5] at h1; cases h1
    ·obtain ⟨g1, g2, g3⟩ := qaa r r' c h2 e he
     exact ⟨by omega, fun x hx => List.mem_cons_of_mem _ (List.mem_append_right _ (g2 x hx)), g3⟩
theorem qpe (a c : Sl (Tx × SN)) (ha : a.l.length ≤ 1000000) (hg : ∀ x, x ∈ a.l → x.2.l.length ≤ 1000000) : f_d0 (a, c, ()) = some (decide (unN a.l = unN c.l), ()) := by
 rw [u_d0]
 have hl : eqI (lenI a.l) (lenI c.l) = decide (a.l.length = c.l.length) := qjd _ _
 rw [hl]
 by_cases hle : a.l.length = c.l.length
 ·rw [decide_eq_true hle, nT, q01]
  have hz : (a.l.zip c.l).length = a.l.length := by rw [List.length_zip]; omega
  refine (q0i l1_d0 (fun k => (a, c, k, ())) (a.l.zip c.l) (by omega) (fun _ z => bif eqS z.1.1 z.2.1 && decide (z.1.2.l = z.2.2.l) then none else some (false, ())) (true, ()) ?_ ?_).trans ?_
  ·intro k z hx hk
   obtain ⟨x, y⟩ := z
   rw [List.getElem?_zip_eq_some] at hx
   obtain ⟨h1, h2⟩ := hx
   have hs := qje x.2 y.2 (hg x (List.mem_of_getElem? h1))
   unfold l1_d0
   simp only [ltG h1, q03, q06 h1, q06 h2, q00, hs, add1 (show k ≤ 1000000000 by omega)]
   cases eqS x.1 y.1 <;> cases decide (x.2.l = y.2.l) <;> rfl
  ·unfold l1_d0
   simp only [hz, ltE, q01]
  ·rw [q37]
   have : (a.l.zip c.l).all (fun z => eqS z.1.1 z.2.1 && decide (z.1.2.l = z.2.2.l)) = decide (unN a.l = unN c.l) := by
    generalize a.l = u at *
    generalize c.l = v at *
    clear hz hl ha hg
    induction u generalizing v with
    | nil => cases v with
     | nil => rfl
     | cons _ _ => cases hle
    | cons x r ih => cases v with
     | nil => cases hle
     | cons y w =>
      rw [List.zip_cons_cons, List.all_cons, ih w (by simpa using hle)]
      show _ = decide ((x.1, x.2.l) :: unN r = (y.1, y.2.l) :: unN w)
      cases q1 : eqS x.1 y.1 with
      | false =>
       rw [Bool.false_and, Bool.false_and]
       refine (decide_eq_false (fun h => ?_)).symm
       injection h with h _; injection h with h _
       rw [h, q7q] at q1; cases q1
      | true =>
       rw [eqS_eq.1 q1, Bool.true_and]
       by_cases e : x.2.l = y.2.l
       ·rw [decide_eq_true e, Bool.true_and, e]
        exact decide_eq_decide.2 (by simp)
       ·rw [decide_eq_false e, Bool.false_and]
        exact (decide_eq_false (by intro h; injection h with h _; injection h with _ h; exact e h)).symm
   rw [this]
   cases decide (unN a.l = unN c.l) <;> rfl
 ·rw [decide_eq_false hle, nF, q03, decide_eq_false (fun h => hle (by have := congrArg List.length h; simpa [unN] using this))]
theorem qta (a : Sl SN) (ha : a.l.length ≤ 1000) (hg : ∀ x, x ∈ a.l → x.l.length ≤ 1000000) : q2z (a, ()) = some (⟨false, a.l.map fun x => (⟨false, x.l⟩ : SN)⟩, ()) := by
 rw [qis]
 refine (q21 q48 (fun k s => (a, k, s, ())) a.l (fun (s : Sl SN) x => (⟨false, s.l ++ [⟨false, x.l⟩]⟩ : Sl SN)) (fun s => (s, ())) (fun k s => k ≤ a.l.length ∧ s.l.length = k) ⟨false, []⟩ ⟨Nat.zero_le _, rfl⟩ ?_ ?_).trans ?_
 ·intro k x s hx hi
  obtain ⟨ns, sl⟩ := s
  have h2 : sl.length = k := hi.2
  have hk := getL hx
  obtain ⟨bx, lx⟩ := x
  have ho := q4a bx lx (hg _ (List.mem_of_getElem? hx))
  have hf : fit (sumI (lenI sl) (lenI [(⟨false, lx⟩ : SN)])) = some () := q0u (by show sl.length + 1 ≤ _; omega)
  refine ⟨?_, hk, by show (sl ++ [_]).length = _; rw [List.length_append, h2]; rfl⟩
  unfold q48
  simp only [ltG hx, q03, q06 hx, q00, ho, hf, q1z, add1 (show k ≤ 1000000000 by omega)]
  rfl
 ·intro s _
  unfold q48
  simp only [ltE, q01]
 ·rw [qgw]; rfl
noncomputable def q4u (v p : List ND) : Bool := match f_az (⟨false, p⟩, ⟨false, v⟩, ()) with
 | some r => r.2.1
 | none => false
theorem qjf {v p : List ND} {A : Sl (Tx × SN)} {o : Bool} (h : f_az (⟨false, p⟩, ⟨false, v⟩, ()) = some (A, o, ())) : q4u v p = o := by unfold q4u; rw [h]
theorem qpf (a : List (List ND)) (v : List ND) (ha : a.length ≤ 1000) (hg : ∀ p, p ∈ a → p.length ≤ 4000 ∧ GL p) (hv : v.length ≤ 4000) (gv : GL v) (nb : Bool) :
  f_aw (⟨nb, a.map fun l => (⟨false, l⟩ : SN)⟩, ⟨false, v⟩, ()) = some (ixP (q4u v) 0 a, ()) := by
 have hix : ∀ (l : List (List ND)) (k : Nat), ixP (fun x : SN => q4u v x.l) k (l.map fun l => (⟨false, l⟩ : SN)) = ixP (q4u v) k l := by
  intro l
  induction l with
  | nil => intro k; rfl
  | cons x r ih => intro k; show (bif q4u v x then _ else _) = (bif q4u v x then _ else _); rw [ih]
 have e : loopR l1_dx (⟨nb, a.map fun l => (⟨false, l⟩ : SN)⟩, ⟨false, v⟩, lenI (a.map fun l => (⟨false, l⟩ : SN)), 0, ()) = some (ixP (q4u v) 0 a, ()) := by
  rw [← hix]
  refine q24 l1_dx (fun k => (⟨nb, a.map fun l => (⟨false, l⟩ : SN)⟩, ⟨false, v⟩, lenI (a.map fun l => (⟨false, l⟩ : SN)), k, ())) (fun z => (z, ())) (a.map fun l => (⟨false, l⟩ : SN)) (by rw [List.length_map]; omega) (fun x : SN => q4u v x.l) ?_ ?_
  ·intro k x hx hk
   obtain ⟨p, hp, hpe⟩ := List.mem_map.1 (List.mem_of_getElem? hx)
   subst hpe
   obtain ⟨o, _, hm, _⟩ := q82 p v (hg p hp).1 hv (hg p hp).2 gv
   obtain ⟨A, hA, _⟩ := hm false
   have hB := qjf hA
   unfold l1_dx
   simp only [ltG hx, q03, q06 hx, q00, u_ax, hA, hB, add1 (show k ≤ 1000000000 by omega)]
   cases o.isSome <;> rfl
  ·unfold l1_dx
   simp only [ltE, q01]
 rw [u_aw, u_dx]
 exact qbp e _
theorem qlf (a : Sl SN) (v : List ND) (ha : a.l.length ≤ 1000) (hg : ∀ p, p ∈ a.l → p.l.length ≤ 4000 ∧ GL p.l) (hv : v.length ≤ 4000) (gv : GL v) (b : Bool) :
  f_cw (a, ⟨b, v⟩, ()) = some (ixP (q4u v) 0 (a.l.map Sl.l), ()) := by
 have hix : ∀ (l : List SN) (k : Nat), ixP (fun x : SN => q4u v x.l) k l = ixP (q4u v) k (l.map Sl.l) := by
  intro l
  induction l with
  | nil => intro k; rfl
  | cons x r ih => intro k; show (bif q4u v x.l then _ else _) = (bif q4u v x.l then _ else _); rw [ih]
 rw [u_cw, ← hix]
 refine q24 l1_cw (fun k => (a, ⟨b, v⟩, k, ())) (fun z => (z, ())) a.l (by omega) (fun x : SN => q4u v x.l) ?_ ?_
 ·intro k x hx hk
  obtain ⟨bx, p⟩ := x
  obtain ⟨hp1, hp2⟩ := hg _ (List.mem_of_getElem? hx)
  obtain ⟨o, _, hm, hr⟩ := q82 p v hp1 hv hp2 gv
  obtain ⟨A, hA, _⟩ := hm false
  obtain ⟨B, hB, _⟩ := hr bx b
  have hB2 := qjf hA
  unfold l1_cw
  simp only [ltG hx, q03, q06 hx, q00, hB, hB2, add1 (show k ≤ 1000000000 by omega)]
  cases o.isSome <;> rfl
 ·unfold l1_cw
  simp only [ltE, q01]
theorem qjg {p v : List ND} {o : Option NM} (h : qzb p v o) (hp : p.length ≤ 4000) (hv : v.length ≤ 4000) : (o.getD []).length ≤ 4000 ∧ ∀ e, e ∈ o.getD [] → e.2.length ≤ 4000 := by
 by_cases hc : isP p ∧ q92 v = true
 ·obtain ⟨k, t, n, ks, k', t', n', ks', e1, e2, _, e3⟩ := h.1 hc
  subst e1 e2
  rw [q0v] at hp hv
  cases ho : o with
  | none => exact ⟨Nat.zero_le _, fun e he => by cases he⟩
  | some ns =>
   rw [ho, ← qc7] at e3
   have l1 := q81 _ _ ns e3.symm
   have l1 : ns.length ≤ ks.size + 0 + 1 := l1
   refine ⟨by show ns.length ≤ _; omega, fun e he => ?_⟩
   have : e.2.length ≤ ks'.size + 0 + 1 := (qaa _ _ ns e3.symm e he).1
   omega
 ·rw [h.2 hc]; exact ⟨Nat.zero_le _, fun e he => by cases he⟩
theorem law_Matches (b1 b2 b3 : Bool) (p v : List ND) (a : List SN) (gp : gL p) (gv : gL v) (ga : ∀ x, x ∈ a → gL x.l) (hal : a.length ≤ 9223372036854775807) : f_law12_PatMatches (⟨b1, p⟩, ⟨b2, v⟩, ⟨b3, a⟩, ()) = some (true, ()) := by
 obtain ⟨c1, e1, h1⟩ := q80 ⟨false, [⟨b1, p⟩, ⟨b2, v⟩]⟩ (by show 2 ≤ _; omega)
 obtain ⟨c2, e2, h2⟩ := q80 ⟨b3, a⟩ hal
 rw [q9y, qgn]
 simp only [q00, nT, q01, e1]
 cases c1 with
 | false => rfl
 | true =>
  simp only [nT, q01, e2, q00]
  cases c2 with
  | false => rfl
  | true =>
   have fp : fewN 30 p := (h1 rfl).2 ⟨b1, p⟩ (List.mem_cons_self ..)
   have fv : fewN 30 v := (h1 rfl).2 ⟨b2, v⟩ (List.mem_cons_of_mem _ (List.mem_cons_self ..))
   obtain ⟨la, fa⟩ := h2 rfl
   have la : a.length ≤ 8 := la
   have fa : ∀ t, t ∈ a → fewN 30 t.l := fa
   have lp := fp.1
   have lv := fv.1
   have Gp := q8c gp fp
   have Gv := q8c gv fv
   have hga : ∀ x, x ∈ a → x.l.length ≤ 4000 ∧ GL x.l := fun x hx => ⟨by have := (fa x hx).1; omega, q8c (ga x hx) (fa x hx)⟩
   obtain ⟨o, ho, hm, hr⟩ := q82 p v (by omega) (by omega) Gp Gv
   obtain ⟨A, hA, uA⟩ := hm false
   obtain ⟨B, hB, uB⟩ := hr b1 b2
   obtain ⟨k1, k2⟩ := qjg ho (by omega) (by omega)
   have hAl : A.l.length ≤ 4000 := by have := congrArg List.length uA; unfold unN at this; rw [List.length_map] at this; omega
   have hAg : ∀ x, x ∈ A.l → x.2.l.length ≤ 1000000 := fun x hx => by
    have : (x.1, x.2.l) ∈ o.getD [] := by rw [← uA]; exact List.mem_map.2 ⟨x, hx, rfl⟩
    have := k2 _ this
    simp only at this
    omega
   have hs := qpe A B (by omega) hAg
   rw [uA, uB, decide_eq_true rfl] at hs
   have o1 := q4a b1 p (by omega)
   have o2 := q4a b2 v (by omega)
   have hrows := qta ⟨b3, a⟩ (by show a.length ≤ _; omega) (fun x hx => by have := (hga x hx).1; omega)
   have hf1 := qpf (a.map Sl.l) v (by rw [List.length_map]; omega) (fun p hp => by
    obtain ⟨x, hx, e⟩ := List.mem_map.1 hp
    rw [← e]; exact hga x hx) (by omega) Gv false
   rw [List.map_map] at hf1
   have hf2 := qlf ⟨b3, a⟩ v (by show a.length ≤ _; omega) hga (by omega) Gv b2
   have hrows : q2z (⟨b3, a⟩, ()) = some (⟨false, a.map ((fun l => (⟨false, l⟩ : SN)) ∘ Sl.l)⟩, ()) := hrows
   simp only [nT, q01, o1, o2, q00, hA, hB, q7r, q03, hs, hrows, hf1, hf2, q2i]
end Fn
end Ev

namespace Ev
open Go
namespace Fn
abbrev tyN : Ty := .st (.pair (.int .i64) (.pair .str (.pair (.int .i64) (.int .i64))))
theorem qlg {s : Tx} (h : good .str s) : gW s := fun b hb => by have := h.2 b hb; omega
theorem good_gL {s : SN} (h : good (.sl tyN) s) : gL s.l := fun x hx => by
 obtain ⟨_, h2, h4, _⟩ := h.2.2 x hx
 exact ⟨qlg h2, inK_i64.1 h4⟩
theorem good_gR {s : Sl SN} (h : good (.sl (.sl tyN)) s) : (∀ x, x ∈ s.l → gL x.l) ∧ s.l.length ≤ 9223372036854775807 := ⟨fun x hx => good_gL (h.2.2 x hx), h.1⟩
end Fn
end Ev

