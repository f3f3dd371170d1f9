/- Layer 4 in plain words: how operators bind; words, signs, what a fixity may be, whether fixities may be together. No statement of its own about the program. -/
import Derived.Test.YtkfbakajbeifgaaDoorFn
import Derived.Laws.RangeAny
/- How operators bind, in plain words. -/
namespace Ev
namespace Fx

section
variable (lv sd : Nat → Int)

/-- On an operator's left, and on its right. -/
def LB (o x : Nat) : Prop := lv o < lv x ∨ (lv o = lv x ∧ sd o < 0 ∧ sd x < 0)
def RB (o x : Nat) : Prop := lv o < lv x ∨ (lv o = lv x ∧ 0 < sd o ∧ 0 < sd x)

/-- How operators from one up to another one bind. -/
inductive B : Nat → Nat → List Int → Prop
  | nil (a : Nat) : B a a [-1 - (a : Int)]
  | node (a r b : Nat) (x y : List Int) : a ≤ r → r < b → (∀ i, a ≤ i → i < r → LB lv sd r i) → (∀ i, r < i → i < b → RB lv sd r i) → B a r x → B (r + 1) b y → B a b ((r : Int) :: (x ++ y))

variable {lv sd}
theorem RB.trans {a b c : Nat} (h1 : RB lv sd a b) (h2 : RB lv sd b c) : RB lv sd a c := by
  unfold RB at *
  rcases h1 with h1 | ⟨h1, h3, h4⟩ <;> rcases h2 with h2 | ⟨h2, h5, h6⟩
  · exact .inl (by omega)
  · exact .inl (by omega)
  · exact .inl (by omega)
  · exact .inr ⟨by omega, h3, h6⟩

theorem root_unique {a b r q : Nat} (hr : a ≤ r ∧ r < b) (hq : a ≤ q ∧ q < b) (h1 : ∀ i, a ≤ i → i < r → LB lv sd r i) (h2 : ∀ i, r < i → i < b → RB lv sd r i)
    (h3 : ∀ i, a ≤ i → i < q → LB lv sd q i) (h4 : ∀ i, q < i → i < b → RB lv sd q i) : r = q := by
  rcases Nat.lt_trichotomy r q with h | h | h
  · have e1 := h2 q h hq.2
    have e2 := h3 r hr.1 h
    unfold RB at e1; unfold LB at e2
    omega
  · exact h
  · have e1 := h4 r h hr.2
    have e2 := h1 q hq.1 h
    unfold RB at e1; unfold LB at e2
    omega

theorem B.le {a b : Nat} {x : List Int} (h : B lv sd a b x) : a ≤ b := by
  cases h with
  | nil => exact Nat.le_refl _
  | node _ r _ _ _ h1 h2 => omega

theorem B.unique {a b : Nat} {x y : List Int} (h : B lv sd a b x) (h' : B lv sd a b y) : x = y := by
  induction h generalizing y with
  | nil a => cases h' with
    | nil => rfl
    | node _ r _ _ _ h1 h2 => omega
  | node a r b x1 x2 h1 h2 h3 h4 _ _ ih1 ih2 =>
    cases h' with
    | nil => omega
    | node _ q _ _ _ g1 g2 g3 g4 g5 g6 =>
      obtain rfl := root_unique ⟨h1, h2⟩ ⟨g1, g2⟩ h3 h4 g3 g4
      rw [ih1 g5, ih2 g6]

/-- Two of a level that don't bind to one side alike: none. -/
theorem B.clash {a b : Nat} {x : List Int} (h : B lv sd a b x) {o k : Nat} (h1 : a ≤ o) (h2 : o < k) (h3 : k < b) (he : lv o = lv k) (hb : ∀ i, o < i → i < k → lv k ≤ lv i)
    (hl : ¬(sd o < 0 ∧ sd k < 0)) (hr : ¬(0 < sd o ∧ 0 < sd k)) : False := by
  induction h with
  | nil a => omega
  | node a r b x1 x2 g1 g2 g3 g4 _ _ ih1 ih2 =>
    rcases Nat.lt_trichotomy r o with h | h | h
    · exact ih2 (by omega) h3
    · subst h
      have := g4 k h2 h3
      unfold RB at this
      omega
    · rcases Nat.lt_trichotomy r k with h' | h' | h'
      · have e1 := g3 o h1 h
        have e2 := g4 k h' h3
        have e3 := hb r h h'
        unfold LB at e1; unfold RB at e2
        omega
      · subst h'
        have := g3 o h1 h
        unfold LB at this
        omega
      · exact ih1 h1 h'

/-- The operators that wait, the last one first, each with what stands on its left. -/
def lo : List (Nat × List Int) → Nat
  | [] => 0
  | (o, _) :: _ => o + 1

variable (lv sd)
def Inv : List (Nat × List Int) → List Int → Nat → Prop
  | [], cur, k => B lv sd 0 k cur
  | (o, P) :: S, cur, k => o < k ∧ B lv sd (o + 1) k cur ∧ (∀ x, o < x → x < k → RB lv sd o x) ∧ (∀ x, lo S ≤ x → x < o → LB lv sd o x) ∧ Inv S P o ∧ (∀ p, p ∈ S → ∀ x, p.1 < x → x < k → RB lv sd p.1 x)
variable {lv sd}

theorem Inv.B {S : List (Nat × List Int)} {cur : List Int} {k : Nat} (h : Inv lv sd S cur k) : Fx.B lv sd (lo S) k cur := by
  cases S with
  | nil => exact h
  | cons p S => exact h.2.1

theorem Inv.pop {o k : Nat} {P cur : List Int} {S : List (Nat × List Int)} (h : Inv lv sd ((o, P) :: S) cur k) : Inv lv sd S ((o : Int) :: (P ++ cur)) k := by
  obtain ⟨h1, h2, h3, h4, h5, h6⟩ := h
  have hb := h5.B
  cases S with
  | nil => exact .node 0 o k P cur (Nat.zero_le _) h1 (fun i h7 h8 => h4 i h7 h8) h3 hb h2
  | cons p S =>
    obtain ⟨o', P'⟩ := p
    obtain ⟨g1, g2, g3, g4, g5, g6⟩ := h5
    refine ⟨by omega, .node (o' + 1) o k P cur (by omega) h1 (fun i h7 h8 => h4 i h7 h8) h3 hb h2, fun x h7 h8 => h6 _ (List.mem_cons_self ..) x h7 h8, g4, g5, fun p hp => h6 p (List.mem_cons_of_mem _ hp)⟩

/-- All that stands between the last one that waits and the one that comes binds closer. -/
def Mid (lv sd : Nat → Int) (S : List (Nat × List Int)) (k : Nat) : Prop := ∀ x, lo S ≤ x → x < k → LB lv sd k x

theorem Mid.pop {o k : Nat} {P cur : List Int} {S : List (Nat × List Int)} (h : Inv lv sd ((o, P) :: S) cur k) (hm : Mid lv sd ((o, P) :: S) k)
    (hc : lv k < lv o ∨ (lv k = lv o ∧ sd k < 0 ∧ sd o < 0)) : Mid lv sd S k := by
  obtain ⟨h1, h2, h3, h4, h5, h6⟩ := h
  intro x hx hk
  rcases Nat.lt_trichotomy x o with h | h | h
  · have := h4 x hx h
    unfold LB at *
    omega
  · subst h
    unfold LB
    omega
  · exact hm x h hk

theorem Inv.push {k : Nat} {cur : List Int} {S : List (Nat × List Int)} (h : Inv lv sd S cur k) (hm : Mid lv sd S k) (ht : ∀ p, S.head? = some p → RB lv sd p.1 k) :
    Inv lv sd ((k, cur) :: S) [-2 - (k : Int)] (k + 1) := by
  have all : ∀ p, p ∈ S → ∀ x, p.1 < x → x < k → RB lv sd p.1 x := by
    cases S with
    | nil => intro p hp; cases hp
    | cons q S =>
      obtain ⟨h1, h2, h3, h4, h5, h6⟩ := h
      intro p hp
      rcases List.mem_cons.1 hp with rfl | hp
      · exact h3
      · exact h6 p hp
  refine ⟨by omega, ?_, fun x h1 h2 => by omega, hm, h, fun p hp x h1 h2 => ?_⟩
  · have := B.nil (lv := lv) (sd := sd) (k + 1)
    have e : (-1 - ((k + 1 : Nat) : Int)) = -2 - (k : Int) := by omega
    rw [e] at this
    exact this
  · by_cases hx : x < k
    · exact all p hp x h1 hx
    · obtain rfl : x = k := by omega
      cases S with
      | nil => cases hp
      | cons q S =>
        have hq := ht q rfl
        rcases List.mem_cons.1 hp with rfl | hp
        · exact hq
        · have := all p (List.mem_cons_of_mem _ hp)
          obtain ⟨g1, g2, g3, g4, g5, g6⟩ := h
          have h7 : p.1 < q.1 := by
            cases S with
            | nil => cases hp
            | cons q' S' =>
              clear this all ht hq h1
              have key : ∀ (S : List (Nat × List Int)) (c : List Int) (m : Nat), Inv lv sd S c m → ∀ p, p ∈ S → p.1 < m := by
                intro S
                induction S with
                | nil => intro c m _ p hp; cases hp
                | cons s S ih =>
                  intro c m h p hp
                  obtain ⟨e1, _, _, _, e5, _⟩ := h
                  rcases List.mem_cons.1 hp with rfl | hp
                  · exact e1
                  · have := ih _ _ e5 p hp
                    omega
              exact key _ _ _ g5 p hp
          exact (this q.1 h7 g1).trans hq

theorem Inv.clash {o k n : Nat} {P cur : List Int} {S : List (Nat × List Int)} (h : Inv lv sd ((o, P) :: S) cur k) (hm : Mid lv sd ((o, P) :: S) k) (hk : k < n) (he : lv o = lv k)
    (hl : ¬(sd o < 0 ∧ sd k < 0)) (hr : ¬(0 < sd o ∧ 0 < sd k)) (x : List Int) : ¬ Fx.B lv sd 0 n x := fun hb => by
  obtain ⟨h1, _⟩ := h
  refine hb.clash (Nat.zero_le o) h1 hk he (fun i h3 h4 => ?_) hl hr
  have := hm i h3 h4
  unfold LB at this
  omega

/-- When one comes, the one ahead of it waits alone. -/
theorem Mid.start {k : Nat} {S : List (Nat × List Int)} (h : lo S = k) : Mid lv sd S k := fun x h1 h2 => by omega
end
end Fx
end Ev
namespace Ev
namespace Fx
section
variable (lv sd : Nat → Int)

/-- What is shut before an operator comes; none: they clash. -/
def waits (k : Nat) : List (Nat × List Int) → List Int → Option (List (Nat × List Int) × List Int)
  | [], cur => some ([], cur)
  | (o, P) :: S, cur =>
    if lv o < lv k then some ((o, P) :: S, cur)
    else if lv k < lv o then waits k S ((o : Int) :: (P ++ cur))
    else if sd o ≠ sd k ∨ sd k = 0 then none
    else if 0 < sd k then some ((o, P) :: S, cur)
    else waits k S ((o : Int) :: (P ++ cur))

/-- The operators from one on, as they come. -/
def comes : Nat → Nat → List (Nat × List Int) → List Int → Option (List (Nat × List Int) × List Int)
  | 0, _, S, cur => some (S, cur)
  | m + 1, k, S, cur => match waits lv sd k S cur with
    | none => none
    | some (S', cur') => comes m (k + 1) ((k, cur') :: S') [-2 - (k : Int)]

def shutAll : List (Nat × List Int) → List Int → List Int
  | [], cur => cur
  | (o, P) :: S, cur => shutAll S ((o : Int) :: (P ++ cur))

def climbL (n : Nat) : Option (List Int) := match comes lv sd n 0 [] [-1] with
  | none => none
  | some (S, cur) => some (shutAll S cur)

variable {lv sd}
theorem waits_ok {k : Nat} (hs : ∀ o, o ≤ k → sd o = -1 ∨ sd o = 0 ∨ sd o = 1) : ∀ (S : List (Nat × List Int)) (cur : List Int), Inv lv sd S cur k → Mid lv sd S k →
    match waits lv sd k S cur with
    | none => ∀ n, k < n → ∀ x, ¬ B lv sd 0 n x
    | some (S', cur') => Inv lv sd S' cur' k ∧ Mid lv sd S' k ∧ ∀ p, S'.head? = some p → RB lv sd p.1 k := by
  intro S
  induction S with
  | nil =>
    intro cur h hm
    exact ⟨h, hm, fun p hp => by cases hp⟩
  | cons s S ih =>
    obtain ⟨o, P⟩ := s
    intro cur h hm
    have hok : o < k := h.1
    have h1 := hs o (by omega)
    have h2 := hs k (Nat.le_refl _)
    unfold waits
    by_cases c1 : lv o < lv k
    · rw [if_pos c1]
      refine ⟨h, hm, fun p hp => ?_⟩
      injection hp with hp
      subst hp
      exact .inl c1
    · rw [if_neg c1]
      by_cases c2 : lv k < lv o
      · rw [if_pos c2]
        exact ih _ h.pop (hm.pop h (.inl c2))
      · rw [if_neg c2]
        have he : lv o = lv k := by omega
        by_cases c3 : sd o ≠ sd k ∨ sd k = 0
        · rw [if_pos c3]
          intro n hn x
          exact h.clash hm hn he (by omega) (by omega) x
        · rw [if_neg c3]
          by_cases c4 : 0 < sd k
          · rw [if_pos c4]
            refine ⟨h, hm, fun p hp => ?_⟩
            injection hp with hp
            subst hp
            have e2 : sd o = sd k := by omega
            exact .inr ⟨he, (by show 0 < sd o; omega), c4⟩
          · rw [if_neg c4]
            exact ih _ h.pop (hm.pop h (.inr ⟨he.symm, by omega, by omega⟩))

theorem comes_ok {n : Nat} (hs : ∀ o, o < n → sd o = -1 ∨ sd o = 0 ∨ sd o = 1) : ∀ (m k : Nat) (S : List (Nat × List Int)) (cur : List Int), k + m = n → Inv lv sd S cur k → lo S = k →
    match comes lv sd m k S cur with
    | none => ∀ x, ¬ B lv sd 0 n x
    | some (S', cur') => Inv lv sd S' cur' n := by
  intro m
  induction m with
  | zero =>
    intro k S cur hk h _
    obtain rfl : k = n := by omega
    exact h
  | succ m ih =>
    intro k S cur hk h hl
    unfold comes
    have hw := waits_ok (lv := lv) (sd := sd) (k := k) (fun o ho => hs o (by omega)) S cur h (Mid.start hl)
    cases hw2 : waits lv sd k S cur with
    | none =>
      rw [hw2] at hw
      exact hw n (by omega)
    | some q =>
      obtain ⟨S', cur'⟩ := q
      rw [hw2] at hw
      obtain ⟨g1, g2, g3⟩ := hw
      exact ih (k + 1) _ _ (by omega) (g1.push g2 g3) rfl

theorem shutAll_ok {n : Nat} : ∀ (S : List (Nat × List Int)) (cur : List Int), Inv lv sd S cur n → B lv sd 0 n (shutAll S cur)
  | [], _, h => h
  | (_, _) :: S, _, h => shutAll_ok S _ h.pop

theorem climbL_ok {n : Nat} (hs : ∀ o, o < n → sd o = -1 ∨ sd o = 0 ∨ sd o = 1) : match climbL lv sd n with
    | none => ∀ x, ¬ B lv sd 0 n x
    | some x => B lv sd 0 n x := by
  have h := comes_ok (lv := lv) (sd := sd) hs n 0 [] [-1] (by omega) (show B lv sd 0 0 [-1] from B.nil 0) rfl
  unfold climbL
  cases hc : comes lv sd n 0 [] [-1] with
  | none => rw [hc] at h; exact h
  | some q =>
    obtain ⟨S, cur⟩ := q
    rw [hc] at h
    exact shutAll_ok S cur h

/-! In a row again, and what stands on each side. -/
/-- Numbers that tell how something binds, in a row: what stands from a place on. -/
def flatB : List Int → Nat → Option (List Int × List Int)
  | _, 0 => none
  | [], _ + 1 => none
  | n :: r, f + 1 => if n < 0 then some ([n], r) else match flatB r f with
    | none => none
    | some (a, r') => match flatB r' f with
      | none => none
      | some (b, r'') => some (a ++ n :: b, r'')

/-- Operands and operators in turn. -/
def rowOf : Nat → Nat → List Int
  | a, 0 => [-1 - (a : Int)]
  | a, m + 1 => (-1 - (a : Int)) :: (a : Int) :: rowOf (a + 1) m

theorem rowOf_split : ∀ (m a k : Nat), rowOf a (m + 1 + k) = rowOf a m ++ ((a + m : Nat) : Int) :: rowOf (a + m + 1) k
  | 0, a, k => by
    rw [show 0 + 1 + k = k + 1 by omega]
    rfl
  | m + 1, a, k => by
    rw [show m + 1 + 1 + k = (m + 1 + k) + 1 by omega]
    show (-1 - (a : Int)) :: (a : Int) :: rowOf (a + 1) (m + 1 + k) = (-1 - (a : Int)) :: (a : Int) :: (rowOf (a + 1) m ++ ((a + (m + 1) : Nat) : Int) :: rowOf (a + (m + 1) + 1) k)
    rw [rowOf_split m (a + 1) k, show a + 1 + m = a + (m + 1) by omega]

theorem B.len {a b : Nat} {x : List Int} (h : B lv sd a b x) : x.length = 2 * (b - a) + 1 := by
  induction h with
  | nil a => simp
  | node a r b x y h1 h2 _ _ _ _ ih1 ih2 =>
    rw [List.length_cons, List.length_append, ih1, ih2]
    omega

theorem B.flat {a b : Nat} {x : List Int} (h : B lv sd a b x) : ∀ (rest : List Int) (f : Nat), x.length ≤ f → flatB (x ++ rest) f = some (rowOf a (b - a), rest) := by
  induction h with
  | nil a =>
    intro rest f hf
    obtain ⟨f, rfl⟩ : ∃ g, f = g + 1 := ⟨f - 1, by simp at hf; omega⟩
    show (if -1 - (a : Int) < 0 then _ else _) = _
    rw [if_pos (by omega), Nat.sub_self]
    rfl
  | node a r b x y h1 h2 _ _ _ _ ih1 ih2 =>
    intro rest f hf
    simp only [List.length_cons, List.length_append] at hf
    obtain ⟨f, rfl⟩ : ∃ g, f = g + 1 := ⟨f - 1, by omega⟩
    show (if (r : Int) < 0 then _ else _) = _
    rw [if_neg (by omega)]
    show (match flatB ((x ++ y) ++ rest) f with | none => none | some (c, r') => match flatB r' f with | none => none | some (d, r'') => some (c ++ (r : Int) :: d, r'')) = _
    rw [List.append_assoc, ih1 (y ++ rest) f (by omega)]
    simp only
    rw [ih2 rest f (by omega)]
    simp only
    have e : b - a = (r - a) + 1 + (b - (r + 1)) := by omega
    rw [e, rowOf_split, show a + (r - a) = r by omega]

end
end Fx
end Ev
namespace Ev
namespace Fx
section
variable {lv sd : Nat → Int}

/-! The document's way: the one that binds least first. -/
/-- What is known of the operators of the lowest level among so many. -/
def St (lv sd : Nat → Int) (low : Int) (a k : Nat) (first last n left right : Int) : Prop :=
  (n = 0 ∧ left = 0 ∧ right = 0 ∧ first = -1 ∧ ∀ i, a ≤ i → i < k → lv i ≠ low) ∨
  (∃ f l : Nat, first = (f : Int) ∧ last = (l : Int) ∧ a ≤ f ∧ f ≤ l ∧ l < k ∧ lv f = low ∧ lv l = low ∧ (∀ i, a ≤ i → i < k → lv i = low → f ≤ i ∧ i ≤ l) ∧ 1 ≤ n ∧ (n = 1 → f = l) ∧ (1 < n → f < l) ∧
    (left = n ↔ ∀ i, a ≤ i → i < k → lv i = low → sd i < 0) ∧ left ≤ n ∧ (right = n ↔ ∀ i, a ≤ i → i < k → lv i = low → 0 < sd i) ∧ right ≤ n)

theorem St.start (lv sd : Nat → Int) (low : Int) (a : Nat) (last : Int) : St lv sd low a a (-1) last 0 0 0 := .inl ⟨rfl, rfl, rfl, rfl, fun i h1 h2 => by omega⟩

theorem St.other {low : Int} {a k : Nat} {first last n left right : Int} (h : St lv sd low a k first last n left right) (hk : lv k ≠ low) : St lv sd low a (k + 1) first last n left right := by
  have ext : ∀ {P : Nat → Prop}, (∀ i, a ≤ i → i < k → lv i = low → P i) ↔ (∀ i, a ≤ i → i < k + 1 → lv i = low → P i) := fun {P} => by
    constructor
    · intro h i h1 h2 h3
      by_cases e : i = k
      · subst e; exact absurd h3 hk
      · exact h i h1 (by omega) h3
    · exact fun h i h1 h2 h3 => h i h1 (by omega) h3
  rcases h with ⟨h1, h2, h3, h4, h5⟩ | ⟨f, l, h1, h2, h3, h4, h5, h6, h7, h8, h9, h10, h11, h12, h13, h14, h15⟩
  · refine .inl ⟨h1, h2, h3, h4, fun i g1 g2 => ?_⟩
    by_cases e : i = k
    · subst e; exact hk
    · exact h5 i g1 (by omega)
  · exact .inr ⟨f, l, h1, h2, h3, h4, by omega, h6, h7, ext.1 h8, h9, h10, h11, h12.trans ext, h13, h14.trans ext, h15⟩

theorem St.low {low : Int} {a k : Nat} {first last n left right : Int} (h : St lv sd low a k first last n left right) (hak : a ≤ k) (hk : lv k = low) :
    St lv sd low a (k + 1) (if first < 0 then (k : Int) else first) k (n + 1) (if sd k < 0 then left + 1 else left) (if 0 < sd k then right + 1 else right) := by
  rcases h with ⟨h1, h2, h3, h4, h5⟩ | ⟨f, l, h1, h2, h3, h4, h5, h6, h7, h8, h9, h10, h11, h12, h13, h14, h15⟩
  · subst h1 h2 h3 h4
    have only : ∀ i, a ≤ i → i < k + 1 → lv i = low → i = k := fun i g1 g2 g3 => by
      by_cases e : i = k
      · exact e
      · exact absurd g3 (h5 i g1 (by omega))
    refine .inr ⟨k, k, by rw [if_pos (by omega)], rfl, hak, Nat.le_refl _, by omega, hk, hk, fun i g1 g2 g3 => by have := only i g1 g2 g3; omega, by omega, fun _ => rfl, fun h => by omega, ?_, ?_, ?_, ?_⟩
    · by_cases hs : sd k < 0
      · rw [if_pos hs]
        exact ⟨fun _ i g1 g2 g3 => by rw [only i g1 g2 g3]; exact hs, fun _ => by omega⟩
      · rw [if_neg hs]
        exact ⟨fun h => by omega, fun h => absurd (h k hak (by omega) hk) hs⟩
    · split <;> omega
    · by_cases hs : 0 < sd k
      · rw [if_pos hs]
        exact ⟨fun _ i g1 g2 g3 => by rw [only i g1 g2 g3]; exact hs, fun _ => by omega⟩
      · rw [if_neg hs]
        exact ⟨fun h => by omega, fun h => absurd (h k hak (by omega) hk) hs⟩
    · split <;> omega
  · have all : ∀ {P : Nat → Prop}, P k → ((∀ i, a ≤ i → i < k → lv i = low → P i) ↔ (∀ i, a ≤ i → i < k + 1 → lv i = low → P i)) := fun {P} hp => by
      constructor
      · intro h i h1 h2 h3
        by_cases e : i = k
        · subst e; exact hp
        · exact h i h1 (by omega) h3
      · exact fun h i h1 h2 h3 => h i h1 (by omega) h3
    refine .inr ⟨f, k, by rw [if_neg (by omega)]; exact h1, rfl, h3, by omega, by omega, h6, hk, fun i g1 g2 g3 => ?_, by omega, fun h => by omega, fun _ => by omega, ?_, ?_, ?_, ?_⟩
    · by_cases e : i = k
      · subst e; omega
      · have := h8 i g1 (by omega) g3; omega
    · by_cases hs : sd k < 0
      · rw [if_pos hs, ← all (P := fun i => sd i < 0) hs, ← h12]; omega
      · rw [if_neg hs]
        exact ⟨fun h => by omega, fun h => absurd (h k hak (by omega) hk) hs⟩
    · split <;> omega
    · by_cases hs : 0 < sd k
      · rw [if_pos hs, ← all (P := fun i => 0 < sd i) hs, ← h14]; omega
      · rw [if_neg hs]
        exact ⟨fun h => by omega, fun h => absurd (h k hak (by omega) hk) hs⟩
    · split <;> omega

/-- Where the one stands that binds least; none: they clash. -/
def rootOf (first last n left right : Int) : Option Int := if 1 < n ∧ left = n then some last else if 1 < n ∧ right ≠ n then none else some first

theorem St.root {low : Int} {a b : Nat} {first last n left right : Int} (h : St lv sd low a b first last n left right) (hlow : ∀ i, a ≤ i → i < b → low ≤ lv i) (hex : ∃ i, a ≤ i ∧ i < b ∧ lv i = low) :
    match rootOf first last n left right with
    | none => ∀ x, ¬ B lv sd a b x
    | some r => ∃ q : Nat, r = (q : Int) ∧ a ≤ q ∧ q < b ∧ (∀ i, a ≤ i → i < q → LB lv sd q i) ∧ (∀ i, q < i → i < b → RB lv sd q i) := by
  rcases h with ⟨h1, h2, h3, h4, h5⟩ | ⟨f, l, h1, h2, h3, h4, h5, h6, h7, h8, h9, h10, h11, h12, h13, h14, h15⟩
  · obtain ⟨i, g1, g2, g3⟩ := hex
    exact absurd g3 (h5 i g1 g2)
  · unfold rootOf
    by_cases c1 : 1 < n ∧ left = n
    · rw [if_pos c1]
      have hl := h12.1 c1.2
      refine ⟨l, h2, by omega, h5, fun i g1 g2 => ?_, fun i g1 g2 => ?_⟩
      · have := hlow i g1 (by omega)
        by_cases e : lv i = low
        · exact .inr ⟨by omega, hl l (by omega) h5 h7, hl i g1 (by omega) e⟩
        · exact .inl (by omega)
      · have := hlow i (by omega) g2
        by_cases e : lv i = low
        · have := h8 i (by omega) g2 e; omega
        · exact .inl (by omega)
    · rw [if_neg c1]
      by_cases c2 : 1 < n ∧ right ≠ n
      · rw [if_pos c2]
        intro x hx
        have hfl := h11 c2.1
        cases hx with
        | nil => omega
        | node _ r _ _ _ g1 g2 g3 g4 _ _ =>
          have hr : lv r = low := by
            have := hlow r g1 g2
            rcases Nat.lt_trichotomy f r with e | e | e
            · have := g3 f h3 e; unfold LB at this; omega
            · subst e; exact h6
            · have := g4 f e (by omega); unfold RB at this; omega
          rcases Nat.lt_or_ge f r with e | e
          · have hs := g3 f h3 e
            unfold LB at hs
            have hsr : sd r < 0 := by omega
            refine c1 ⟨c2.1, h12.2 fun i k1 k2 k3 => ?_⟩
            rcases Nat.lt_trichotomy i r with e' | e' | e'
            · have := g3 i k1 e'; unfold LB at this; omega
            · subst e'; exact hsr
            · have := g4 i e' k2; unfold RB at this; omega
          · have e : r = f := by have := h8 r g1 g2 hr; omega
            subst e
            have hs := g4 l hfl h5
            unfold RB at hs
            have hsr : 0 < sd r := by omega
            refine c2.2 (h14.2 fun i k1 k2 k3 => ?_)
            have := h8 i k1 k2 k3
            by_cases e' : i = r
            · subst e'; exact hsr
            · have := g4 i (by omega) k2; unfold RB at this; omega
      · rw [if_neg c2]
        refine ⟨f, h1, h3, by omega, fun i g1 g2 => ?_, fun i g1 g2 => ?_⟩
        · have := hlow i g1 (by omega)
          by_cases e : lv i = low
          · have := h8 i g1 (by omega) e; omega
          · exact .inl (by omega)
        · have := hlow i (by omega) g2
          by_cases e : lv i = low
          · have hn : 1 < n := by
              rcases Nat.lt_or_ge f l with e' | e'
              · have : n ≠ 1 := fun e'' => by have := h10 e''; omega
                omega
              · have := h8 i (by omega) g2 e; omega
            have hr := h14.1 (Classical.byContradiction fun e' => c2 ⟨hn, e'⟩)
            exact .inr ⟨by omega, hr f h3 (by omega) h6, hr i (by omega) g2 e⟩
          · exact .inl (by omega)

/-- If the parts on both sides bind, so does the whole, and else it doesn't. -/
theorem B.from_root {a b q : Nat} (h1 : a ≤ q) (h2 : q < b) (h3 : ∀ i, a ≤ i → i < q → LB lv sd q i) (h4 : ∀ i, q < i → i < b → RB lv sd q i) {x : List Int} :
    B lv sd a b x ↔ ∃ y z, B lv sd a q y ∧ B lv sd (q + 1) b z ∧ x = (q : Int) :: (y ++ z) := by
  constructor
  · intro h
    cases h with
    | nil => omega
    | node _ r _ y z g1 g2 g3 g4 g5 g6 =>
      obtain rfl := root_unique ⟨g1, g2⟩ ⟨h1, h2⟩ g3 g4 h3 h4
      exact ⟨y, z, g5, g6, rfl⟩
  · rintro ⟨y, z, g1, g2, rfl⟩
    exact .node a q b y z h1 h2 h3 h4 g1 g2

/-! One operator, over and over. -/
theorem B.lefts {s : Int} (hs : s < 0) (hl : ∀ i j, lv i = lv j) (hd : ∀ i, sd i = s) (a : Nat) : ∀ (m : Nat), ∃ x, B lv sd a (a + m) x ∧ ∀ k, k < m → x[k]? = some ((a + m - 1 - k : Nat) : Int)
  | 0 => ⟨_, .nil a, fun k h => by omega⟩
  | m + 1 => by
    obtain ⟨x, h1, h2⟩ := B.lefts hs hl hd a m
    have h3 := B.nil (lv := lv) (sd := sd) (a + m + 1)
    refine ⟨_, .node a (a + m) (a + (m + 1)) x _ (by omega) (by omega) (fun i _ _ => .inr ⟨hl _ _, by rw [hd]; exact hs, by rw [hd]; exact hs⟩) (fun i g1 g2 => by omega) h1 h3, fun k hk => ?_⟩
    cases k with
    | zero => simp
    | succ k =>
      have hlen := h1.len
      rw [List.getElem?_cons_succ, List.getElem?_append_left (by omega), h2 k (by omega)]
      congr 2
      omega

theorem B.rights {s : Int} (hs : 0 < s) (hl : ∀ i j, lv i = lv j) (hd : ∀ i, sd i = s) : ∀ (m a : Nat), ∃ x, B lv sd a (a + m) x ∧ ∀ k, k < m → x[2 * k]? = some ((a + k : Nat) : Int) ∧ x[2 * k + 1]? = some (-1 - ((a + k : Nat) : Int))
  | 0, a => ⟨_, .nil a, fun k h => by omega⟩
  | m + 1, a => by
    obtain ⟨x, h1, h2⟩ := B.rights hs hl hd m (a + 1)
    have h3 := B.nil (lv := lv) (sd := sd) a
    rw [show a + 1 + m = a + (m + 1) by omega] at h1
    refine ⟨_, .node a a (a + (m + 1)) _ x (Nat.le_refl _) (by omega) (fun i g1 g2 => by omega) (fun i _ _ => .inr ⟨hl _ _, by rw [hd]; exact hs, by rw [hd]; exact hs⟩) h3 h1, fun k hk => ?_⟩
    cases k with
    | zero => simp
    | succ k =>
      obtain ⟨g1, g2⟩ := h2 k (by omega)
      refine ⟨?_, ?_⟩
      · rw [show 2 * (k + 1) = 2 * k + 1 + 1 by omega]
        simp only [List.getElem?_cons_succ, List.singleton_append]
        rw [g1]; congr 2; omega
      · rw [show 2 * (k + 1) + 1 = 2 * k + 1 + 1 + 1 by omega]
        simp only [List.getElem?_cons_succ, List.singleton_append]
        rw [g2, show a + 1 + k = a + (k + 1) by omega]
end
end Fx
end Ev
namespace Ev
open Go
namespace Fn
/-- As much, or more. -/
def lq {α : Type} (a b : Option α) : Prop := ∀ v, a = some v → b = some v
theorem lq_refl {α : Type} (a : Option α) : lq a a := fun _ h => h
theorem lq_bnd {α β : Type} {x y : Option α} {f g : α → Option β} (h : lq x y) (h2 : ∀ a, lq (f a) (g a)) : lq (bnd x f) (bnd y g) := by
  intro v e
  cases hx : x with
  | none => rw [hx] at e; cases e
  | some a =>
    rw [hx] at e
    rw [h a hx]
    exact h2 a v e
theorem lq_cnd {α : Type} {c : Bool} {x y x' y' : Option α} (h : lq x x') (h2 : lq y y') : lq (cnd c x y) (cnd c x' y') := by
  cases c with
  | true => exact h
  | false => exact h2
theorem lq_sumE {α β : Type} {f g : α → Option β} (h : ∀ a, lq (f a) (g a)) (y : α ⊕ β) : lq (sumE f y) (sumE g y) := by
  cases y with
  | inl a => exact h a
  | inr b => exact lq_refl _
theorem lq_loop {σ ρ : Type} {f g : σ → Option (σ ⊕ ρ)} (h : ∀ s, lq (f s) (g s)) : ∀ (n : Nat) (s : σ) (r : ρ), loopN f n s = some r → loopN g n s = some r
  | 0, _, _, e => by cases e
  | n + 1, s, r, e => by
    unfold loopN at e ⊢
    cases hf : f s with
    | none => rw [hf] at e; cases e
    | some q =>
      rw [hf] at e
      rw [h s q hf]
      cases q with
      | inl s' => exact lq_loop h n s' r e
      | inr r' => exact e
theorem lq_loopR {σ ρ : Type} {f g : σ → Option (σ ⊕ ρ)} (h : ∀ s, lq (f s) (g s)) (n : Nat) (s : σ) : lq (loopN f n s) (loopR g s) := fun r e => loopR_of n (lq_loop h n s r e)
def k2_Fields (K : ((List Int) × Int × Int × (Sl (List Int)) × Unit) → Option ((((List Int) × Int × Int × Int × (Sl (List Int)) × Unit) ⊕ (((List Int) × Int × Int × Int × (Sl (List Int)) × Unit) ⊕ (((List Int) × Int × Int × (Sl (List Int)) × Unit) ⊕ (((List Int) × Int × Int × Int × Int × Unit) ⊕ ((Sl (List Int)) × Unit))))))) (x8 : (List Int) × Int × Int × Int × (Sl (List Int)) × Unit) : Option (((List Int) × Int × Int × Int × (Sl (List Int)) × Unit) ⊕ ((((List Int) × Int × Int × (Sl (List Int)) × Unit) ⊕ (((List Int) × Int × Int × Int × Int × Unit) ⊕ ((Sl (List Int)) × Unit))))) := cnd (ltI x8.2.2.2.1 (lenI x8.1)) (bnd (bnd (at? x8.1 x8.2.2.2.1) (fun x9 => bnd (at? ([0, 0, 0, 0, 0, 0, 0, 0, 0, 1, 1, 1, 1, 1, 0, 0, 0, 0, 0, 0, 0, 0, 0, 0, 0, 0, 0, 0, 0, 0, 0, 0, 1, 0, 0, 0, 0, 0, 0, 0, 0, 0, 0, 0, 0, 0, 0, 0, 0, 0, 0, 0, 0, 0, 0, 0, 0, 0, 0, 0, 0, 0, 0, 0, 0, 0, 0, 0, 0, 0, 0, 0, 0, 0, 0, 0, 0, 0, 0, 0, 0, 0, 0, 0, 0, 0, 0, 0, 0, 0, 0, 0, 0, 0, 0, 0, 0, 0, 0, 0, 0, 0, 0, 0, 0, 0, 0, 0, 0, 0, 0, 0, 0, 0, 0, 0, 0, 0, 0, 0, 0, 0, 0, 0, 0, 0, 0, 0, 0, 0, 0, 0, 0, 0, 0, 0, 0, 0, 0, 0, 0, 0, 0, 0, 0, 0, 0, 0, 0, 0, 0, 0, 0, 0, 0, 0, 0, 0, 0, 0, 0, 0, 0, 0, 0, 0, 0, 0, 0, 0, 0, 0, 0, 0, 0, 0, 0, 0, 0, 0, 0, 0, 0, 0, 0, 0, 0, 0, 0, 0, 0, 0, 0, 0, 0, 0, 0, 0, 0, 0, 0, 0, 0, 0, 0, 0, 0, 0, 0, 0, 0, 0, 0, 0, 0, 0, 0, 0, 0, 0, 0, 0, 0, 0, 0, 0, 0, 0, 0, 0, 0, 0, 0, 0, 0, 0, 0, 0, 0, 0, 0, 0, 0, 0, 0, 0, 0, 0, 0, 0, 0, 0, 0, 0, 0, 0] : List Int) x9) (fun x10 => cnd (eqI x10 0) (some (Sum.inl (x8.1, x8.2.1, x8.2.2.1, addI IntKind.i64 x8.2.2.2.1 1, x8.2.2.2.2.1, ()))) (bnd (cutL x8.1 x8.2.2.1 x8.2.2.2.1) (fun x11 => bnd (okAt x8.2.2.2.2.1.l x8.2.1) (fun x12 => bnd (bnd (nth x8.2.2.2.2.1.l x12) (fun _ => some x11)) (fun x14 => K (x8.1, addI IntKind.i64 x8.2.1 1, addI IntKind.i64 x8.2.2.2.1 1, ⟨x8.2.2.2.2.1.nil, setL x8.2.2.2.2.1.l x12 x14⟩, ())))))))) (sumE (fun x19 => some (Sum.inl (x19.1, x19.2.1, x19.2.2.1, x19.2.2.2.1, x19.2.2.2.2.1, ()))))) (bnd (cnd (ltI x8.2.2.1 (lenI x8.1)) (bnd (cutL x8.1 x8.2.2.1 (lenI x8.1)) (fun x20 => bnd (okAt x8.2.2.2.2.1.l x8.2.1) (fun x21 => bnd (bnd (nth x8.2.2.2.2.1.l x21) (fun _ => some x20)) (fun x23 => some (⟨x8.2.2.2.2.1.nil, setL x8.2.2.2.2.1.l x21 x23⟩, ()))))) (some (x8.2.2.2.2.1, ()))) (fun x24 => some (Sum.inr (Sum.inr (Sum.inr (x24.1, ()))))))
theorem k2_eq : l2_strings_Fields = k2_Fields (loopR l1_strings_Fields) := rfl
theorem k2_mono {K K' : ((List Int) × Int × Int × (Sl (List Int)) × Unit) → Option ((((List Int) × Int × Int × Int × (Sl (List Int)) × Unit) ⊕ (((List Int) × Int × Int × Int × (Sl (List Int)) × Unit) ⊕ (((List Int) × Int × Int × (Sl (List Int)) × Unit) ⊕ (((List Int) × Int × Int × Int × Int × Unit) ⊕ ((Sl (List Int)) × Unit))))))} (h : ∀ s, lq (K s) (K' s)) (s : (List Int) × Int × Int × Int × (Sl (List Int)) × Unit) : lq (k2_Fields K s) (k2_Fields K' s) := by
  unfold k2_Fields
  repeat' first | exact h _ | exact lq_refl _ | apply lq_bnd | apply lq_cnd | (intro _) | apply lq_sumE
def k3_Fields (K : ((List Int) × Int × Int × Int × (Sl (List Int)) × Unit) → Option ((((List Int) × Int × Int × (Sl (List Int)) × Unit) ⊕ (((List Int) × Int × Int × Int × Int × Unit) ⊕ ((Sl (List Int)) × Unit))))) (x4 : (List Int) × Int × Int × (Sl (List Int)) × Unit) : Option (((List Int) × Int × Int × (Sl (List Int)) × Unit) ⊕ ((((List Int) × Int × Int × Int × Int × Unit) ⊕ ((Sl (List Int)) × Unit)))) := bnd (cnd (ltI x4.2.2.1 (lenI x4.1)) (bnd (at? x4.1 x4.2.2.1) (fun x5 => bnd (at? ([0, 0, 0, 0, 0, 0, 0, 0, 0, 1, 1, 1, 1, 1, 0, 0, 0, 0, 0, 0, 0, 0, 0, 0, 0, 0, 0, 0, 0, 0, 0, 0, 1, 0, 0, 0, 0, 0, 0, 0, 0, 0, 0, 0, 0, 0, 0, 0, 0, 0, 0, 0, 0, 0, 0, 0, 0, 0, 0, 0, 0, 0, 0, 0, 0, 0, 0, 0, 0, 0, 0, 0, 0, 0, 0, 0, 0, 0, 0, 0, 0, 0, 0, 0, 0, 0, 0, 0, 0, 0, 0, 0, 0, 0, 0, 0, 0, 0, 0, 0, 0, 0, 0, 0, 0, 0, 0, 0, 0, 0, 0, 0, 0, 0, 0, 0, 0, 0, 0, 0, 0, 0, 0, 0, 0, 0, 0, 0, 0, 0, 0, 0, 0, 0, 0, 0, 0, 0, 0, 0, 0, 0, 0, 0, 0, 0, 0, 0, 0, 0, 0, 0, 0, 0, 0, 0, 0, 0, 0, 0, 0, 0, 0, 0, 0, 0, 0, 0, 0, 0, 0, 0, 0, 0, 0, 0, 0, 0, 0, 0, 0, 0, 0, 0, 0, 0, 0, 0, 0, 0, 0, 0, 0, 0, 0, 0, 0, 0, 0, 0, 0, 0, 0, 0, 0, 0, 0, 0, 0, 0, 0, 0, 0, 0, 0, 0, 0, 0, 0, 0, 0, 0, 0, 0, 0, 0, 0, 0, 0, 0, 0, 0, 0, 0, 0, 0, 0, 0, 0, 0, 0, 0, 0, 0, 0, 0, 0, 0, 0, 0, 0, 0, 0, 0, 0, 0] : List Int) x5) (fun x6 => some (notB (eqI x6 0))))) (some false)) (fun x7 => cnd x7 (some (Sum.inl (x4.1, x4.2.1, addI IntKind.i64 x4.2.2.1 1, x4.2.2.2.1, ()))) (K (x4.1, x4.2.1, x4.2.2.1, x4.2.2.1, x4.2.2.2.1, ())))
theorem k3_eq : l3_strings_Fields = k3_Fields (loopR l2_strings_Fields) := rfl
theorem k3_mono {K K' : ((List Int) × Int × Int × Int × (Sl (List Int)) × Unit) → Option ((((List Int) × Int × Int × (Sl (List Int)) × Unit) ⊕ (((List Int) × Int × Int × Int × Int × Unit) ⊕ ((Sl (List Int)) × Unit))))} (h : ∀ s, lq (K s) (K' s)) (s : (List Int) × Int × Int × (Sl (List Int)) × Unit) : lq (k3_Fields K s) (k3_Fields K' s) := by
  unfold k3_Fields
  repeat' first | exact h _ | exact lq_refl _ | apply lq_bnd | apply lq_cnd | (intro _) | apply lq_sumE
def k4_Fields (K : ((List Int) × Int × Int × (Sl (List Int)) × Unit) → Option ((((List Int) × Int × Int × Int × Int × Unit) ⊕ ((Sl (List Int)) × Unit)))) (x0 : (List Int) × Int × Int × Int × Int × Unit) : Option (((List Int) × Int × Int × Int × Int × Unit) ⊕ ((Sl (List Int)) × Unit)) := cnd (ltI x0.2.2.2.2.1 (lenI x0.1)) (bnd (at? x0.1 x0.2.2.2.2.1) (fun x1 => bnd (at? ([0, 0, 0, 0, 0, 0, 0, 0, 0, 1, 1, 1, 1, 1, 0, 0, 0, 0, 0, 0, 0, 0, 0, 0, 0, 0, 0, 0, 0, 0, 0, 0, 1, 0, 0, 0, 0, 0, 0, 0, 0, 0, 0, 0, 0, 0, 0, 0, 0, 0, 0, 0, 0, 0, 0, 0, 0, 0, 0, 0, 0, 0, 0, 0, 0, 0, 0, 0, 0, 0, 0, 0, 0, 0, 0, 0, 0, 0, 0, 0, 0, 0, 0, 0, 0, 0, 0, 0, 0, 0, 0, 0, 0, 0, 0, 0, 0, 0, 0, 0, 0, 0, 0, 0, 0, 0, 0, 0, 0, 0, 0, 0, 0, 0, 0, 0, 0, 0, 0, 0, 0, 0, 0, 0, 0, 0, 0, 0, 0, 0, 0, 0, 0, 0, 0, 0, 0, 0, 0, 0, 0, 0, 0, 0, 0, 0, 0, 0, 0, 0, 0, 0, 0, 0, 0, 0, 0, 0, 0, 0, 0, 0, 0, 0, 0, 0, 0, 0, 0, 0, 0, 0, 0, 0, 0, 0, 0, 0, 0, 0, 0, 0, 0, 0, 0, 0, 0, 0, 0, 0, 0, 0, 0, 0, 0, 0, 0, 0, 0, 0, 0, 0, 0, 0, 0, 0, 0, 0, 0, 0, 0, 0, 0, 0, 0, 0, 0, 0, 0, 0, 0, 0, 0, 0, 0, 0, 0, 0, 0, 0, 0, 0, 0, 0, 0, 0, 0, 0, 0, 0, 0, 0, 0, 0, 0, 0, 0, 0, 0, 0, 0, 0, 0, 0, 0, 0] : List Int) x1) (fun x2 => some (Sum.inl (x0.1, addI IntKind.i64 x0.2.1 (andI IntKind.i64 x0.2.2.1 (xorI IntKind.i64 (-1) (cvI IntKind.i64 x2))), cvI IntKind.i64 x2, orI IntKind.u8 x0.2.2.2.1 x1, addI IntKind.i64 x0.2.2.2.2.1 1, ()))))) (cnd (leI 128 x0.2.2.2.1) none (bnd (mkN x0.2.1 x0.2.1) (fun x3 => K (x0.1, 0, 0, ⟨false, rep x3 ([] : List Int)⟩, ()))))
theorem k4_eq : l4_strings_Fields = k4_Fields (loopR l3_strings_Fields) := rfl
theorem k4_mono {K K' : ((List Int) × Int × Int × (Sl (List Int)) × Unit) → Option ((((List Int) × Int × Int × Int × Int × Unit) ⊕ ((Sl (List Int)) × Unit)))} (h : ∀ s, lq (K s) (K' s)) (s : (List Int) × Int × Int × Int × Int × Unit) : lq (k4_Fields K s) (k4_Fields K' s) := by
  unfold k4_Fields
  repeat' first | exact h _ | exact lq_refl _ | apply lq_bnd | apply lq_cnd | (intro _) | apply lq_sumE
def wordsT : List Int := [108, 101, 116, 32, 114, 101, 99, 32, 105, 110, 32, 102, 117, 110, 32, 105, 102, 32, 116, 104, 101, 110, 32, 101, 108, 115, 101, 32, 109, 97, 116, 99, 104, 32, 119, 105, 116, 104, 32, 101, 110, 100, 32, 114, 97, 105, 115, 101, 32, 116, 114, 121, 32, 111, 112, 101, 110, 32, 116, 121, 112, 101, 32, 111, 102, 32, 105, 110, 102, 105, 120, 108, 32, 105, 110, 102, 105, 120, 114, 32, 105, 110, 102, 105, 120, 32, 45, 62, 32, 61, 32, 124, 32, 40, 32, 41, 32, 95, 32, 59, 59]
def wordsL : List (List Int) := [[108, 101, 116], [114, 101, 99], [105, 110], [102, 117, 110], [105, 102], [116, 104, 101, 110], [101, 108, 115, 101], [109, 97, 116, 99, 104], [119, 105, 116, 104], [101, 110, 100], [114, 97, 105, 115, 101], [116, 114, 121], [111, 112, 101, 110], [116, 121, 112, 101], [111, 102], [105, 110, 102, 105, 120, 108], [105, 110, 102, 105, 120, 114], [105, 110, 102, 105, 120], [45, 62], [61], [124], [40], [41], [95], [59, 59]]
noncomputable def n1 := fun s => loopN l1_strings_Fields 200 s
noncomputable def n2 := fun s => loopN (k2_Fields n1) 200 s
noncomputable def n3 := fun s => loopN (k3_Fields n2) 200 s
noncomputable def n4 := fun s => loopN (k4_Fields n3) 200 s
theorem n1_le (s) : lq (n1 s) (loopR l1_strings_Fields s) := fun _r e => loopR_of 200 e
theorem n2_le (s) : lq (n2 s) (loopR l2_strings_Fields s) := lq_loopR (fun s => k2_mono n1_le s) 200 s
theorem n3_le (s) : lq (n3 s) (loopR l3_strings_Fields s) := lq_loopR (fun s => k3_mono n2_le s) 200 s
theorem n4_le (s) : lq (n4 s) (loopR l4_strings_Fields s) := lq_loopR (fun s => k4_mono n3_le s) 200 s
theorem n4_words : n4 (wordsT, 0, 1, 0, 0, ()) = some (⟨false, wordsL⟩, ()) := by kernel_rfl
theorem words_spec : f_lex_words () = some (⟨false, wordsL⟩, ()) := by
  rw [u_lex_words]
  have h : f_strings_Fields (wordsT, ()) = some (⟨false, wordsL⟩, ()) := by
    rw [u_strings_Fields]
    exact n4_le _ _ n4_words
  show bnd (f_strings_Fields (wordsT, ())) _ = _
  rw [h]
  rfl
theorem rwords_spec : f_ref03_words () = some (⟨false, wordsL⟩, ()) := u_ref03_words
end Fn
end Ev
namespace Ev
open Go
namespace Fn

theorem add1 {k : Nat} (h : k ≤ 1000000000) : addI .i64 (k : Int) 1 = ((k + 1 : Nat) : Int) := by
  rw [addI_i64 (by omega) (by omega)]; omega
theorem drop_cons {α : Type} {l : List α} {k : Nat} (h : k < l.length) : l.drop k = l[k] :: l.drop (k + 1) := List.drop_eq_getElem_cons h
theorem okAt_nat {α : Type} {l : List α} {i : Nat} (h : i < l.length) : okAt l (i : Int) = some i := by
  unfold okAt; rw [if_pos (by omega)]; rfl
theorem nth_of {α : Type} {l : List α} {i : Nat} {x : α} (h : l[i]? = some x) : nth l i = some x := h
theorem cut_pre {α : Type} {l : List α} {k : Nat} (h : k ≤ l.length) : cutL l 0 (k : Int) = some (l.take k) := by
  unfold cutL; rw [if_pos (by omega)]; rfl

/-- A fixity's parts in memory. -/
def gF (x : Fix1) : Prop := (∀ b, b ∈ x.1 → 0 ≤ b ∧ b ≤ 255) ∧ x.1.length ≤ 9223372036854775807 ∧ (-9223372036854775808 ≤ x.2.1 ∧ x.2.1 ≤ 9223372036854775807) ∧ (-9223372036854775808 ≤ x.2.2 ∧ x.2.2 ≤ 9223372036854775807)

/-! Words. -/
theorem index_loop (s : List Int) (n : Bool) (l : List (List Int)) (hl : l.length ≤ 1000000) : ∀ (m k : Nat), k + m = l.length →
    ∃ r, loopR l1_slices_Index (⟨n, l⟩, s, (l.length : Int), (k : Int), ()) = some (r, ()) ∧ (0 ≤ r ↔ s ∈ l.drop k) := by
  intro m
  induction m with
  | zero =>
    intro k hk
    refine ⟨-1, loopR_inr ?_, by rw [List.drop_eq_nil_of_le (by omega)]; simp⟩
    unfold l1_slices_Index
    simp only
    rw [cnd_lt, if_neg (by omega)]
  | succ m ih =>
    intro k hk
    have hlt : k < l.length := by omega
    rw [drop_cons hlt]
    have step : l1_slices_Index (⟨n, l⟩, s, (l.length : Int), (k : Int), ()) = if s = l[k] then some (.inr ((k : Int), ())) else some (.inl (⟨n, l⟩, s, (l.length : Int), ((k + 1 : Nat) : Int), ())) := by
      unfold l1_slices_Index
      simp only
      rw [cnd_lt, if_pos (by omega), at?_nat (List.getElem?_eq_getElem hlt), bnd_some_eq, cnd_eqS, add1 (by omega)]
    by_cases h : s = l[k]
    · rw [if_pos h] at step
      exact ⟨k, loopR_inr step, by simp [h, -List.getElem_cons_drop]⟩
    · rw [if_neg h] at step
      obtain ⟨r, h1, h2⟩ := ih (k + 1) (by omega)
      exact ⟨r, by rw [loopR_inl step, h1], by rw [h2]; simp [h, -List.getElem_cons_drop]⟩

theorem key_spec (s : List Int) : f_lex_Key (s, ()) = some (decide (s ∈ wordsL), ()) := by
  obtain ⟨r, h1, h2⟩ := index_loop s false wordsL (by decide) 25 0 (by decide)
  rw [u_lex_Key, words_spec, bnd_some_eq, u_slices_Contains, u_slices_Index]
  have h1 : loopR l1_slices_Index (⟨false, wordsL⟩, s, lenI wordsL, 0, ()) = some (r, ()) := h1
  simp only [h1, bnd_some_eq]
  have : leI 0 r = decide (s ∈ wordsL) := decide_eq_decide.2 (by rw [h2]; rfl)
  rw [this]

theorem rkey_loop (s : List Int) (n : Bool) (l : List (List Int)) (hl : l.length ≤ 1000000) : ∀ (m k : Nat), k + m = l.length →
    loopR l1_ref03_Key (s, ⟨n, l⟩, (k : Int), ()) = some (decide (s ∈ l.drop k), ()) := by
  intro m
  induction m with
  | zero =>
    intro k hk
    refine loopR_inr ?_
    unfold l1_ref03_Key
    simp only
    rw [cnd_lt, if_neg (by unfold lenI; omega), List.drop_eq_nil_of_le (by omega)]
    simp
  | succ m ih =>
    intro k hk
    have hlt : k < l.length := by omega
    rw [drop_cons hlt]
    have step : l1_ref03_Key (s, ⟨n, l⟩, (k : Int), ()) = if l[k] = s then some (.inr (true, ())) else some (.inl (s, ⟨n, l⟩, ((k + 1 : Nat) : Int), ())) := by
      unfold l1_ref03_Key
      simp only
      rw [cnd_lt, if_pos (by unfold lenI; omega), at?_nat (List.getElem?_eq_getElem hlt), bnd_some_eq, cnd_eqS, add1 (by omega)]
    by_cases h : l[k] = s
    · rw [if_pos h] at step
      rw [loopR_inr step]
      simp [h, -List.getElem_cons_drop]
    · rw [if_neg h] at step
      rw [loopR_inl step, ih (k + 1) (by omega)]
      have : s ≠ l[k] := fun e => h e.symm
      simp [this, -List.getElem_cons_drop]

theorem rkey_spec (s : List Int) : f_ref03_Key (s, ()) = some (decide (s ∈ wordsL), ()) := by
  rw [u_ref03_Key, rwords_spec, bnd_some_eq]
  exact rkey_loop s false wordsL (by decide) 25 0 (by decide)

/-! Signs. -/
def signsL : List Int := [33, 36, 37, 38, 42, 43, 45, 47, 58, 60, 61, 62, 63, 64, 94, 124]
theorem ixB_mem (c : Int) : ∀ l : List Int, (0 ≤ ixB c l ↔ c ∈ l)
  | [] => by simp [ixB]
  | b :: r => by
    have ih := ixB_mem c r
    unfold ixB
    by_cases h : b = c
    · rw [if_pos h]; simp [h]
    · rw [if_neg h]
      have : c ≠ b := fun e => h e.symm
      simp only [List.mem_cons, this, false_or]
      rw [← ih]
      split <;> omega

theorem sign_spec (c : Int) : f_lex_sign (c, ()) = some (decide (c ∈ signsL), ()) := by
  rw [u_lex_sign, u_strings_IndexByte, bnd_some_eq]
  have : leI 0 (ixB c signsL) = decide (c ∈ signsL) := decide_eq_decide.2 (ixB_mem c signsL)
  show some (leI 0 (ixB c signsL), ()) = _
  rw [this]

theorem is_loop (c : Int) : ∀ (m k : Nat), k + m = 16 → ∃ r, loopR l1_ref03_is (c, signsL, (k : Int), ()) = some (r, ()) ∧ r ≤ 5 ∧ (r = 5 ↔ c ∈ signsL.drop k) := by
  have h16 : signsL.length = 16 := rfl
  intro m
  induction m with
  | zero =>
    intro k hk
    rw [List.drop_eq_nil_of_le (by omega)]
    have last : ∀ (b1 b2 b3 b4 : Bool), ∃ r : Int, (cnd b1 (some (Sum.inr (1, ()))) (cnd b2 (some (Sum.inr (2, ()))) (cnd b3 (some (Sum.inr (3, ()))) (cnd b4 (some (Sum.inr (4, ()))) (some (Sum.inr (0, ())))))) : Option ((Int × (List Int) × Int × Unit) ⊕ (Int × Unit))) = some (.inr (r, ())) ∧ r ≤ 5 ∧ r ≠ 5 := by
      intro b1 b2 b3 b4
      cases b1 <;> cases b2 <;> cases b3 <;> cases b4 <;> exact ⟨_, rfl, by decide, by decide⟩
    have two : ∀ (a b : Int) (b2 : Bool), (cnd (leI a c) (some b2) (some false) : Option Bool) = some (leI a c && b2) := fun a b b2 => by cases leI a c <;> rfl
    have or2 : ∀ (b1 b2 : Bool), (cnd b1 (some true) (some b2) : Option Bool) = some (b1 || b2) := fun b1 b2 => by cases b1 <;> rfl
    obtain ⟨r, h1, h2, h3⟩ := last (leI 97 c && leI c 122) (leI 65 c && leI c 90) (leI 48 c && leI c 57) (eqI c 95 || eqI c 39)
    refine ⟨r, loopR_inr ?_, h2, by simp [h3]⟩
    unfold l1_ref03_is
    simp only
    rw [cnd_lt, if_neg (by unfold lenI; omega), two 97 0, two 65 0, two 48 0, or2]
    simp only [bnd_some_eq]
    exact h1
  | succ m ih =>
    intro k hk
    have hlt : k < signsL.length := by omega
    rw [drop_cons hlt]
    have step : l1_ref03_is (c, signsL, (k : Int), ()) = if signsL[k] = c then some (.inr (5, ())) else some (.inl (c, signsL, ((k + 1 : Nat) : Int), ())) := by
      unfold l1_ref03_is
      simp only
      rw [cnd_lt, if_pos (by unfold lenI; omega), at?_nat (List.getElem?_eq_getElem hlt), bnd_some_eq, cnd_eq, add1 (by omega)]
    by_cases h : signsL[k] = c
    · rw [if_pos h] at step
      exact ⟨5, loopR_inr step, by omega, by simp [h, -List.getElem_cons_drop]⟩
    · rw [if_neg h] at step
      obtain ⟨r, h1, h2, h3⟩ := ih (k + 1) (by omega)
      have hn : c ≠ signsL[k] := fun e => h e.symm
      exact ⟨r, by rw [loopR_inl step, h1], h2, by rw [h3]; simp [hn, -List.getElem_cons_drop]⟩

theorem is_spec (c : Int) : ∃ r, f_ref03_is (c, ()) = some (r, ()) ∧ r ≤ 5 ∧ (r = 5 ↔ c ∈ signsL) := by
  obtain ⟨r, h1, h2, h3⟩ := is_loop c 16 0 rfl
  exact ⟨r, by rw [u_ref03_is]; exact h1, h2, h3⟩

/-- What an operator may be. -/
def allS (s : List Int) : Bool := !s.isEmpty && s.all fun b => decide (b ∈ signsL)
def opOk (s : List Int) : Bool := allS s && !decide (s ∈ wordsL)

theorem signs_low {b : Int} (h : b ∈ signsL) : 0 ≤ b ∧ b ≤ 126 := by
  unfold signsL at h
  simp only [List.mem_cons, List.not_mem_nil, or_false] at h
  omega

/-- The sign at a place: the byte, or none that an operator may have. -/
theorem rune_at {s : List Int} (hs : ∀ b, b ∈ s → 0 ≤ b ∧ b ≤ 255) {k : Nat} (hk : k < s.length) : (s[k] ≤ 127 → runeI s (k : Int) = s[k] ∧ nextI s (k : Int) = ((k + 1 : Nat) : Int)) ∧ (127 < s[k] → 126 < runeI s (k : Int)) := by
  have hb := hs _ (List.getElem_mem hk)
  have hsz : (bytesB s).size = s.length := by show (s.map _).toArray.size = _; simp
  have hk' : k < (bytesB s).size := by omega
  have hg : (((bytesB s)[k]'hk').toNat : Int) = s[k] := by
    have : (bytesB s)[k]'hk' = UInt8.ofNat s[k].toNat := by
      have h1 : (bytesB s)[k]'hk' = ((s.map fun b => UInt8.ofNat b.toNat).toArray)[k]'(by simpa using hk) := rfl
      rw [h1, List.getElem_toArray, List.getElem_map]
    rw [this, UInt8.toNat_ofNat', Nat.mod_eq_of_lt (by omega)]
    omega
  unfold runeI nextI
  rw [Int.toNat_natCast, if_pos (by omega)]
  constructor
  · intro h
    have := decode_ascii (bytesB s) k hk' (by omega)
    rw [this]
    exact ⟨hg, by simp⟩
  · intro h
    have := (decode_high (bytesB s) k hk' (by omega)).1
    omega

theorem all_loop {s : List Int} (hs : ∀ b, b ∈ s → 0 ≤ b ∧ b ≤ 255) : ∀ (m k : Nat), k + m = s.length →
    loopR l1_lex_all_v2 (s, s, (k : Int), ()) = some ((s.drop k).all (fun b => decide (b ∈ signsL)) && !s.isEmpty, ()) := by
  intro m
  induction m with
  | zero =>
    intro k hk
    refine loopR_inr ?_
    unfold l1_lex_all_v2
    simp only
    rw [cnd_lt, if_neg (by unfold lenI; omega), List.drop_eq_nil_of_le (by omega)]
    cases s <;> rfl
  | succ m ih =>
    intro k hk
    have hlt : k < s.length := by omega
    rw [drop_cons hlt]
    obtain ⟨h1, h2⟩ := rune_at hs hlt
    have c0 : ltI (k : Int) (lenI s) = true := decide_eq_true (by unfold lenI; omega)
    have hb := hs _ (List.getElem_mem hlt)
    have step : l1_lex_all_v2 (s, s, (k : Int), ()) = if s[k] ∈ signsL then some (.inl (s, s, ((k + 1 : Nat) : Int), ())) else some (.inr (false, ())) := by
      unfold l1_lex_all_v2
      simp only [c0, cnd_true, bnd_some_eq]
      by_cases h : s[k] ≤ 126
      · obtain ⟨e1, e2⟩ := h1 (by omega)
        rw [e1, e2]
        have c1 : ltI 126 s[k] = false := decide_eq_false (by omega)
        have c2 : cvI .u8 s[k] = s[k] := by rw [cvI_u8]; omega
        simp only [c1, cnd_false, c2, sign_spec, bnd_some_eq, notB]
        by_cases hm : s[k] ∈ signsL
        · rw [if_pos hm]; simp [hm, cnd_false]
        · rw [if_neg hm]; simp [hm, cnd_true]
      · have hm : s[k] ∉ signsL := fun e => by have := signs_low e; omega
        rw [if_neg hm]
        have c1 : ltI 126 (runeI s (k : Int)) = true := by
          refine decide_eq_true ?_
          by_cases h127 : s[k] ≤ 127
          · rw [(h1 h127).1]; omega
          · exact h2 (by omega)
        simp only [c1, cnd_true, bnd_some_eq]
    by_cases hm : s[k] ∈ signsL
    · rw [if_pos hm] at step
      rw [loopR_inl step, ih (k + 1) (by omega)]
      simp [hm, -List.getElem_cons_drop]
    · rw [if_neg hm] at step
      rw [loopR_inr step]
      simp [hm, -List.getElem_cons_drop]

theorem all_spec {s : List Int} (hs : ∀ b, b ∈ s → 0 ≤ b ∧ b ≤ 255) : f_lex_all_v2 (s, ()) = some (allS s, ()) := by
  rw [u_lex_all_v2]
  have := all_loop hs s.length 0 (by omega)
  rw [List.drop_zero, Bool.and_comm] at this
  exact this

/-- The longest start of signs. -/
def pre5 : List Int → Nat
  | [] => 0
  | b :: r => if b ∈ signsL then pre5 r + 1 else 0
theorem pre5_le : ∀ s, pre5 s ≤ s.length
  | [] => Nat.le_refl _
  | b :: r => by
    unfold pre5
    have := pre5_le r
    split <;> simp <;> omega
theorem pre5_all : ∀ s : List Int, (pre5 s = s.length ↔ s.all (fun b => decide (b ∈ signsL)) = true)
  | [] => by simp [pre5]
  | b :: r => by
    have ih := pre5_all r
    unfold pre5
    by_cases h : b ∈ signsL
    · rw [if_pos h, List.length_cons, List.all_cons]
      simp only [h, decide_true, Bool.true_and, ← ih]
      omega
    · rw [if_neg h]
      simp [h]

theorem while_loop (s : List Int) (hl : s.length ≤ 1000000) : ∀ (m k : Nat), k + m = s.length → loopR l1_ref03_while (s, (k : Int), 5, 5, ()) = some (((k + pre5 (s.drop k) : Nat) : Int), ()) := by
  intro m
  induction m with
  | zero =>
    intro k hk
    refine loopR_inr ?_
    unfold l1_ref03_while
    simp only
    rw [cnd_lt, if_neg (by unfold lenI; omega), List.drop_eq_nil_of_le (by omega)]
    rfl
  | succ m ih =>
    intro k hk
    have hlt : k < s.length := by omega
    rw [drop_cons hlt]
    obtain ⟨r, h1, h2, h3⟩ := is_spec s[k]
    have c0 : ltI (k : Int) (lenI s) = true := decide_eq_true (by unfold lenI; omega)
    have step : l1_ref03_while (s, (k : Int), 5, 5, ()) = if s[k] ∈ signsL then some (.inl (s, ((k + 1 : Nat) : Int), 5, 5, ())) else some (.inr ((k : Int), ())) := by
      unfold l1_ref03_while
      simp only [c0, cnd_true, at?_nat (List.getElem?_eq_getElem hlt), bnd_some_eq, h1, add1 (by omega : k ≤ 1000000000)]
      by_cases hm : s[k] ∈ signsL
      · rw [if_pos hm]
        have : r = 5 := h3.2 hm
        subst this
        rfl
      · rw [if_neg hm]
        have : leI 5 r = false := decide_eq_false (fun e => hm (h3.1 (by omega)))
        simp only [this, cnd_false, bnd_some_eq]
    unfold pre5
    by_cases hm : s[k] ∈ signsL
    · rw [if_pos hm] at step ⊢
      rw [loopR_inl step, ih (k + 1) (by omega)]
      congr 2
      omega
    · rw [if_neg hm] at step ⊢
      rw [loopR_inr step]
      rfl

theorem lex_right (s : List Int) (hs : ∀ b, b ∈ s → 0 ≤ b ∧ b ≤ 255) : f_lex_Right ((5, s, 0, 0), ()) = some (opOk s, ()) := by
  rw [u_lex_Right, all_spec hs, key_spec]
  have c1 : ltI 0 0 = false := rfl
  have c2 : eqI 5 3 = false := rfl
  have c3 : eqI 0 0 = true := rfl
  have c4 : eqI 5 1 = false := rfl
  have c5 : eqI 5 2 = false := rfl
  have c6 : eqI 5 4 = false := rfl
  have c7 : eqI 5 5 = true := rfl
  simp only [c1, c2, c3, c4, c5, c6, c7, cnd_false, cnd_true, bnd_some_eq, notB, Bool.not_true, Bool.not_false]
  unfold opOk
  cases allS s <;> rfl

theorem ref_right (s : List Int) (hl : s.length ≤ 1000000) : f_ref03_Right ((5, s, 0, 0), ()) = some (opOk s, ()) := by
  rw [u_ref03_Right]
  have c1 : ltI 0 0 = false := rfl
  have c2 : eqI 5 3 = false := rfl
  have c3 : eqI 0 0 = true := rfl
  have c4 : eqI 5 1 = false := rfl
  have c5 : eqI 5 2 = false := rfl
  have c6 : eqI 5 4 = false := rfl
  have c7 : eqI 5 5 = true := rfl
  have hw : f_ref03_while (s, 0, 5, 5, ()) = some ((pre5 s : Int), ()) := by
    rw [u_ref03_while]
    have := while_loop s hl s.length 0 (by omega)
    rw [List.drop_zero, Nat.zero_add] at this
    exact this
  have he : eqI (pre5 s : Int) (lenI s) = s.all (fun b => decide (b ∈ signsL)) := by
    rw [Bool.eq_iff_iff, eqI_eq, ← pre5_all]
    unfold lenI
    omega
  have hn : eqS s [] = s.isEmpty := by cases s <;> rfl
  simp only [c1, c2, c3, c4, c5, c6, c7, cnd_false, cnd_true, bnd_some_eq, notB, hw, he, hn, rkey_spec]
  unfold opOk allS
  cases s.isEmpty <;> cases s.all (fun b => decide (b ∈ signsL)) <;> cases decide (s ∈ wordsL) <;> rfl

/-- What a fixity may be. -/
def rightF (x : Fix1) : Bool := opOk x.1 && decide (0 ≤ x.2.1 ∧ x.2.1 ≤ 9) && decide (-1 ≤ x.2.2 ∧ x.2.2 ≤ 1)
theorem chain4 (b : Bool) (n m : Int) : bnd (cnd b (some (leI 0 n)) (some false)) (fun x1 => bnd (cnd x1 (some (leI n 9)) (some false)) (fun x2 => bnd (cnd x2 (some (leI (-1) m)) (some false)) (fun x3 => bnd (cnd x3 (some (leI m 1)) (some false)) (fun x4 => some (x4, ()))))) =
    some (b && decide (0 ≤ n ∧ n ≤ 9) && decide (-1 ≤ m ∧ m ≤ 1), ()) := by
  have e1 : decide (0 ≤ n ∧ n ≤ 9) = (leI 0 n && leI n 9) := by unfold leI; rw [Bool.decide_and]
  have e2 : decide (-1 ≤ m ∧ m ≤ 1) = (leI (-1) m && leI m 1) := by unfold leI; rw [Bool.decide_and]
  rw [e1, e2]
  cases b <;> cases leI 0 n <;> cases leI n 9 <;> cases leI (-1) m <;> cases leI m 1 <;> rfl

theorem right_any (x : Fix1) (hx : gF x) : f_fix_Right (x, ()) = some (rightF x, ()) := by
  obtain ⟨s, n, m⟩ := x
  rw [u_fix_Right, lex_right s hx.1, bnd_some_eq]
  exact chain4 _ n m
theorem right_spec (x : Fix1) (hx : gF x) (_ : x.1.length ≤ 1000000) : f_fix_Right (x, ()) = some (rightF x, ()) := right_any x hx
theorem rright_spec (x : Fix1) (hl : x.1.length ≤ 1000000) : f_ref04_Right (x, ()) = some (rightF x, ()) := by
  obtain ⟨s, n, m⟩ := x
  rw [u_ref04_Right, ref_right s hl, bnd_some_eq]
  exact chain4 _ n m
end Fn
end Ev
namespace Ev
open Go
namespace Fn

/-! An operator's fixity; whether fixities may be, together. -/
def findF (l : List Fix1) (op : List Int) : Option Fix1 := l.find? fun x => decide (x.1 = op)
theorem find1 (x : Fix1) (op : List Int) : f_fix_Find_1 (x, op, ()) = some (eqS x.1 op, ()) := u_fix_Find_1 x.1 x.2.1 x.2.2 op

theorem idx_loop (n : Bool) (l : List Fix1) (op : List Int) (hl : l.length ≤ 1000000) : ∀ (m k : Nat), k + m = l.length →
    ∃ r, loopR l1_slices_IndexFunc_v2 (⟨n, l⟩, op, (l.length : Int), (k : Int), ()) = some (r, ()) ∧ ((r = -1 ∧ findF (l.drop k) op = none) ∨ ∃ j x : _, r = ((j : Nat) : Int) ∧ l[j]? = some x ∧ findF (l.drop k) op = some x) := by
  intro m
  induction m with
  | zero =>
    intro k hk
    refine ⟨-1, loopR_inr ?_, .inl ⟨rfl, by rw [List.drop_eq_nil_of_le (by omega)]; rfl⟩⟩
    unfold l1_slices_IndexFunc_v2
    simp only
    rw [cnd_lt, if_neg (by omega)]
  | succ m ih =>
    intro k hk
    have hlt : k < l.length := by omega
    have hf : findF (l.drop k) op = if l[k].1 = op then some l[k] else findF (l.drop (k + 1)) op := by
      rw [drop_cons hlt]
      unfold findF
      rw [List.find?_cons]
      by_cases h : l[k].1 = op <;> simp [h]
    have step : l1_slices_IndexFunc_v2 (⟨n, l⟩, op, (l.length : Int), (k : Int), ()) = if l[k].1 = op then some (.inr ((k : Int), ())) else some (.inl (⟨n, l⟩, op, (l.length : Int), ((k + 1 : Nat) : Int), ())) := by
      unfold l1_slices_IndexFunc_v2
      simp only
      rw [cnd_lt, if_pos (by omega), at?_nat (List.getElem?_eq_getElem hlt), bnd_some_eq, find1, bnd_some_eq, cnd_eqS, add1 (by omega)]
    by_cases h : l[k].1 = op
    · rw [if_pos h] at step hf
      exact ⟨k, loopR_inr step, .inr ⟨k, l[k], rfl, List.getElem?_eq_getElem hlt, hf⟩⟩
    · rw [if_neg h] at step hf
      obtain ⟨r, h1, h2⟩ := ih (k + 1) (by omega)
      rw [hf]
      exact ⟨r, by rw [loopR_inl step, h1], h2⟩

theorem find_spec (n : Bool) (l : List Fix1) (op : List Int) (hl : l.length ≤ 1000000) : f_fix_Find (⟨n, l⟩, op, ()) = some (match findF l op with | some x => (x, true, ()) | none => (([], 0, 0), false, ())) := by
  obtain ⟨r, h1, h2⟩ := idx_loop n l op hl l.length 0 (by omega)
  rw [List.drop_zero] at h2
  have h1 : loopR l1_slices_IndexFunc_v2 (⟨n, l⟩, op, lenI l, 0, ()) = some (r, ()) := h1
  rw [u_fix_Find, u_slices_IndexFunc_v2, h1, bnd_some_eq, cnd_lt]
  rcases h2 with ⟨rfl, h2⟩ | ⟨j, x, rfl, h3, h4⟩
  · rw [if_pos (by decide), h2]
  · rw [if_neg (by omega), at?_nat h3, bnd_some_eq, h4]

theorem rfind_loop (n : Bool) (l : List Fix1) (op : List Int) (hl : l.length ≤ 1000000) : ∀ (m k : Nat), k + m = l.length →
    loopR l1_ref04_Find (⟨n, l⟩, op, (k : Int), ([] : List Int), 0, 0, ()) = some (match findF (l.drop k) op with | some x => (x, true, ()) | none => (([], 0, 0), false, ())) := by
  intro m
  induction m with
  | zero =>
    intro k hk
    refine loopR_inr ?_
    unfold l1_ref04_Find
    simp only
    rw [cnd_lt, if_neg (by unfold lenI; omega), List.drop_eq_nil_of_le (by omega)]
    rfl
  | succ m ih =>
    intro k hk
    have hlt : k < l.length := by omega
    have hf : findF (l.drop k) op = if l[k].1 = op then some l[k] else findF (l.drop (k + 1)) op := by
      rw [drop_cons hlt]
      unfold findF
      rw [List.find?_cons]
      by_cases h : l[k].1 = op <;> simp [h]
    have step : l1_ref04_Find (⟨n, l⟩, op, (k : Int), ([] : List Int), 0, 0, ()) = if l[k].1 = op then some (.inr (l[k], true, ())) else some (.inl (⟨n, l⟩, op, ((k + 1 : Nat) : Int), ([] : List Int), 0, 0, ())) := by
      unfold l1_ref04_Find
      simp only
      rw [cnd_lt, if_pos (by unfold lenI; omega), at?_nat (List.getElem?_eq_getElem hlt), bnd_some_eq, cnd_eqS, bnd_some_eq, add1 (by omega)]
    by_cases h : l[k].1 = op
    · rw [if_pos h] at step hf
      rw [loopR_inr step, hf]
    · rw [if_neg h] at step hf
      rw [loopR_inl step, ih (k + 1) (by omega), hf]

theorem rfind_spec (n : Bool) (l : List Fix1) (op : List Int) (hl : l.length ≤ 1000000) : f_ref04_Find (⟨n, l⟩, op, ()) = some (match findF l op with | some x => (x, true, ()) | none => (([], 0, 0), false, ())) := by
  rw [u_ref04_Find]
  exact rfind_loop n l op hl l.length 0 (by omega)

/-- Fixities whose texts aren't too long. -/
def gL (l : List Fix1) : Prop := (∀ x, x ∈ l → gF x) ∧ (∀ x, x ∈ l → x.1.length ≤ 1000000) ∧ l.length ≤ 1000000

theorem gL.take {l : List Fix1} (h : gL l) (k : Nat) : gL (l.take k) :=
  ⟨fun x hx => h.1 x (List.mem_of_mem_take hx), fun x hx => h.2.1 x (List.mem_of_mem_take hx), by rw [List.length_take]; have := h.2.2; omega⟩

theorem cont_loop (n : Bool) {l : List Fix1} (h : gL l) : ∀ (m k : Nat), k + m = l.length →
    ∃ r, loopR l1_slices_IndexFunc (⟨n, l⟩, (l.length : Int), (k : Int), ()) = some (r, ()) ∧ (0 ≤ r ↔ (l.drop k).any (fun x => !rightF x) = true) := by
  intro m
  have hl := h.2.2
  induction m with
  | zero =>
    intro k hk
    refine ⟨-1, loopR_inr ?_, by rw [List.drop_eq_nil_of_le (by omega)]; simp⟩
    unfold l1_slices_IndexFunc
    simp only
    rw [cnd_lt, if_neg (by omega)]
  | succ m ih =>
    intro k hk
    have hlt : k < l.length := by omega
    rw [drop_cons hlt]
    have hr := right_spec l[k] (h.1 _ (List.getElem_mem hlt)) (h.2.1 _ (List.getElem_mem hlt))
    have hc : f_fix_Check_1 (l[k], ()) = some (!rightF l[k], ()) := by
      have := u_fix_Check_1 l[k].1 l[k].2.1 l[k].2.2
      have hr : f_fix_Right ((l[k].1, l[k].2.1, l[k].2.2), ()) = some (rightF l[k], ()) := hr
      rw [hr, bnd_some_eq] at this
      exact this
    have step : l1_slices_IndexFunc (⟨n, l⟩, (l.length : Int), (k : Int), ()) = if rightF l[k] = false then some (.inr ((k : Int), ())) else some (.inl (⟨n, l⟩, (l.length : Int), ((k + 1 : Nat) : Int), ())) := by
      unfold l1_slices_IndexFunc
      simp only
      rw [cnd_lt, if_pos (by omega), at?_nat (List.getElem?_eq_getElem hlt), bnd_some_eq, hc, bnd_some_eq, add1 (by omega)]
      cases rightF l[k] <;> rfl
    cases hb : rightF l[k] with
    | false =>
      rw [if_pos hb] at step
      exact ⟨k, loopR_inr step, by simp [hb, -List.getElem_cons_drop]⟩
    | true =>
      rw [if_neg (by rw [hb]; decide)] at step
      obtain ⟨r, h1, h2⟩ := ih (k + 1) (by omega)
      exact ⟨r, by rw [loopR_inl step, h1], by rw [h2]; simp [hb, -List.getElem_cons_drop]⟩

/-- Does one's operator stand ahead of it? -/
def dupAt (l : List Fix1) (k : Nat) : Bool := match l[k]? with
  | some x => (findF (l.take k) x.1).isSome
  | none => false
def dupR (l : List Fix1) : Nat → Nat → Bool
  | 0, _ => false
  | m + 1, k => dupAt l k || dupR l m (k + 1)
def checkF (l : List Fix1) : Int := if 400 < l.length ∨ l.any (fun x => !rightF x) = true then 40 else if dupR l l.length 0 = true then 41 else 0

theorem right_ne {x : Fix1} (h : rightF x = true) : x.1 ≠ [] := by
  intro e
  unfold rightF opOk allS at h
  rw [e] at h
  simp at h
theorem findF_mem {l : List Fix1} {op : List Int} {x : Fix1} (h : findF l op = some x) : x ∈ l ∧ x.1 = op := ⟨List.mem_of_find?_eq_some h, by have := List.find?_some h; simpa using this⟩

theorem check_loop (n1 n2 : Bool) {l : List Fix1} (h : gL l) (hr : ∀ x, x ∈ l → rightF x = true) : ∀ (m k : Nat), k + m = l.length →
    loopR l1_fix_Check (⟨n1, l⟩, ⟨n2, l⟩, (l.length : Int), (k : Int), ()) = some (if dupR l m k = true then 41 else 0, ()) := by
  intro m
  have hl := h.2.2
  induction m with
  | zero =>
    intro k hk
    refine loopR_inr ?_
    unfold l1_fix_Check
    simp only
    rw [cnd_lt, if_neg (by omega)]
    rfl
  | succ m ih =>
    intro k hk
    have hlt : k < l.length := by omega
    have hg := List.getElem?_eq_getElem hlt
    have hd : dupAt l k = (findF (l.take k) l[k].1).isSome := by unfold dupAt; rw [hg]
    have hf := find_spec n1 (l.take k) l[k].1 (h.take k).2.2
    have step : l1_fix_Check (⟨n1, l⟩, ⟨n2, l⟩, (l.length : Int), (k : Int), ()) = if dupAt l k = true then some (.inr (41, ())) else some (.inl (⟨n1, l⟩, ⟨n2, l⟩, (l.length : Int), ((k + 1 : Nat) : Int), ())) := by
      unfold l1_fix_Check
      simp only
      rw [cnd_lt, if_pos (by omega), at?_nat hg, bnd_some_eq, cut_pre (by omega), bnd_some_eq, hf, bnd_some_eq, add1 (by omega), hd]
      cases hff : findF (l.take k) l[k].1 with
      | none => rfl
      | some x =>
        have hx := right_ne (hr x (List.mem_of_mem_take (findF_mem hff).1))
        have : eqS x.1 [] = false := beq_eq_false_iff_ne.2 hx
        simp only [this]
        rfl
    unfold dupR
    cases hb : dupAt l k with
    | true => rw [hb, if_pos rfl] at step; rw [loopR_inr step]; rfl
    | false => rw [hb, if_neg Bool.false_ne_true] at step; rw [loopR_inl step, ih (k + 1) (by omega), Bool.false_or]

theorem check_spec (n : Bool) {l : List Fix1} (h : gL l) : f_fix_Check (⟨n, l⟩, ()) = some (checkF l, ()) := by
  have hl := h.2.2
  obtain ⟨r, h1, h2⟩ := cont_loop n h l.length 0 (by omega)
  rw [List.drop_zero] at h2
  have h1 : loopR l1_slices_IndexFunc (⟨n, l⟩, lenI l, 0, ()) = some (r, ()) := h1
  rw [u_fix_Check, u_slices_ContainsFunc, u_slices_IndexFunc, h1, bnd_some_eq, bnd_some_eq]
  have hc : leI 0 r = l.any (fun x => !rightF x) := by rw [Bool.eq_iff_iff, ← h2]; exact decide_eq_true_iff
  rw [hc, cnd_lt]
  unfold checkF
  by_cases h4 : 400 < l.length
  · rw [if_pos (by show (400 : Int) < (l.length : Int); omega), bnd_some_eq, if_pos (.inl h4)]
    rfl
  · rw [if_neg (by show ¬ (400 : Int) < (l.length : Int); omega), bnd_some_eq]
    cases ha : l.any (fun x => !rightF x) with
    | true => rw [if_pos (.inr rfl)]; rfl
    | false =>
      rw [cnd_false, if_neg (by simp [h4])]
      have hr : ∀ x, x ∈ l → rightF x = true := fun x hx => by
        have := List.any_eq_false.1 ha x hx
        simpa using this
      exact check_loop n n h hr l.length 0 (by omega)

theorem rcheck1_loop (n : Bool) {l : List Fix1} (hl : l.length ≤ 1000000) (i : Nat) (hi : i < l.length) : ∀ (m k : Nat) (tw : Bool), k + m = i →
    loopR l1_ref04_Check (⟨n, l⟩, tw, (i : Int), (k : Int), ()) = some (.inl (⟨n, l⟩, tw || ((l.take i).drop k).any (fun x => decide (x.1 = l[i].1)), ((i + 1 : Nat) : Int), ())) := by
  intro m
  induction m with
  | zero =>
    intro k tw hk
    refine loopR_inr ?_
    unfold l1_ref04_Check
    simp only
    rw [cnd_lt, if_neg (by omega), add1 (by omega), List.drop_eq_nil_of_le (by rw [List.length_take]; omega)]
    simp
  | succ m ih =>
    intro k tw hk
    have hlt : k < (l.take i).length := by rw [List.length_take]; omega
    have hlt2 : k < l.length := by omega
    have step : l1_ref04_Check (⟨n, l⟩, tw, (i : Int), (k : Int), ()) = some (.inl (⟨n, l⟩, tw || decide (l[k].1 = l[i].1), (i : Int), ((k + 1 : Nat) : Int), ())) := by
      unfold l1_ref04_Check
      simp only
      rw [cnd_lt, if_pos (by omega), add1 (by omega)]
      cases tw with
      | true => rw [cnd_true]; rfl
      | false =>
        rw [cnd_false, at?_nat (List.getElem?_eq_getElem hlt2), bnd_some_eq, at?_nat (List.getElem?_eq_getElem hi), bnd_some_eq]
        have : eqS l[k].1 l[i].1 = decide (l[k].1 = l[i].1) := by unfold eqS; rw [Bool.eq_iff_iff]; simp
        rw [this, Bool.false_or]
    rw [loopR_inl step, ih (k + 1) _ (by omega), drop_cons hlt, List.any_cons, List.getElem_take, Bool.or_assoc]

theorem any_find (l : List Fix1) (op : List Int) : l.any (fun x => decide (x.1 = op)) = (findF l op).isSome := by
  unfold findF
  rw [Bool.eq_iff_iff, List.any_eq_true, List.find?_isSome]

theorem rcheck_loop (n : Bool) {l : List Fix1} (h : gL l) : ∀ (m k : Nat) (tw : Bool), k + m = l.length →
    loopR l2_ref04_Check (⟨n, l⟩, tw, (k : Int), ()) = some (if (l.drop k).any (fun x => !rightF x) = true then 40 else if (tw || dupR l m k) = true then 41 else 0, ()) := by
  intro m
  have hl := h.2.2
  induction m with
  | zero =>
    intro k tw hk
    refine loopR_inr ?_
    unfold l2_ref04_Check
    simp only
    rw [cnd_lt, if_neg (by unfold lenI; omega), List.drop_eq_nil_of_le (by omega)]
    cases tw <;> rfl
  | succ m ih =>
    intro k tw hk
    have hlt : k < l.length := by omega
    have hg := List.getElem?_eq_getElem hlt
    have hr := rright_spec l[k] (h.2.1 _ (List.getElem_mem hlt))
    have hd : dupAt l k = (l.take k).any (fun x => decide (x.1 = l[k].1)) := by unfold dupAt; rw [hg, any_find]
    have hin := rcheck1_loop n hl k hlt k 0 tw (by omega)
    rw [List.drop_zero, ← hd] at hin
    have hin : loopR l1_ref04_Check (⟨n, l⟩, tw, (k : Int), 0, ()) = _ := hin
    have step : l2_ref04_Check (⟨n, l⟩, tw, (k : Int), ()) = if rightF l[k] = false then some (.inr (40, ())) else some (.inl (⟨n, l⟩, tw || dupAt l k, ((k + 1 : Nat) : Int), ())) := by
      unfold l2_ref04_Check
      simp only
      rw [cnd_lt, if_pos (by unfold lenI; omega), at?_nat hg, bnd_some_eq, hr, bnd_some_eq, cnd_not]
      cases rightF l[k] with
      | false => rfl
      | true =>
        rw [cnd_true, hin]
        rfl
    rw [drop_cons hlt, List.any_cons]
    cases hb : rightF l[k] with
    | false =>
      rw [if_pos hb] at step
      rw [loopR_inr step]
      rfl
    | true =>
      rw [if_neg (by rw [hb]; decide)] at step
      rw [loopR_inl step, ih (k + 1) _ (by omega)]
      show _ = some (if ((false || (l.drop (k + 1)).any fun x => !rightF x)) = true then 40 else if (tw || (dupAt l k || dupR l m (k + 1))) = true then 41 else 0, ())
      rw [Bool.false_or, Bool.or_assoc]

theorem rcheck_spec (n : Bool) {l : List Fix1} (h : gL l) : f_ref04_Check (⟨n, l⟩, ()) = some (checkF l, ()) := by
  rw [u_ref04_Check, cnd_lt]
  unfold checkF
  by_cases h4 : 400 < l.length
  · rw [if_pos (by show (400 : Int) < (l.length : Int); omega), if_pos (.inl h4)]
  · rw [if_neg (by show ¬ (400 : Int) < (l.length : Int); omega)]
    have := rcheck_loop n h l.length 0 false (by omega)
    rw [List.drop_zero, Bool.false_or] at this
    refine this.trans ?_
    cases ha : l.any (fun x => !rightF x) with
    | true => rw [if_pos rfl, if_pos (.inr rfl)]
    | false => simp only [Bool.false_eq_true, or_false, h4, if_false]

theorem dupAt_eq {l : List Fix1} {j : Nat} (hj : j < l.length) : dupAt l j = (l.take j).any (fun x => decide (x.1 = l[j].1)) := by
  unfold dupAt
  rw [List.getElem?_eq_getElem hj, any_find]

/-- What may be, together. -/
theorem check_ok {l : List Fix1} (h : checkF l = 0) : l.length ≤ 400 ∧ (∀ x, x ∈ l → rightF x = true) ∧ dupR l l.length 0 = false := by
  unfold checkF at h
  split at h
  · cases h
  · rename_i h1
    split at h
    · cases h
    · rename_i h2
      refine ⟨by have : ¬ 400 < l.length := fun e => h1 (.inl e); omega, fun x hx => ?_, by simpa using h2⟩
      have : ¬ l.any (fun x => !rightF x) = true := fun e => h1 (.inr e)
      have := List.any_eq_false.1 (Bool.eq_false_iff.2 this) x hx
      simpa using this

theorem dupR_spec (l : List Fix1) : ∀ (m k : Nat), dupR l m k = false ↔ ∀ j, k ≤ j → j < k + m → dupAt l j = false
  | 0, k => by simp [dupR]; intro j h1 h2; omega
  | m + 1, k => by
    unfold dupR
    rw [Bool.or_eq_false_iff, dupR_spec l m (k + 1)]
    constructor
    · rintro ⟨h1, h2⟩ j h3 h4
      by_cases e : j = k
      · subst e; exact h1
      · exact h2 j (by omega) (by omega)
    · intro h
      exact ⟨h k (Nat.le_refl _) (by omega), fun j h1 h2 => h j (by omega) (by omega)⟩

/-- No operator twice. -/
theorem dup_pair {l : List Fix1} : dupR l l.length 0 = false ↔ l.Pairwise fun x y => x.1 ≠ y.1 := by
  rw [dupR_spec, List.pairwise_iff_getElem]
  constructor
  · intro h i j hi hj hij e
    have := h j (by omega) (by omega)
    rw [dupAt_eq hj, List.any_eq_false] at this
    have hm : l[i] ∈ l.take j := by
      rw [List.mem_take_iff_getElem]
      exact ⟨i, by omega, rfl⟩
    have := this _ hm
    simp [e] at this
  · intro h j _ hj
    have hj : j < l.length := by omega
    rw [dupAt_eq hj, List.any_eq_false]
    intro x hx
    obtain ⟨i, hi, rfl⟩ := List.mem_take_iff_getElem.1 hx
    have := h i j (by omega) hj (by omega)
    simpa using this

theorem check_of {l : List Fix1} (h1 : l.length ≤ 400) (h2 : ∀ x, x ∈ l → rightF x = true) (h3 : l.Pairwise fun x y => x.1 ≠ y.1) : checkF l = 0 := by
  unfold checkF
  rw [if_neg, if_neg (by rw [dup_pair.2 h3]; decide)]
  rintro (h | h)
  · omega
  · obtain ⟨x, hx, hr⟩ := List.any_eq_true.1 h
    rw [h2 x hx] at hr
    cases hr
end Fn
end Ev
