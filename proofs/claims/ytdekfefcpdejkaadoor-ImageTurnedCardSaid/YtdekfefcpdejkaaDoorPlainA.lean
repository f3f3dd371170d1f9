/- Layer 15 in plain words, first part. No statement of its own about the program. -/
import Derived.Test.YtdekfefcpdejkaaDoorFn
namespace Ev
open Go
namespace Fn

/-! Layer 15: what the functions are. -/
def numsL : List Int := [0, 1, 1, 1, 0, 1, 1, 0, 0, 0, 2, 1, 1, 0, 0, 0, 0, 0, 1, 1, 1]
def knownB (o : Int) : Bool := decide (0 ≤ o ∧ o < 21)
def goesB (o : Int) : Bool := decide (15 ≤ o ∧ o < 21)
def numI (o : Int) : Int := if 0 ≤ o ∧ o < 21 then numsL.getD o.toNat 0 else 0

theorem in21 {o : Int} (h : 0 ≤ o ∧ o < 21) : o = 0 ∨ o = 1 ∨ o = 2 ∨ o = 3 ∨ o = 4 ∨ o = 5 ∨ o = 6 ∨ o = 7 ∨ o = 8 ∨ o = 9 ∨ o = 10 ∨ o = 11 ∨ o = 12 ∨ o = 13 ∨ o = 14 ∨ o = 15 ∨ o = 16 ∨ o = 17 ∨ o = 18 ∨ o = 19 ∨ o = 20 := by omega

theorem known_spec (o : Int) : f_op_known (o, ()) = some (knownB o, ()) := by
  rw [u_op_known, cnd_le]
  unfold knownB ltI
  by_cases h : 0 ≤ o <;> by_cases h2 : o < 21 <;> simp [h, h2, bnd]

theorem goes_spec (o : Int) : f_op_Goes (o, ()) = some (goesB o, ()) := by
  rw [u_op_Goes, known_spec]
  unfold knownB goesB leI
  simp only [bnd_some_eq, cnd_dec]
  by_cases h : 0 ≤ o ∧ o < 21
  · rw [if_pos h]
    simp only [bnd_some_eq]
    congr 2
    exact decide_eq_decide.2 (by omega)
  · rw [if_neg h]
    simp only [bnd_some_eq]
    congr 2
    exact (decide_eq_false (by omega)).symm

theorem rgoes_spec (o : Int) : f_ref15_Goes (o, ()) = some (goesB o, ()) := by
  rw [u_ref15_Goes, cnd_le]
  unfold goesB leI
  by_cases h : 15 ≤ o <;> by_cases h2 : o ≤ 20 <;> simp [h, h2, bnd] <;> omega

theorem nums_spec (o : Int) : f_op_Numbers (o, ()) = some (numI o, ()) := by
  rw [u_op_Numbers, known_spec]
  unfold knownB
  simp only [bnd_some_eq, cnd_not, cnd_dec]
  by_cases h : 0 ≤ o ∧ o < 21
  · rcases in21 h with rfl | rfl | rfl | rfl | rfl | rfl | rfl | rfl | rfl | rfl | rfl | rfl | rfl | rfl | rfl | rfl | rfl | rfl | rfl | rfl | rfl <;> rfl
  · rw [if_neg h]
    unfold numI
    rw [if_neg h]

theorem rnums_spec (o : Int) : f_ref15_Numbers (o, ()) = some (numI o, ()) := by
  rw [u_ref15_Numbers]
  by_cases h : 0 ≤ o ∧ o < 21
  · rcases in21 h with rfl | rfl | rfl | rfl | rfl | rfl | rfl | rfl | rfl | rfl | rfl | rfl | rfl | rfl | rfl | rfl | rfl | rfl | rfl | rfl | rfl <;> rfl
  · have hn : ∀ k : Int, 0 ≤ k → k < 21 → eqI o k = false := fun k h1 h2 => eqI_ne (by omega)
    rw [hn 1 (by omega) (by omega), hn 2 (by omega) (by omega), hn 3 (by omega) (by omega), hn 5 (by omega) (by omega), hn 6 (by omega) (by omega), hn 11 (by omega) (by omega), hn 12 (by omega) (by omega), hn 18 (by omega) (by omega),
      hn 19 (by omega) (by omega), hn 20 (by omega) (by omega)]
    simp only [cnd_false, bnd_some_eq]
    rw [hn 10 (by omega) (by omega)]
    unfold numI
    rw [if_neg h]
    rfl

theorem within_spec (n : Int) : f_op_within (n, ()) = some (decide (0 ≤ n ∧ n ≤ 1048576), ()) := by
  rw [u_op_within, cnd_le]
  unfold leI
  by_cases h : 0 ≤ n <;> by_cases h2 : n ≤ 1048576 <;> simp [h, h2, bnd]

def checkB (o a b : Int) : Bool :=
  decide (0 ≤ o ∧ o < 21) && decide (0 ≤ a ∧ a ≤ 1048576) && decide (0 ≤ b ∧ b ≤ 1048576) && (decide (0 < numI o) || goesB o || decide (a = 0)) && (decide (numI o = 2) || (decide (numI o = 1) && goesB o) || decide (b = 0))

theorem check_spec (o a b : Int) : f_op_Check ((o, a, b), ()) = some ((if checkB o a b = true then 0 else 150), ()) := by
  rw [u_op_Check]
  simp only [known_spec, nums_spec, goes_spec, within_spec, bnd_some_eq]
  unfold checkB knownB
  have e : ∀ x y : Int, eqI x y = decide (x = y) := fun x y => by by_cases h : x = y <;> simp [eqI, h]
  have l : ∀ x y : Int, ltI x y = decide (x < y) := fun x y => rfl
  simp only [e, l]
  generalize decide (0 ≤ o ∧ o < 21) = k
  generalize decide (0 ≤ a ∧ a ≤ 1048576) = wa
  generalize decide (0 ≤ b ∧ b ≤ 1048576) = wb
  generalize decide (0 < numI o) = p0
  generalize decide (numI o = 2) = p2
  generalize decide (numI o = 1) = p1
  generalize goesB o = g
  generalize decide (a = 0) = a0
  generalize decide (b = 0) = b0
  cases k <;> cases wa <;> cases wb <;> cases p0 <;> cases p2 <;> cases p1 <;> cases g <;> cases a0 <;> cases b0 <;> rfl

theorem rcheck_spec (o a b : Int) : f_ref15_Check ((o, a, b), ()) = some (checkB o a b, ()) := by
  rw [u_ref15_Check]
  simp only [rgoes_spec, rnums_spec, bnd_some_eq]
  unfold checkB
  have e : ∀ x y : Int, eqI x y = decide (x = y) := fun x y => by by_cases h : x = y <;> simp [eqI, h]
  have l : ∀ x y : Int, ltI x y = decide (x < y) := fun x y => rfl
  have r : ∀ x m : Int, decide (0 ≤ x ∧ x ≤ m) = (!decide (x < 0) && !decide (m < x)) := fun x m => by
    by_cases h : x < 0 <;> by_cases h2 : m < x <;> simp [h, h2] <;> omega
  have r2 : decide (0 ≤ o ∧ o < 21) = (!decide (o < 0) && !decide (20 < o)) := by
    by_cases h : o < 0 <;> by_cases h2 : 20 < o <;> simp [h, h2] <;> omega
  simp only [e, l, r, r2]
  have hg : goesB o = true → decide (0 < numI o) = decide (numI o = 1) ∧ decide (numI o = 2) = false := by
    intro h
    unfold goesB at h
    have h := of_decide_eq_true h
    have : o = 15 ∨ o = 16 ∨ o = 17 ∨ o = 18 ∨ o = 19 ∨ o = 20 := by omega
    rcases this with rfl | rfl | rfl | rfl | rfl | rfl <;> exact ⟨rfl, rfl⟩
  generalize decide (o < 0) = k1
  generalize decide (20 < o) = k2
  generalize decide (a < 0) = wa1
  generalize decide (1048576 < a) = wa2
  generalize decide (b < 0) = wb1
  generalize decide (1048576 < b) = wb2
  generalize decide (a = 0) = a0
  generalize decide (b = 0) = b0
  revert hg
  generalize decide (0 < numI o) = p0
  generalize decide (numI o = 2) = p2
  generalize decide (numI o = 1) = p1
  generalize goesB o = g
  intro hg
  cases k1 <;> cases k2 <;> cases wa1 <;> cases wa2 <;> cases wb1 <;> cases wb2 <;> first | rfl | skip
  cases g
  · cases p0 <;> cases p2 <;> cases a0 <;> cases b0 <;> first | rfl | (cases p1 <;> rfl)
  · obtain ⟨h1, h2⟩ := hg rfl
    subst h1 h2
    cases p0 <;> cases a0 <;> cases b0 <;> rfl
end Fn
end Ev
namespace Ev
open Go
namespace Fn

/-- A number's bytes. -/
def nb (n : Int) : List Int := if n < 128 then [n] else if n < 16384 then [n % 128 + 128, n / 128] else [n % 128 + 128, n / 128 % 128 + 128, n / 16384]

theorem or128 {n : Int} : orI .u8 (cvI .u8 n) 128 = n % 128 + 128 := by
  rw [cvI_u8]
  have h : ∀ c : Fin 256, orI .u8 ((c.val : Nat) : Int) 128 = ((c.val % 128 + 128 : Nat) : Int) := by decide +kernel
  have h1 : 0 ≤ n % 256 := Int.emod_nonneg _ (by omega)
  have h2 : n % 256 < 256 := Int.emod_lt_of_pos _ (by omega)
  have := h ⟨(n % 256).toNat, by omega⟩
  simp only at this
  rw [show (((n % 256).toNat : Nat) : Int) = n % 256 by omega] at this
  rw [this]
  omega

theorem number_step1 {n : Int} {s : Sl Int} (h : 128 ≤ n) (hl : s.l.length ≤ 1000000) : l1_op_number (n, s, ()) = some (.inl (n / 128, ⟨false, s.l ++ [n % 128 + 128]⟩, ())) := by
  unfold l1_op_number
  simp only [or128]
  rw [cnd_le, if_pos h]
  have : fit (sumI (lenI s.l) (lenI ([n % 128 + 128] : List Int))) = some () := fit_ok (by simp only [sumI, lenI, List.length_singleton]; omega)
  rw [this, bnd_some_eq, show shrI .i64 n 7 = some (n / 128) from shrI_i64 7 (by omega), bnd_some_eq]
  simp [andB, isE, app]

theorem number_step2 {n : Int} {s : Sl Int} (h0 : 0 ≤ n) (h : n < 128) (hl : s.l.length ≤ 1000000) : l1_op_number (n, s, ()) = some (.inr (⟨false, s.l ++ [n]⟩, ())) := by
  unfold l1_op_number
  simp only
  rw [cnd_le, if_neg (by omega)]
  have e : cvI .u8 n = n := by rw [cvI_u8]; omega
  rw [e]
  have : fit (sumI (lenI s.l) (lenI ([n] : List Int))) = some () := fit_ok (by simp only [sumI, lenI, List.length_singleton]; omega)
  rw [this, bnd_some_eq]
  simp [andB, isE, app]

theorem number_spec {n : Int} {s : Sl Int} (h0 : 0 ≤ n) (h : n ≤ 1048576) (hl : s.l.length ≤ 100000) : f_op_number (n, s, ()) = some (⟨false, s.l ++ nb n⟩, ()) := by
  rw [u_op_number]
  unfold nb
  split
  · rw [loopR_inr (number_step2 h0 (by assumption) (by omega))]
  · rw [loopR_inl (number_step1 (by omega) (by omega))]
    split
    · rw [loopR_inr (number_step2 (by omega) (by omega) (by simp; omega))]
      simp
    · rw [loopR_inl (number_step1 (by omega) (by simp; omega)), loopR_inr (number_step2 (by omega) (by omega) (by simp; omega))]
      have : n / 128 / 128 = n / 16384 := by omega
      simp [this]

theorem nb_len (n : Int) : (nb n).length ≤ 3 := by unfold nb; split <;> (try split) <;> simp

theorem rnumber_N (n : Int) (k : Nat) (hk : 3 ≤ k) (h0 : 0 ≤ n) (h : n ≤ 1048576) : recN g_ref15_number k (n, ()) = some (nb n, ()) := by
  have s1 : ∀ (m : Nat) (n : Int), 0 ≤ n → n < 128 → recN g_ref15_number (m + 1) (n, ()) = some ([n], ()) := by
    intro m n h0 h
    show g_ref15_number (recN g_ref15_number m) (n, ()) = _
    rw [u_ref15_number, cnd_lt, if_pos h, cvI_u8, show n % 256 = n by omega]
  have s2 : ∀ (m : Nat) (n : Int) (l : List Int), 128 ≤ n → n ≤ 1048576 → l.length ≤ 1000 → recN g_ref15_number m (n / 128, ()) = some (l, ()) → recN g_ref15_number (m + 1) (n, ()) = some ((n % 128 + 128) :: l, ()) := by
    intro m n l h0 h hl hr
    show g_ref15_number (recN g_ref15_number m) (n, ()) = _
    rw [u_ref15_number, cnd_lt, if_neg (by omega), remI_pos (by omega) (by omega), bnd_some_eq, quoI_pos (by omega) (by omega) (inK_i64.2 (by omega)) (by decide), bnd_some_eq, hr, bnd_some_eq]
    have e : cvI .u8 (addI .i64 (n % 128) 128) = n % 128 + 128 := by
      rw [addI_i64 (by omega) (by omega), cvI_u8]; omega
    rw [e, fit_ok (by simp only [sumI, lenI, List.length_singleton]; omega), bnd_some_eq]
    rfl
  obtain ⟨m, rfl⟩ : ∃ m, k = m + 3 := ⟨k - 3, by omega⟩
  unfold nb
  split
  · exact s1 _ n h0 (by assumption)
  · split
    · exact s2 _ n _ (by omega) h (by simp) (s1 _ _ (by omega) (by omega))
    · refine s2 _ n _ (by omega) h (by simp) ?_
      have := s2 (m + 1) (n / 128) [n / 128 / 128] (by omega) (by omega) (by simp) (s1 _ _ (by omega) (by omega))
      rw [this, show n / 128 / 128 = n / 16384 by omega]

theorem rnumber_spec {n : Int} (h0 : 0 ≤ n) (h : n ≤ 1048576) : f_ref15_number (n, ()) = some (nb n, ()) :=
  recR_eq 3 fun k hk => rnumber_N n k hk h0 h

/-- What numbers an instruction tells. -/
def toldL (o a b : Int) : List Int := if goesB o = true then [b].take (numI o).toNat else [a, b].take (numI o).toNat

theorem numI_lt (o : Int) : 0 ≤ numI o ∧ numI o ≤ 2 := by
  unfold numI
  split
  · rename_i h
    rcases in21 h with rfl | rfl | rfl | rfl | rfl | rfl | rfl | rfl | rfl | rfl | rfl | rfl | rfl | rfl | rfl | rfl | rfl | rfl | rfl | rfl | rfl <;> decide
  · omega

theorem goes_num {o : Int} (h : goesB o = true) : numI o ≤ 1 := by
  unfold goesB at h
  have h := of_decide_eq_true h
  have : o = 15 ∨ o = 16 ∨ o = 17 ∨ o = 18 ∨ o = 19 ∨ o = 20 := by omega
  rcases this with rfl | rfl | rfl | rfl | rfl | rfl <;> decide

theorem told_spec (o a b : Int) : f_op_told ((o, a, b), ()) = some (⟨false, toldL o a b⟩, ()) := by
  rw [u_op_told, goes_spec, bnd_some_eq, nums_spec]
  unfold toldL
  have h1 := numI_lt o
  have cut : ∀ (l : List Int), numI o ≤ l.length → cutN (lenI l) (numI o) = some (numI o).toNat := fun l hl => by
    unfold cutN lenI; rw [if_pos ⟨h1.1, hl⟩]
  cases hg : goesB o with
  | true =>
    rw [cnd_true, bnd_some_eq, cut _ (by have := goes_num hg; simpa using this), bnd_some_eq]
    simp [takeL]
  | false =>
    rw [cnd_false, bnd_some_eq, cut _ (by simpa using h1.2), bnd_some_eq]
    simp [takeL]

theorem told_len (o a b : Int) : (toldL o a b).length ≤ 2 := by
  unfold toldL
  split
  · exact Nat.le_trans (List.length_take_le _ _) (by
      have h1 := numI_lt o
      omega)
  · exact Nat.le_trans (List.length_take_le _ _) (by
      have h1 := numI_lt o
      omega)

theorem told_mem {o a b n : Int} (h : n ∈ toldL o a b) : n = a ∨ n = b := by
  unfold toldL at h
  split at h
  · have := List.mem_of_mem_take h
    simp at this; exact .inr this
  · have := List.mem_of_mem_take h
    simpa using this

/-- An instruction's bytes, but where it goes. -/
def headB (o a b : Int) (long : Bool) : List Int := (if long = true then o + 128 else o) :: (toldL o a b).flatMap nb

theorem head_loop (L : Sl Int) : ∀ (k i : Nat) (s : Sl Int), i + k = L.l.length → L.l.length ≤ 1000 → (∀ n, n ∈ L.l → 0 ≤ n ∧ n ≤ 1048576) → s.l.length + 3 * k ≤ 1000 → (k = 0 → s.nil = false) →
    loopR l1_op_head (L, lenI L.l, (i : Int), s, ()) = some (⟨false, s.l ++ (L.l.drop i).flatMap nb⟩, ()) := by
  intro k
  induction k with
  | zero =>
    intro i s hk _ _ _ hn
    refine loopR_inr ?_
    unfold l1_op_head
    simp only
    rw [cnd_lt, if_neg (by unfold lenI; omega), List.drop_of_length_le (by omega)]
    obtain ⟨n, l⟩ := s
    have : n = false := hn rfl
    subst this
    simp
  | succ k ih =>
    intro i s hk hL hb hl _
    have hi : i < L.l.length := by omega
    have hm := hb _ (List.getElem_mem hi)
    have : l1_op_head (L, lenI L.l, (i : Int), s, ()) = some (.inl (L, lenI L.l, ((i + 1 : Nat) : Int), ⟨false, s.l ++ nb L.l[i]⟩, ())) := by
      unfold l1_op_head
      simp only
      rw [cnd_lt, if_pos (by unfold lenI; omega), at?_nat (List.getElem?_eq_getElem hi), bnd_some_eq, number_spec hm.1 hm.2 (by omega), bnd_some_eq, addI_i64 (by omega) (by omega)]
      simp
    rw [loopR_inl this, ih (i + 1) _ (by omega) hL hb (by have := nb_len L.l[i]; simp; omega) (fun _ => rfl), List.drop_eq_getElem_cons hi]
    simp only [List.flatMap_cons, List.append_assoc]

theorem goes_in {o : Int} (h : goesB o = true) : 15 ≤ o ∧ o < 21 := by
  unfold goesB at h; exact of_decide_eq_true h
theorem known_in {o : Int} (h : knownB o = true) : 0 ≤ o ∧ o < 21 := by
  unfold knownB at h; exact of_decide_eq_true h

theorem head_spec {o a b : Int} {long : Bool} (hk : 0 ≤ o ∧ o < 21) (ha : 0 ≤ a ∧ a ≤ 1048576) (hb : 0 ≤ b ∧ b ≤ 1048576) : f_op_head ((o, a, b), long, ()) = some (⟨false, headB o a b long⟩, ()) := by
  rw [u_op_head]
  have e : cvI .u8 o = o := by rw [cvI_u8]; omega
  rw [e]
  have hh : (cnd long (bnd (okAt ([o] : List Int) 0) (fun x0 => bnd (nth ([o] : List Int) x0) (fun x1 => bnd (okAt ([o] : List Int) 0) (fun x2 => bnd (bnd (nth ([o] : List Int) x2) (fun _ => some (addI IntKind.u8 x1 128))) (fun x4 => some (o, a, b, (⟨false, setL ([o] : List Int) x2 x4⟩ : Sl Int), ())))))) (some (o, a, b, ⟨false, ([o] : List Int)⟩, ()))) =
      some (o, a, b, ⟨false, [if long = true then o + 128 else o]⟩, ()) := by
    cases long
    · rfl
    · have e1 : okAt ([o] : List Int) 0 = some 0 := rfl
      have e2 : nth ([o] : List Int) 0 = some o := rfl
      rw [cnd_true, e1, bnd_some_eq, e2, bnd_some_eq, bnd_some_eq, e2, bnd_some_eq, bnd_some_eq, addI_u8]
      have e3 : (o + 128) % 256 = o + 128 := by omega
      rw [e3]; rfl
  rw [hh, bnd_some_eq, told_spec, bnd_some_eq]
  have := head_loop ⟨false, toldL o a b⟩ (toldL o a b).length 0 ⟨false, [if long = true then o + 128 else o]⟩ (by simp) (by have := told_len o a b; simp; omega) (fun n hn => by rcases told_mem hn with rfl | rfl <;> assumption)
    (by have := told_len o a b; simp; omega) (fun _ => rfl)
  rw [show ((0 : Nat) : Int) = 0 by rfl] at this
  rw [this]
  rfl

theorem head_len (o a b : Int) (long : Bool) : 1 ≤ (headB o a b long).length ∧ (headB o a b long).length ≤ 7 := by
  unfold headB
  have h1 : ∀ l : List Int, (l.flatMap nb).length ≤ 3 * l.length := by
    intro l
    induction l with
    | nil => simp
    | cons x l ih => have := nb_len x; simp only [List.flatMap_cons, List.length_append, List.length_cons]; omega
  have := h1 (toldL o a b)
  have := told_len o a b
  simp only [List.length_cons]
  omega

theorem rhead_spec {o a b : Int} {long : Bool} (hk : 0 ≤ o ∧ o < 21) (ha : 0 ≤ a ∧ a ≤ 1048576) (hb : 0 ≤ b ∧ b ≤ 1048576) : f_ref15_Head ((o, a, b), long, ()) = some (headB o a b long, ()) := by
  rw [u_ref15_Head]
  have hh : cnd long (some (addI .i64 o 128, o, a, b, ())) (some (o, o, a, b, ())) = some ((if long = true then o + 128 else o), o, a, b, ()) := by
    cases long
    · rfl
    · rw [cnd_true, addI_i64 (by omega) (by omega)]; rfl
  rw [hh]
  simp only [bnd_some_eq, rgoes_spec, rnums_spec, rnumber_spec ha.1 ha.2, rnumber_spec hb.1 hb.2]
  have e : cvI .u8 (if long = true then o + 128 else o) = if long = true then o + 128 else o := by
    rw [cvI_u8]; split <;> omega
  rw [e]
  have f1 : ∀ (x : Int) (l : List Int), l.length ≤ 1000 → fit (sumI (lenI ([x] : List Int)) (lenI l)) = some () := fun x l hl => fit_ok (by simp only [sumI, lenI, List.length_singleton]; omega)
  have f2 : ∀ (x m : List Int), x.length ≤ 1000 → m.length ≤ 1000 → fit (sumI (lenI x) (lenI m)) = some () := fun x m h1 h2 => fit_ok (by simp only [sumI, lenI]; omega)
  have hna := nb_len a
  have hnb := nb_len b
  have n0 := numI_lt o
  unfold headB toldL
  cases hg : goesB o with
  | true =>
    rw [cnd_true, cnd_eq]
    have n1 := goes_num hg
    split
    · rename_i h1
      rw [f1 _ _ (by omega), bnd_some_eq, bnd_some_eq, if_pos rfl, h1]
      simp [catS]
    · rename_i h1
      have h0 : numI o = 0 := by omega
      rw [bnd_some_eq, if_pos rfl, h0]
      simp
  | false =>
    generalize (if long = true then o + 128 else o) = hd
    rw [cnd_false, cnd_lt]
    by_cases h0 : 0 < numI o
    · rw [if_pos h0, f1 _ _ (by omega)]
      simp only [bnd_some_eq]
      rw [cnd_lt]
      by_cases h1 : 1 < numI o
      · rw [if_pos h1, rnumber_spec hb.1 hb.2, bnd_some_eq, f2 _ _ (by simp [catS]; omega) (by show (nb b).length ≤ 1000; omega)]
        have h2 : numI o = 2 := by omega
        rw [h2]
        simp [catS, bnd]
      · have h2 : numI o = 1 := by omega
        rw [if_neg h1, h2]
        simp [catS, bnd]
    · have h2 : numI o = 0 := by omega
      rw [if_neg h0]
      simp only [bnd_some_eq]
      rw [cnd_lt, if_neg (by omega), h2]
      simp [bnd]
end Fn
end Ev
namespace Ev
open Go
namespace Fn

theorem wide_spec (o : Int) (long : Bool) : f_op_wide (o, long, ()) = some ((if goesB o = true then (if long = true then 4 else 1) else 0), ()) := by
  rw [u_op_wide, goes_spec, bnd_some_eq, cnd_not]
  cases goesB o <;> cases long <;> rfl

def rightB (o a b : Int) (long : Bool) : Bool := checkB o a b && (!long || goesB o)

theorem right_spec (o a b : Int) (long : Bool) : f_op_right ((o, a, b), long, ()) = some (rightB o a b long, ()) := by
  rw [u_op_right, check_spec]
  simp only [bnd_some_eq, goes_spec]
  unfold rightB
  cases checkB o a b <;> cases long <;> cases goesB o <;> rfl

theorem check_in {o a b : Int} (h : checkB o a b = true) : (0 ≤ o ∧ o < 21) ∧ (0 ≤ a ∧ a ≤ 1048576) ∧ (0 ≤ b ∧ b ≤ 1048576) ∧ (0 < numI o ∨ goesB o = true ∨ a = 0) ∧ (numI o = 2 ∨ (numI o = 1 ∧ goesB o = true) ∨ b = 0) := by
  unfold checkB at h
  simpa only [Bool.and_eq_true, Bool.or_eq_true, decide_eq_true_eq, and_assoc, or_assoc] using h

theorem size_spec (o a b : Int) (long : Bool) : f_op_Size ((o, a, b), long, ()) = some ((if rightB o a b long = true then ((headB o a b long).length : Int) + (if goesB o = true then (if long = true then 4 else 1) else 0) else 0), ()) := by
  rw [u_op_Size, right_spec, bnd_some_eq, cnd_not]
  cases hr : rightB o a b long with
  | false => rfl
  | true =>
    have hr' := hr
    unfold rightB at hr'
    rw [Bool.and_eq_true] at hr'
    obtain ⟨h1, h2, h3, _⟩ := check_in hr'.1
    have := head_len o a b long
    rw [cnd_true, head_spec h1 h2 h3, bnd_some_eq, wide_spec]
    simp only [bnd_some_eq, lenI]
    rw [addI_i64 (by split <;> (try split) <;> omega) (by split <;> (try split) <;> omega)]
    rfl

/-- The lowest bytes of a number. -/
def lowB : Nat → Int → List Int
  | 0, _ => []
  | k + 1, n => n % 256 :: lowB k (n / 256)

theorem low_len : ∀ (k : Nat) (n : Int), (lowB k n).length = k
  | 0, _ => rfl
  | k + 1, n => by simp [lowB, low_len k]

theorem put_loop (far : Int) (wd : Nat) (hw : wd ≤ 4) : ∀ (k i : Nat) (s : Sl Int), i + k = wd → s.l.length ≤ 100 + i → loopR l1_op_Put (far, (wd : Int), (i : Int), s, ()) = some (s.l ++ lowB k (far / 2 ^ (8 * i)), 0, ()) := by
  intro k
  induction k with
  | zero =>
    intro i s hk hl
    refine loopR_inr ?_
    unfold l1_op_Put
    simp only
    rw [cnd_lt, if_neg (by omega)]
    simp [lowB]
  | succ k ih =>
    intro i s hk hl
    have hm : mulI .i64 8 (i : Int) = ((8 * i : Nat) : Int) := by rw [mulI_i64 (by omega) (by omega)]; omega
    have : l1_op_Put (far, (wd : Int), (i : Int), s, ()) = some (.inl (far, (wd : Int), ((i + 1 : Nat) : Int), ⟨false, s.l ++ [far / 2 ^ (8 * i) % 256]⟩, ())) := by
      unfold l1_op_Put
      simp only
      rw [cnd_lt, if_pos (by omega), hm, shrI_i64 (8 * i) (by omega), bnd_some_eq, fit_ok (by simp only [sumI, lenI, List.length_singleton]; omega), bnd_some_eq, addI_i64 (by omega) (by omega), cvI_u8]
      simp [andB, isE, app]
    rw [loopR_inl this, ih (i + 1) _ (by omega) (by simp; omega)]
    have e : far / 2 ^ (8 * (i + 1)) = far / 2 ^ (8 * i) / 256 := by
      rw [Int.ediv_ediv_of_nonneg (Int.pow_nonneg (by omega)), Nat.mul_add, Int.pow_add]; rfl
    rw [e]
    simp [lowB]

/-- Does it fit? -/
def fitsB (far : Int) (long : Bool) : Bool := if long = true then decide (-2147483648 ≤ far ∧ far ≤ 2147483647) else decide (-128 ≤ far ∧ far ≤ 127)

theorem far_test {α : Type} (far : Int) (long : Bool) (F : Bool → Option α) : bnd (cnd (ltI far (-2147483648)) (some true) (some (ltI 2147483647 far))) (fun x3 => bnd (cnd x3 (some true) (cnd (notB long) (cnd (ltI far (-128)) (some true) (some (ltI 127 far))) (some false))) F) = F (notB (fitsB far long)) := by
  unfold fitsB ltI
  cases long
  · by_cases h1 : far < -128
    · by_cases h2 : far < -2147483648 <;> by_cases h3 : 2147483647 < far <;> simp [h1, h2, h3, bnd, cnd, notB] <;> (congr 1; simp; omega)
    · by_cases h4 : 127 < far
      · by_cases h2 : far < -2147483648 <;> by_cases h3 : 2147483647 < far <;> simp [h1, h2, h3, h4, bnd, cnd, notB] <;> (congr 1; simp; omega)
      · have h2 : ¬ far < -2147483648 := by omega
        have h3 : ¬ 2147483647 < far := by omega
        simp [h1, h2, h3, h4, bnd, cnd, notB]
        congr 1; simp; omega
  · by_cases h2 : far < -2147483648 <;> by_cases h3 : 2147483647 < far <;> simp [h2, h3, bnd, cnd, notB] <;> (congr 1; simp; omega)

/-- An instruction's bytes. -/
def putB (o a b far : Int) (long : Bool) : List Int × Int :=
  if rightB o a b long = true ∧ (goesB o = true ∨ far = 0) then (if goesB o = true then (if fitsB far long = true then (headB o a b long ++ lowB (if long = true then 4 else 1) far, 0) else ([], 151)) else (headB o a b long, 0)) else ([], 150)

theorem put_spec (o a b far : Int) (long : Bool) : f_op_Put ((o, a, b), far, long, ()) = some ((putB o a b far long).1, (putB o a b far long).2, ()) := by
  rw [u_op_Put, right_spec, bnd_some_eq, goes_spec]
  simp only [bnd_some_eq, far_test]
  unfold putB
  cases hr : rightB o a b long with
  | false => simp [notB, cnd, bnd]
  | true =>
    have hr' := hr
    unfold rightB at hr'
    rw [Bool.and_eq_true] at hr'
    obtain ⟨h1, h2, h3, _⟩ := check_in hr'.1
    have hl := head_len o a b long
    have tail : ∀ (g : Bool), goesB o = g → (bnd (f_op_head ((o, a, b), long, ())) fun x5 => bnd (f_op_wide (o, long, ())) fun x6 => loopR l1_op_Put (far, x6.1, 0, x5.1, ())) = some ((if g = true then headB o a b long ++ lowB (if long = true then 4 else 1) far else headB o a b long), 0, ()) := by
      intro g hg
      rw [head_spec h1 h2 h3, bnd_some_eq, wide_spec, bnd_some_eq, hg]
      have key : ∀ wd : Nat, wd ≤ 4 → loopR l1_op_Put (far, (wd : Int), 0, ⟨false, headB o a b long⟩, ()) = some (headB o a b long ++ lowB wd far, 0, ()) := by
        intro wd hw
        have := put_loop far wd hw wd 0 ⟨false, headB o a b long⟩ (by omega) (by simp; omega)
        simpa using this
      cases g
      · have := key 0 (by omega); simpa [lowB] using this
      · cases long
        · exact key 1 (by omega)
        · exact key 4 (by omega)
    cases hg : goesB o with
    | false =>
      have hlong : long = false := by
        cases long
        · rfl
        · rw [hg] at hr'; simp at hr'
      subst hlong
      rw [tail false hg]
      by_cases hf : far = 0
      · subst hf
        have : fitsB 0 false = true := by decide
        rw [this, eqI_self]
        simp [cnd, notB, bnd]
      · have : eqI far 0 = false := eqI_ne hf
        simp [this, cnd, hf, notB, bnd]
    | true =>
      rw [tail true hg]
      cases fitsB far long <;> simp [cnd, notB, bnd]
end Fn
end Ev
namespace Ev
open Go
namespace Fn

theorem rlow_loop (wd : Nat) (hw : wd ≤ 4) : ∀ (k i : Nat) (n : Int) (s : Sl Int), i + k = wd → s.l.length ≤ 100 + i → -2147483648 ≤ n → n ≤ 2147483647 → loopR l1_ref15_low (n, (wd : Int), (i : Int), s, ()) = some (s.l ++ lowB k n, ()) := by
  intro k
  induction k with
  | zero =>
    intro i n s hk hl _ _
    refine loopR_inr ?_
    unfold l1_ref15_low
    simp only
    rw [cnd_lt, if_neg (by omega)]
    simp [lowB]
  | succ k ih =>
    intro i n s hk hl h1 h2
    have r1 : remI n 256 = some (n.tmod 256) := by unfold remI; rw [if_neg (by omega)]
    have b1 : -256 < n.tmod 256 := Int.lt_tmod_of_pos _ (by omega)
    have b2 : n.tmod 256 < 256 := Int.tmod_lt_of_pos _ (by omega)
    have e1 : n = 256 * n.tdiv 256 + n.tmod 256 := (Int.mul_tdiv_add_tmod n 256).symm
    have r2 : remI (addI .i64 (n.tmod 256) 256) 256 = some (n % 256) := by
      rw [addI_i64 (by omega) (by omega), remI_pos (by omega) (by omega)]
      congr 1
      omega
    have r3 : quoI .i64 (subI .i64 n (n % 256)) 256 = some (n / 256) := by
      rw [subI_i64 (by omega) (by omega)]
      unfold quoI
      rw [if_neg (by omega)]
      have e2 : n - n % 256 = 256 * (n / 256) := by omega
      rw [e2, Int.mul_tdiv_cancel_left _ (by omega), wrap_i64 (by omega) (by omega)]
    have e3 : cvI .u8 (n % 256) = n % 256 := by rw [cvI_u8]; omega
    have : l1_ref15_low (n, (wd : Int), (i : Int), s, ()) = some (.inl (n / 256, (wd : Int), ((i + 1 : Nat) : Int), ⟨false, s.l ++ [n % 256]⟩, ())) := by
      unfold l1_ref15_low
      simp only
      rw [cnd_lt, if_pos (by omega), r1]
      simp only [bnd_some_eq, r2, r3, e3]
      rw [fit_ok (by simp only [sumI, lenI, List.length_singleton]; omega), bnd_some_eq, addI_i64 (by omega) (by omega)]
      simp [andB, isE, app]
    rw [loopR_inl this, ih (i + 1) _ _ (by omega) (by simp; omega) (by omega) (by omega)]
    simp [lowB]

theorem rlow_spec {wd : Nat} (hw : wd ≤ 4) {n : Int} (h1 : -2147483648 ≤ n) (h2 : n ≤ 2147483647) : f_ref15_low (n, (wd : Int), ()) = some (lowB wd n, ()) := by
  rw [u_ref15_low]
  have := rlow_loop wd hw wd 0 n ⟨false, []⟩ (by omega) (by simp) h1 h2
  simpa using this

theorem rfits_spec (far : Int) (long : Bool) : f_ref15_Fits (far, long, ()) = some (fitsB far long, ()) := by
  rw [u_ref15_Fits]
  unfold fitsB leI
  cases long
  · by_cases h1 : -128 ≤ far <;> by_cases h2 : far ≤ 127 <;> simp [h1, h2, cnd, bnd]
  · by_cases h1 : -2147483648 ≤ far <;> by_cases h2 : far ≤ 2147483647 <;> simp [h1, h2, cnd, bnd]

theorem fits_in {far : Int} {long : Bool} (h : fitsB far long = true) : -2147483648 ≤ far ∧ far ≤ 2147483647 := by
  unfold fitsB at h
  cases long
  · have := of_decide_eq_true h; omega
  · exact of_decide_eq_true h

theorem rput_spec (o a b far : Int) (long : Bool) : f_ref15_Put ((o, a, b), far, long, ()) = some ((putB o a b far long).1, (putB o a b far long).2, ()) := by
  rw [u_ref15_Put]
  simp only [rcheck_spec, rgoes_spec, rfits_spec, bnd_some_eq]
  unfold putB rightB
  cases hc : checkB o a b with
  | false => simp [notB, cnd, bnd]
  | true =>
    obtain ⟨h1, h2, h3, _⟩ := check_in hc
    have hl := fun lg => head_len o a b lg
    cases hg : goesB o with
    | false =>
      cases long
      · by_cases hf : far = 0
        · subst hf
          rw [eqI_self]
          simp only [notB, Bool.not_true, Bool.not_false, cnd_false, cnd_true, bnd_some_eq, rhead_spec h1 h2 h3]
          simp
        · have : eqI far 0 = false := eqI_ne hf
          simp [this, cnd, hf, notB, bnd]
      · simp [cnd, notB, bnd]
    | true =>
      cases hf : fitsB far long with
      | false => simp [cnd, notB, bnd]
      | true =>
        obtain ⟨f1, f2⟩ := fits_in hf
        have l4 := rlow_spec (wd := 4) (by omega) f1 f2
        have l1 := rlow_spec (wd := 1) (by omega) f1 f2
        rw [show ((4 : Nat) : Int) = 4 by rfl] at l4
        rw [show ((1 : Nat) : Int) = 1 by rfl] at l1
        have ft : ∀ (lg : Bool) (k : Nat), k ≤ 4 → fit (sumI (lenI (headB o a b lg)) (lenI (lowB k far))) = some () := fun lg k hk => fit_ok (by have := hl lg; simp only [sumI, lenI, low_len]; omega)
        cases long
        · simp only [notB, Bool.not_true, cnd_false, bnd_some_eq, rhead_spec h1 h2 h3, l1, ft false 1 (by omega)]
          simp [catS]
        · simp only [notB, Bool.not_true, cnd_false, cnd_true, bnd_some_eq, rhead_spec h1 h2 h3, l4, ft true 4 (by omega)]
          simp [catS]

/-! Names. -/
def namesL : List (List Int) := [[104, 97, 108, 116], [112, 111, 111, 108], [97, 99, 99], [101, 110, 118], [115, 101, 108, 102], [112, 111, 112], [115, 108, 105, 100, 101], [97, 112, 112], [116, 97, 105, 108], [114, 101, 116], [98, 108, 111, 99, 107], [102, 105, 101, 108, 100], [112, 114, 105, 109], [114, 97, 105, 115, 101], [117, 110, 116, 114, 121], [106, 117, 109, 112], [122, 101, 114, 111], [116, 114, 121], [99, 108, 111, 115], [116, 97, 103], [115, 97, 109, 101]]
def nameI (o : Int) : List Int := if 0 ≤ o ∧ o < 21 then namesL.getD o.toNat [] else []
def findL (s : List Int) : List (List Int) → Nat → Option Nat
  | [], _ => none
  | n :: r, i => if n = s then some i else findL s r (i + 1)
end Fn
end Ev
