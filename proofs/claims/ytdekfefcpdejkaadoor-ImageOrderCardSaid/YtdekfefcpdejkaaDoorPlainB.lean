/- Layer 15 in plain words, second part. No statement of its own about the program. -/
import Derived.Test.YtdekfefcpdejkaaDoorPlainA
namespace Ev
open Go
namespace Fn

/-! What bytes begin with. -/
def numG (s : List Int) (p : Nat) : Int ⊕ (Int × Nat) :=
  match s[p]? with
  | none => .inl 152
  | some c0 => if c0 < 128 then .inr (c0, p + 1) else
    match s[p + 1]? with
    | none => .inl 152
    | some c1 => if c1 = 0 then .inl 153 else if c1 < 128 then .inr (c0 % 128 + c1 * 128, p + 2) else
      match s[p + 2]? with
      | none => .inl 152
      | some c2 => if 1048576 < c0 % 128 + c1 % 128 * 128 + c2 % 128 * 16384 ∨ c2 = 0 then .inl 153 else if c2 < 128 then .inr (c0 % 128 + c1 % 128 * 128 + c2 * 16384, p + 3) else .inl 153

abbrev GS := (List Int) × Bool × Int × Int × Int × Int × Int × Int × Int × Int × Int × Int × (Sl Int) × Unit

def bytesOk (s : List Int) : Prop := s.length ≤ 1000000 ∧ ∀ b, b ∈ s → 0 ≤ b ∧ b < 256

theorem bytes_get {s : List Int} (h : bytesOk s) {p : Nat} {c : Int} (hp : s[p]? = some c) : 0 ≤ c ∧ c < 256 := h.2 c (List.mem_of_getElem? hp)

theorem and127 {c : Int} (h : 0 ≤ c ∧ c < 256) : andI .i64 (cvI .i64 c) 127 = c % 128 := by
  rw [cvI_i64 (by omega) (by omega)]
  have := andI_low (k := .i64) 7 h.1 (by show c < 2 ^ 63; omega) (by decide)
  simpa using this

/-- One byte of a number. -/
theorem get_step {s : List Int} (hs : bytesOk s) (long : Bool) (o : Int) (p kk : Nat) (n : Int) (j : Nat) (nm k a b c : Int) (L : Sl Int) (hj : j ≤ 2) (hn : 0 ≤ n) (hn2 : n < 2 ^ (7 * j)) (hkk : kk ≤ 1) (hL : L.l.length = 2) (hp : p ≤ s.length) (hk : 0 ≤ k ∧ k ≤ 10) :
    l1_op_Get (s, long, o, (p : Int), (kk : Int), n, ((7 * j : Nat) : Int), nm, k, a, b, c, L, ()) = match s[p]? with
      | none => some (.inr (.inr ((0, 0, 0), 0, false, 0, 152, ())))
      | some x => if 1048576 < n + x % 128 * 2 ^ (7 * j) ∨ (x = 0 ∧ 0 < j) then some (.inr (.inr ((0, 0, 0), 0, false, 0, 153, ()))) else
        if x < 128 then some (.inr (.inl (s, long, o, ((p + 1 : Nat) : Int), nm, k + 1, a, b, c, ⟨L.nil, L.l.set kk (n + x % 128 * 2 ^ (7 * j))⟩, ()))) else
        if j = 2 then some (.inr (.inr ((0, 0, 0), 0, false, 0, 153, ()))) else some (.inl (s, long, o, ((p + 1 : Nat) : Int), (kk : Int), n + x % 128 * 2 ^ (7 * j), ((7 * (j + 1) : Nat) : Int), nm, k, a, b, c, L, ())) := by
  unfold l1_op_Get
  simp only [u_op_Get_1, bnd_some_eq]
  have hlen := hs.1
  cases hx : s[p]? with
  | none =>
    have : s.length ≤ p := by rw [List.getElem?_eq_none_iff] at hx; exact hx
    have e : eqI (p : Int) (lenI s) = true := by rw [eqI_eq]; unfold lenI; omega
    rw [e, cnd_true]
  | some x =>
    have hpl : p < s.length := by
      rcases Nat.lt_or_ge p s.length with h | h
      · exact h
      · rw [List.getElem?_eq_none h] at hx; cases hx
    have hb := bytes_get hs hx
    have e : eqI (p : Int) (lenI s) = false := eqI_ne (by unfold lenI; omega)
    have pw : (2 : Int) ^ (7 * j) ≤ 16384 ∧ 1 ≤ (2 : Int) ^ (7 * j) := by
      have : j = 0 ∨ j = 1 ∨ j = 2 := by omega
      rcases this with rfl | rfl | rfl <;> decide
    have hm : 0 ≤ x % 128 * 2 ^ (7 * j) ∧ x % 128 * 2 ^ (7 * j) ≤ 127 * 16384 := by
      have h1 : 0 ≤ x % 128 ∧ x % 128 ≤ 127 := by omega
      refine ⟨Int.mul_nonneg h1.1 (by omega), ?_⟩
      exact Int.mul_le_mul h1.2 pw.1 (by omega) (by omega)
    rw [e, cnd_false, at?_nat hx, bnd_some_eq, and127 hb, shlI_i64 (7 * j) (by omega) (by omega) (by omega), bnd_some_eq, orI_high (k := .i64) (7 * j) hn hn2 (by omega) (by show _ < (2 : Int) ^ 63; omega), cvI_i64 (by omega) (by omega)]
    dsimp only
    generalize hM : n + x % 128 * 2 ^ (7 * j) = M
    have t1 : bnd (cnd (ltI 1048576 M) (some true) (cnd (eqI x 0) (some (ltI 0 ((7 * j : Nat) : Int))) (some false))) = fun (F : Bool → Option (GS ⊕ (((List Int) × Bool × Int × Int × Int × Int × Int × Int × Int × (Sl Int) × Unit) ⊕ ((Int × Int × Int) × Int × Bool × Int × Int × Unit)))) => F (decide (1048576 < M ∨ (x = 0 ∧ 0 < j))) := by
      funext F
      rw [cnd_lt, cnd_eq]
      by_cases h1 : 1048576 < M
      · simp [h1, bnd]
      · by_cases h2 : x = 0
        · subst h2
          by_cases h3 : 0 < j
          · have : ltI 0 ((7 * j : Nat) : Int) = true := decide_eq_true (by omega)
            rw [this]; simp [h1, h3, bnd]
          · have : ltI 0 ((7 * j : Nat) : Int) = false := decide_eq_false (by omega)
            rw [this]; simp [h1, h3, bnd]
        · simp [h1, h2, bnd]
    rw [t1]
    simp only [cnd_dec]
    by_cases hbad : 1048576 < M ∨ (x = 0 ∧ 0 < j)
    · rw [if_pos hbad, if_pos hbad]
    · rw [if_neg hbad, if_neg hbad, cnd_lt]
      by_cases h128 : x < 128
      · rw [if_pos h128, if_pos h128]
        have e1 : cutN 2 (sumI (kk : Int) 1) = some (kk + 1) := by
          unfold cutN sumI; rw [if_pos (by omega)]; congr 1
        have e2 : okAt L.l (kk : Int) = some kk := by
          unfold okAt; rw [if_pos (by omega)]; simp
        have e3 : nth L.l kk = some L.l[kk] := List.getElem?_eq_getElem (by omega)
        rw [e1, bnd_some_eq, e2, bnd_some_eq, e3, bnd_some_eq, bnd_some_eq, addI_i64 (by omega) (by omega), addI_i64 (by omega) (by omega)]
        rfl
      · rw [if_neg h128, if_neg h128, addI_i64 (by omega) (by omega), cnd_lt, addI_i64 (by omega) (by omega)]
        by_cases h2 : j = 2
        · rw [if_pos (by omega), if_pos h2]
        · rw [if_neg (by omega), if_neg h2]
          have : ((7 * j : Nat) : Int) + 7 = ((7 * (j + 1) : Nat) : Int) := by omega
          rw [this]
          rfl

/-- A number that is got. -/
theorem get_num {s : List Int} (hs : bytesOk s) (long : Bool) (o : Int) (p kk : Nat) (nm k a b c : Int) (L : Sl Int) (hkk : kk ≤ 1) (hL : L.l.length = 2) (hp : p ≤ s.length) (hk : 0 ≤ k ∧ k ≤ 10) :
    loopR l1_op_Get (s, long, o, (p : Int), (kk : Int), 0, 0, nm, k, a, b, c, L, ()) = match numG s p with
      | .inl e => some (.inr ((0, 0, 0), 0, false, 0, e, ()))
      | .inr (n, q) => some (.inl (s, long, o, (q : Int), nm, k + 1, a, b, c, ⟨L.nil, L.l.set kk n⟩, ())) := by
  have s0 := get_step hs long o p kk 0 0 nm k a b c L (by omega) (by omega) (by omega) hkk hL hp hk
  simp only [Nat.mul_zero, Int.pow_zero] at s0
  rw [show ((0 : Nat) : Int) = 0 from rfl] at s0
  unfold numG
  cases h0 : s[p]? with
  | none =>
    rw [h0] at s0
    exact loopR_inr s0
  | some c0 =>
    rw [h0] at s0
    have b0 := bytes_get hs h0
    have l0 : p < s.length := by
      rcases Nat.lt_or_ge p s.length with h | h
      · exact h
      · rw [List.getElem?_eq_none h] at h0; cases h0
    simp only at s0
    rw [if_neg (by omega)] at s0
    simp only
    by_cases h1 : c0 < 128
    · rw [if_pos h1] at s0
      rw [if_pos h1, show c0 % 128 = c0 by omega] at *
      rw [loopR_inr s0]
      simp
    · rw [if_neg h1, if_neg (by omega)] at s0
      rw [if_neg h1, loopR_inl s0]
      have s1 := get_step hs long o (p + 1) kk (0 + c0 % 128 * 1) 1 nm k a b c L (by omega) (by omega) (by simp; omega) hkk hL (by omega) hk
      simp only [Nat.mul_one, Nat.zero_add] at s1 ⊢
      cases h1 : s[p + 1]? with
      | none =>
        rw [h1] at s1
        exact loopR_inr s1
      | some c1 =>
        rw [h1] at s1
        have b1 := bytes_get hs h1
        have l1 : p + 1 < s.length := by
          rcases Nat.lt_or_ge (p + 1) s.length with h | h
          · exact h
          · rw [List.getElem?_eq_none h] at h1; cases h1
        simp only at s1
        simp only
        have p7 : (2 : Int) ^ 7 = 128 := by decide
        rw [p7] at s1
        by_cases z1 : c1 = 0
        · rw [if_pos (by omega)] at s1
          rw [if_pos z1]
          exact loopR_inr s1
        · rw [if_neg (by omega)] at s1
          rw [if_neg z1]
          by_cases k1 : c1 < 128
          · rw [if_pos k1] at s1
            rw [if_pos k1, loopR_inr s1]
            simp only
            rw [show 0 + c0 % 128 * 1 + c1 % 128 * 128 = c0 % 128 + c1 * 128 by omega]
          · rw [if_neg k1, if_neg (by omega)] at s1
            rw [if_neg k1, loopR_inl s1]
            have s2 := get_step hs long o (p + 2) kk (0 + c0 % 128 * 1 + c1 % 128 * 128) 2 nm k a b c L (by omega) (by omega) (by simp; omega) hkk hL (by omega) hk
            cases h2 : s[p + 2]? with
            | none =>
              rw [h2] at s2
              exact loopR_inr s2
            | some c2 =>
              rw [h2] at s2
              have b2 := bytes_get hs h2
              simp only at s2
              have p14 : (2 : Int) ^ (7 * 2) = 16384 := by decide
              rw [p14] at s2
              simp only
              by_cases z2 : 1048576 < c0 % 128 + c1 % 128 * 128 + c2 % 128 * 16384 ∨ c2 = 0
              · rw [if_pos (by omega)] at s2
                rw [if_pos z2]
                exact loopR_inr s2
              · rw [if_neg (by omega)] at s2
                rw [if_neg z2]
                by_cases k2 : c2 < 128
                · rw [if_pos k2] at s2
                  rw [if_pos k2]
                  refine (loopR_inr s2).trans ?_
                  simp only
                  rw [show 0 + c0 % 128 * 1 + c1 % 128 * 128 + c2 % 128 * 16384 = c0 % 128 + c1 % 128 * 128 + c2 * 16384 by omega]
                · rw [if_neg k2, if_pos trivial] at s2
                  rw [if_neg k2]
                  exact loopR_inr s2
end Fn
end Ev
namespace Ev
open Go
namespace Fn

theorem lt_of_get {s : List Int} {p : Nat} {x : Int} (h : s[p]? = some x) : p < s.length := by
  rcases Nat.lt_or_ge p s.length with h1 | h1
  · exact h1
  · rw [List.getElem?_eq_none h1] at h; cases h

/-- One byte of a number, as the document reads it. -/
theorem rnum_step {s : List Int} (hs : bytesOk s) (p : Nat) (n : Int) (j : Nat) (hj : j ≤ 2) (hn : 0 ≤ n) (hn2 : n < 2 ^ (7 * j)) (hp : p ≤ s.length) :
    l1_ref15_num (s, (p : Int), n, 2 ^ (7 * j), (j : Int), ()) = match s[p + j]? with
      | none => some (.inr (0, 0, 152, ()))
      | some x => if 1048576 < n + x % 128 * 2 ^ (7 * j) ∨ (x = 0 ∧ 0 < j) then some (.inr (0, 0, 153, ())) else
        if x < 128 then some (.inr (n + x % 128 * 2 ^ (7 * j), ((p + j + 1 : Nat) : Int), 0, ())) else
        if j = 2 then some (.inr (0, 0, 153, ())) else some (.inl (s, (p : Int), n + x % 128 * 2 ^ (7 * j), 2 ^ (7 * (j + 1)), ((j + 1 : Nat) : Int), ())) := by
  unfold l1_ref15_num
  simp only
  have hlen := hs.1
  have ea : addI .i64 (p : Int) (j : Int) = ((p + j : Nat) : Int) := by rw [addI_i64 (by omega) (by omega)]; omega
  rw [ea]
  cases hx : s[p + j]? with
  | none =>
    have : s.length ≤ p + j := by rw [List.getElem?_eq_none_iff] at hx; exact hx
    rw [cnd_le, if_pos (by unfold lenI; omega)]
  | some x =>
    have hpl := lt_of_get hx
    have hb := bytes_get hs hx
    have pw : (2 : Int) ^ (7 * j) ≤ 16384 ∧ 1 ≤ (2 : Int) ^ (7 * j) := by
      have : j = 0 ∨ j = 1 ∨ j = 2 := by omega
      rcases this with rfl | rfl | rfl <;> decide
    have hm : 0 ≤ x % 128 * 2 ^ (7 * j) ∧ x % 128 * 2 ^ (7 * j) ≤ 127 * 16384 := by
      have h1 : 0 ≤ x % 128 ∧ x % 128 ≤ 127 := by omega
      refine ⟨Int.mul_nonneg h1.1 (by omega), ?_⟩
      exact Int.mul_le_mul h1.2 pw.1 (by omega) (by omega)
    rw [cnd_le, if_neg (by unfold lenI; omega), at?_nat hx, bnd_some_eq, cvI_i64 (by omega) (by omega), remI_pos hb.1 (by omega), bnd_some_eq, mulI_i64 (by omega) (by omega), addI_i64 (by omega) (by omega)]
    dsimp only
    generalize hM : n + x % 128 * 2 ^ (7 * j) = M
    have t1 : bnd (cnd (ltI 1048576 M) (some true) (cnd (eqI x 0) (some (ltI 0 (j : Int))) (some false))) = fun (F : Bool → Option (((List Int) × Int × Int × Int × Int × Unit) ⊕ (Int × Int × Int × Unit))) => F (decide (1048576 < M ∨ (x = 0 ∧ 0 < j))) := by
      funext F
      rw [cnd_lt, cnd_eq]
      by_cases h1 : 1048576 < M
      · simp [h1, bnd]
      · by_cases h2 : x = 0
        · subst h2
          by_cases h3 : 0 < j
          · have : ltI 0 (j : Int) = true := decide_eq_true (by omega)
            rw [this]; simp [h1, h3, bnd]
          · have : ltI 0 (j : Int) = false := decide_eq_false (by omega)
            rw [this]; simp [h1, h3, bnd]
        · simp [h1, h2, bnd]
    rw [t1]
    simp only [cnd_dec]
    by_cases hbad : 1048576 < M ∨ (x = 0 ∧ 0 < j)
    · rw [if_pos hbad, if_pos hbad]
    · rw [if_neg hbad, if_neg hbad, cnd_lt]
      by_cases h128 : x < 128
      · rw [if_pos h128, if_pos h128, addI_i64 (by omega) (by omega)]
        rfl
      · rw [if_neg h128, if_neg h128, cnd_eq]
        by_cases h2 : j = 2
        · rw [if_pos (by omega), if_pos h2]
        · rw [if_neg (by omega), if_neg h2, mulI_i64 (by omega) (by omega), addI_i64 (by omega) (by omega)]
          have : (128 : Int) * 2 ^ (7 * j) = 2 ^ (7 * (j + 1)) := by
            have : j = 0 ∨ j = 1 := by omega
            rcases this with rfl | rfl <;> decide
          rw [this]
          rfl

theorem rnum_spec {s : List Int} (hs : bytesOk s) (p : Nat) (hp : p ≤ s.length) :
    f_ref15_num (s, (p : Int), ()) = match numG s p with
      | .inl e => some (0, 0, e, ())
      | .inr (n, q) => some (n, (q : Int), 0, ()) := by
  rw [u_ref15_num]
  have s0 := rnum_step hs p 0 0 (by omega) (by omega) (by omega) hp
  simp only [Nat.mul_zero, Int.pow_zero, Nat.add_zero] at s0
  rw [show ((0 : Nat) : Int) = 0 from rfl] at s0
  unfold numG
  cases h0 : s[p]? with
  | none => rw [h0] at s0; exact loopR_inr s0
  | some c0 =>
    rw [h0] at s0
    have b0 := bytes_get hs h0
    have l0 := lt_of_get h0
    simp only at s0
    rw [if_neg (by omega)] at s0
    simp only
    by_cases h1 : c0 < 128
    · rw [if_pos h1] at s0
      rw [if_pos h1, show c0 % 128 = c0 by omega] at *
      rw [loopR_inr s0]
      simp
    · rw [if_neg h1, if_neg (by omega)] at s0
      rw [if_neg h1, loopR_inl s0]
      have s1 := rnum_step hs p (0 + c0 % 128 * 1) 1 (by omega) (by omega) (by simp; omega) hp
      simp only [Nat.mul_one, Nat.zero_add] at s1 ⊢
      cases h1 : s[p + 1]? with
      | none => rw [h1] at s1; exact loopR_inr s1
      | some c1 =>
        rw [h1] at s1
        have b1 := bytes_get hs h1
        have l1 := lt_of_get h1
        simp only at s1
        simp only
        have p7 : (2 : Int) ^ 7 = 128 := by decide
        rw [p7] at s1
        by_cases z1 : c1 = 0
        · rw [if_pos (by omega)] at s1
          rw [if_pos z1]
          exact loopR_inr s1
        · rw [if_neg (by omega)] at s1
          rw [if_neg z1]
          by_cases k1 : c1 < 128
          · rw [if_pos k1] at s1
            rw [if_pos k1]
            refine (loopR_inr s1).trans ?_
            simp only
            rw [show 0 + c0 % 128 * 1 + c1 % 128 * 128 = c0 % 128 + c1 * 128 by omega]
          · rw [if_neg k1, if_neg (by omega)] at s1
            rw [if_neg k1]
            refine (loopR_inl s1).trans ?_
            have s2 := rnum_step hs p (0 + c0 % 128 * 1 + c1 % 128 * 128) 2 (by omega) (by omega) (by simp; omega) hp
            cases h2 : s[p + 2]? with
            | none => rw [h2] at s2; exact loopR_inr s2
            | some c2 =>
              rw [h2] at s2
              have b2 := bytes_get hs h2
              simp only at s2
              have p14 : (2 : Int) ^ (7 * 2) = 16384 := by decide
              rw [p14] at s2
              simp only
              by_cases z2 : 1048576 < c0 % 128 + c1 % 128 * 128 + c2 % 128 * 16384 ∨ c2 = 0
              · rw [if_pos (by omega)] at s2
                rw [if_pos z2]
                exact loopR_inr s2
              · rw [if_neg (by omega)] at s2
                rw [if_neg z2]
                by_cases k2 : c2 < 128
                · rw [if_pos k2] at s2
                  rw [if_pos k2]
                  refine (loopR_inr s2).trans ?_
                  simp only
                  rw [show 0 + c0 % 128 * 1 + c1 % 128 * 128 + c2 % 128 * 16384 = c0 % 128 + c1 % 128 * 128 + c2 * 16384 by omega]
                · rw [if_neg k2, if_pos trivial] at s2
                  rw [if_neg k2]
                  exact loopR_inr s2

theorem numG_le {s : List Int} {p : Nat} {n : Int} {q : Nat} (h : numG s p = .inr (n, q)) : p < q ∧ q ≤ s.length := by
  unfold numG at h
  cases h0 : s[p]? with
  | none => rw [h0] at h; cases h
  | some c0 =>
    rw [h0] at h
    have l0 := lt_of_get h0
    simp only at h
    split at h
    · cases h; omega
    · cases h1 : s[p + 1]? with
      | none => rw [h1] at h; cases h
      | some c1 =>
        rw [h1] at h
        have l1 := lt_of_get h1
        simp only at h
        split at h
        · cases h
        · split at h
          · cases h; omega
          · cases h2 : s[p + 2]? with
            | none => rw [h2] at h; cases h
            | some c2 =>
              rw [h2] at h
              have l2 := lt_of_get h2
              simp only at h
              split at h
              · cases h
              · split at h
                · cases h; omega
                · cases h
end Fn
end Ev
namespace Ev
open Go
namespace Fn

abbrev GR := (Int × Int × Int) × Int × Bool × Int × Int

def failG (e : Int) : GR := ((0, 0, 0), 0, false, 0, e)
def numsG (s : List Int) : Nat → Nat → Int ⊕ (List Int × Nat)
  | 0, p => .inr ([], p)
  | k + 1, p => match numG s p with
    | .inl e => .inl e
    | .inr (n, q) => match numsG s k q with
      | .inl e => .inl e
      | .inr (l, r) => .inr (n :: l, r)

/-- Bytes as a number, the lowest first. -/
def farL : List Int → Int
  | [] => 0
  | b :: r => b + 256 * farL r
/-- With its sign. -/
def farS (w : Nat) (u : Int) : Int := if w = 1 then (if u < 128 then u else u - 256) else (if u < 2147483648 then u else u - 4294967296)
def wideN (o : Int) (long : Bool) : Nat := if goesB o = true then (if long = true then 4 else 1) else 0
def resG (s : List Int) (long : Bool) (o : Int) (p : Nat) (l : List Int) : GR :=
  if s.length < p + wideN o long then failG 152 else
  if goesB o = true then ((o, 0, l.getD 0 0), farS (wideN o long) (farL ((s.drop p).take (wideN o long))), long, ((p + wideN o long : Nat) : Int), 0) else ((o, l.getD 0 0, l.getD 1 0), 0, false, (p : Int), 0)
def getB (s : List Int) : GR := match s with
  | [] => failG 152
  | c :: r => if knownB (c % 128) = false ∨ (128 ≤ c ∧ goesB (c % 128) = false) then failG 153 else
    match numsG (c :: r) (numI (c % 128)).toNat 1 with
    | .inl e => failG e
    | .inr (l, p) => resG (c :: r) (decide (128 ≤ c)) (c % 128) p l

/-- The answer as the function gives it. -/
def out5 (g : GR) : (Int × Int × Int) × Int × Bool × Int × Int × Unit := (g.1, g.2.1, g.2.2.1, g.2.2.2.1, g.2.2.2.2, ())

theorem farL_bound : ∀ (l : List Int), (∀ b, b ∈ l → 0 ≤ b ∧ b < 256) → 0 ≤ farL l ∧ farL l < 256 ^ l.length
  | [], _ => by simp [farL]
  | b :: r, h => by
    obtain ⟨h1, h2⟩ := h b (List.mem_cons_self ..)
    obtain ⟨h3, h4⟩ := farL_bound r fun x hx => h x (List.mem_cons_of_mem _ hx)
    simp only [farL, List.length_cons, Int.pow_succ]
    omega

theorem farL_snoc (b : Int) : ∀ (l : List Int), farL (l ++ [b]) = farL l + b * 256 ^ l.length
  | [] => by simp [farL]
  | x :: l => by
    simp only [List.cons_append, farL, farL_snoc b l, List.length_cons, Int.pow_succ]
    rw [Int.mul_add]
    have : 256 * (b * 256 ^ l.length) = b * (256 ^ l.length * 256) := by
      rw [Int.mul_comm 256, Int.mul_assoc]
    rw [this]
    omega

theorem pow256 (i : Nat) : (2 : Int) ^ (8 * i) = 256 ^ i := by rw [Int.pow_mul]; rfl

theorem take_snoc {s : List Int} {p i : Nat} {b : Int} (h : s[p + i]? = some b) : (s.drop p).take (i + 1) = (s.drop p).take i ++ [b] := by
  rw [List.take_add_one, List.getElem?_drop, h]; rfl

theorem take_len {s : List Int} {p i : Nat} (h : p + i ≤ s.length) : ((s.drop p).take i).length = i := by
  rw [List.length_take, List.length_drop]; omega

/-- How far it goes. -/
theorem far_step {s : List Int} (hs : bytesOk s) (long : Bool) (o : Int) (p w i : Nat) (hw : w ≤ 4) (hi : i < w) (hp : p + w ≤ s.length) (j1 j2 j3 : Int) (L : Sl Int) :
    l2_op_Get (s, long, o, (p : Int), (w : Int), farL ((s.drop p).take i), (w : Int), (i : Int), j1, j2, j3, L, ()) = some (.inl (s, long, o, (p : Int), (w : Int), farL ((s.drop p).take (i + 1)), (w : Int), ((i + 1 : Nat) : Int), j1, j2, j3, L, ())) := by
  have hlen := hs.1
  have hx : s[p + i]? = some s[p + i] := List.getElem?_eq_getElem (by omega)
  have hb := bytes_get hs hx
  generalize s[p + i] = x at hx hb
  have hl := take_len (s := s) (p := p) (i := i) (by omega)
  have hf := farL_bound ((s.drop p).take i) (fun b hb => hs.2 b (List.mem_of_mem_drop (List.mem_of_mem_take hb)))
  rw [hl] at hf
  have hf2 := farL_bound ((s.drop p).take (i + 1)) (fun b hb => hs.2 b (List.mem_of_mem_drop (List.mem_of_mem_take hb)))
  rw [take_len (by omega), take_snoc hx, farL_snoc, hl] at hf2
  rw [take_snoc hx, farL_snoc, hl]
  have h4 : (256 : Int) ^ (i + 1) ≤ 4294967296 := by
    have : i = 0 ∨ i = 1 ∨ i = 2 ∨ i = 3 := by omega
    rcases this with rfl | rfl | rfl | rfl <;> decide
  have hx0 : 0 ≤ x * 256 ^ i := Int.mul_nonneg hb.1 (Int.pow_nonneg (by omega))
  unfold l2_op_Get
  simp only
  rw [cnd_lt, if_pos (by omega), addI_i64 (by omega) (by omega), show ((p : Int) + (i : Int)) = ((p + i : Nat) : Int) by omega, at?_nat hx, bnd_some_eq, mulI_i64 (by omega) (by omega), show (8 * (i : Int)) = ((8 * i : Nat) : Int) by omega, cvI_u32,
    show x % 4294967296 = x by omega, shlI_u32 (8 * i) (by omega) (by rw [pow256]; exact hx0) (by rw [pow256]; omega), bnd_some_eq, orI_u32 (8 * i) hf.1 (by rw [pow256]; exact hf.2) hb.1 (by rw [pow256]; omega), pow256, addI_i64 (by omega) (by omega)]
  rfl

theorem far_loop {s : List Int} (hs : bytesOk s) (long : Bool) (o : Int) (p w : Nat) (hw : w ≤ 4) (hp : p + w ≤ s.length) (j1 j2 j3 : Int) (L : Sl Int) : ∀ (k i : Nat), i + k = w →
    loopR l2_op_Get (s, long, o, (p : Int), (w : Int), farL ((s.drop p).take i), (w : Int), (i : Int), j1, j2, j3, L, ()) = loopR l2_op_Get (s, long, o, (p : Int), (w : Int), farL ((s.drop p).take w), (w : Int), (w : Int), j1, j2, j3, L, ()) := by
  intro k
  induction k with
  | zero => intro i hk; rw [show i = w by omega]
  | succ k ih => intro i hk; rw [loopR_inl (far_step hs long o p w i hw (by omega) hp j1 j2 j3 L), ih (i + 1) (by omega)]

theorem cutN2 {i : Int} (h : 0 ≤ i ∧ i ≤ 1) : cutN 2 (sumI i 1) = some (i + 1).toNat := by
  unfold cutN sumI; rw [if_pos (by omega)]

/-- The end of what is got. -/
theorem tail_spec {s : List Int} (hs : bytesOk s) (long : Bool) (o : Int) (p : Nat) (hp : p ≤ s.length) (k num j1 j2 j3 a b : Int) (nl : Bool) (hk : num ≤ k) :
    l3_op_Get (s, long, o, (p : Int), num, k, j1, j2, j3, ⟨nl, [a, b]⟩, ()) = some (.inr (out5 (resG s long o p [a, b]))) := by
  have hlen := hs.1
  unfold l3_op_Get
  simp only
  rw [cnd_lt, if_neg (by omega), wide_spec, bnd_some_eq]
  have hw : (if goesB o = true then if long = true then (4 : Int) else 1 else 0) = (wideN o long : Int) := by
    unfold wideN; split <;> (try split) <;> rfl
  have hw4 : wideN o long ≤ 4 := by unfold wideN; split <;> (try split) <;> omega
  simp only [hw]
  unfold resG
  rw [subI_i64 (by unfold lenI; omega) (by unfold lenI; omega), cnd_lt]
  by_cases hsh : s.length < p + wideN o long
  · rw [if_pos (by unfold lenI; omega), if_pos hsh, u_op_Get_1, bnd_some_eq]
    rfl
  · rw [if_neg (by unfold lenI; omega), if_neg hsh]
    have hfl := far_loop hs long o p (wideN o long) hw4 (by omega) j1 j2 j3 ⟨nl, [a, b]⟩ (wideN o long) 0 (by omega)
    simp only [List.take_zero, farL] at hfl
    rw [show ((0 : Nat) : Int) = 0 from rfl] at hfl
    rw [hfl]
    have hfb := farL_bound ((s.drop p).take (wideN o long)) (fun b hb => hs.2 b (List.mem_of_mem_drop (List.mem_of_mem_take hb)))
    rw [take_len (by omega)] at hfb
    generalize farL ((s.drop p).take (wideN o long)) = u at hfb
    refine loopR_inr ?_
    unfold l2_op_Get
    simp only
    rw [cnd_lt, if_neg (by omega)]
    have c0 : cutN 2 (sumI 0 1) = some 1 := rfl
    have c1 : cutN 2 (sumI 1 1) = some 2 := rfl
    have k0 : okAt ([a, b] : List Int) 0 = some 0 := rfl
    have k1 : okAt ([a, b] : List Int) 1 = some 1 := rfl
    have n0 : nth ([a, b] : List Int) 0 = some a := rfl
    have n1 : nth ([a, b] : List Int) 1 = some b := rfl
    simp only [c0, c1, bnd_some_eq, k0, k1, n0, n1, cnd_eq]
    rw [addI_i64 (by omega) (by omega)]
    unfold wideN at hfb ⊢
    cases hg : goesB o with
    | false => simp [out5]
    | true =>
      rw [hg] at hfb
      cases long
      · simp only [if_true, if_false, Bool.false_eq_true] at hfb ⊢
        have e1 : cvI .i8 u = if u < 128 then u else u - 256 := by
          unfold cvI; rw [wrap_i8, Int.emod_eq_of_lt hfb.1 (by simpa using hfb.2)]
        have e2 : cvI .i64 (if u < 128 then u else u - 256) = if u < 128 then u else u - 256 := by
          have := hfb.2
          simp at this
          exact cvI_i64 (by split <;> omega) (by split <;> omega)
        rw [e1, e2]
        rfl
      · simp only [if_true] at hfb ⊢
        have hb4 : u < 4294967296 := by have := hfb.2; simpa using this
        have e1 : cvI .i32 u = if u < 2147483648 then u else u - 4294967296 := by
          unfold cvI; rw [wrap_i32, Int.emod_eq_of_lt hfb.1 hb4]
        have e2 : cvI .i64 (if u < 2147483648 then u else u - 4294967296) = if u < 2147483648 then u else u - 4294967296 :=
          cvI_i64 (by split <;> omega) (by split <;> omega)
        rw [e1, e2]
        rfl

/-- One more number. -/
theorem l3_num {s : List Int} (hs : bytesOk s) (long : Bool) (o : Int) (p kk : Nat) (hp : p ≤ s.length) (num j1 j2 j3 : Int) (L : Sl Int) (hk : (kk : Int) < num) (hkk : kk ≤ 1) (hL : L.l.length = 2) :
    l3_op_Get (s, long, o, (p : Int), num, (kk : Int), j1, j2, j3, L, ()) = match numG s p with
      | .inl e => some (.inr (out5 (failG e)))
      | .inr (n, q) => some (.inl (s, long, o, (q : Int), num, ((kk + 1 : Nat) : Int), j1, j2, j3, ⟨L.nil, L.l.set kk n⟩, ())) := by
  unfold l3_op_Get
  simp only
  rw [cnd_lt, if_pos hk]
  have := get_num hs long o p kk num (kk : Int) j1 j2 j3 L hkk hL hp (by omega)
  rw [this]
  cases numG s p with
  | inl e => rfl
  | inr r => obtain ⟨n, q⟩ := r; rfl

theorem get_spec {s : List Int} (hs : bytesOk s) : f_op_Get (s, ()) = some (out5 (getB s)) := by
  rw [u_op_Get]
  cases s with
  | nil => rw [cnd_eqS, if_pos rfl, u_op_Get_1, bnd_some_eq]; rfl
  | cons c r =>
    have hc := hs.2 c (List.mem_cons_self ..)
    have hlen := hs.1
    rw [cnd_eqS, if_neg (by simp)]
    have a0 : at? (c :: r) 0 = some c := rfl
    rw [a0, bnd_some_eq, bnd_some_eq, remI_pos hc.1 (by omega), bnd_some_eq, cvI_i64 (by omega) (by omega), known_spec, bnd_some_eq, goes_spec]
    simp only [bnd_some_eq]
    unfold getB
    have t : bnd (cnd (notB (knownB (c % 128))) (some true) (cnd (leI 128 c) (some (notB (goesB (c % 128)))) (some false))) = fun (F : Bool → Option ((Int × Int × Int) × Int × Bool × Int × Int × Unit)) => F (decide (knownB (c % 128) = false ∨ (128 ≤ c ∧ goesB (c % 128) = false))) := by
      funext F
      rw [cnd_le, cnd_not]
      cases knownB (c % 128) <;> cases goesB (c % 128) <;> by_cases h : 128 ≤ c <;> simp [h, cnd, bnd, notB]
    rw [t]
    simp only [cnd_dec]
    by_cases hbad : knownB (c % 128) = false ∨ (128 ≤ c ∧ goesB (c % 128) = false)
    · rw [if_pos hbad, if_pos hbad, u_op_Get_1, bnd_some_eq]; rfl
    · rw [if_neg hbad, if_neg hbad, nums_spec, bnd_some_eq]
      have hl : leI 128 c = decide (128 ≤ c) := rfl
      rw [hl]
      generalize decide (128 ≤ c) = long
      have hn := numI_lt (c % 128)
      have : numI (c % 128) = 0 ∨ numI (c % 128) = 1 ∨ numI (c % 128) = 2 := by omega
      have one : (1 : Int) = ((1 : Nat) : Int) := rfl
      have p1 : 1 ≤ (c :: r).length := by simp
      rcases this with h | h | h
      · rw [h]
        have := tail_spec hs long (c % 128) 1 p1 0 0 0 0 0 0 0 false (by omega)
        rw [show ((1 : Nat) : Int) = 1 from rfl] at this
        rw [loopR_inr this]
        simp only [Int.toNat_zero, numsG]
        rfl
      · rw [h]
        have l1 := l3_num hs long (c % 128) 1 0 p1 1 0 0 0 ⟨false, [0, 0]⟩ (by omega) (by omega) rfl
        rw [show ((1 : Nat) : Int) = 1 from rfl, show ((0 : Nat) : Int) = 0 from rfl] at l1
        simp only [show (1 : Int).toNat = 1 from rfl, numsG]
        cases hg : numG (c :: r) 1 with
        | inl e => rw [hg] at l1; rw [loopR_inr l1]
        | inr x =>
          obtain ⟨n, q⟩ := x
          rw [hg] at l1
          have hq := numG_le hg
          rw [loopR_inl l1]
          have := tail_spec hs long (c % 128) q hq.2 1 1 0 0 0 n 0 false (by omega)
          refine (loopR_inr this).trans ?_
          rfl
      · rw [h]
        have l1 := l3_num hs long (c % 128) 1 0 p1 2 0 0 0 ⟨false, [0, 0]⟩ (by omega) (by omega) rfl
        rw [show ((1 : Nat) : Int) = 1 from rfl, show ((0 : Nat) : Int) = 0 from rfl] at l1
        simp only [show (2 : Int).toNat = 2 from rfl, numsG]
        cases hg : numG (c :: r) 1 with
        | inl e => rw [hg] at l1; rw [loopR_inr l1]
        | inr x =>
          obtain ⟨n, q⟩ := x
          rw [hg] at l1
          have hq := numG_le hg
          rw [loopR_inl l1]
          have l2 := l3_num hs long (c % 128) q 1 hq.2 2 0 0 0 ⟨false, [n, 0]⟩ (by omega) (by omega) rfl
          simp only
          cases hg2 : numG (c :: r) q with
          | inl e => rw [hg2] at l2; exact loopR_inr l2
          | inr y =>
            obtain ⟨m, q2⟩ := y
            rw [hg2] at l2
            have hq2 := numG_le hg2
            refine (loopR_inl l2).trans ?_
            have := tail_spec hs long (c % 128) q2 hq2.2 2 2 0 0 0 n m false (by omega)
            refine (loopR_inr this).trans ?_
            rfl
end Fn
end Ev
namespace Ev
open Go
namespace Fn

theorem rfar_step {s : List Int} (hs : bytesOk s) (o : Int) (long : Bool) (p w i : Nat) (hw : w ≤ 4) (hi : i < w) (hp : p + w ≤ s.length) (j1 j2 j3 j4 : Int) (b5 : Bool) (j6 j7 : Int) (L : Sl Int) :
    l1_ref15_Get (s, o, long, (p : Int), (w : Int), farL ((s.drop p).take i), 256 ^ i, (i : Int), j1, j2, j3, j4, b5, j6, j7, L, ()) = some (.inl (s, o, long, (p : Int), (w : Int), farL ((s.drop p).take (i + 1)), 256 ^ (i + 1), ((i + 1 : Nat) : Int), j1, j2, j3, j4, b5, j6, j7, L, ())) := by
  have hlen := hs.1
  have hx : s[p + i]? = some s[p + i] := List.getElem?_eq_getElem (by omega)
  have hb := bytes_get hs hx
  generalize s[p + i] = x at hx hb
  have hl := take_len (s := s) (p := p) (i := i) (by omega)
  have hf := farL_bound ((s.drop p).take i) (fun b hb => hs.2 b (List.mem_of_mem_drop (List.mem_of_mem_take hb)))
  rw [hl] at hf
  have hf2 := farL_bound ((s.drop p).take (i + 1)) (fun b hb => hs.2 b (List.mem_of_mem_drop (List.mem_of_mem_take hb)))
  rw [take_len (by omega), take_snoc hx, farL_snoc, hl] at hf2
  rw [take_snoc hx, farL_snoc, hl]
  have h4 : (256 : Int) ^ (i + 1) ≤ 4294967296 ∧ 1 ≤ (256 : Int) ^ i ∧ (256 : Int) ^ (i + 1) = 256 * 256 ^ i := by
    have : i = 0 ∨ i = 1 ∨ i = 2 ∨ i = 3 := by omega
    rcases this with rfl | rfl | rfl | rfl <;> decide
  have hx0 : 0 ≤ x * 256 ^ i := Int.mul_nonneg hb.1 (Int.pow_nonneg (by omega))
  unfold l1_ref15_Get
  simp only
  rw [cnd_lt, if_pos (by omega), addI_i64 (by omega) (by omega), show ((p : Int) + (i : Int)) = ((p + i : Nat) : Int) by omega, at?_nat hx, bnd_some_eq, cvI_i64 (by omega) (by omega), mulI_i64 (by omega) (by omega), addI_i64 (by omega) (by omega), mulI_i64 (by omega) (by omega), addI_i64 (by omega) (by omega), h4.2.2]
  rfl

theorem rfar_loop {s : List Int} (hs : bytesOk s) (o : Int) (long : Bool) (p w : Nat) (hw : w ≤ 4) (hp : p + w ≤ s.length) (j1 j2 j3 j4 : Int) (b5 : Bool) (j6 j7 : Int) (L : Sl Int) : ∀ (k i : Nat), i + k = w →
    loopR l1_ref15_Get (s, o, long, (p : Int), (w : Int), farL ((s.drop p).take i), 256 ^ i, (i : Int), j1, j2, j3, j4, b5, j6, j7, L, ()) = loopR l1_ref15_Get (s, o, long, (p : Int), (w : Int), farL ((s.drop p).take w), 256 ^ w, (w : Int), j1, j2, j3, j4, b5, j6, j7, L, ()) := by
  intro k
  induction k with
  | zero => intro i hk; rw [show i = w by omega]
  | succ k ih => intro i hk; rw [loopR_inl (rfar_step hs o long p w i hw (by omega) hp j1 j2 j3 j4 b5 j6 j7 L), ih (i + 1) (by omega)]

theorem rfar_end {s : List Int} (hs : bytesOk s) (o : Int) (long : Bool) (p w : Nat) (hw : w = 1 ∨ w = 4) (hp : p + w ≤ s.length) (j1 j2 j3 j4 : Int) (b5 : Bool) (j6 j7 a : Int) (r : List Int) (nl : Bool) :
    loopR l1_ref15_Get (s, o, long, (p : Int), (w : Int), 0, 1, 0, j1, j2, j3, j4, b5, j6, j7, ⟨nl, a :: r⟩, ()) = some (.inr (((o, 0, a), farS w (farL ((s.drop p).take w)), long, ((p + w : Nat) : Int), 0), ())) := by
  have hlen := hs.1
  have := rfar_loop hs o long p w (by omega) hp j1 j2 j3 j4 b5 j6 j7 ⟨nl, a :: r⟩ w 0 (by omega)
  simp only [List.take_zero, farL, Int.pow_zero] at this
  rw [show ((0 : Nat) : Int) = 0 from rfl] at this
  rw [this]
  have hfb := farL_bound ((s.drop p).take w) (fun b hb => hs.2 b (List.mem_of_mem_drop (List.mem_of_mem_take hb)))
  rw [take_len hp] at hfb
  generalize farL ((s.drop p).take w) = u at hfb
  refine loopR_inr ?_
  unfold l1_ref15_Get
  simp only
  rw [cnd_lt, if_neg (by omega)]
  have k0 : okAt (a :: r : List Int) 0 = some 0 := by
    unfold okAt; rw [if_pos (by simp)]; rfl
  have n0 : nth (a :: r : List Int) 0 = some a := rfl
  have f1 : farS 1 u = if u < 128 then u else u - 256 := rfl
  have f4 : farS 4 u = if u < 2147483648 then u else u - 4294967296 := rfl
  rcases hw with rfl | rfl
  · have q : quoI .i64 (256 ^ 1) 2 = some 128 := by decide
    rw [q, bnd_some_eq, cnd_le]
    have p1 : (256 : Int) ^ 1 = 256 := by decide
    rw [p1] at hfb ⊢
    by_cases h : u < 128
    · rw [if_neg (by omega)]
      simp only [bnd_some_eq, k0, n0]
      rw [addI_i64 (by omega) (by omega), f1, if_pos h]
      rfl
    · rw [if_pos (by omega)]
      simp only [bnd_some_eq, k0, n0]
      rw [addI_i64 (by omega) (by omega), f1, if_neg h, subI_i64 (by omega) (by omega)]
      rfl
  · have q : quoI .i64 (256 ^ 4) 2 = some 2147483648 := by decide
    rw [q, bnd_some_eq, cnd_le]
    have p1 : (256 : Int) ^ 4 = 4294967296 := by decide
    rw [p1] at hfb ⊢
    by_cases h : u < 2147483648
    · rw [if_neg (by omega)]
      simp only [bnd_some_eq, k0, n0]
      rw [addI_i64 (by omega) (by omega), f4, if_pos h]
      rfl
    · rw [if_pos (by omega)]
      simp only [bnd_some_eq, k0, n0]
      rw [addI_i64 (by omega) (by omega), f4, if_neg h, subI_i64 (by omega) (by omega)]
      rfl

theorem rtail_spec {s : List Int} (hs : bytesOk s) (o : Int) (long : Bool) (p : Nat) (hp : p ≤ s.length) (k j1 j2 j3 j4 : Int) (b5 : Bool) (j6 j7 : Int) (L : Sl Int) (hk : numI o ≤ k) (hL : L.l.length ≤ 2) :
    l2_ref15_Get (s, o, long, (p : Int), k, j1, j2, j3, j4, b5, j6, j7, L, ()) = some (.inr (resG s long o p L.l, ())) := by
  have hlen := hs.1
  unfold l2_ref15_Get
  simp only
  rw [rnums_spec, bnd_some_eq, cnd_lt, if_neg (by omega), fit_ok (by simp only [sumI, lenI]; simp; omega), bnd_some_eq, rgoes_spec, bnd_some_eq]
  obtain ⟨x, y, r, hl, hx, hy⟩ : ∃ x y r, L.l ++ [0, 0] = x :: y :: r ∧ x = L.l.getD 0 0 ∧ y = L.l.getD 1 0 := by
    match hLl : L.l with
    | [] => exact ⟨0, 0, [], rfl, rfl, rfl⟩
    | [a] => exact ⟨a, 0, [0], rfl, rfl, rfl⟩
    | a :: b :: r => exact ⟨a, b, r ++ [0, 0], rfl, rfl, rfl⟩
  have happ : app L.l ([0, 0] : List Int) = x :: y :: r := hl
  rw [happ]
  have k0 : okAt (x :: y :: r : List Int) 0 = some 0 := by
    unfold okAt; rw [if_pos (by simp; omega)]; rfl
  have k1 : okAt (x :: y :: r : List Int) 1 = some 1 := by
    unfold okAt; rw [if_pos (by simp; omega)]; rfl
  have n0 : nth (x :: y :: r : List Int) 0 = some x := rfl
  have n1 : nth (x :: y :: r : List Int) 1 = some y := rfl
  unfold resG wideN
  cases hg : goesB o with
  | false =>
    simp only [notB, Bool.not_false, cnd_true, k0, k1, n0, n1, bnd_some_eq]
    rw [hx, hy]
    simp only [Bool.false_eq_true, if_false, Nat.add_zero]
    rw [if_neg (by omega)]
  | true =>
    simp only [notB, Bool.not_true, cnd_false]
    cases long
    · simp only [cnd_false, bnd_some_eq, if_true, Bool.false_eq_true, if_false]
      rw [addI_i64 (by omega) (by omega), cnd_lt]
      by_cases h : s.length < p + 1
      · rw [if_pos (by unfold lenI; omega), if_pos h]; rfl
      · rw [if_neg (by unfold lenI; omega), if_neg h]
        have := rfar_end hs o false p 1 (.inl rfl) (by omega) j1 j2 j3 j4 b5 j6 j7 x (y :: r) (andB L.nil (isE ([0, 0] : List Int)))
        rw [hx] at this
        rw [hx]
        exact this
    · simp only [cnd_true, bnd_some_eq, if_true]
      rw [addI_i64 (by omega) (by omega), cnd_lt]
      by_cases h : s.length < p + 4
      · rw [if_pos (by unfold lenI; omega), if_pos h]; rfl
      · rw [if_neg (by unfold lenI; omega), if_neg h]
        have := rfar_end hs o true p 4 (.inr rfl) (by omega) j1 j2 j3 j4 b5 j6 j7 x (y :: r) (andB L.nil (isE ([0, 0] : List Int)))
        rw [hx] at this
        rw [hx]
        exact this

theorem rl2_num {s : List Int} (hs : bytesOk s) (o : Int) (long : Bool) (p kk : Nat) (hp : p ≤ s.length) (j1 j2 j3 j4 : Int) (b5 : Bool) (j6 j7 : Int) (L : Sl Int) (hk : (kk : Int) < numI o) (hkk : kk ≤ 10) (hL : L.l.length ≤ 10) :
    l2_ref15_Get (s, o, long, (p : Int), (kk : Int), j1, j2, j3, j4, b5, j6, j7, L, ()) = match numG s p with
      | .inl e => some (.inr (if e = 0 then (resG s long o p L.l, ()) else (failG e, ())))
      | .inr (n, q) => some (.inl (s, o, long, (q : Int), ((kk + 1 : Nat) : Int), j1, j2, j3, j4, b5, j6, j7, ⟨false, L.l ++ [n]⟩, ())) := by
  have hne : ∀ e, numG s p = .inl e → e = 152 ∨ e = 153 := by
    intro e h
    unfold numG at h
    split at h
    · cases h; exact .inl rfl
    · split at h
      · cases h
      · split at h
        · cases h; exact .inl rfl
        · split at h
          · cases h; exact .inr rfl
          · split at h
            · cases h
            · split at h
              · cases h; exact .inl rfl
              · split at h
                · cases h; exact .inr rfl
                · split at h
                  · cases h
                  · cases h; exact .inr rfl
  unfold l2_ref15_Get
  simp only
  rw [rnums_spec, bnd_some_eq, cnd_lt, if_pos hk, rnum_spec hs p hp]
  cases hg : numG s p with
  | inl e =>
    simp only [bnd_some_eq]
    have h0 : e ≠ 0 := by rcases hne e hg with rfl | rfl <;> decide
    rw [cnd_not, cnd_eq, if_neg h0, if_neg h0]
    rfl
  | inr x =>
    obtain ⟨n, q⟩ := x
    simp only [bnd_some_eq]
    rw [cnd_not, cnd_eq, if_pos rfl, fit_ok (by simp only [sumI, lenI]; simp; omega), bnd_some_eq, addI_i64 (by omega) (by omega)]
    simp [andB, isE, app]

theorem numG_err {s : List Int} {p : Nat} {e : Int} (h : numG s p = .inl e) : e ≠ 0 := by
  unfold numG at h
  split at h
  · cases h; decide
  · split at h
    · cases h
    · split at h
      · cases h; decide
      · split at h
        · cases h; decide
        · split at h
          · cases h
          · split at h
            · cases h; decide
            · split at h
              · cases h; decide
              · split at h
                · cases h
                · cases h; decide

theorem rget_spec {s : List Int} (hs : bytesOk s) : f_ref15_Get (s, ()) = some (getB s, ()) := by
  rw [u_ref15_Get]
  cases s with
  | nil => rw [cnd_eqS, if_pos rfl]; rfl
  | cons c r =>
    have hc := hs.2 c (List.mem_cons_self ..)
    have hlen := hs.1
    rw [cnd_eqS, if_neg (by simp)]
    have a0 : at? (c :: r) 0 = some c := rfl
    rw [a0, bnd_some_eq, remI_pos hc.1 (by omega), bnd_some_eq, bnd_some_eq, cvI_i64 (by omega) (by omega), rgoes_spec]
    simp only [bnd_some_eq]
    unfold getB
    have t : bnd (cnd (ltI 20 (c % 128)) (some true) (cnd (ltI 127 c) (some (notB (goesB (c % 128)))) (some false))) = fun (F : Bool → Option (((Int × Int × Int) × Int × Bool × Int × Int) × Unit)) => F (decide (knownB (c % 128) = false ∨ (128 ≤ c ∧ goesB (c % 128) = false))) := by
      funext F
      rw [cnd_lt, cnd_lt]
      have hk : knownB (c % 128) = decide (c % 128 ≤ 20) := by
        unfold knownB; exact decide_eq_decide.2 (by omega)
      rw [hk]
      by_cases h1 : 20 < c % 128
      · rw [if_pos h1]
        have : ¬ c % 128 ≤ 20 := by omega
        simp [this, bnd]
      · rw [if_neg h1]
        have : c % 128 ≤ 20 := by omega
        by_cases h2 : 127 < c
        · have : 128 ≤ c := by omega
          rw [if_pos h2]
          cases goesB (c % 128) <;> simp [*, bnd, notB]
        · have : ¬ 128 ≤ c := by omega
          rw [if_neg h2]
          simp [*, bnd]
    rw [t]
    simp only [cnd_dec]
    by_cases hbad : knownB (c % 128) = false ∨ (128 ≤ c ∧ goesB (c % 128) = false)
    · rw [if_pos hbad, if_pos hbad]; rfl
    · rw [if_neg hbad, if_neg hbad]
      have hl : ltI 127 c = decide (128 ≤ c) := decide_eq_decide.2 (by omega)
      rw [hl]
      generalize decide (128 ≤ c) = long
      have hn := numI_lt (c % 128)
      have : numI (c % 128) = 0 ∨ numI (c % 128) = 1 ∨ numI (c % 128) = 2 := by omega
      have p1 : 1 ≤ (c :: r).length := by simp
      rcases this with h | h | h
      · rw [h]
        have := rtail_spec hs (c % 128) long 1 p1 0 0 0 0 0 false 0 0 ⟨false, []⟩ (by omega) (by simp)
        rw [show ((1 : Nat) : Int) = 1 from rfl] at this
        rw [loopR_inr this]
        simp only [Int.toNat_zero, numsG]
      · rw [h]
        have l1 := rl2_num hs (c % 128) long 1 0 p1 0 0 0 0 false 0 0 ⟨false, []⟩ (by omega) (by omega) (by simp)
        rw [show ((1 : Nat) : Int) = 1 from rfl, show ((0 : Nat) : Int) = 0 from rfl] at l1
        simp only [show (1 : Int).toNat = 1 from rfl, numsG]
        cases hg : numG (c :: r) 1 with
        | inl e => rw [hg] at l1; simp only [if_neg (numG_err hg)] at l1; rw [loopR_inr l1]
        | inr x =>
          obtain ⟨n, q⟩ := x
          rw [hg] at l1
          have hq := numG_le hg
          rw [loopR_inl l1]
          have := rtail_spec hs (c % 128) long q hq.2 1 0 0 0 0 false 0 0 ⟨false, [n]⟩ (by omega) (by simp)
          exact loopR_inr this
      · rw [h]
        have l1 := rl2_num hs (c % 128) long 1 0 p1 0 0 0 0 false 0 0 ⟨false, []⟩ (by omega) (by omega) (by simp)
        rw [show ((1 : Nat) : Int) = 1 from rfl, show ((0 : Nat) : Int) = 0 from rfl] at l1
        simp only [show (2 : Int).toNat = 2 from rfl, numsG]
        cases hg : numG (c :: r) 1 with
        | inl e => rw [hg] at l1; simp only [if_neg (numG_err hg)] at l1; rw [loopR_inr l1]
        | inr x =>
          obtain ⟨n, q⟩ := x
          rw [hg] at l1
          have hq := numG_le hg
          rw [loopR_inl l1]
          have l2 := rl2_num hs (c % 128) long q 1 hq.2 0 0 0 0 false 0 0 ⟨false, [n]⟩ (by omega) (by omega) (by simp)
          simp only
          cases hg2 : numG (c :: r) q with
          | inl e => rw [hg2] at l2; simp only [if_neg (numG_err hg2)] at l2; exact loopR_inr l2
          | inr y =>
            obtain ⟨m, q2⟩ := y
            rw [hg2] at l2
            have hq2 := numG_le hg2
            refine (loopR_inl l2).trans ?_
            have := rtail_spec hs (c % 128) long q2 hq2.2 2 0 0 0 0 false 0 0 ⟨false, [n, m]⟩ (by omega) (by simp)
            exact loopR_inr this
end Fn
end Ev
