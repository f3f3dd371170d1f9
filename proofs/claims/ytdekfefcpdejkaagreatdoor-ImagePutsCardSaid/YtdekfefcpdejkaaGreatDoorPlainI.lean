/- Layer 18: bytes, the reader. No statement of its own about the program. -/
import Derived.Test.YtdekfefcpdejkaaGreatDoorPlainH
namespace Ev
open Go
namespace Fn

/-! The lowest bytes of a number. -/
def lowN : Nat → Int → List Int
  | 0, _ => []
  | k + 1, n => n % 256 :: lowN k (n / 256)

theorem lowN_len : ∀ (k : Nat) (n : Int), (lowN k n).length = k
  | 0, _ => rfl
  | k + 1, n => by simp [lowN, lowN_len k]

theorem lowN_byte : ∀ (k : Nat) (n : Int) (b : Int), b ∈ lowN k n → 0 ≤ b ∧ b < 256
  | k + 1, n, b, h => by
    rcases List.mem_cons.1 h with rfl | h
    · omega
    · exact lowN_byte k _ b h

theorem cvI_u64 {n : Int} (h0 : 0 ≤ n) (h : n < 18446744073709551616) : cvI .u64 n = n := wrap_u64 h0 (by omega)

theorem inK_u64 {n : Int} (h0 : 0 ≤ n) (h : n < 18446744073709551616) : inK .u64 n := by
  simp [inK, IntKind.min, IntKind.max, IntKind.signed, IntKind.bits]
  omega

theorem shrI_u64 {a : Int} (s : Nat) (hs : s ≤ 64) : shrI .u64 a (s : Int) = some (a / 2 ^ s) := by
  unfold shrI
  rw [if_neg (by omega)]
  have : min (s : Int).toNat IntKind.u64.bits = s := by
    show min ((s : Int).toNat) 64 = s
    simp; omega
  rw [this, Int.fdiv_eq_ediv_of_nonneg _ (Int.pow_nonneg (by omega))]

theorem low_step (n : Int) (many : Nat) (h8 : many ≤ 8) (i : Nat) (hi : i < many) (b : Sl Int) (hb : b.l.length ≤ 100000000) : l1_image_low (n, (many : Int), (i : Int), b, ()) =
    some (.inl (n, (many : Int), ((i + 1 : Nat) : Int), ⟨false, b.l ++ [n / 256 ^ i % 256]⟩, ())) := by
  unfold l1_image_low
  simp only
  have hm : mulI .i64 8 (i : Int) = ((8 * i : Nat) : Int) := by rw [mulI_i64 (by omega) (by omega)]; omega
  have e2 : (2 : Int) ^ (8 * i) = 256 ^ i := by rw [Int.pow_mul]; rfl
  rw [cnd_lt, if_pos (by omega), hm, shrI_u64 (8 * i) (by omega), bnd_some_eq, fit_ok (by simp only [sumI, lenI, List.length_singleton]; omega), bnd_some_eq, add1 (by omega), cvI_u8, e2]
  show some (Sum.inl (_, _, _, (⟨andB b.nil false, _⟩ : Sl Int), ())) = _
  have : andB b.nil false = false := by cases b.nil <;> rfl
  rw [this]
  rfl

theorem low_loop (n : Int) (many : Nat) (h8 : many ≤ 8) : ∀ (m i : Nat) (b : Sl Int), i + m = many → b.l.length ≤ 10000000 + i → ∃ q, loopR l1_image_low (n, (many : Int), (i : Int), b, ()) = some (⟨q, b.l ++ lowN m (n / 256 ^ i)⟩, ()) := by
  intro m
  induction m with
  | zero =>
    intro i b hi hb
    refine ⟨b.nil, loopR_inr ?_⟩
    unfold l1_image_low
    simp only
    rw [cnd_lt, if_neg (by omega)]
    simp [lowN]
  | succ m ih =>
    intro i b hi hb
    obtain ⟨q, hq⟩ := ih (i + 1) ⟨false, b.l ++ [n / 256 ^ i % 256]⟩ (by omega) (by show (b.l ++ _).length ≤ _; rw [List.length_append, List.length_singleton]; omega)
    refine ⟨q, ?_⟩
    rw [loopR_inl (low_step n many h8 i (by omega) b (by omega)), hq]
    have : n / 256 ^ (i + 1) = n / 256 ^ i / 256 := by rw [Int.pow_succ, Int.ediv_ediv_of_nonneg (Int.pow_nonneg (by omega))]
    rw [this]
    show some ((⟨q, b.l ++ [n / 256 ^ i % 256] ++ lowN m (n / 256 ^ i / 256)⟩ : Sl Int), ()) = some ((⟨q, b.l ++ (n / 256 ^ i % 256 :: lowN m (n / 256 ^ i / 256))⟩ : Sl Int), ())
    rw [List.append_assoc]; rfl

theorem im_low (n : Int) (many : Nat) (h8 : many ≤ 8) (b : Sl Int) (hb : b.l.length ≤ 10000000) : ∃ q, f_image_low (n, (many : Int), b, ()) = some (⟨q, b.l ++ lowN many n⟩, ()) := by
  rw [u_image_low]
  obtain ⟨q, hq⟩ := low_loop n many h8 many 0 b (by omega) (by omega)
  refine ⟨q, ?_⟩
  rw [Int.pow_zero, Int.ediv_one] at hq
  exact hq

theorem rlow18_loop (many : Nat) (h8 : many ≤ 8) : ∀ (m i : Nat) (n : Int) (b : Sl Int), i + m = many → b.l.length ≤ i → 0 ≤ n → n < 18446744073709551616 → loopR l1_ref18_low (n, (many : Int), (i : Int), b, ()) = some (b.l ++ lowN m n, ()) := by
  intro m
  induction m with
  | zero =>
    intro i n b hi hb h0 h1
    refine loopR_inr ?_
    unfold l1_ref18_low
    simp only
    rw [cnd_lt, if_neg (by omega)]
    simp [lowN]
  | succ m ih =>
    intro i n b hi hb h0 h1
    have step : l1_ref18_low (n, (many : Int), (i : Int), b, ()) = some (.inl (n / 256, (many : Int), ((i + 1 : Nat) : Int), ⟨false, b.l ++ [n % 256]⟩, ())) := by
      unfold l1_ref18_low
      simp only
      rw [cnd_lt, if_pos (by omega), remI_pos h0 (by omega), bnd_some_eq, fit_ok (by simp only [sumI, lenI, List.length_singleton]; omega), bnd_some_eq, quoI_pos (k := .u64) h0 (by omega) (inK_u64 h0 h1) (by simp [IntKind.min, IntKind.signed]), bnd_some_eq, add1 (by omega), cvI_u8]
      show some (Sum.inl (_, _, _, (⟨andB b.nil false, b.l ++ [n % 256 % 256]⟩ : Sl Int), ())) = _
      have : andB b.nil false = false := by cases b.nil <;> rfl
      rw [this, Int.emod_emod_of_dvd n (Int.dvd_refl 256)]
    rw [loopR_inl step, ih (i + 1) (n / 256) _ (by omega) (by show (b.l ++ _).length ≤ _; rw [List.length_append, List.length_singleton]; omega) (by omega) (by omega)]
    show some (b.l ++ [n % 256] ++ lowN m (n / 256), ()) = some (b.l ++ (n % 256 :: lowN m (n / 256)), ())
    rw [List.append_assoc]; rfl

theorem rf_low (n : Int) (many : Nat) (h8 : many ≤ 8) (h0 : 0 ≤ n) (h1 : n < 18446744073709551616) : f_ref18_low (n, (many : Int), ()) = some (lowN many n, ()) := by
  rw [u_ref18_low]
  exact rlow18_loop many h8 many 0 n ⟨false, []⟩ (by omega) (Nat.le_refl _) h0 h1

/-! An image's bytes. -/
def thingB (x : Thing) : List Int := bif x.1 then 1 :: (x.2.2.length : Int) :: x.2.2 else 0 :: lowN 8 (x.2.1 % 18446744073709551616)
def poolB (p : List Thing) : List Int := (p.map thingB).flatten
def codeB (M : Img) : List Int := asmB M.2.l (rlx M.2.l)
def headI (M : Img) : List Int := [84, 82, 73, 71] ++ lowN 2 (M.1.l.length : Int)
def bodyI (M : Img) : List Int := headI M ++ poolB M.1.l ++ lowN 4 ((codeB M).length : Int) ++ codeB M
def encI (M : Img) : List Int := bodyI M ++ lowN 4 (sumB (bodyI M))

theorem chkM_ok {M : Img} (h : chkM M = 0) : M.1.l.length ≤ 4000 ∧ (∀ x, x ∈ M.1.l → rightT x = true) ∧ strictL M.1.l ∧ chkL M.2.l = 0 := by
  unfold chkM at h
  split at h
  · cases h
  · rename_i hc
    have h1 : ¬ 4000 < M.1.l.length := fun e => hc (.inl e)
    have h2 : chkP none M.1.l = true := by
      cases hp : chkP none M.1.l with
      | true => rfl
      | false => exact absurd (.inr hp) hc
    obtain ⟨h3, h4⟩ := (chkP_none M.1.l).1 h2
    exact ⟨by omega, h3, h4, h⟩

theorem right_len {x : Thing} (h : rightT x = true) (hx : x.1 = true) : x.2.2.length ≤ 200 := by
  unfold rightT at h
  rw [hx, cond_true, Bool.and_eq_true] at h
  exact of_decide_eq_true h.2

theorem thingB_len {x : Thing} (h : rightT x = true) : 2 ≤ (thingB x).length ∧ (thingB x).length ≤ 202 := by
  unfold thingB
  cases hx : x.1 with
  | true => have := right_len h hx; simp; omega
  | false => simp [lowN_len]

theorem poolB_cons (x : Thing) (p : List Thing) : poolB (x :: p) = thingB x ++ poolB p := rfl

theorem poolB_len : ∀ (p : List Thing), (∀ x, x ∈ p → rightT x = true) → (poolB p).length ≤ 202 * p.length
  | [], _ => Nat.le_refl _
  | x :: p, h => by
    rw [poolB_cons, List.length_append, List.length_cons]
    have h1 := thingB_len (h x (List.mem_cons_self ..))
    have h2 := poolB_len p fun y hy => h y (List.mem_cons_of_mem _ hy)
    omega

theorem sumT_range (n c : Int) : 0 ≤ sumT n c ∧ sumT n c < 4294967296 := by
  unfold sumT mulI
  rw [wrap_u32]
  omega
theorem fold_range : ∀ (s : List Int) (n : Int), 0 ≤ n ∧ n < 4294967296 → 0 ≤ s.foldl sumT n ∧ s.foldl sumT n < 4294967296
  | [], _, h => h
  | c :: s, n, _ => fold_range s _ (sumT_range n c)
theorem sumB_range (s : List Int) : 0 ≤ sumB s ∧ sumB s < 4294967296 := fold_range s _ (by omega)

/-- What stands behind the things. -/
def tailI (c b : List Int) : List Int := b ++ lowN 4 (c.length : Int) ++ c ++ lowN 4 (sumB (b ++ lowN 4 (c.length : Int) ++ c))

theorem enc_loop (c : List Int) (hc : c.length ≤ 1000000) (P : Sl Thing) (hP : P.l.length ≤ 4000) (hg : ∀ x, x ∈ P.l → gT x) (hr : ∀ x, x ∈ P.l → rightT x = true) : ∀ (m k : Nat) (b : Sl Int), k + m = P.l.length → b.l.length ≤ 6 + 202 * k →
    loopR l1_image_Encode (c, P, (P.l.length : Int), (k : Int), b, ()) = some (tailI c (b.l ++ poolB (P.l.drop k)), 0, ()) := by
  intro m
  induction m with
  | zero =>
    intro k b hk hb
    refine loopR_inr ?_
    obtain ⟨q1, e1⟩ := im_low (c.length : Int) 4 (by omega) b (by omega)
    have hl1 : (b.l ++ lowN 4 (c.length : Int)).length ≤ 900000 := by rw [List.length_append, lowN_len]; omega
    have hl2 : (b.l ++ lowN 4 (c.length : Int) ++ c).length ≤ 1900000 := by rw [List.length_append]; omega
    have hsr := sumB_range (b.l ++ lowN 4 (c.length : Int) ++ c)
    obtain ⟨q2, e2⟩ := im_low (sumB (b.l ++ lowN 4 (c.length : Int) ++ c)) 4 (by omega) ⟨andB q1 (isE c), b.l ++ lowN 4 (c.length : Int) ++ c⟩ (by show (b.l ++ lowN 4 (c.length : Int) ++ c).length ≤ _; omega)
    unfold l1_image_Encode
    simp only
    rw [cnd_lt, if_neg (by omega)]
    have cv : cvI .u64 (lenI c) = (c.length : Int) := cvI_u64 (by unfold lenI; omega) (by unfold lenI; omega)
    have e1 : f_image_low ((c.length : Int), 4, b, ()) = _ := e1
    have e2 : f_image_low (sumB (b.l ++ lowN 4 (c.length : Int) ++ c), 4, ⟨andB q1 (isE c), b.l ++ lowN 4 (c.length : Int) ++ c⟩, ()) = _ := e2
    have fo : fit (sumI (lenI (b.l ++ lowN 4 (c.length : Int))) (lenI c)) = some () := fit_ok (by unfold sumI lenI; omega)
    simp only [cv, e1, bnd_some_eq, fo, app, im_sum _ (by omega : (b.l ++ lowN 4 (c.length : Int) ++ c).length ≤ 1000000000), cvI_u64 hsr.1 (by omega : sumB (b.l ++ lowN 4 (c.length : Int) ++ c) < _), e2]
    rw [List.drop_eq_nil_of_le (by omega)]
    show _ = some (Sum.inr (tailI c (b.l ++ []), 0, ()))
    rw [List.append_nil]
    rfl
  | succ m ih =>
    intro k b hk hb
    have hlt : k < P.l.length := by omega
    have hx := List.getElem?_eq_getElem hlt
    have hgx := hg _ (List.getElem_mem hlt)
    have hrx := hr _ (List.getElem_mem hlt)
    rw [drop_cons hlt, poolB_cons, ← List.append_assoc]
    have step : ∃ q, l1_image_Encode (c, P, (P.l.length : Int), (k : Int), b, ()) = some (.inl (c, P, (P.l.length : Int), ((k + 1 : Nat) : Int), ⟨q, b.l ++ thingB P.l[k]⟩, ())) := by
      unfold l1_image_Encode
      simp only
      rw [cnd_lt, if_pos (by omega), at?_nat hx, bnd_some_eq]
      cases ht : P.l[k].1 with
      | true =>
        have hl := right_len hrx ht
        have c8 : cvI .u8 (lenI P.l[k].2.2) = (P.l[k].2.2.length : Int) := by rw [cvI_u8]; unfold lenI; omega
        have f1 : fit (sumI (lenI b.l) (lenI [1, (P.l[k].2.2.length : Int)])) = some () := fit_ok (by simp only [sumI, lenI, List.length_cons, List.length_nil]; omega)
        have f2 : fit (sumI (lenI (b.l ++ [1, (P.l[k].2.2.length : Int)])) (lenI P.l[k].2.2)) = some () := fit_ok (by simp only [sumI, lenI, List.length_append, List.length_cons, List.length_nil]; omega)
        simp only [cnd_true, c8, f1, bnd_some_eq, app, f2, add1 (k := k) (by omega)]
        refine ⟨andB (andB b.nil (isE [1, (P.l[k].2.2.length : Int)])) (isE P.l[k].2.2), ?_⟩
        have : thingB P.l[k] = [1, (P.l[k].2.2.length : Int)] ++ P.l[k].2.2 := by unfold thingB; rw [ht]; rfl
        rw [this, ← List.append_assoc]
      | false =>
        have c64 : cvI .u64 P.l[k].2.1 = P.l[k].2.1 % 18446744073709551616 := wrap_u64' _
        have f1 : fit (sumI (lenI b.l) (lenI ([0] : List Int))) = some () := fit_ok (by simp only [sumI, lenI, List.length_cons, List.length_nil]; omega)
        obtain ⟨q, e1⟩ := im_low (P.l[k].2.1 % 18446744073709551616) 8 (by omega) ⟨andB b.nil (isE ([0] : List Int)), b.l ++ [0]⟩ (by show (b.l ++ [0]).length ≤ _; rw [List.length_append, List.length_singleton]; omega)
        have e1 : f_image_low (P.l[k].2.1 % 18446744073709551616, 8, ⟨andB b.nil (isE ([0] : List Int)), b.l ++ [0]⟩, ()) = _ := e1
        simp only [cnd_false, c64, f1, bnd_some_eq, app, e1, add1 (k := k) (by omega)]
        refine ⟨q, ?_⟩
        have : thingB P.l[k] = [0] ++ lowN 8 (P.l[k].2.1 % 18446744073709551616) := by unfold thingB; rw [ht]; rfl
        rw [this, ← List.append_assoc]
    obtain ⟨q, step⟩ := step
    rw [loopR_inl step]
    have htl := thingB_len hrx
    exact ih (k + 1) ⟨q, b.l ++ thingB P.l[k]⟩ (by omega) (by show (b.l ++ thingB P.l[k]).length ≤ _; rw [List.length_append]; omega)

theorem im_enc (M : Img) (hP : M.1.l.length ≤ 1000000) (hC : M.2.l.length ≤ 1000000) (hg : ∀ x, x ∈ M.1.l → gT x) : f_image_Encode (M, ()) = some (if chkM M = 0 then (encI M, 0, ()) else ([], chkM M, ())) := by
  obtain ⟨P, C⟩ := M
  have hP : P.l.length ≤ 1000000 := hP
  rw [u_image_Encode, im_check (P, C) hP hC hg, bnd_some_eq]
  by_cases h0 : chkM (P, C) = 0
  · rw [if_pos h0]
    obtain ⟨h1, h2, h3, h4⟩ := chkM_ok h0
    have h4 : chkL C.l = 0 := h4
    have h1 : P.l.length ≤ 4000 := h1
    rw [h0, assemble_spec C hC, if_pos h4]
    have hab := asmB_ok (good_rlx h4)
    have cv : cvI .u64 (lenI P.l) = (P.l.length : Int) := cvI_u64 (by unfold lenI; omega) (by unfold lenI; omega)
    obtain ⟨q, e1⟩ := im_low (P.l.length : Int) 2 (by omega) ⟨false, [84, 82, 73, 71]⟩ (by show (4 : Nat) ≤ _; omega)
    have e1 : f_image_low ((P.l.length : Int), 2, ⟨false, [84, 82, 73, 71]⟩, ()) = _ := e1
    simp only [eqI_self, notB, Bool.not_true, cnd_false, bnd_some_eq, cv, e1]
    show loopR l1_image_Encode (asmB C.l (rlx C.l), P, (P.l.length : Int), ((0 : Nat) : Int), _, ()) = _
    rw [enc_loop _ hab.1 P h1 hg h2 P.l.length 0 _ (by omega) (by show ([84, 82, 73, 71] ++ lowN 2 (P.l.length : Int)).length ≤ _; rw [List.length_append, lowN_len]; simp)]
    rfl
  · rw [if_neg h0, eqI_ne h0]
    rfl
end Fn
end Ev
namespace Ev
open Go
namespace Fn

theorem dis_len (s : List Int) : (disB s).1.length ≤ 20000 := by
  unfold disB
  split
  · simp
  · rename_i its _
    unfold endB
    split
    · simp
    · split
      · simp
      · split
        · simp only [fixL_len]; omega
        · simp

theorem shlI_u64 {a : Int} (s : Nat) (hs : s ≤ 63) (h1 : 0 ≤ a * 2 ^ s) (h2 : a * 2 ^ s < 18446744073709551616) : shlI .u64 a (s : Int) = some (a * 2 ^ s) := by
  unfold shlI
  rw [if_neg (by omega)]
  have : min (s : Int).toNat IntKind.u64.bits = s := by
    show min ((s : Int).toNat) 64 = s
    simp; omega
  rw [this, wrap_u64', Int.emod_eq_of_lt h1 h2]
theorem orI_u64 {a b : Int} (s : Nat) (h0 : 0 ≤ a) (h1 : a < 2 ^ s) (hb : 0 ≤ b) (h2 : a + b * 2 ^ s < 18446744073709551616) : orI .u64 a (b * 2 ^ s) = a + b * 2 ^ s := by
  obtain ⟨n, rfl⟩ := Int.eq_ofNat_of_zero_le h0
  obtain ⟨m, rfl⟩ := Int.eq_ofNat_of_zero_le hb
  have hn : n < 2 ^ s := by exact_mod_cast h1
  have hm : n + m * 2 ^ s < 18446744073709551616 := by
    have h3 : ((n + m * 2 ^ s : Nat) : Int) < 18446744073709551616 := by rw [Int.natCast_add, Int.natCast_mul, Int.natCast_pow]; exact h2
    omega
  have e1 : ((m : Int) * 2 ^ s) = ((m * 2 ^ s : Nat) : Int) := by rw [Int.natCast_mul, Int.natCast_pow]; rfl
  rw [e1]
  unfold orI
  have e2 : n < 2 ^ IntKind.u64.bits := by show n < 2 ^ 64; omega
  have e3 : m * 2 ^ s < 2 ^ IntKind.u64.bits := by show m * 2 ^ s < 2 ^ 64; omega
  rw [BitVec.toNat_or, ofInt_toNat e2, ofInt_toNat e3, wrap_u64']
  have := Nat.two_pow_add_eq_or_of_lt hn m
  rw [Nat.or_comm, Nat.mul_comm m, ← this]
  have e4 : 2 ^ s * m = m * 2 ^ s := Nat.mul_comm _ _
  rw [e4]
  have e5 : ((m * 2 ^ s + n : Nat) : Int) < 18446744073709551616 := by omega
  rw [Int.emod_eq_of_lt (by omega) e5]
  omega

/-! The reader. -/
def takeR (n : Nat) (s : List Int) (bad : Bool) : List Int × List Int × Bool := if bad = true ∨ s.length < n then ([], s, true) else (s.take n, s.drop n, false)
def numB : List Int → Int
  | [] => 0
  | b :: r => b + 256 * numB r
def numR (k : Nat) (s : List Int) (bad : Bool) : Int × List Int × Bool := (numB (takeR k s bad).1, (takeR k s bad).2)
def toI (n : Int) : Int := if n < 9223372036854775808 then n else n - 18446744073709551616
def thingR (s : List Int) (bad : Bool) : Thing × List Int × Bool :=
  if (numR 1 s bad).1 = 0 then ((false, toI (numR 8 (numR 1 s bad).2.1 (numR 1 s bad).2.2).1, []), (numR 8 (numR 1 s bad).2.1 (numR 1 s bad).2.2).2)
  else if (numR 1 s bad).1 = 1 then
    ((true, 0, (takeR (numR 1 (numR 1 s bad).2.1 (numR 1 s bad).2.2).1.toNat (numR 1 (numR 1 s bad).2.1 (numR 1 s bad).2.2).2.1 (numR 1 (numR 1 s bad).2.1 (numR 1 s bad).2.2).2.2).1),
      (takeR (numR 1 (numR 1 s bad).2.1 (numR 1 s bad).2.2).1.toNat (numR 1 (numR 1 s bad).2.1 (numR 1 s bad).2.2).2.1 (numR 1 (numR 1 s bad).2.1 (numR 1 s bad).2.2).2.2).2)
  else ((false, 0, []), (numR 1 s bad).2.1, true)

theorem take_bytes {s : List Int} (hs : bytesOk s) (n : Nat) (bad : Bool) : bytesOk (takeR n s bad).1 ∧ bytesOk (takeR n s bad).2.1 ∧ (takeR n s bad).1.length ≤ n := by
  unfold takeR
  split
  · exact ⟨⟨by simp, fun b hb => by cases hb⟩, hs, Nat.zero_le _⟩
  · exact ⟨⟨by rw [List.length_take]; have := hs.1; omega, fun b hb => hs.2 b (List.mem_of_mem_take hb)⟩, bytes_drop hs n, by rw [List.length_take]; omega⟩

theorem numB_range : ∀ (s : List Int), (∀ b, b ∈ s → 0 ≤ b ∧ b < 256) → 0 ≤ numB s ∧ numB s < 256 ^ s.length
  | [], _ => by simp [numB]
  | b :: r, h => by
    have h1 := h b (List.mem_cons_self ..)
    have h2 := numB_range r fun x hx => h x (List.mem_cons_of_mem _ hx)
    rw [List.length_cons, Int.pow_succ]
    unfold numB
    omega

theorem im_take (n : Nat) (s : List Int) (bad : Bool) : f_image_reader_take ((n : Int), s, bad, ()) = some ((takeR n s bad).1, (takeR n s bad).2.1, (takeR n s bad).2.2, ()) := by
  rw [u_image_reader_take]
  unfold takeR
  cases bad with
  | true =>
    rw [cnd_true, bnd_some_eq, cnd_true, if_pos (.inl rfl)]
  | false =>
    rw [cnd_false, bnd_some_eq, cnd_lt]
    by_cases h : s.length < n
    · rw [if_pos (by unfold lenI; omega), if_pos (.inr h)]
    · rw [if_neg (by unfold lenI; omega), if_neg (by simp [h])]
      have c1 : cutL s 0 (n : Int) = some (s.take n) := by
        unfold cutL
        rw [if_pos (by omega)]
        simp
      rw [c1, bnd_some_eq, cut_drop (by omega), bnd_some_eq]

theorem num_loop {t : List Int} (ht : ∀ b, b ∈ t → 0 ≤ b ∧ b < 256) (h8 : t.length ≤ 8) (s : List Int) (bad nn : Bool) : ∀ (m i : Nat) (x : Int), i + m = t.length → 0 ≤ x → x < 2 ^ (8 * i) →
    loopR l1_image_reader_num (x, (t.length : Int), (i : Int), s, bad, ⟨nn, t⟩, ()) = some (x + 2 ^ (8 * i) * numB (t.drop i), s, bad, ()) := by
  intro m
  induction m with
  | zero =>
    intro i x hi h0 h1
    refine loopR_inr ?_
    unfold l1_image_reader_num
    simp only
    rw [cnd_lt, if_neg (by omega), List.drop_eq_nil_of_le (by omega)]
    simp [numB]
  | succ m ih =>
    intro i x hi h0 h1
    have hlt : i < t.length := by omega
    have hb := ht _ (List.getElem_mem hlt)
    have hP1 : (1 : Int) ≤ 2 ^ (8 * i) := by
      have : (0 : Int) < 2 ^ (8 * i) := Int.pow_pos (show (0 : Int) < 2 by omega)
      omega
    have hP2 : (2 : Int) ^ (8 * i) ≤ 2 ^ 56 := by
      have h : 2 ^ (8 * i) ≤ 2 ^ 56 := Nat.pow_le_pow_right (by omega) (by omega)
      exact_mod_cast h
    have hmul : t[i] * 2 ^ (8 * i) ≤ 255 * 2 ^ (8 * i) := Int.mul_le_mul_of_nonneg_right (by omega) (by omega)
    have hmul0 : 0 ≤ t[i] * 2 ^ (8 * i) := Int.mul_nonneg hb.1 (by omega)
    have e56 : (2 : Int) ^ 56 = 72057594037927936 := by decide
    have hnext : (2 : Int) ^ (8 * (i + 1)) = 256 * 2 ^ (8 * i) := by
      rw [Nat.mul_add, Int.pow_add, Int.mul_comm]; rfl
    have step : l1_image_reader_num (x, (t.length : Int), (i : Int), s, bad, ⟨nn, t⟩, ()) = some (.inl (x + t[i] * 2 ^ (8 * i), (t.length : Int), ((i + 1 : Nat) : Int), s, bad, ⟨nn, t⟩, ())) := by
      unfold l1_image_reader_num
      simp only
      have g1 : nth t i = some t[i] := List.getElem?_eq_getElem hlt
      have hm : mulI .i64 8 (i : Int) = ((8 * i : Nat) : Int) := by rw [mulI_i64 (by omega) (by omega)]; omega
      rw [cnd_lt, if_pos (by omega), okAt_nat hlt, bnd_some_eq, g1, bnd_some_eq, hm, cvI_u64 hb.1 (by omega), shlI_u64 (8 * i) (by omega) hmul0 (by omega), bnd_some_eq, orI_u64 (8 * i) h0 h1 hb.1 (by omega), add1 (by omega)]
    rw [loopR_inl step, ih (i + 1) _ (by omega) (by omega) (by rw [hnext]; omega), drop_cons hlt, hnext]
    congr 2
    show x + t[i] * 2 ^ (8 * i) + 256 * 2 ^ (8 * i) * numB (t.drop (i + 1)) = x + 2 ^ (8 * i) * (t[i] + 256 * numB (t.drop (i + 1)))
    rw [Int.mul_add, Int.mul_comm (2 ^ (8 * i)) t[i], Int.mul_comm 256 (2 ^ (8 * i)), Int.mul_assoc, Int.add_assoc]

theorem im_num (k : Nat) (hk : k ≤ 8) (s : List Int) (hs : bytesOk s) (bad : Bool) : f_image_reader_num ((k : Int), s, bad, ()) = some ((numR k s bad).1, (numR k s bad).2.1, (numR k s bad).2.2, ()) := by
  obtain ⟨h1, h2, h3⟩ := take_bytes hs k bad
  rw [u_image_reader_num, im_take, bnd_some_eq]
  show bnd (fit (lenI (takeR k s bad).1)) _ = _
  rw [fit_ok (by unfold lenI; omega), bnd_some_eq]
  have := num_loop h1.2 (by omega) (takeR k s bad).2.1 (takeR k s bad).2.2 false (takeR k s bad).1.length 0 0 (by omega) (by omega) (by simp)
  refine Eq.trans this ?_
  rw [Nat.mul_zero, Int.pow_zero, Int.one_mul, Int.zero_add, List.drop_zero]
  rfl

theorem num_rest {s : List Int} (hs : bytesOk s) (k : Nat) (bad : Bool) : bytesOk (numR k s bad).2.1 := (take_bytes hs k bad).2.1
theorem num_range {s : List Int} (hs : bytesOk s) (k : Nat) (bad : Bool) : 0 ≤ (numR k s bad).1 ∧ (numR k s bad).1 < 256 ^ k := by
  obtain ⟨h1, _, h3⟩ := take_bytes hs k bad
  obtain ⟨h4, h5⟩ := numB_range _ h1.2
  refine ⟨h4, Int.lt_of_lt_of_le h5 ?_⟩
  have h : 256 ^ (takeR k s bad).1.length ≤ 256 ^ k := Nat.pow_le_pow_right (by omega) h3
  have h' := Int.ofNat_le.2 h
  rw [Int.natCast_pow, Int.natCast_pow] at h'
  exact h'

theorem im_thing (s : List Int) (hs : bytesOk s) (bad : Bool) : f_image_reader_thing (s, bad, ()) = some ((thingR s bad).1, (thingR s bad).2.1, (thingR s bad).2.2, ()) := by
  have e1 : f_image_reader_num (1, s, bad, ()) = _ := im_num 1 (by omega) s hs bad
  have hr := num_rest hs 1 bad
  have e8 : f_image_reader_num (8, (numR 1 s bad).2.1, (numR 1 s bad).2.2, ()) = _ := im_num 8 (by omega) _ hr (numR 1 s bad).2.2
  have e2 : f_image_reader_num (1, (numR 1 s bad).2.1, (numR 1 s bad).2.2, ()) = _ := im_num 1 (by omega) _ hr (numR 1 s bad).2.2
  rw [u_image_reader_thing, e1, bnd_some_eq]
  simp only [cnd_eq]
  unfold thingR
  by_cases h0 : (numR 1 s bad).1 = 0
  · rw [if_pos h0, if_pos h0, e8, bnd_some_eq]
    have h8 := num_range hr 8 (numR 1 s bad).2.2
    have : cvI .i64 (numR 8 (numR 1 s bad).2.1 (numR 1 s bad).2.2).1 = toI (numR 8 (numR 1 s bad).2.1 (numR 1 s bad).2.2).1 := by
      unfold cvI toI
      rw [wrap_i64']
      have e : (256 : Int) ^ 8 = 18446744073709551616 := by decide
      rw [e] at h8
      rw [Int.emod_eq_of_lt h8.1 h8.2]
    simp only [this]
  · rw [if_neg h0, if_neg h0]
    by_cases h1 : (numR 1 s bad).1 = 1
    · rw [if_pos h1, if_pos h1, e2, bnd_some_eq]
      have h8 := num_range hr 1 (numR 1 s bad).2.2
      have : cvI .i64 (numR 1 (numR 1 s bad).2.1 (numR 1 s bad).2.2).1 = (((numR 1 (numR 1 s bad).2.1 (numR 1 s bad).2.2).1.toNat : Nat) : Int) := by
        rw [cvI_i64 (by omega) (by omega)]
        omega
      simp only [this, im_take, bnd_some_eq]
    · rw [if_neg h1, if_neg h1]

theorem thing_good {s : List Int} (hs : bytesOk s) (bad : Bool) : gT (thingR s bad).1 ∧ bytesOk (thingR s bad).2.1 := by
  have hr := num_rest hs 1 bad
  unfold thingR
  split
  · have h8 := num_range hr 8 (numR 1 s bad).2.2
    have e : (256 : Int) ^ 8 = 18446744073709551616 := by decide
    rw [e] at h8
    refine ⟨⟨?_, fun b hb => (by cases hb), Nat.zero_le _⟩, num_rest hr 8 _⟩
    show -9223372036854775808 ≤ toI _ ∧ toI _ ≤ 9223372036854775807
    unfold toI
    split <;> omega
  · split
    · have h2 := take_bytes (num_rest hr 1 (numR 1 s bad).2.2) (numR 1 (numR 1 s bad).2.1 (numR 1 s bad).2.2).1.toNat (numR 1 (numR 1 s bad).2.1 (numR 1 s bad).2.2).2.2
      refine ⟨⟨by show -9223372036854775808 ≤ (0 : Int) ∧ (0 : Int) ≤ _; omega, fun b hb => ?_, ?_⟩, h2.2.1⟩
      · have := h2.1.2 b hb; omega
      · have := h2.1.1
        exact Nat.le_trans this (by omega)
    · exact ⟨⟨by show -9223372036854775808 ≤ (0 : Int) ∧ (0 : Int) ≤ _; omega, fun b hb => (by cases hb), Nat.zero_le _⟩, hr⟩

/-! Things, so many. -/
def poolR : Nat → List Int → Bool → List Thing → List Thing × List Int × Bool
  | 0, s, bad, acc => (acc, s, bad)
  | k + 1, s, bad, acc => if bad = true then (acc, s, bad) else poolR k (thingR s bad).2.1 (thingR s bad).2.2 (acc ++ [(thingR s bad).1])

theorem poolR_good : ∀ (k : Nat) (s : List Int) (bad : Bool) (acc : List Thing), bytesOk s → (∀ x, x ∈ acc → gT x) → (∀ x, x ∈ (poolR k s bad acc).1 → gT x) ∧ bytesOk (poolR k s bad acc).2.1 ∧ (poolR k s bad acc).1.length ≤ acc.length + k
  | 0, s, bad, acc, hs, ha => ⟨ha, hs, Nat.le_refl _⟩
  | k + 1, s, bad, acc, hs, ha => by
    unfold poolR
    split
    · exact ⟨ha, hs, by show acc.length ≤ _; omega⟩
    · obtain ⟨h1, h2⟩ := thing_good hs bad
      obtain ⟨g1, g2, g3⟩ := poolR_good k (thingR s bad).2.1 (thingR s bad).2.2 (acc ++ [(thingR s bad).1]) h2 (fun x hx => by
        rcases List.mem_append.1 hx with hx | hx
        · exact ha x hx
        · rw [List.mem_singleton.1 hx]; exact h1)
      refine ⟨g1, g2, ?_⟩
      rw [List.length_append, List.length_singleton] at g3
      omega

theorem dec_loop (a0 : List Int) (many : Nat) (hm : many ≤ 65536) (q1 : Sl Thing) (q2 q4 : Sl Ins) : ∀ (m i : Nat) (s : List Int) (bad : Bool) (acc : Sl Thing), i + m = many → bytesOk s → acc.l.length ≤ i → ∃ n,
    loopR l1_image_Decode (a0, (many : Int), (i : Int), s, bad, q1, q2, acc, q4, ()) = some (.inl (a0, (poolR m s bad acc.l).2.1, (poolR m s bad acc.l).2.2, q1, q2, ⟨n, (poolR m s bad acc.l).1⟩, q4, ())) := by
  intro m
  induction m with
  | zero =>
    intro i s bad acc hi hs ha
    refine ⟨acc.nil, loopR_inr ?_⟩
    unfold l1_image_Decode
    simp only
    rw [cnd_lt, if_neg (by omega)]
    rfl
  | succ m ih =>
    intro i s bad acc hi hs ha
    unfold poolR
    cases bad with
    | true =>
      rw [if_pos rfl]
      refine ⟨acc.nil, loopR_inr ?_⟩
      unfold l1_image_Decode
      simp only
      rw [cnd_lt, if_pos (by omega), cnd_true]
    | false =>
      rw [if_neg Bool.false_ne_true]
      have hg := thing_good hs false
      have step : l1_image_Decode (a0, (many : Int), (i : Int), s, false, q1, q2, acc, q4, ()) = some (.inl (a0, (many : Int), ((i + 1 : Nat) : Int), (thingR s false).2.1, (thingR s false).2.2, q1, q2, ⟨false, acc.l ++ [(thingR s false).1]⟩, q4, ())) := by
        unfold l1_image_Decode
        simp only
        have ad : addI .u64 (i : Int) 1 = ((i + 1 : Nat) : Int) := by
          unfold addI
          rw [wrap_u64 (by omega) (by omega)]
          omega
        rw [cnd_lt, if_pos (by omega), cnd_false, im_thing s hs, bnd_some_eq, fit_ok (by simp only [sumI, lenI, List.length_singleton]; omega), bnd_some_eq, ad]
        have : andB acc.nil (isE [(thingR s false).1]) = false := by cases acc.nil <;> rfl
        simp only [this, app]
      obtain ⟨n, hn⟩ := ih (i + 1) (thingR s false).2.1 (thingR s false).2.2 ⟨false, acc.l ++ [(thingR s false).1]⟩ (by omega) hg.2 (by show (acc.l ++ [_]).length ≤ _; rw [List.length_append, List.length_singleton]; omega)
      exact ⟨n, by rw [loopR_inl step, hn]⟩
end Fn
end Ev
namespace Ev
open Go
namespace Fn

def magicB : List Int := [84, 82, 73, 71]
def mkI (p : List Thing) (c : List Ins) : Img := (⟨false, p⟩, ⟨false, c⟩)

/-- The image that bytes are. -/
def decR (s : List Int) : Option (List Thing × List Ins) :=
  if s.take 4 ≠ magicB then none else
  let a := numR 2 (s.drop 4) false
  let p := poolR a.1.toNat a.2.1 a.2.2 []
  let n := numR 4 p.2.1 p.2.2
  if n.2.2 = true ∨ 1048576 < n.1 then none else
  let t := takeR n.1.toNat n.2.1 n.2.2
  let d := disB t.1
  if d.2 ≠ 0 then none else
  let z := takeR 4 t.2.1 t.2.2
  if z.2.2 = true ∨ z.2.1 ≠ [] ∨ chkM (mkI p.1 d.1) ≠ 0 ∨ encI (mkI p.1 d.1) ≠ s then none else some (p.1, d.1)

theorem im_cut (s : List Int) : f_strings_CutPrefix (s, magicB, ()) = some (if s.take 4 = magicB then (s.drop 4, true, ()) else (s, false, ())) := by
  rw [u_strings_CutPrefix, u_internal_stringslite_CutPrefix, u_internal_stringslite_HasPrefix]
  have e4 : lenI magicB = 4 := rfl
  rw [e4, cnd_le]
  by_cases h : 4 ≤ lenI s
  · have hl : 4 ≤ s.length := by unfold lenI at h; omega
    have c1 : cutL s 0 4 = some (s.take 4) := by
      unfold cutL
      rw [if_pos (by omega)]
      rfl
    have c2 : cutL s 4 (lenI s) = some (s.drop 4) := cut_drop (p := 4) hl
    rw [if_pos h, c1, bnd_some_eq, bnd_some_eq, bnd_some_eq, cnd_not, cnd_eqS]
    by_cases he : s.take 4 = magicB
    · rw [if_pos he, if_pos he, c2]; rfl
    · rw [if_neg he, if_neg he]; rfl
  · rw [if_neg h, bnd_some_eq, bnd_some_eq, if_neg]
    · rfl
    · intro e
      have := congrArg List.length e
      rw [List.length_take] at this
      have h4 : magicB.length = 4 := rfl
      unfold lenI at h
      omega

theorem im_dec (s : List Int) (hs : bytesOk s) : ∃ n1 n2, f_image_Decode (s, ()) = some (match decR s with
    | none => ((⟨true, []⟩, ⟨true, []⟩), 181, ())
    | some (p, c) => ((⟨n1, p⟩, ⟨n2, c⟩), 0, ())) := by
  have hs4 : bytesOk (s.drop 4) := bytes_drop hs 4
  have hr := num_range hs4 2 false
  have e2 : (256 : Int) ^ 2 = 65536 := by decide
  rw [e2] at hr
  have ec : f_strings_CutPrefix (s, [84, 82, 73, 71], ()) = _ := im_cut s
  rw [u_image_Decode, ec, bnd_some_eq]
  unfold decR
  by_cases hm : s.take 4 = magicB
  · have hlen : 4 ≤ s.length := by
      have := congrArg List.length hm
      rw [List.length_take] at this
      have h4 : magicB.length = 4 := rfl
      omega
    have hl4 : ltI (lenI s) 4 = false := decide_eq_false (by unfold lenI; omega)
    rw [if_pos hm, if_neg (fun h => h hm)]
    have en : f_image_reader_num (2, s.drop 4, false, ()) = _ := im_num 2 (by omega) _ hs4 false
    generalize ha : numR 2 (s.drop 4) false = a at *
    have hb2 : bytesOk a.2.1 := by rw [← ha]; exact num_rest hs4 2 false
    have hcast : a.1 = ((a.1.toNat : Nat) : Int) := by omega
    obtain ⟨nn, hloop⟩ := dec_loop s a.1.toNat (by omega) ⟨true, []⟩ ⟨true, []⟩ ⟨true, []⟩ a.1.toNat 0 a.2.1 a.2.2 ⟨true, []⟩ (by omega) hb2 (Nat.zero_le _)
    rw [← hcast] at hloop
    have hpg := poolR_good a.1.toNat a.2.1 a.2.2 [] hb2 (fun x hx => by cases hx)
    simp only [notB, Bool.not_true, cnd_false, bnd_some_eq, hl4, en]
    have hloop : loopR l1_image_Decode (s, a.1, 0, a.2.1, a.2.2, ⟨true, []⟩, ⟨true, []⟩, ⟨true, []⟩, ⟨true, []⟩, ()) = _ := hloop
    rw [hloop, bnd_some_eq]
    simp only [sumE]
    generalize hp : poolR a.1.toNat a.2.1 a.2.2 [] = p at *
    obtain ⟨hp1, hp2, hp3⟩ := hpg
    have en4 : f_image_reader_num (4, p.2.1, p.2.2, ()) = _ := im_num 4 (by omega) _ hp2 p.2.2
    have hn4 := num_range hp2 4 p.2.2
    have hb4 := num_rest hp2 4 p.2.2
    rw [en4, bnd_some_eq]
    generalize numR 4 p.2.1 p.2.2 = n at *
    have fail : f_image_Decode_1 () = some ((⟨true, []⟩, ⟨true, []⟩), 181, ()) := u_image_Decode_1
    have c1 : (cnd n.2.2 (some true) (some (ltI 1048576 n.1)) : Option Bool) = some (decide (n.2.2 = true ∨ 1048576 < n.1)) := by
      cases hn : n.2.2 with
      | true => simp [cnd_true]
      | false => simp [cnd_false, ltI]
    simp only [c1, bnd_some_eq, cnd_dec, fail]
    by_cases hc : n.2.2 = true ∨ 1048576 < n.1
    · rw [if_pos hc, if_pos hc]; exact ⟨true, true, rfl⟩
    · rw [if_neg hc, if_neg hc]
      have cv : cvI .i64 n.1 = ((n.1.toNat : Nat) : Int) := by
        rw [cvI_i64 (by omega) (by omega)]
        omega
      rw [cv, im_take, bnd_some_eq]
      simp only
      have htb := take_bytes hb4 n.1.toNat n.2.2
      generalize takeR n.1.toNat n.2.1 n.2.2 = t at *
      obtain ⟨n5, hd⟩ := dis_spec htb.1
      have hdl := dis_len t.1
      rw [hd, bnd_some_eq]
      generalize disB t.1 = d at *
      simp only
      have c2 : ∀ {α : Type} (x y : Option α), cnd (!eqI d.2 0) x y = if d.2 ≠ 0 then x else y := by
        intro α x y
        by_cases h : d.2 = 0
        · rw [h]; rfl
        · rw [eqI_ne h, if_pos h]; rfl
      rw [c2]
      by_cases hd0 : d.2 ≠ 0
      · rw [if_pos hd0, if_pos hd0]; exact ⟨true, true, rfl⟩
      · rw [if_neg hd0, if_neg hd0]
        have et4 : f_image_reader_take (4, t.2.1, t.2.2, ()) = _ := im_take 4 t.2.1 t.2.2
        rw [et4, bnd_some_eq]
        simp only
        generalize takeR 4 t.2.1 t.2.2 = z at *
        have hen := im_enc (⟨nn, p.1⟩, ⟨n5, d.1⟩) (by show p.1.length ≤ _; simp at hp3; omega) (by show d.1.length ≤ _; omega) hp1
        have hsame : chkM (⟨nn, p.1⟩, ⟨n5, d.1⟩) = chkM (mkI p.1 d.1) := rfl
        have hsame2 : encI (⟨nn, p.1⟩, ⟨n5, d.1⟩) = encI (mkI p.1 d.1) := rfl
        rw [hsame, hsame2] at hen
        rw [hen, bnd_some_eq]
        refine ⟨nn, n5, ?_⟩
        have hyes : ∀ (h : z.2.2 = true ∨ z.2.1 ≠ [] ∨ chkM (mkI p.1 d.1) ≠ 0 ∨ encI (mkI p.1 d.1) ≠ s), (if z.2.2 = true ∨ z.2.1 ≠ [] ∨ chkM (mkI p.1 d.1) ≠ 0 ∨ encI (mkI p.1 d.1) ≠ s then none else some (p.1, d.1)) = none := fun h => if_pos h
        have hno : ∀ (h : ¬ (z.2.2 = true ∨ z.2.1 ≠ [] ∨ chkM (mkI p.1 d.1) ≠ 0 ∨ encI (mkI p.1 d.1) ≠ s)), (if z.2.2 = true ∨ z.2.1 ≠ [] ∨ chkM (mkI p.1 d.1) ≠ 0 ∨ encI (mkI p.1 d.1) ≠ s then none else some (p.1, d.1)) = some (p.1, d.1) := fun h => if_neg h
        by_cases hz1 : z.2.2 = true
        · rw [hyes (.inl hz1), hz1]; rfl
        · have hz1' : z.2.2 = false := by simpa using hz1
          by_cases hz2 : z.2.1 = []
          · have e5 : eqS z.2.1 [] = true := by rw [hz2]; rfl
            by_cases hz3 : chkM (mkI p.1 d.1) = 0
            · by_cases hz4 : encI (mkI p.1 d.1) = s
              · rw [hno (by simp [hz1', hz2, hz3, hz4]), hz1', cnd_false, bnd_some_eq, e5, if_pos hz3]
                have : eqS (encI (mkI p.1 d.1)) s = true := by rw [hz4]; exact eqS_self s
                rw [this]; rfl
              · rw [hyes (.inr (.inr (.inr hz4))), hz1', cnd_false, bnd_some_eq, e5, if_pos hz3]
                have : eqS (encI (mkI p.1 d.1)) s = false := by
                  unfold eqS
                  simpa using hz4
                rw [this]; rfl
            · rw [hyes (.inr (.inr (.inl hz3))), hz1', cnd_false, bnd_some_eq, e5, if_neg hz3, eqI_ne hz3]
              rfl
          · have e5 : eqS z.2.1 [] = false := by
              unfold eqS
              simpa using hz2
            rw [hyes (.inr (.inl hz2)), hz1', cnd_false, bnd_some_eq, e5]
            rfl
  · rw [if_neg hm, if_pos hm]
    exact ⟨true, true, rfl⟩

/-! What is encoded is parsed again. -/
theorem takeR_app {n : Nat} {x : List Int} (r : List Int) (h : x.length = n) : takeR n (x ++ r) false = (x, r, false) := by
  unfold takeR
  rw [if_neg (by rw [List.length_append]; simp; omega), ← h, List.take_left, List.drop_left]

theorem numB_low : ∀ (k : Nat) (n : Int), 0 ≤ n → n < 256 ^ k → numB (lowN k n) = n
  | 0, n, h0, h => by
    rw [Int.pow_zero] at h
    show (0 : Int) = n
    omega
  | k + 1, n, h0, h => by
    rw [Int.pow_succ] at h
    show n % 256 + 256 * numB (lowN k (n / 256)) = n
    rw [numB_low k (n / 256) (by omega) (by omega)]
    omega

theorem numR_low {k : Nat} {n : Int} (r : List Int) (h0 : 0 ≤ n) (h : n < 256 ^ k) : numR k (lowN k n ++ r) false = (n, r, false) := by
  unfold numR
  rw [takeR_app r (lowN_len k n)]
  show (numB (lowN k n), r, false) = _
  rw [numB_low k n h0 h]

theorem numR_one (b : Int) (r : List Int) : numR 1 (b :: r) false = (b, r, false) := by
  unfold numR
  have : takeR 1 (b :: r) false = ([b], r, false) := takeR_app (x := [b]) r rfl
  rw [this]
  show (b + 256 * 0, r, false) = _
  congr 1
  omega

theorem thingR_app {x : Thing} (hg : gT x) (hr : rightT x = true) (r : List Int) : thingR (thingB x ++ r) false = (x, r, false) := by
  obtain ⟨b, n, s⟩ := x
  obtain ⟨h1, _, _⟩ := hg
  simp only at h1
  cases b with
  | true =>
    have hn : n = 0 := by
      unfold rightT at hr
      rw [cond_true, Bool.and_eq_true] at hr
      exact of_decide_eq_true hr.1
    subst hn
    show thingR (1 :: ((s.length : Int) :: (s ++ r))) false = _
    unfold thingR
    rw [numR_one]
    simp only
    rw [if_neg (by omega), if_pos trivial, numR_one]
    simp only [Int.toNat_natCast]
    rw [takeR_app r rfl]
  | false =>
    have hs : s = [] := by
      unfold rightT at hr
      rw [cond_false, Bool.and_eq_true] at hr
      exact List.isEmpty_iff.1 hr.1
    subst hs
    show thingR (0 :: (lowN 8 (n % 18446744073709551616) ++ r)) false = _
    unfold thingR
    rw [numR_one]
    simp only
    have e : (256 : Int) ^ 8 = 18446744073709551616 := by decide
    rw [if_pos trivial, numR_low r (by omega) (by rw [e]; omega)]
    have : toI (n % 18446744073709551616) = n := by
      unfold toI
      split <;> omega
    simp only [this]

theorem poolR_app : ∀ (p acc : List Thing) (r : List Int), (∀ x, x ∈ p → gT x) → (∀ x, x ∈ p → rightT x = true) → poolR p.length (poolB p ++ r) false acc = (acc ++ p, r, false)
  | [], acc, r, _, _ => by
    show (acc, r, false) = _
    rw [List.append_nil]
  | x :: p, acc, r, hg, hr => by
    rw [List.length_cons, poolB_cons, List.append_assoc]
    unfold poolR
    rw [if_neg Bool.false_ne_true, thingR_app (hg x (List.mem_cons_self ..)) (hr x (List.mem_cons_self ..))]
    show poolR p.length (poolB p ++ r) false (acc ++ [x]) = _
    rw [poolR_app p (acc ++ [x]) r (fun y hy => hg y (List.mem_cons_of_mem _ hy)) (fun y hy => hr y (List.mem_cons_of_mem _ hy)), List.append_assoc]
    rfl

theorem dec_enc {M : Img} (hg : ∀ x, x ∈ M.1.l → gT x) (hc : chkM M = 0) (rest : List Int) : decR (encI M ++ rest) = if rest = [] then some (M.1.l, M.2.l) else none := by
  obtain ⟨h1, h2, h3, h4⟩ := chkM_ok hc
  have hab := asmB_ok (good_rlx h4)
  have hcl : (codeB M).length ≤ 1000000 := hab.1
  have hsr := sumB_range (bodyI M)
  have e2 : (256 : Int) ^ 2 = 65536 := by decide
  have e4 : (256 : Int) ^ 4 = 4294967296 := by decide
  have hsplit : encI M ++ rest = magicB ++ (lowN 2 (M.1.l.length : Int) ++ (poolB M.1.l ++ (lowN 4 ((codeB M).length : Int) ++ (codeB M ++ (lowN 4 (sumB (bodyI M)) ++ rest))))) := by
    unfold encI
    generalize sumB (bodyI M) = q
    unfold bodyI headI magicB
    simp only [List.append_assoc]
  have ht : (encI M ++ rest).take 4 = magicB := by rw [hsplit]; exact List.take_left (l₁ := magicB)
  have hd : (encI M ++ rest).drop 4 = lowN 2 (M.1.l.length : Int) ++ (poolB M.1.l ++ (lowN 4 ((codeB M).length : Int) ++ (codeB M ++ (lowN 4 (sumB (bodyI M)) ++ rest)))) := by
    rw [hsplit]; exact List.drop_left (l₁ := magicB)
  unfold decR
  rw [if_neg (fun h => h ht), hd, numR_low _ (by omega) (by rw [e2]; omega)]
  simp only [Int.toNat_natCast]
  rw [poolR_app M.1.l [] _ hg h2, List.nil_append]
  simp only
  rw [numR_low _ (by omega) (by rw [e4]; omega)]
  simp only [Int.toNat_natCast]
  rw [if_neg (by simp; omega), takeR_app _ rfl]
  simp only
  have hdis : disB (codeB M) = (M.2.l, 0) := dis_back h4
  rw [hdis]
  simp only
  rw [if_neg (by simp), takeR_app _ (lowN_len 4 _)]
  simp only
  have hck : chkM (mkI M.1.l M.2.l) = 0 := hc
  have hen : encI (mkI M.1.l M.2.l) = encI M := rfl
  rw [hck, hen]
  by_cases hr : rest = []
  · rw [if_pos hr, if_neg (by simp [hr])]
  · rw [if_neg hr, if_pos (.inr (.inl hr))]

theorem dec_some {s : List Int} {p : List Thing} {c : List Ins} (h : decR s = some (p, c)) : chkM (mkI p c) = 0 ∧ encI (mkI p c) = s := by
  unfold decR at h
  split at h
  · cases h
  · simp only at h
    split at h
    · cases h
    · split at h
      · cases h
      · split at h
        · cases h
        · rename_i hn
          injection h with h
          injection h with h5 h6
          subst h5 h6
          simp only [not_or, Decidable.not_not] at hn
          exact ⟨hn.2.2.1, hn.2.2.2⟩

theorem dec_good {s : List Int} (hs : bytesOk s) {p : List Thing} {c : List Ins} (h : decR s = some (p, c)) : ∀ x, x ∈ p → gT x := by
  unfold decR at h
  split at h
  · cases h
  · simp only at h
    split at h
    · cases h
    · split at h
      · cases h
      · split at h
        · cases h
        · injection h with h
          injection h with h5 h6
          subst h5 h6
          have hs4 : bytesOk (s.drop 4) := bytes_drop hs 4
          exact (poolR_good _ _ _ [] (num_rest hs4 2 false) (fun x hx => by cases hx)).1
end Fn
end Ev
