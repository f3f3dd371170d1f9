/- Layer 18: the statements as data. No statement of its own about the program. -/
import Derived.Test.YtdekfefcpdejkaaDoorPlainI
namespace Ev
open Go
namespace Fn

/-! The chapter's example. -/
def ex0 : Img := (⟨true, []⟩, ⟨false, [(0, 0, 0)]⟩)
def exP : List Thing := [(true, 0, [98]), (false, 5, []), (true, 0, []), (false, -1, []), (false, 5, [])]
def exQ : List Thing := [(false, -1, []), (false, 5, []), (true, 0, []), (true, 0, [98])]
theorem ex0_chk : chkM ex0 = 0 := by decide
theorem ex0_code : codeB ex0 = [0] := by decide
theorem ex0_body : bodyI ex0 = [84, 82, 73, 71, 0, 0, 1, 0, 0, 0, 0] := by
  unfold bodyI
  rw [ex0_code]
  decide
theorem exP_gT : ∀ x, x ∈ exP → gT x := by
  intro x hx
  have h : ∀ y : Thing, (y.2.1 = 0 ∨ y.2.1 = 5 ∨ y.2.1 = -1) → (y.2.2 = [] ∨ y.2.2 = [98]) → gT y := by
    intro y h1 h2
    refine ⟨by omega, fun b hb => ?_, ?_⟩
    · rcases h2 with h2 | h2 <;> rw [h2] at hb
      · cases hb
      · rw [List.mem_singleton.1 hb]; omega
    · rcases h2 with h2 | h2 <;> rw [h2]
      · exact Nat.zero_le _
      · show 1 ≤ _; omega
  unfold exP at hx
  simp only [List.mem_cons, List.not_mem_nil, or_false] at hx
  rcases hx with rfl | rfl | rfl | rfl | rfl <;> exact h _ (by simp) (by simp)
theorem exP_right : exP.any (fun x => !rightT x) = false := by decide
theorem exP_good : ∀ x, x ∈ exP → goodT x = true := fun x hx => im_good (exP_gT x hx) (by
  have := List.any_eq_false.1 exP_right x hx
  simpa using this)
theorem exQ_strict : strictL exQ := by unfold strictL exQ; decide
theorem exP_pool : poolL exP = exQ := by
  refine strict_unique _ _ (poolL_strict exP_good) exQ_strict fun x => ?_
  rw [poolL_mem]
  unfold exP exQ
  simp only [List.mem_cons, List.not_mem_nil, or_false]
  constructor
  · rintro (h | h | h | h | h) <;> simp [h]
  · rintro (h | h | h | h) <;> simp [h]

theorem enc_ok {M : Img} (hP : M.1.l.length ≤ 1000) (hg : ∀ x, x ∈ M.1.l → gT x) (hc : chkM M = 0) : bytesOk (encI M) ∧ 14 ≤ (encI M).length := by
  obtain ⟨h1, h2, h3, h4⟩ := chkM_ok hc
  have hab := asmB_ok (good_rlx h4)
  have hcl : (codeB M).length ≤ 1000000 := hab.1
  have hasm : (codeB M).length ≤ 11 * M.2.l.length := by
    unfold codeB
    rw [asmB_len (good_rlx h4)]
    exact (pos_bound (good_rlx h4).len (Nat.le_refl _)).2
  have h20 := (chkL_ok h4).1
  have hpl := poolB_len M.1.l h2
  have hlen : (encI M).length = 14 + (poolB M.1.l).length + (codeB M).length := by
    unfold encI
    rw [List.length_append, lowN_len]
    unfold bodyI headI
    simp only [List.length_append, lowN_len, List.length_cons, List.length_nil]
    omega
  refine ⟨⟨by omega, fun b hb => ?_⟩, by omega⟩
  have low := fun k n (h : b ∈ lowN k n) => lowN_byte k n b h
  unfold encI at hb
  generalize sumB (bodyI M) = q at hb
  unfold bodyI headI at hb
  simp only [List.mem_append] at hb
  rcases hb with ((((hb | hb) | hb) | hb) | hb) | hb
  · simp only [List.mem_cons, List.not_mem_nil, or_false] at hb
    omega
  · exact low _ _ hb
  · unfold poolB at hb
    obtain ⟨t, ht, hbt⟩ := List.mem_flatten.1 hb
    obtain ⟨x, hx, rfl⟩ := List.mem_map.1 ht
    have hgx := hg x hx
    unfold thingB at hbt
    cases hx1 : x.1 with
    | true =>
      rw [hx1, cond_true] at hbt
      have hl := right_len (h2 x hx) hx1
      rcases List.mem_cons.1 hbt with rfl | hbt
      · omega
      · rcases List.mem_cons.1 hbt with rfl | hbt
        · omega
        · have := hgx.2.1 b hbt; omega
    | false =>
      rw [hx1, cond_false] at hbt
      rcases List.mem_cons.1 hbt with rfl | hbt
      · omega
      · exact low _ _ hbt
  · exact low _ _ hb
  · exact hab.2 b hb
  · exact low _ _ hb

theorem ex0_gT : ∀ x, x ∈ ex0.1.l → gT x := fun x hx => by cases hx

theorem awake18 : f_law18_awake () = some (true, ()) := by
  have e0 : f_image_Encode ((⟨true, ([] : List Thing)⟩, ⟨false, ([(0, 0, 0)] : List Ins)⟩), ()) = some (encI ex0, 0, ()) := by
    have := im_enc ex0 (Nat.zero_le _) (by show 1 ≤ _; omega) ex0_gT
    rw [if_pos ex0_chk] at this
    exact this
  have hok := enc_ok (M := ex0) (Nat.zero_le _) ex0_gT ex0_chk
  obtain ⟨n1, n2, e1⟩ := im_dec (encI ex0) hok.1
  have e1' : decR (encI ex0) = some ([], [(0, 0, 0)]) := by
    have := dec_enc ex0_gT ex0_chk []
    rw [List.append_nil, if_pos rfl] at this
    exact this
  rw [e1'] at e1
  simp only at e1
  obtain ⟨n3, e2⟩ := im_pool ⟨false, exP⟩ (by show 5 ≤ _; omega) (fun h => by cases h) exP_gT
  rw [show (⟨false, exP⟩ : Sl Thing).l.any (fun x => !rightT x) = false from exP_right, exP_pool] at e2
  simp only [Bool.false_eq_true, if_false] at e2
  have e3 : f_image_Check ((⟨true, ([] : List Thing)⟩, ⟨false, ([(0, 0, 0)] : List Ins)⟩), ()) = some (0, ()) := by
    have := im_check ex0 (Nat.zero_le _) (by show 1 ≤ _; omega) ex0_gT
    rw [ex0_chk] at this
    exact this
  have e4 : lenI (encI ex0) = 15 := by
    unfold encI lenI
    rw [List.length_append, lowN_len, ex0_body]
    rfl
  have e5 : cutL (encI ex0) 0 11 = some [84, 82, 73, 71, 0, 0, 1, 0, 0, 0, 0] := by
    unfold cutL
    rw [if_pos (by unfold lenI at e4; omega)]
    unfold encI
    rw [ex0_body]
    rfl
  have e6 : f_image_Same ((⟨true, ([] : List Thing)⟩, ⟨false, ([(0, 0, 0)] : List Ins)⟩), (⟨n1, []⟩, ⟨n2, [(0, 0, 0)]⟩), ()) = some (true, ()) := im_same ex0 (⟨n1, []⟩, ⟨n2, [(0, 0, 0)]⟩) (Nat.zero_le _) (by show 1 ≤ _; omega)
  have e7 : f_image_Index (⟨n3, exQ⟩, (true, 0, [98]), ()) = some (3, ()) := im_index ⟨n3, exQ⟩ (true, 0, [98]) (by show 4 ≤ _; omega)
  have e8 : f_image_Sum (([] : List Int), ()) = some (2166136261, ()) := im_sum [] (Nat.zero_le _)
  have e9 : f_image_Less ((false, -1, []), (false, 5, []), ()) = some (true, ()) := im_less _ _
  have e2 : f_image_Pool (⟨false, ([(true, 0, ([98] : List Int)), (false, 5, ([] : List Int)), (true, 0, ([] : List Int)), (false, (-1), ([] : List Int)), (false, 5, ([] : List Int))] : List (Bool × Int × List Int))⟩, ()) = _ := e2
  rw [u_law18_awake]
  have a0 : at? exQ 0 = some (false, -1, []) := rfl
  have a1 : at? exQ 1 = some (false, 5, []) := rfl
  have l4 : lenI exQ = 4 := rfl
  have s1 : eqS ([84, 82, 73, 71, 0, 0, 1, 0, 0, 0, 0] : List Int) ([84, 82, 73, 71, 0, 0, 1, 0, 0, 0, 0] : List Int) = true := eqS_self _
  simp only [e0, e1, e2, e3, e4, e5, e6, e7, e8, e9, a0, a1, l4, s1, bnd_some_eq, eqI_self, cnd_true]
end Fn
end Ev
namespace Ev
open Go
namespace Fn

theorem rfew_loop (P : Sl Thing) (C : Sl Ins) : ∀ (m k : Nat), k + m = 61 → ∃ b, loopR l1_ref18_Few ((k : Int), P, C, ()) = some (b, ()) ∧ (b = true → P.l.length ≤ 60 ∧ C.l.length ≤ 120) := by
  have last : ∀ k : Nat, ¬ (k < P.l.length ∧ k < 61) → l1_ref18_Few ((k : Int), P, C, ()) = some (.inr (decide (P.l.length ≤ 60 ∧ C.l.length ≤ 120), ())) := by
    intro k hk
    unfold l1_ref18_Few
    simp only
    have e1 : (cnd (ltI (k : Int) (lenI P.l)) (some (ltI (k : Int) 61)) (some false) : Option Bool) = some false := by
      rw [cnd_lt]
      by_cases h : (k : Int) < lenI P.l
      · rw [if_pos h]
        have : ltI (k : Int) 61 = false := decide_eq_false (by unfold lenI at h; omega)
        rw [this]
      · rw [if_neg h]
    rw [e1, bnd_some_eq, cnd_false, cnd_le]
    by_cases h60 : P.l.length ≤ 60
    · rw [if_pos (by unfold lenI; omega), bnd_some_eq]
      have : leI (lenI C.l) 120 = decide (C.l.length ≤ 120) := decide_eq_decide.2 (by unfold lenI; omega)
      rw [this]
      simp [h60]
    · rw [if_neg (by unfold lenI; omega), bnd_some_eq]
      simp [h60]
  intro m
  induction m with
  | zero =>
    intro k hk
    exact ⟨_, loopR_inr (last k (by omega)), fun h => of_decide_eq_true h⟩
  | succ m ih =>
    intro k hk
    by_cases hlt : k < P.l.length
    · have step : l1_ref18_Few ((k : Int), P, C, ()) = if 300 < (P.l[k].2.2.length : Int) then some (.inr (false, ())) else some (.inl (((k + 1 : Nat) : Int), P, C, ())) := by
        unfold l1_ref18_Few
        simp only
        have h61 : ltI (k : Int) 61 = true := decide_eq_true (by omega)
        rw [cnd_lt, if_pos (by unfold lenI; omega), bnd_some_eq, h61, cnd_true, at?_nat (List.getElem?_eq_getElem hlt), bnd_some_eq, cnd_lt, add1 (by omega)]
        rfl
      by_cases hb : 300 < (P.l[k].2.2.length : Int)
      · rw [if_pos hb] at step
        exact ⟨false, loopR_inr step, fun h => by cases h⟩
      · rw [if_neg hb] at step
        obtain ⟨b, h1, h2⟩ := ih (k + 1) (by omega)
        exact ⟨b, by rw [loopR_inl step, h1], h2⟩
    · exact ⟨_, loopR_inr (last k (by omega)), fun h => of_decide_eq_true h⟩

theorem rf_few (M : Img) : ∃ b, f_ref18_Few (M, ()) = some (b, ()) ∧ (b = true → M.1.l.length ≤ 60 ∧ M.2.l.length ≤ 120) := by
  obtain ⟨P, C⟩ := M
  rw [u_ref18_Few]
  exact rfew_loop P C 61 0 rfl

theorem im_copied (M : Img) (h1 : M.1.l.length ≤ 1000000) (h2 : M.2.l.length ≤ 1000000) : f_law18_copied (M, ()) = some ((⟨false, M.1.l⟩, ⟨false, M.2.l⟩), ()) := by
  obtain ⟨P, C⟩ := M
  have h2 : C.l.length ≤ 1000000 := h2
  rw [u_law18_copied, own_eq P h1, bnd_some_eq, fit_ok (by simp only [sumI, lenI, List.length_nil]; omega), bnd_some_eq]
  rfl

theorem law_back18 (P : Sl Thing) (C : Sl Ins) (hg : ∀ x, x ∈ P.l → gT x) : f_law18_ImageBack ((P, C), ()) = some (true, ()) := by
  rw [u_law18_ImageBack]
  obtain ⟨b, hb, hfew⟩ := rf_few (P, C)
  simp only [awake18, bnd_some_eq, hb, notB, Bool.not_true, cnd_false]
  cases b with
  | false => simp only [Bool.not_false, cnd_true]
  | true =>
    obtain ⟨l1, l2⟩ := hfew rfl
    have l1 : P.l.length ≤ 60 := l1
    have l2 : C.l.length ≤ 120 := l2
    simp only [Bool.not_true, cnd_false]
    have ec := im_copied (P, C) (by show P.l.length ≤ _; omega) (by show C.l.length ≤ _; omega)
    have ee := im_enc (⟨false, P.l⟩, ⟨false, C.l⟩) (by show P.l.length ≤ _; omega) (by show C.l.length ≤ _; omega) hg
    simp only [ec, bnd_some_eq, ee]
    by_cases h0 : chkM (⟨false, P.l⟩, ⟨false, C.l⟩) = 0
    · rw [if_pos h0]
      obtain ⟨hok, _⟩ := enc_ok (M := (⟨false, P.l⟩, ⟨false, C.l⟩)) (by show P.l.length ≤ _; omega) hg h0
      obtain ⟨n1, n2, ed⟩ := im_dec _ hok
      have e1 := dec_enc (M := (⟨false, P.l⟩, ⟨false, C.l⟩)) hg h0 []
      rw [List.append_nil, if_pos rfl] at e1
      rw [e1] at ed
      simp only at ed
      have es := rf_same (P, C) (⟨n1, P.l⟩, ⟨n2, C.l⟩) (by show P.l.length ≤ _; omega) (by show C.l.length ≤ _; omega)
      simp only [ed, eqI_self, Bool.not_true, cnd_false, bnd_some_eq, cnd_true, es]
      simp
    · rw [if_neg h0]
      simp only [eqI_ne h0, Bool.not_false, cnd_true]
      rfl

theorem law_only18 (s : List Int) (hs : ∀ b, b ∈ s → 0 ≤ b ∧ b < 256) : f_law18_ImageOnly (s, ()) = some (true, ()) := by
  rw [u_law18_ImageOnly]
  simp only [awake18, bnd_some_eq, notB, Bool.not_true, cnd_false]
  cases h6 : ltI 600 (lenI s) with
  | true => simp only [cnd_true]
  | false =>
    simp only [cnd_false]
    have hl : s.length ≤ 600 := by have := of_decide_eq_false h6; unfold lenI at this; omega
    have hok : bytesOk s := ⟨by omega, hs⟩
    obtain ⟨n1, n2, ed⟩ := im_dec s hok
    cases hd : decR s with
    | none =>
      rw [hd] at ed
      simp only at ed
      rw [ed, bnd_some_eq]
      rfl
    | some q =>
      obtain ⟨p, c⟩ := q
      rw [hd] at ed
      simp only at ed
      obtain ⟨h1, h2⟩ := dec_some hd
      have hg := dec_good hok hd
      obtain ⟨g1, g2, g3, g4⟩ := chkM_ok h1
      have g1 : p.length ≤ 4000 := g1
      have g5 : c.length ≤ 20000 := (chkL_ok g4).1
      have ec := im_copied (⟨n1, p⟩, ⟨n2, c⟩) (by show p.length ≤ _; omega) (by show c.length ≤ _; omega)
      have ee := im_enc (mkI p c) (by show p.length ≤ _; omega) (by show c.length ≤ _; omega) hg
      rw [if_pos h1, h2] at ee
      have ek := im_check (mkI p c) (by show p.length ≤ _; omega) (by show c.length ≤ _; omega) hg
      rw [h1] at ek
      have ee : f_image_Encode ((⟨false, p⟩, ⟨false, c⟩), ()) = some (s, 0, ()) := ee
      have ek : f_image_Check ((⟨false, p⟩, ⟨false, c⟩), ()) = some (0, ()) := ek
      simp only [ed, bnd_some_eq, eqI_self, Bool.not_true, cnd_false, ec, ee, cnd_true, eqS_self, ek]
end Fn
end Ev
namespace Ev
open Go
namespace Fn

/-! The sum tells bytes apart. -/
theorem xor_u32 {a b : Int} (ha : 0 ≤ a ∧ a < 4294967296) (hb : 0 ≤ b ∧ b < 4294967296) : xorI .u32 a b = ((a.toNat ^^^ b.toNat : Nat) : Int) := by
  obtain ⟨n, rfl⟩ := Int.eq_ofNat_of_zero_le ha.1
  obtain ⟨m, rfl⟩ := Int.eq_ofNat_of_zero_le hb.1
  have hn : n < 2 ^ 32 := by omega
  have hm : m < 2 ^ 32 := by omega
  unfold xorI
  rw [BitVec.toNat_xor, ofInt_toNat (w := IntKind.u32.bits) hn, ofInt_toNat (w := IntKind.u32.bits) hm, wrap_u32]
  have := Nat.xor_lt_two_pow hn hm
  rw [Int.emod_eq_of_lt (by omega) (by omega)]
  rfl

theorem xor_u8 {a b : Int} (ha : 0 ≤ a ∧ a < 256) (hb : 0 ≤ b ∧ b < 256) : xorI .u8 a b = ((a.toNat ^^^ b.toNat : Nat) : Int) ∧ a.toNat ^^^ b.toNat < 256 := by
  obtain ⟨n, rfl⟩ := Int.eq_ofNat_of_zero_le ha.1
  obtain ⟨m, rfl⟩ := Int.eq_ofNat_of_zero_le hb.1
  have hn : n < 2 ^ 8 := by omega
  have hm : m < 2 ^ 8 := by omega
  have hx := Nat.xor_lt_two_pow hn hm
  refine ⟨?_, hx⟩
  unfold xorI
  rw [BitVec.toNat_xor, ofInt_toNat (w := IntKind.u8.bits) hn, ofInt_toNat (w := IntKind.u8.bits) hm, wrap_u8]
  rw [Int.emod_eq_of_lt (by omega) (by omega)]
  rfl

theorem div_of {d t : Int} (h : d * 16777619 = 4294967296 * t) : ∃ u, d = 4294967296 * u := ⟨899433627 * t - 3513497 * d, by omega⟩

theorem mul_inj {a b : Int} (ha : 0 ≤ a ∧ a < 4294967296) (hb : 0 ≤ b ∧ b < 4294967296) (h : a * 16777619 % 4294967296 = b * 16777619 % 4294967296) : a = b := by
  have h1 := Int.emod_eq_emod_iff_emod_sub_eq_zero.1 h
  rw [← Int.sub_mul] at h1
  obtain ⟨t, ht⟩ := Int.dvd_of_emod_eq_zero h1
  clear h h1
  obtain ⟨u, hu⟩ := div_of ht
  clear ht
  omega

theorem nat_range {n : Nat} (h : n < 4294967296) : 0 ≤ (n : Int) ∧ (n : Int) < 4294967296 := by omega

theorem xor_cancel_left {a b c : Nat} (h : a ^^^ b = a ^^^ c) : b = c := by
  have : a ^^^ (a ^^^ b) = a ^^^ (a ^^^ c) := by rw [h]
  rwa [← Nat.xor_assoc, ← Nat.xor_assoc, Nat.xor_self, Nat.zero_xor, Nat.zero_xor] at this

theorem sumT_eq {n c : Int} (hn : 0 ≤ n ∧ n < 4294967296) (hc : 0 ≤ c ∧ c < 256) : sumT n c = ((n.toNat ^^^ c.toNat : Nat) : Int) * 16777619 % 4294967296 ∧ n.toNat ^^^ c.toNat < 4294967296 := by
  unfold sumT mulI
  rw [cvI_u32, Int.emod_eq_of_lt hc.1 (by omega), xor_u32 hn ⟨hc.1, by omega⟩, wrap_u32]
  have h1 : n.toNat < 2 ^ 32 := by omega
  have h2 : c.toNat < 2 ^ 32 := by omega
  exact ⟨rfl, Nat.xor_lt_two_pow h1 h2⟩

theorem sumT_c {n c c' : Int} (hn : 0 ≤ n ∧ n < 4294967296) (hc : 0 ≤ c ∧ c < 256) (hc' : 0 ≤ c' ∧ c' < 256) (h : sumT n c = sumT n c') : c = c' := by
  obtain ⟨e1, b1⟩ := sumT_eq hn hc
  obtain ⟨e2, b2⟩ := sumT_eq hn hc'
  rw [e1, e2] at h
  have h3 := mul_inj (nat_range b1) (nat_range b2) h
  have h4 : n.toNat ^^^ c.toNat = n.toNat ^^^ c'.toNat := by exact_mod_cast h3
  have := xor_cancel_left h4
  clear h h3 h4 e1 e2 b1 b2
  omega

theorem sumT_n {n n' c : Int} (hn : 0 ≤ n ∧ n < 4294967296) (hn' : 0 ≤ n' ∧ n' < 4294967296) (hc : 0 ≤ c ∧ c < 256) (h : sumT n c = sumT n' c) : n = n' := by
  obtain ⟨e1, b1⟩ := sumT_eq hn hc
  obtain ⟨e2, b2⟩ := sumT_eq hn' hc
  rw [e1, e2] at h
  have h3 := mul_inj (nat_range b1) (nat_range b2) h
  have h4 : n.toNat ^^^ c.toNat = n'.toNat ^^^ c.toNat := by exact_mod_cast h3
  rw [Nat.xor_comm n.toNat, Nat.xor_comm n'.toNat] at h4
  have := xor_cancel_left h4
  clear h h3 h4 e1 e2 b1 b2
  omega

theorem fold_inj : ∀ (s : List Int) (n n' : Int), (∀ b, b ∈ s → 0 ≤ b ∧ b < 256) → 0 ≤ n ∧ n < 4294967296 → 0 ≤ n' ∧ n' < 4294967296 → s.foldl sumT n = s.foldl sumT n' → n = n'
  | [], _, _, _, _, _, h => h
  | c :: s, n, n', hb, h1, h2, h =>
    sumT_n h1 h2 (hb c (List.mem_cons_self ..)) (fold_inj s (sumT n c) (sumT n' c) (fun b hm => hb b (List.mem_cons_of_mem _ hm)) (sumT_range n c) (sumT_range n' c) h)

theorem sum_set {s : List Int} (hb : ∀ b, b ∈ s → 0 ≤ b ∧ b < 256) {k : Nat} {x v : Int} (hx : s[k]? = some x) (hv : 0 ≤ v ∧ v < 256) (h : sumB (s.set k v) = sumB s) : v = x := by
  have hk := get_lt hx
  have hxk : s[k] = x := by rw [List.getElem?_eq_getElem hk] at hx; injection hx
  have e1 : s.set k v = s.take k ++ v :: s.drop (k + 1) := List.set_eq_take_append_cons_drop.trans (if_pos hk)
  have e2 : s = s.take k ++ x :: s.drop (k + 1) := by
    rw [← hxk, ← drop_cons hk, List.take_append_drop]
  unfold sumB at h
  rw [e1] at h
  have h' : (s.take k ++ v :: s.drop (k + 1)).foldl sumT 2166136261 = (s.take k ++ x :: s.drop (k + 1)).foldl sumT 2166136261 := by rw [← e2]; exact h
  rw [List.foldl_append, List.foldl_append, List.foldl_cons, List.foldl_cons] at h'
  have hr := fold_range (s.take k) 2166136261 (by omega)
  have := fold_inj _ _ _ (fun b hm => hb b (List.mem_of_mem_drop hm)) (sumT_range _ v) (sumT_range _ x) h'
  exact sumT_c hr hv (hb x (List.mem_of_getElem? hx)) this

theorem turned_none {M : Img} (hP : M.1.l.length ≤ 1000) (hg : ∀ x, x ∈ M.1.l → gT x) (hc : chkM M = 0) {k : Nat} {x v : Int} (hx : (encI M)[k]? = some x) (hv : 0 ≤ v ∧ v < 256) (hne : v ≠ x) : decR ((encI M).set k v) = none := by
  cases h : decR ((encI M).set k v) with
  | none => rfl
  | some q =>
    exfalso
    obtain ⟨p, c⟩ := q
    obtain ⟨h1, h2⟩ := dec_some h
    obtain ⟨hok, _⟩ := enc_ok hP hg hc
    have hlen := congrArg List.length h2
    rw [List.length_set] at hlen
    have hbl : (bodyI (mkI p c)).length = (bodyI M).length := by
      unfold encI at hlen
      rw [List.length_append, List.length_append, lowN_len, lowN_len] at hlen
      omega
    unfold encI at h2 hx
    have hs1 := sumB_range (bodyI (mkI p c))
    have hs2 := sumB_range (bodyI M)
    have e4 : (256 : Int) ^ 4 = 4294967296 := by decide
    have hbody : ∀ b, b ∈ bodyI M → 0 ≤ b ∧ b < 256 := fun b hb => hok.2 b (by unfold encI; exact List.mem_append_left _ hb)
    by_cases hk : k < (bodyI M).length
    · rw [List.set_append, if_pos hk] at h2
      obtain ⟨g1, g2⟩ := List.append_inj h2 (by rw [List.length_set]; exact hbl)
      have g3 := congrArg numB g2
      rw [numB_low 4 _ hs1.1 (by rw [e4]; exact hs1.2), numB_low 4 _ hs2.1 (by rw [e4]; exact hs2.2), g1] at g3
      rw [List.getElem?_append_left hk] at hx
      exact hne (sum_set hbody hx hv g3)
    · rw [List.set_append, if_neg hk] at h2
      obtain ⟨g1, g2⟩ := List.append_inj h2 hbl
      rw [g1] at g2
      rw [List.getElem?_append_right (by omega)] at hx
      have hj := get_lt hx
      have g3 : (lowN 4 (sumB (bodyI M)))[k - (bodyI M).length]? = ((lowN 4 (sumB (bodyI M))).set (k - (bodyI M).length) v)[k - (bodyI M).length]? := by rw [← g2]
      rw [hx, List.getElem?_set_self hj] at g3
      injection g3 with g3
      exact hne g3.symm

theorem cut_none {M : Img} (hP : M.1.l.length ≤ 1000) (hg : ∀ x, x ∈ M.1.l → gT x) (hc : chkM M = 0) {k : Nat} (hk : k < (encI M).length) : decR ((encI M).take k) = none := by
  cases h : decR ((encI M).take k) with
  | none => rfl
  | some q =>
    exfalso
    obtain ⟨p, c⟩ := q
    obtain ⟨h1, h2⟩ := dec_some h
    obtain ⟨hok, _⟩ := enc_ok hP hg hc
    have hokt : bytesOk ((encI M).take k) := ⟨by rw [List.length_take]; have := hok.1; omega, fun b hb => hok.2 b (List.mem_of_mem_take hb)⟩
    have hg2 := dec_good hokt h
    have e1 := dec_enc (M := mkI p c) hg2 h1 ((encI M).drop k)
    rw [h2, List.take_append_drop, if_neg (by intro e; have := congrArg List.length e; rw [List.length_drop] at this; simp at this; omega)] at e1
    have e2 := dec_enc hg hc []
    rw [List.append_nil, if_pos rfl, e1] at e2
    cases e2

theorem enc_short {M : Img} (hP : M.1.l.length ≤ 1000) (hc : chkM M = 0) : (encI M).length ≤ 900000 := by
  obtain ⟨h1, h2, h3, h4⟩ := chkM_ok hc
  have hasm : (codeB M).length ≤ 11 * M.2.l.length := by
    unfold codeB
    rw [asmB_len (good_rlx h4)]
    exact (pos_bound (good_rlx h4).len (Nat.le_refl _)).2
  have h20 := (chkL_ok h4).1
  have hpl := poolB_len M.1.l h2
  unfold encI
  rw [List.length_append, lowN_len]
  unfold bodyI headI
  simp only [List.length_append, lowN_len, List.length_cons, List.length_nil]
  omega

theorem law_turned18 (P : Sl Thing) (C : Sl Ins) (hg : ∀ x, x ∈ P.l → gT x) (at_ v : Int) (hat : 0 ≤ at_ ∧ at_ ≤ 65535) (hv : 0 ≤ v ∧ v ≤ 255) : f_law18_ImageTurned ((P, C), at_, v, ()) = some (true, ()) := by
  rw [u_law18_ImageTurned]
  obtain ⟨b, hb, hfew⟩ := rf_few (P, C)
  simp only [awake18, bnd_some_eq, hb, notB, Bool.not_true, cnd_false]
  cases b with
  | false => simp only [Bool.not_false, cnd_true]
  | true =>
    obtain ⟨l1, l2⟩ := hfew rfl
    have l1 : P.l.length ≤ 60 := l1
    have l2 : C.l.length ≤ 120 := l2
    simp only [Bool.not_true, cnd_false]
    have ec := im_copied (P, C) (by show P.l.length ≤ _; omega) (by show C.l.length ≤ _; omega)
    have ee := im_enc (⟨false, P.l⟩, ⟨false, C.l⟩) (by show P.l.length ≤ _; omega) (by show C.l.length ≤ _; omega) hg
    simp only [ec, bnd_some_eq, ee]
    by_cases h0 : chkM (⟨false, P.l⟩, ⟨false, C.l⟩) = 0
    · have hP : (⟨false, P.l⟩ : Sl Thing).l.length ≤ 1000 := by show P.l.length ≤ _; omega
      obtain ⟨hok, h14⟩ := enc_ok (M := (⟨false, P.l⟩, ⟨false, C.l⟩)) hP hg h0
      have hsh := enc_short (M := (⟨false, P.l⟩, ⟨false, C.l⟩)) hP h0
      simp only [h0, if_true, eqI_self, Bool.not_true, cnd_false, bnd_some_eq, cnd_eq]
      by_cases hv0 : v = 0
      · simp only [hv0, if_true]
      · simp only [hv0, if_false]
        have tur := fun (k : Nat) (x : Int) hx hr hne => turned_none (M := (⟨false, P.l⟩, ⟨false, C.l⟩)) hP hg h0 (k := k) (x := x) (v := xorI .u8 x v) hx hr hne
        have cut := fun (k : Nat) hk => cut_none (M := (⟨false, P.l⟩, ⟨false, C.l⟩)) hP hg h0 (k := k) hk
        have mor := dec_enc (M := (⟨false, P.l⟩, ⟨false, C.l⟩)) hg h0 [v]
        rw [if_neg (by simp)] at mor
        generalize encI (⟨false, P.l⟩, ⟨false, C.l⟩) = s at *
        have hcv : cvI .i64 at_ = at_ := cvI_i64 (by omega) (by omega)
        have hs0 : 0 < lenI s := by unfold lenI; omega
        rw [hcv, remI_pos hat.1 hs0, bnd_some_eq, fit_ok (by have := hok.1; unfold lenI; omega), bnd_some_eq]
        have hk1 : 0 ≤ at_ % lenI s := Int.emod_nonneg _ (by omega)
        have hk2 : at_ % lenI s < lenI s := Int.emod_lt_of_pos _ hs0
        obtain ⟨k, hk⟩ := Int.eq_ofNat_of_zero_le hk1
        have hkl : k < s.length := by unfold lenI at hk hk2; omega
        rw [hk, okAt_nat hkl, bnd_some_eq]
        have hx := List.getElem?_eq_getElem hkl
        have hnx : nth s k = some s[k] := hx
        have hbx := hok.2 _ (List.getElem_mem hkl)
        rw [hnx, bnd_some_eq, bnd_some_eq, hnx, bnd_some_eq, bnd_some_eq]
        obtain ⟨x1, x2⟩ := xor_u8 hbx (⟨hv.1, by omega⟩ : 0 ≤ v ∧ v < 256)
        have hxr : 0 ≤ xorI .u8 s[k] v ∧ xorI .u8 s[k] v < 256 := by rw [x1]; omega
        have hxne : xorI .u8 s[k] v ≠ s[k] := by
          intro e
          rw [x1] at e
          have e2 : s[k].toNat ^^^ v.toNat = s[k].toNat ^^^ 0 := by rw [Nat.xor_zero]; omega
          have := xor_cancel_left e2
          omega
        have t1 := tur k s[k] hx hxr hxne
        have t2 := cut k hkl
        have ok1 : bytesOk (s.set k (xorI .u8 s[k] v)) := ⟨by rw [List.length_set]; exact hok.1, fun b hb => by
          rcases List.mem_or_eq_of_mem_set hb with h | h
          · exact hok.2 b h
          · rw [h]; exact hxr⟩
        have ok2 : bytesOk (s.take k) := ⟨by rw [List.length_take]; have := hok.1; omega, fun b hb => hok.2 b (List.mem_of_mem_take hb)⟩
        obtain ⟨_, _, d1⟩ := im_dec _ ok1
        obtain ⟨_, _, d2⟩ := im_dec _ ok2
        rw [t1] at d1
        rw [t2] at d2
        simp only at d1 d2
        have d1 : f_image_Decode (setL s k (xorI .u8 s[k] v), ()) = _ := d1
        have c0 : cutL s 0 ((k : Nat) : Int) = some (s.take k) := by
          unfold cutL
          rw [if_pos (by omega)]
          simp
        by_cases hll : s.length < 1000000
        · have ok3 : bytesOk (s ++ [v]) := ⟨by rw [List.length_append, List.length_singleton]; omega, fun b hb => by
            rcases List.mem_append.1 hb with h | h
            · exact hok.2 b h
            · rw [List.mem_singleton.1 h]; omega⟩
          obtain ⟨_, _, d3⟩ := im_dec _ ok3
          rw [mor] at d3
          simp only at d3
          have d3 : f_image_Decode (catS s [v], ()) = _ := d3
          rw [d1, bnd_some_eq, c0, bnd_some_eq, d2, bnd_some_eq, fit_ok (by simp only [sumI, lenI, List.length_singleton]; omega), bnd_some_eq, d3]
          rfl
        · omega
    · simp only [if_neg h0, eqI_ne h0, Bool.not_false, cnd_true, bnd_some_eq]
end Fn
end Ev
