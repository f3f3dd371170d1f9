/- Layer 18: the statements as data. No statement of its own about the program. -/
import Derived.Test.YtdekfefcpdejkaaGreatDoorPlainI
namespace Ev
open Go
namespace Fn

/-! The chapter's example. -/
def ex0 : Img := (⟨true, []⟩, ⟨false, [(0, 0, 0)]⟩)
def exP : List Thing := [(true, 0, [98]), (false, 5, []), (true, 0, []), (false, -1, []), (false, 5, [])]
def exQ : List Thing := [(false, -1, []), (false, 5, []), (true, 0, []), (true, 0, [98])]
theorem ex0_chk : chkM ex0 = 0 := by decide
theorem ex0_code : codeB ex0 = [0] := by decide
theorem ex0_body : bodyI ex0 = [84, 82, 73, 71, 0, 0, 1, 0, 0, 0, 0] := by
  unfold bodyI
  rw [ex0_code]
  decide
theorem exP_gT : ∀ x, x ∈ exP → gT x := by
  intro x hx
  have h : ∀ y : Thing, (y.2.1 = 0 ∨ y.2.1 = 5 ∨ y.2.1 = -1) → (y.2.2 = [] ∨ y.2.2 = [98]) → gT y := by
    intro y h1 h2
    refine ⟨by omega, fun b hb => ?_, ?_⟩
    · rcases h2 with h2 | h2 <;> rw [h2] at hb
      · cases hb
      · rw [List.mem_singleton.1 hb]; omega
    · rcases h2 with h2 | h2 <;> rw [h2]
      · exact Nat.zero_le _
      · show 1 ≤ _; omega
  unfold exP at hx
  simp only [List.mem_cons, List.not_mem_nil, or_false] at hx
  rcases hx with rfl | rfl | rfl | rfl | rfl <;> exact h _ (by simp) (by simp)
theorem exP_right : exP.any (fun x => !rightT x) = false := by decide
theorem exP_good : ∀ x, x ∈ exP → goodT x = true := fun x hx => im_good (exP_gT x hx) (by
  have := List.any_eq_false.1 exP_right x hx
  simpa using this)
theorem exQ_strict : strictL exQ := by unfold strictL exQ; decide
theorem exP_pool : poolL exP = exQ := by
  refine strict_unique _ _ (poolL_strict exP_good) exQ_strict fun x => ?_
  rw [poolL_mem]
  unfold exP exQ
  simp only [List.mem_cons, List.not_mem_nil, or_false]
  constructor
  · rintro (h | h | h | h | h) <;> simp [h]
  · rintro (h | h | h | h) <;> simp [h]

theorem enc_ok {M : Img} (hP : M.1.l.length ≤ 1000) (hg : ∀ x, x ∈ M.1.l → gT x) (hc : chkM M = 0) : bytesOk (encI M) ∧ 14 ≤ (encI M).length := by
  obtain ⟨h1, h2, h3, h4⟩ := chkM_ok hc
  have hab := asmB_ok (good_rlx h4)
  have hcl : (codeB M).length ≤ 1000000 := hab.1
  have hasm : (codeB M).length ≤ 11 * M.2.l.length := by
    unfold codeB
    rw [asmB_len (good_rlx h4)]
    exact (pos_bound (good_rlx h4).len (Nat.le_refl _)).2
  have h20 := (chkL_ok h4).1
  have hpl := poolB_len M.1.l h2
  have hlen : (encI M).length = 14 + (poolB M.1.l).length + (codeB M).length := by
    unfold encI
    rw [List.length_append, lowN_len]
    unfold bodyI headI
    simp only [List.length_append, lowN_len, List.length_cons, List.length_nil]
    omega
  refine ⟨⟨by omega, fun b hb => ?_⟩, by omega⟩
  have low := fun k n (h : b ∈ lowN k n) => lowN_byte k n b h
  unfold encI at hb
  generalize sumB (bodyI M) = q at hb
  unfold bodyI headI at hb
  simp only [List.mem_append] at hb
  rcases hb with ((((hb | hb) | hb) | hb) | hb) | hb
  · simp only [List.mem_cons, List.not_mem_nil, or_false] at hb
    omega
  · exact low _ _ hb
  · unfold poolB at hb
    obtain ⟨t, ht, hbt⟩ := List.mem_flatten.1 hb
    obtain ⟨x, hx, rfl⟩ := List.mem_map.1 ht
    have hgx := hg x hx
    unfold thingB at hbt
    cases hx1 : x.1 with
    | true =>
      rw [hx1, cond_true] at hbt
      have hl := right_len (h2 x hx) hx1
      rcases List.mem_cons.1 hbt with rfl | hbt
      · omega
      · rcases List.mem_cons.1 hbt with rfl | hbt
        · omega
        · have := hgx.2.1 b hbt; omega
    | false =>
      rw [hx1, cond_false] at hbt
      rcases List.mem_cons.1 hbt with rfl | hbt
      · omega
      · exact low _ _ hbt
  · exact low _ _ hb
  · exact hab.2 b hb
  · exact low _ _ hb

theorem ex0_gT : ∀ x, x ∈ ex0.1.l → gT x := fun x hx => by cases hx

theorem awake18 : f_law18_awake () = some (true, ()) := by
  have e0 : f_image_Encode ((⟨true, ([] : List Thing)⟩, ⟨false, ([(0, 0, 0)] : List Ins)⟩), ()) = some (encI ex0, 0, ()) := by
    have := im_enc ex0 (Nat.zero_le _) (by show 1 ≤ _; omega) ex0_gT
    rw [if_pos ex0_chk] at this
    exact this
  have hok := enc_ok (M := ex0) (Nat.zero_le _) ex0_gT ex0_chk
  obtain ⟨n1, n2, e1⟩ := im_dec (encI ex0) hok.1
  have e1' : decR (encI ex0) = some ([], [(0, 0, 0)]) := by
    have := dec_enc ex0_gT ex0_chk []
    rw [List.append_nil, if_pos rfl] at this
    exact this
  rw [e1'] at e1
  simp only at e1
  obtain ⟨n3, e2⟩ := im_pool ⟨false, exP⟩ (by show 5 ≤ _; omega) (fun h => by cases h) exP_gT
  rw [show (⟨false, exP⟩ : Sl Thing).l.any (fun x => !rightT x) = false from exP_right, exP_pool] at e2
  simp only [Bool.false_eq_true, if_false] at e2
  have e3 : f_image_Check ((⟨true, ([] : List Thing)⟩, ⟨false, ([(0, 0, 0)] : List Ins)⟩), ()) = some (0, ()) := by
    have := im_check ex0 (Nat.zero_le _) (by show 1 ≤ _; omega) ex0_gT
    rw [ex0_chk] at this
    exact this
  have e4 : lenI (encI ex0) = 15 := by
    unfold encI lenI
    rw [List.length_append, lowN_len, ex0_body]
    rfl
  have e5 : cutL (encI ex0) 0 11 = some [84, 82, 73, 71, 0, 0, 1, 0, 0, 0, 0] := by
    unfold cutL
    rw [if_pos (by unfold lenI at e4; omega)]
    unfold encI
    rw [ex0_body]
    rfl
  have e6 : f_image_Same ((⟨true, ([] : List Thing)⟩, ⟨false, ([(0, 0, 0)] : List Ins)⟩), (⟨n1, []⟩, ⟨n2, [(0, 0, 0)]⟩), ()) = some (true, ()) := im_same ex0 (⟨n1, []⟩, ⟨n2, [(0, 0, 0)]⟩) (Nat.zero_le _) (by show 1 ≤ _; omega)
  have e7 : f_image_Index (⟨n3, exQ⟩, (true, 0, [98]), ()) = some (3, ()) := im_index ⟨n3, exQ⟩ (true, 0, [98]) (by show 4 ≤ _; omega)
  have e8 : f_image_Sum (([] : List Int), ()) = some (2166136261, ()) := im_sum [] (Nat.zero_le _)
  have e9 : f_image_Less ((false, -1, []), (false, 5, []), ()) = some (true, ()) := im_less _ _
  have e2 : f_image_Pool (⟨false, ([(true, 0, ([98] : List Int)), (false, 5, ([] : List Int)), (true, 0, ([] : List Int)), (false, (-1), ([] : List Int)), (false, 5, ([] : List Int))] : List (Bool × Int × List Int))⟩, ()) = _ := e2
  rw [u_law18_awake]
  have a0 : at? exQ 0 = some (false, -1, []) := rfl
  have a1 : at? exQ 1 = some (false, 5, []) := rfl
  have l4 : lenI exQ = 4 := rfl
  have s1 : eqS ([84, 82, 73, 71, 0, 0, 1, 0, 0, 0, 0] : List Int) ([84, 82, 73, 71, 0, 0, 1, 0, 0, 0, 0] : List Int) = true := eqS_self _
  simp only [e0, e1, e2, e3, e4, e5, e6, e7, e8, e9, a0, a1, l4, s1, bnd_some_eq, eqI_self, cnd_true]
end Fn
end Ev
namespace Ev
open Go
namespace Fn

theorem rfew_loop (P : Sl Thing) (C : Sl Ins) : ∀ (m k : Nat), k + m = 61 → ∃ b, loopR l1_ref18_Few ((k : Int), P, C, ()) = some (b, ()) ∧ (b = true → P.l.length ≤ 60 ∧ C.l.length ≤ 120) := by
  have last : ∀ k : Nat, ¬ (k < P.l.length ∧ k < 61) → l1_ref18_Few ((k : Int), P, C, ()) = some (.inr (decide (P.l.length ≤ 60 ∧ C.l.length ≤ 120), ())) := by
    intro k hk
    unfold l1_ref18_Few
    simp only
    have e1 : (cnd (ltI (k : Int) (lenI P.l)) (some (ltI (k : Int) 61)) (some false) : Option Bool) = some false := by
      rw [cnd_lt]
      by_cases h : (k : Int) < lenI P.l
      · rw [if_pos h]
        have : ltI (k : Int) 61 = false := decide_eq_false (by unfold lenI at h; omega)
        rw [this]
      · rw [if_neg h]
    rw [e1, bnd_some_eq, cnd_false, cnd_le]
    by_cases h60 : P.l.length ≤ 60
    · rw [if_pos (by unfold lenI; omega), bnd_some_eq]
      have : leI (lenI C.l) 120 = decide (C.l.length ≤ 120) := decide_eq_decide.2 (by unfold lenI; omega)
      rw [this]
      simp [h60]
    · rw [if_neg (by unfold lenI; omega), bnd_some_eq]
      simp [h60]
  intro m
  induction m with
  | zero =>
    intro k hk
    exact ⟨_, loopR_inr (last k (by omega)), fun h => of_decide_eq_true h⟩
  | succ m ih =>
    intro k hk
    by_cases hlt : k < P.l.length
    · have step : l1_ref18_Few ((k : Int), P, C, ()) = if 300 < (P.l[k].2.2.length : Int) then some (.inr (false, ())) else some (.inl (((k + 1 : Nat) : Int), P, C, ())) := by
        unfold l1_ref18_Few
        simp only
        have h61 : ltI (k : Int) 61 = true := decide_eq_true (by omega)
        rw [cnd_lt, if_pos (by unfold lenI; omega), bnd_some_eq, h61, cnd_true, at?_nat (List.getElem?_eq_getElem hlt), bnd_some_eq, cnd_lt, add1 (by omega)]
        rfl
      by_cases hb : 300 < (P.l[k].2.2.length : Int)
      · rw [if_pos hb] at step
        exact ⟨false, loopR_inr step, fun h => by cases h⟩
      · rw [if_neg hb] at step
        obtain ⟨b, h1, h2⟩ := ih (k + 1) (by omega)
        exact ⟨b, by rw [loopR_inl step, h1], h2⟩
    · exact ⟨_, loopR_inr (last k (by omega)), fun h => of_decide_eq_true h⟩

theorem rf_few (M : Img) : ∃ b, f_ref18_Few (M, ()) = some (b, ()) ∧ (b = true → M.1.l.length ≤ 60 ∧ M.2.l.length ≤ 120) := by
  obtain ⟨P, C⟩ := M
  rw [u_ref18_Few]
  exact rfew_loop P C 61 0 rfl

theorem im_copied (M : Img) (h1 : M.1.l.length ≤ 1000000) (h2 : M.2.l.length ≤ 1000000) : f_law18_copied (M, ()) = some ((⟨false, M.1.l⟩, ⟨false, M.2.l⟩), ()) := by
  obtain ⟨P, C⟩ := M
  have h2 : C.l.length ≤ 1000000 := h2
  rw [u_law18_copied, own_eq P h1, bnd_some_eq, fit_ok (by simp only [sumI, lenI, List.length_nil]; omega), bnd_some_eq]
  rfl

end Fn
end Ev
namespace Ev
open Go
namespace Fn

theorem rcheck_loop (P : Sl Thing) (C : Sl Ins) (hP : P.l.length ≤ 1000000) (hC : C.l.length ≤ 1000000) (hg : ∀ x, x ∈ P.l → gT x) : ∀ (m k : Nat), k + m = P.l.length →
    loopR l1_ref18_Check ((k : Int), P, C, ()) = some (if chkP (prevT P.l k) (P.l.drop k) = true then chkL C.l else 180, ()) := by
  intro m
  induction m with
  | zero =>
    intro k hk
    refine loopR_inr ?_
    unfold l1_ref18_Check
    simp only
    rw [cnd_lt, if_neg (by unfold lenI; omega), List.drop_eq_nil_of_le (by omega), rCheck_spec C hC, bnd_some_eq]
    rfl
  | succ m ih =>
    intro k hk
    have hlt : k < P.l.length := by omega
    rw [drop_cons hlt]
    have hpk : prevT P.l (k + 1) = some P.l[k] := by
      unfold prevT
      rw [if_neg (by omega), Nat.add_sub_cancel, List.getElem?_eq_getElem hlt]
    have step : l1_ref18_Check ((k : Int), P, C, ()) = if (rightT P.l[k] && (match prevT P.l k with | none => true | some y => lessD y P.l[k])) = true then some (.inl (((k + 1 : Nat) : Int), P, C, ())) else some (.inr (180, ())) := by
      unfold l1_ref18_Check
      simp only
      rw [cnd_lt, if_pos (by unfold lenI; omega), at?_nat (List.getElem?_eq_getElem hlt), bnd_some_eq, rf_right _ (hg _ (List.getElem_mem hlt)), bnd_some_eq, cnd_not]
      cases hr : rightT P.l[k] with
      | false => rfl
      | true =>
        rw [cnd_true, Bool.true_and, cnd_lt, add1 (by omega)]
        by_cases h0 : k = 0
        · subst h0
          rw [if_neg (by omega), cnd_false]
          rfl
        · rw [if_pos (by omega)]
          have s1 : subI .i64 (k : Int) 1 = ((k - 1 : Nat) : Int) := by rw [subI_i64 (by omega) (by omega)]; omega
          have hl1 : k - 1 < P.l.length := by omega
          rw [s1, at?_nat (List.getElem?_eq_getElem hl1), bnd_some_eq, bnd_some_eq, rf_less, bnd_some_eq, cnd_not]
          have : prevT P.l k = some P.l[k - 1] := by unfold prevT; rw [if_neg h0, List.getElem?_eq_getElem hl1]
          rw [this]
          show _ = if lessD P.l[k - 1] P.l[k] = true then _ else _
          cases lessD P.l[k - 1] P.l[k] <;> rfl
    show _ = some (if (rightT P.l[k] && (match prevT P.l k with | none => true | some y => lessD y P.l[k]) && chkP (some P.l[k]) (P.l.drop (k + 1))) = true then chkL C.l else 180, ())
    cases hb : (rightT P.l[k] && (match prevT P.l k with | none => true | some y => lessD y P.l[k])) with
    | true =>
      rw [hb, if_pos rfl] at step
      rw [loopR_inl step, ih (k + 1) (by omega), hpk, Bool.true_and]
    | false =>
      rw [hb, if_neg Bool.false_ne_true] at step
      rw [loopR_inr step, Bool.false_and, if_neg Bool.false_ne_true]

theorem rf_check (M : Img) (hP : M.1.l.length ≤ 1000000) (hC : M.2.l.length ≤ 1000000) (hg : ∀ x, x ∈ M.1.l → gT x) : f_ref18_Check (M, ()) = some (chkM M, ()) := by
  obtain ⟨P, C⟩ := M
  have hP : P.l.length ≤ 1000000 := hP
  rw [u_ref18_Check, cnd_lt]
  unfold chkM
  show (if 4000 < lenI P.l then _ else loopR l1_ref18_Check (((0 : Nat) : Int), P, C, ())) = some (if 4000 < P.l.length ∨ chkP none P.l = false then 180 else chkL C.l, ())
  by_cases hl : 4000 < P.l.length
  · rw [if_pos (by unfold lenI; omega), if_pos (.inl hl)]
  · rw [if_neg (by unfold lenI; omega), rcheck_loop P C hP hC hg P.l.length 0 (by omega)]
    show some (if chkP none P.l = true then chkL C.l else 180, ()) = _
    cases hc : chkP none P.l with
    | true => rw [if_pos rfl, if_neg (by simp [hl])]
    | false => rw [if_neg Bool.false_ne_true, if_pos (.inr rfl)]

theorem low11 : lowN 1 1 = [1] := rfl
theorem low10 : lowN 1 0 = [0] := rfl
theorem low1n {n : Int} (h0 : 0 ≤ n) (h : n < 256) : lowN 1 n = [n] := by
  show [n % 256] = [n]
  rw [Int.emod_eq_of_lt h0 h]

theorem renc_loop (P : Sl Thing) (C : Sl Ins) (hc : chkL C.l = 0) (hP : P.l.length ≤ 4000) (hr : ∀ x, x ∈ P.l → rightT x = true) : ∀ (m k : Nat) (b : List Int), k + m = P.l.length → b.length ≤ 6 + 202 * k →
    loopR l1_ref18_Encode (b, (k : Int), P, C, ()) = some (tailI (asmB C.l (rlx C.l)) (b ++ poolB (P.l.drop k)), ()) := by
  intro m
  induction m with
  | zero =>
    intro k b hk hb
    refine loopR_inr ?_
    have hab := asmB_ok (good_rlx hc)
    unfold l1_ref18_Encode
    simp only
    rw [cnd_lt, if_neg (by unfold lenI; omega), rassemble_spec C hc, bnd_some_eq]
    generalize asmB C.l (rlx C.l) = c at hab
    have hc1 : c.length ≤ 1000000 := hab.1
    have cv : cvI .u64 (lenI c) = (c.length : Int) := cvI_u64 (by unfold lenI; omega) (by unfold lenI; omega)
    have e1 : f_ref18_low ((c.length : Int), 4, ()) = some (lowN 4 (c.length : Int), ()) := rf_low (c.length : Int) 4 (by omega) (by omega) (by omega)
    have hl : (b ++ (lowN 4 (c.length : Int) ++ c)).length ≤ 2000000 := by simp only [List.length_append, lowN_len]; omega
    have hsr := sumB_range (b ++ (lowN 4 (c.length : Int) ++ c))
    have e2 : f_ref18_low (sumB (b ++ (lowN 4 (c.length : Int) ++ c)), 4, ()) = some (lowN 4 (sumB (b ++ (lowN 4 (c.length : Int) ++ c))), ()) := rf_low _ 4 (by omega) hsr.1 (by omega)
    have f1 : fit (sumI (lenI (lowN 4 (c.length : Int))) (lenI c)) = some () := fit_ok (by simp only [sumI, lenI, lowN_len]; omega)
    have f2 : fit (sumI (lenI b) (lenI (lowN 4 (c.length : Int) ++ c))) = some () := fit_ok (by simp only [sumI, lenI, List.length_append, lowN_len]; omega)
    have f3 : fit (sumI (lenI (b ++ (lowN 4 (c.length : Int) ++ c))) (lenI (lowN 4 (sumB (b ++ (lowN 4 (c.length : Int) ++ c)))))) = some () := fit_ok (by simp only [sumI, lenI, lowN_len]; omega)
    simp only [cv, e1, bnd_some_eq, catS, f1, f2, rf_sum _ (by omega : (b ++ (lowN 4 (c.length : Int) ++ c)).length ≤ 1000000000), cvI_u64 hsr.1 (by omega : sumB (b ++ (lowN 4 (c.length : Int) ++ c)) < _), e2, f3]
    rw [List.drop_eq_nil_of_le (by omega)]
    show _ = some (Sum.inr (tailI c (b ++ []), ()))
    unfold tailI
    rw [List.append_nil]
    simp only [List.append_assoc]
  | succ m ih =>
    intro k b hk hb
    have hlt : k < P.l.length := by omega
    have hx := List.getElem?_eq_getElem hlt
    have hrx := hr _ (List.getElem_mem hlt)
    rw [drop_cons hlt, poolB_cons, ← List.append_assoc]
    have step : l1_ref18_Encode (b, (k : Int), P, C, ()) = some (.inl (b ++ thingB P.l[k], ((k + 1 : Nat) : Int), P, C, ())) := by
      unfold l1_ref18_Encode
      simp only
      rw [cnd_lt, if_pos (by unfold lenI; omega), at?_nat hx, bnd_some_eq]
      cases ht : P.l[k].1 with
      | true =>
        have hl := right_len hrx ht
        have cv : cvI .u64 (lenI P.l[k].2.2) = (P.l[k].2.2.length : Int) := cvI_u64 (by unfold lenI; omega) (by unfold lenI; omega)
        have e1 : f_ref18_low (1, 1, ()) = some (lowN 1 1, ()) := rf_low 1 1 (by omega) (by omega) (by omega)
        have e2 : f_ref18_low ((P.l[k].2.2.length : Int), 1, ()) = some (lowN 1 (P.l[k].2.2.length : Int), ()) := rf_low _ 1 (by omega) (by omega) (by omega)
        rw [low11] at e1
        rw [low1n (by omega) (by omega)] at e2
        have f1 : fit (sumI (lenI ([1] : List Int)) (lenI [(P.l[k].2.2.length : Int)])) = some () := fit_ok (by simp only [sumI, lenI, List.length_cons, List.length_nil]; omega)
        have f2 : fit (sumI (lenI ([1] ++ [(P.l[k].2.2.length : Int)])) (lenI P.l[k].2.2)) = some () := fit_ok (by simp only [sumI, lenI, List.length_append, List.length_cons, List.length_nil]; omega)
        have f3 : fit (sumI (lenI b) (lenI ([1] ++ [(P.l[k].2.2.length : Int)] ++ P.l[k].2.2))) = some () := fit_ok (by simp only [sumI, lenI, List.length_append, List.length_cons, List.length_nil]; omega)
        have ht2 : thingB P.l[k] = [1] ++ [(P.l[k].2.2.length : Int)] ++ P.l[k].2.2 := by unfold thingB; rw [ht]; rfl
        simp only [cnd_true, cv, e1, e2, bnd_some_eq, catS, f1, f2, f3, add1 (k := k) (by omega), ht2]
      | false =>
        have c64 : cvI .u64 P.l[k].2.1 = P.l[k].2.1 % 18446744073709551616 := wrap_u64' _
        have e1 : f_ref18_low (0, 1, ()) = some (lowN 1 0, ()) := rf_low 0 1 (by omega) (by omega) (by omega)
        rw [low10] at e1
        have e2 : f_ref18_low (P.l[k].2.1 % 18446744073709551616, 8, ()) = some (lowN 8 (P.l[k].2.1 % 18446744073709551616), ()) := rf_low _ 8 (by omega) (by omega) (by omega)
        have f1 : fit (sumI (lenI ([0] : List Int)) (lenI (lowN 8 (P.l[k].2.1 % 18446744073709551616)))) = some () := fit_ok (by simp only [sumI, lenI, lowN_len, List.length_cons, List.length_nil]; omega)
        have f2 : fit (sumI (lenI b) (lenI ([0] ++ lowN 8 (P.l[k].2.1 % 18446744073709551616)))) = some () := fit_ok (by simp only [sumI, lenI, List.length_append, lowN_len, List.length_cons, List.length_nil]; omega)
        have ht2 : thingB P.l[k] = [0] ++ lowN 8 (P.l[k].2.1 % 18446744073709551616) := by unfold thingB; rw [ht]; rfl
        simp only [cnd_false, c64, e1, e2, bnd_some_eq, catS, f1, f2, add1 (k := k) (by omega), ht2]
    rw [loopR_inl step]
    have htl := thingB_len hrx
    exact ih (k + 1) (b ++ thingB P.l[k]) (by omega) (by rw [List.length_append]; omega)

theorem rf_enc (M : Img) (h0 : chkM M = 0) : f_ref18_Encode (M, ()) = some (encI M, ()) := by
  obtain ⟨P, C⟩ := M
  obtain ⟨h1, h2, h3, h4⟩ := chkM_ok h0
  have h4 : chkL C.l = 0 := h4
  have h1 : P.l.length ≤ 4000 := h1
  have cv : cvI .u64 (lenI P.l) = (P.l.length : Int) := cvI_u64 (by unfold lenI; omega) (by unfold lenI; omega)
  have e1 : f_ref18_low ((P.l.length : Int), 2, ()) = some (lowN 2 (P.l.length : Int), ()) := rf_low _ 2 (by omega) (by omega) (by omega)
  have f1 : fit (sumI (lenI ([84, 82, 73, 71] : List Int)) (lenI (lowN 2 (P.l.length : Int)))) = some () := fit_ok (by simp only [sumI, lenI, lowN_len, List.length_cons, List.length_nil]; omega)
  rw [u_ref18_Encode]
  simp only [cv, e1, bnd_some_eq, f1, catS]
  show loopR l1_ref18_Encode (_, ((0 : Nat) : Int), P, C, ()) = _
  rw [renc_loop P C h4 h1 h2 P.l.length 0 _ (by omega) (by show ([84, 82, 73, 71] ++ lowN 2 (P.l.length : Int)).length ≤ _; rw [List.length_append, lowN_len]; simp)]
  rfl

theorem eqB_self (b : Bool) : eqB b b = true := by cases b <;> rfl

theorem law_puts18 (P Q : Sl Thing) (C D : Sl Ins) (hg : ∀ x, x ∈ P.l → gT x) : f_law18_ImagePuts ((P, C), (Q, D), ()) = some (true, ()) := by
  rw [u_law18_ImagePuts]
  obtain ⟨b, hb, hfew⟩ := rf_few (P, C)
  obtain ⟨b', hb', hfew'⟩ := rf_few (Q, D)
  simp only [awake18, bnd_some_eq, hb, hb', notB, Bool.not_true, cnd_false]
  cases b with
  | false => simp only [Bool.not_false, cnd_true, bnd_some_eq]
  | true =>
    obtain ⟨l1, l2⟩ := hfew rfl
    have l1 : P.l.length ≤ 60 := l1
    have l2 : C.l.length ≤ 120 := l2
    simp only [Bool.not_true, cnd_false, bnd_some_eq]
    cases b' with
    | false => simp only [Bool.not_false, cnd_true]
    | true =>
      obtain ⟨l3, l4⟩ := hfew' rfl
      have l3 : Q.l.length ≤ 60 := l3
      have l4 : D.l.length ≤ 120 := l4
      simp only [Bool.not_true, cnd_false]
      have ec := im_copied (P, C) (by show P.l.length ≤ _; omega) (by show C.l.length ≤ _; omega)
      have ed := im_copied (Q, D) (by show Q.l.length ≤ _; omega) (by show D.l.length ≤ _; omega)
      have ee := im_enc (⟨false, P.l⟩, ⟨false, C.l⟩) (by show P.l.length ≤ _; omega) (by show C.l.length ≤ _; omega) hg
      have ek := im_check (⟨false, P.l⟩, ⟨false, C.l⟩) (by show P.l.length ≤ _; omega) (by show C.l.length ≤ _; omega) hg
      have er := rf_check (P, C) (by show P.l.length ≤ _; omega) (by show C.l.length ≤ _; omega) hg
      have es := im_same (⟨false, P.l⟩, ⟨false, C.l⟩) (⟨false, Q.l⟩, ⟨false, D.l⟩) (by show P.l.length ≤ _; omega) (by show C.l.length ≤ _; omega)
      have et := rf_same (P, C) (Q, D) (by show P.l.length ≤ _; omega) (by show C.l.length ≤ _; omega)
      have hcm : chkM (⟨false, P.l⟩, ⟨false, C.l⟩) = chkM (P, C) := rfl
      rw [hcm] at ee ek
      simp only [ec, ed, bnd_some_eq, ee, ek, er, es, et, eqI_self, Bool.not_true, cnd_false, eqB_self]
      by_cases h0 : chkM (P, C) = 0
      · have en := rf_enc (P, C) h0
        rw [if_pos h0, h0]
        have : encI (⟨false, P.l⟩, ⟨false, C.l⟩) = encI (P, C) := rfl
        simp only [eqI_self, Bool.not_true, cnd_false, en, bnd_some_eq, this, eqS_self, cnd_true]
      · rw [if_neg h0]
        simp only [eqI_ne h0, eqI_self, Bool.not_false, Bool.not_true, cnd_true, cnd_false]
        rfl
end Fn
end Ev
namespace Ev
open Go
namespace Fn

/-! The document's reader. -/
theorem numB_64 {t : List Int} (h : ∀ b, b ∈ t → 0 ≤ b ∧ b < 256) (h8 : t.length ≤ 8) : 0 ≤ numB t ∧ numB t < 18446744073709551616 := by
  obtain ⟨h1, h2⟩ := numB_range t h
  have h3 : ((256 ^ t.length : Nat) : Int) ≤ ((256 ^ 8 : Nat) : Int) := Int.ofNat_le.2 (Nat.pow_le_pow_right (by decide) h8)
  rw [Int.natCast_pow] at h3
  have h4 : ((256 ^ 8 : Nat) : Int) = 18446744073709551616 := by decide
  have h5 : (((256 : Nat) : Int) ^ t.length) = (256 : Int) ^ t.length := rfl
  omega

theorem addk {p k : Nat} (h : p ≤ 1000000000) (hk : k ≤ 5000000000) : addI .i64 (p : Int) (k : Int) = ((p + k : Nat) : Int) := by
  rw [addI_i64 (by omega) (by omega)]; omega

theorem rnum_loop {s : List Int} (hs : bytesOk s) (p : Nat) {t : List Int} (ht : t = (s.drop p).take t.length) (h8 : t.length ≤ 8) : ∀ (i : Nat), i ≤ t.length →
    loopR l1_ref18_num (s, (p : Int), numB (t.drop i), (i : Int) - 1, ()) = some (numB t, ()) := by
  have hb : ∀ b, b ∈ t → 0 ≤ b ∧ b < 256 := fun b hb => by
    rw [ht] at hb
    exact hs.2 b (List.mem_of_mem_drop (List.mem_of_mem_take hb))
  intro i
  induction i with
  | zero =>
    intro _
    refine loopR_inr ?_
    unfold l1_ref18_num
    simp only
    have : leI 0 (((0 : Nat) : Int) - 1) = false := decide_eq_false (by omega)
    rw [this, cnd_false, List.drop_zero]
  | succ i ih =>
    intro hi
    have hlt : i < t.length := by omega
    have hsl : p + i < s.length := by
      have := congrArg List.length ht
      rw [List.length_take, List.length_drop] at this
      omega
    have hget : s[p + i]? = some t[i] := by
      have h1 : t[i]? = some t[i] := List.getElem?_eq_getElem hlt
      have h2 : ((s.drop p).take t.length)[i]? = s[p + i]? := by rw [List.getElem?_take, if_pos hlt, List.getElem?_drop]
      rw [← h2, ← ht, h1]
    have e0 : (((i + 1 : Nat) : Int) - 1) = (i : Int) := by omega
    have hb1 := hb _ (List.getElem_mem hlt)
    have hr := numB_64 (t := t.drop i) (fun b h => hb b (List.mem_of_mem_drop h)) (by rw [List.length_drop]; omega)
    have hr1 := numB_64 (t := t.drop (i + 1)) (fun b h => hb b (List.mem_of_mem_drop h)) (by rw [List.length_drop]; omega)
    have hd : numB (t.drop i) = t[i] + 256 * numB (t.drop (i + 1)) := by rw [drop_cons hlt]; rfl
    have step : l1_ref18_num (s, (p : Int), numB (t.drop (i + 1)), (((i + 1 : Nat) : Int) - 1), ()) = some (.inl (s, (p : Int), numB (t.drop i), (i : Int) - 1, ())) := by
      unfold l1_ref18_num
      simp only
      rw [e0]
      have l0 : leI 0 (i : Int) = true := decide_eq_true (by omega)
      have hlen := hs.1
      rw [l0, cnd_true, addk (by omega) (by omega), at?_nat hget, bnd_some_eq]
      have e1 : mulI .u64 256 (numB (t.drop (i + 1))) = 256 * numB (t.drop (i + 1)) := wrap_u64 (by omega) (by omega)
      have e2 : cvI .u64 t[i] = t[i] := cvI_u64 hb1.1 (by omega)
      have e3 : addI .u64 (256 * numB (t.drop (i + 1))) t[i] = numB (t.drop i) := by
        have : addI .u64 (256 * numB (t.drop (i + 1))) t[i] = 256 * numB (t.drop (i + 1)) + t[i] := wrap_u64 (by omega) (by omega)
        rw [this, hd, Int.add_comm]
      have e4 : subI .i64 (i : Int) 1 = (i : Int) - 1 := subI_i64 (by omega) (by omega)
      rw [e1, e2, e3, e4]
    rw [loopR_inl step]
    exact ih (by omega)

theorem rf_num {s : List Int} (hs : bytesOk s) (p many : Nat) (h8 : many ≤ 8) (hl : p + many ≤ s.length) : f_ref18_num (s, (p : Int), (many : Int), ()) = some (numB ((s.drop p).take many), ()) := by
  have htl : ((s.drop p).take many).length = many := by rw [List.length_take, List.length_drop]; omega
  have h := rnum_loop hs p (t := (s.drop p).take many) (by rw [htl]) (by omega) many (by omega)
  rw [u_ref18_num]
  have e4 : subI .i64 (many : Int) 1 = (many : Int) - 1 := subI_i64 (by omega) (by omega)
  rw [e4]
  have : numB (((s.drop p).take many).drop many) = 0 := by rw [List.drop_eq_nil_of_le (by omega)]; rfl
  rw [this] at h
  exact h

/-- A thing at a place, and where it ends. -/
def refT (s : List Int) (p : Nat) : Option (Thing × Nat) :=
  if s.length < p + 2 then none else
  match s[p]? with
  | some 0 => if s.length < p + 9 then none else some ((false, toI (numB ((s.drop (p + 1)).take 8)), []), p + 9)
  | some 1 => match s[p + 1]? with
    | some n => if s.length < p + 2 + n.toNat then none else some ((true, 0, (s.drop (p + 2)).take n.toNat), p + 2 + n.toNat)
    | none => none
  | _ => none

def refP : Nat → List Int → Nat → List Thing → Option (List Thing × Nat)
  | 0, _, p, acc => some (acc, p)
  | k + 1, s, p, acc => match refT s p with
    | none => none
    | some (x, q) => refP k s q (acc ++ [x])

def refTail (s : List Int) (p : Nat) (pool : List Thing) : Option (List Thing × List Ins) :=
  if s.length < p + 4 then none else
  if (s.length : Int) < numB ((s.drop p).take 4) then none else
  if s.length < p + 4 + (numB ((s.drop p).take 4)).toNat then none else
  if (disB ((s.drop (p + 4)).take (numB ((s.drop p).take 4)).toNat)).2 ≠ 0 then none else
  if chkM (mkI pool (disB ((s.drop (p + 4)).take (numB ((s.drop p).take 4)).toNat)).1) ≠ 0 then none else
  if encI (mkI pool (disB ((s.drop (p + 4)).take (numB ((s.drop p).take 4)).toNat)).1) ≠ s then none else
  some (pool, (disB ((s.drop (p + 4)).take (numB ((s.drop p).take 4)).toNat)).1)

def refD (s : List Int) : Option (List Thing × List Ins) :=
  if s.length < 6 then none else
  if s.take 4 ≠ magicB then none else
  match refP (numB ((s.drop 4).take 2)).toNat s 6 [] with
  | none => none
  | some (p, q) => refTail s q p

theorem toI_cv {n : Int} (h0 : 0 ≤ n) (h : n < 18446744073709551616) : cvI .i64 n = toI n := by
  have : cvI .i64 n = IntKind.i64.wrap n := rfl
  rw [this, wrap_i64', Int.emod_eq_of_lt h0 h]
  rfl

theorem cut_nat {s : List Int} {a b : Nat} (h : a ≤ b) (hb : b ≤ s.length) : cutL s (a : Int) (b : Int) = some ((s.drop a).take (b - a)) := by
  unfold cutL
  rw [if_pos (by omega)]
  simp only [Int.toNat_natCast]
  rw [List.drop_take]

theorem refT_le {s : List Int} {p q : Nat} {x : Thing} (h : refT s p = some (x, q)) : q ≤ s.length := by
  unfold refT at h
  split at h
  · cases h
  · split at h
    · split at h
      · cases h
      · injection h with h; injection h with _ h; omega
    · split at h
      · split at h
        · cases h
        · injection h with h; injection h with _ h; omega
      · cases h
    · cases h

theorem refT_good {s : List Int} (hs : bytesOk s) {p q : Nat} {x : Thing} (h : refT s p = some (x, q)) : gT x := by
  unfold refT at h
  split at h
  · cases h
  · split at h
    · split at h
      · cases h
      · injection h with h; injection h with h _
        subst h
        have hr := numB_64 (t := (s.drop (p + 1)).take 8) (fun b hb => hs.2 b (List.mem_of_mem_drop (List.mem_of_mem_take hb))) (by rw [List.length_take]; omega)
        refine ⟨?_, (fun b hb => by simp at hb), Nat.zero_le _⟩
        show -9223372036854775808 ≤ toI _ ∧ toI _ ≤ 9223372036854775807
        unfold toI
        split <;> omega
    · split at h
      · split at h
        · cases h
        · injection h with h; injection h with h _
          subst h
          refine ⟨⟨(by show (-9223372036854775808 : Int) ≤ 0; decide), (by show (0 : Int) ≤ 9223372036854775807; decide)⟩, fun b hb => ?_, ?_⟩
          · have := hs.2 b (List.mem_of_mem_drop (List.mem_of_mem_take hb)); omega
          · have h1 := hs.1
            show ((s.drop (p + 2)).take _).length ≤ _
            rw [List.length_take, List.length_drop]
            omega
      · cases h
    · cases h
end Fn
end Ev
namespace Ev
open Go
namespace Fn

theorem refT_byte {s : List Int} {p : Nat} (h2 : ¬ s.length < p + 2) : ∃ v, s[p]? = some v ∧ at? s (p : Int) = some v ∧ ∃ n, s[p + 1]? = some n ∧ at? s ((p + 1 : Nat) : Int) = some n := by
  have h1 : s[p]? = some (s[p]'(by omega)) := List.getElem?_eq_getElem (by omega)
  have h3 : s[p + 1]? = some (s[p + 1]'(by omega)) := List.getElem?_eq_getElem (by omega)
  exact ⟨_, h1, at?_nat h1, _, h3, at?_nat h3⟩

def noImg : Img × Bool × Unit := ((⟨true, []⟩, ⟨true, []⟩), false, ())

theorem refT_other {s : List Int} {p : Nat} {v : Int} (h2 : ¬ s.length < p + 2) (h3 : s[p]? = some v) (v0 : v ≠ 0) (v1 : v ≠ 1) : refT s p = none := by
  unfold refT
  rw [if_neg h2, h3]
  split
  · rename_i e; injection e with e; exact absurd e v0
  · rename_i e; injection e with e; exact absurd e v1
  · rfl

theorem rdec_step {s : List Int} (hs : bytesOk s) (p many i : Nat) (hp : p ≤ s.length) (hm : many ≤ 65536) (hi : i < many) (P0 : Sl Thing) (C0 C1 : Sl Ins) (nn : Bool) (acc : List Thing) (ha : acc.length ≤ i) :
    l1_ref18_Decode (s, (p : Int), (many : Int), (i : Int), P0, C0, ⟨nn, acc⟩, C1, ()) = (match refT s p with
      | none => some (.inr noImg)
      | some (x, q) => some (.inl (s, (q : Int), (many : Int), ((i + 1 : Nat) : Int), P0, C0, (⟨false, acc ++ [x]⟩ : Sl Thing), C1, ()))) := by
  have hlen := hs.1
  unfold l1_ref18_Decode
  simp only
  have c0 : ltI (i : Int) (many : Int) = true := decide_eq_true (by omega)
  have a1 : addI .i64 (p : Int) 1 = ((p + 1 : Nat) : Int) := addk (k := 1) (by omega) (by omega)
  have a2 : addI .i64 (p : Int) 2 = ((p + 2 : Nat) : Int) := addk (k := 2) (by omega) (by omega)
  have a9 : addI .i64 (p : Int) 9 = ((p + 9 : Nat) : Int) := addk (k := 9) (by omega) (by omega)
  have ai : addI .i64 (i : Int) 1 = ((i + 1 : Nat) : Int) := addk (k := 1) (by omega) (by omega)
  have fo : ∀ x : Thing, fit (sumI (lenI acc) (lenI [x])) = some () := fun x => fit_ok (by simp only [sumI, lenI, List.length_singleton]; omega)
  have nf : ∀ x : Thing, andB nn (isE [x]) = false := fun x => by cases nn <;> rfl
  rw [c0, cnd_true, a1, a2, a9]
  unfold refT
  by_cases h2 : s.length < p + 2
  · rw [if_pos h2]
    have c1 : ltI (lenI s) ((p + 2 : Nat) : Int) = true := decide_eq_true (by unfold lenI; omega)
    simp only [c1, cnd_true, bnd_some_eq]
    rfl
  · rw [if_neg h2]
    have c1 : ltI (lenI s) ((p + 2 : Nat) : Int) = false := decide_eq_false (by unfold lenI; omega)
    obtain ⟨v, h3, h4, n, h5, h6⟩ := refT_byte h2
    have hv := hs.2 v (List.mem_of_getElem? h3)
    have hn := hs.2 n (List.mem_of_getElem? h5)
    rw [h3]
    by_cases v0 : v = 0
    · subst v0
      have b1 : ltI 1 0 = false := rfl
      have b2 : eqI 0 0 = true := rfl
      have b3 : eqI 0 1 = false := rfl
      simp only [c1, cnd_false, h4, bnd_some_eq, b1, b2, b3, cnd_true]
      by_cases h9 : s.length < p + 9
      · rw [if_pos h9]
        have c9 : ltI (lenI s) ((p + 9 : Nat) : Int) = true := decide_eq_true (by unfold lenI; omega)
        simp only [c9, cnd_true, bnd_some_eq]
        rfl
      · rw [if_neg h9]
        have c9 : ltI (lenI s) ((p + 9 : Nat) : Int) = false := decide_eq_false (by unfold lenI; omega)
        have en : f_ref18_num (s, ((p + 1 : Nat) : Int), 8, ()) = some (numB ((s.drop (p + 1)).take 8), ()) := rf_num hs (p + 1) 8 (by omega) (by omega)
        have hr := numB_64 (t := (s.drop (p + 1)).take 8) (fun b hb => hs.2 b (List.mem_of_mem_drop (List.mem_of_mem_take hb))) (by rw [List.length_take]; omega)
        simp only [c9, cnd_false, bnd_some_eq, en, toI_cv hr.1 hr.2, fo, nf, app, ai]
    · by_cases v1 : v = 1
      · subst v1
        have b1 : ltI 1 1 = false := rfl
        have b2 : eqI 1 0 = false := rfl
        have b3 : eqI 1 1 = true := rfl
        have cn : cvI .i64 n = (n.toNat : Int) := by rw [cvI_i64 (by omega) (by omega)]; omega
        have an : addI .i64 ((p + 2 : Nat) : Int) (n.toNat : Int) = ((p + 2 + n.toNat : Nat) : Int) := addk (by omega) (by omega)
        have am : addI .i64 2 (n.toNat : Int) = ((2 + n.toNat : Nat) : Int) := addk (p := 2) (by omega) (by omega)
        have ap : addI .i64 (p : Int) ((2 + n.toNat : Nat) : Int) = ((p + (2 + n.toNat) : Nat) : Int) := addk (by omega) (by omega)
        simp only [c1, cnd_false, h4, bnd_some_eq, b1, b2, b3, cnd_true, h6, cn, an, h5]
        by_cases h9 : s.length < p + 2 + n.toNat
        · rw [if_pos h9]
          have c9 : ltI (lenI s) ((p + 2 + n.toNat : Nat) : Int) = true := decide_eq_true (by unfold lenI; omega)
          simp only [c9, cnd_true]
          rfl
        · rw [if_neg h9]
          have c9 : ltI (lenI s) ((p + 2 + n.toNat : Nat) : Int) = false := decide_eq_false (by unfold lenI; omega)
          have ec := cut_nat (s := s) (a := p + 2) (b := p + 2 + n.toNat) (by omega) (by omega)
          rw [Nat.add_sub_cancel_left] at ec
          have es : p + (2 + n.toNat) = p + 2 + n.toNat := by omega
          simp only [c9, cnd_false, bnd_some_eq, ec, fo, nf, app, am, ap, es, ai]
      · have b1 : ltI 1 v = true := decide_eq_true (by omega)
        simp only [c1, cnd_false, h4, bnd_some_eq, b1, cnd_true]
        have hno := refT_other h2 h3 v0 v1
        unfold refT at hno
        rw [if_neg h2, h3] at hno
        rw [hno]
        rfl

theorem rdec_tail {s : List Int} (hs : bytesOk s) (p many : Nat) (hp : p ≤ s.length) (P0 : Sl Thing) (C0 C1 : Sl Ins) (nn : Bool) (acc : List Thing) (ha : acc.length ≤ 65536) (hg : ∀ x, x ∈ acc → gT x) : ∃ n,
    l1_ref18_Decode (s, (p : Int), (many : Int), (many : Int), P0, C0, ⟨nn, acc⟩, C1, ()) = some (.inr (match refTail s p acc with
      | none => noImg
      | some (pl, c) => ((⟨nn, pl⟩, ⟨n, c⟩), true, ()))) := by
  have hlen := hs.1
  have c0 : ltI (many : Int) (many : Int) = false := decide_eq_false (by omega)
  have a4 : addI .i64 (p : Int) 4 = ((p + 4 : Nat) : Int) := addk (k := 4) (by omega) (by omega)
  unfold refTail
  by_cases h4 : s.length < p + 4
  · refine ⟨true, ?_⟩
    have c1 : ltI (lenI s) ((p + 4 : Nat) : Int) = true := decide_eq_true (by unfold lenI; omega)
    unfold l1_ref18_Decode
    simp only [c0, cnd_false, a4, c1, cnd_true, bnd_some_eq]
    rw [if_pos h4]
    rfl
  · have c1 : ltI (lenI s) ((p + 4 : Nat) : Int) = false := decide_eq_false (by unfold lenI; omega)
    have en : f_ref18_num (s, (p : Int), 4, ()) = some (numB ((s.drop p).take 4), ()) := rf_num hs p 4 (by omega) (by omega)
    have hr := numB_64 (t := (s.drop p).take 4) (fun b hb => hs.2 b (List.mem_of_mem_drop (List.mem_of_mem_take hb))) (by rw [List.length_take]; omega)
    have cu : cvI .u64 (lenI s) = lenI s := cvI_u64 (by unfold lenI; omega) (by unfold lenI; omega)
    rw [if_neg h4]
    generalize numB ((s.drop p).take 4) = m at en hr
    by_cases h5 : (s.length : Int) < m
    · refine ⟨true, ?_⟩
      have c2 : ltI (lenI s) m = true := decide_eq_true h5
      unfold l1_ref18_Decode
      simp only [c0, cnd_false, a4, c1, en, bnd_some_eq, cu, c2, cnd_true]
      rw [if_pos h5]
      rfl
    · have c2 : ltI (lenI s) m = false := decide_eq_false h5
      rw [if_neg h5]
      have cn : cvI .i64 m = (m.toNat : Int) := by rw [cvI_i64 (by omega) (by omega)]; omega
      have an : addI .i64 ((p + 4 : Nat) : Int) (m.toNat : Int) = ((p + 4 + m.toNat : Nat) : Int) := addk (by omega) (by omega)
      by_cases h6 : s.length < p + 4 + m.toNat
      · refine ⟨true, ?_⟩
        have c3 : ltI (lenI s) ((p + 4 + m.toNat : Nat) : Int) = true := decide_eq_true (by unfold lenI; omega)
        unfold l1_ref18_Decode
        simp only [c0, cnd_false, a4, c1, en, bnd_some_eq, cu, c2, cn, an, c3, cnd_true]
        rw [if_pos h6]
        rfl
      · have c3 : ltI (lenI s) ((p + 4 + m.toNat : Nat) : Int) = false := decide_eq_false (by unfold lenI; omega)
        rw [if_neg h6]
        have ec := cut_nat (s := s) (a := p + 4) (b := p + 4 + m.toNat) (by omega) (by omega)
        rw [Nat.add_sub_cancel_left] at ec
        have ht : bytesOk ((s.drop (p + 4)).take m.toNat) := (take_bytes (bytes_drop hs (p + 4)) m.toNat false).1 |> fun h => by
          unfold takeR at h
          rw [if_neg (by simp; omega)] at h
          exact h
        obtain ⟨n, ed⟩ := rdis_spec ht
        have hdl := dis_len ((s.drop (p + 4)).take m.toNat)
        generalize disB ((s.drop (p + 4)).take m.toNat) = d at ed hdl
        refine ⟨n, ?_⟩
        by_cases h7 : d.2 = 0
        · have ek := rf_check (⟨nn, acc⟩, ⟨n, d.1⟩) (by show acc.length ≤ _; omega) (by show d.1.length ≤ _; omega) hg
          have ecm : chkM (⟨nn, acc⟩, ⟨n, d.1⟩) = chkM (mkI acc d.1) := rfl
          rw [ecm] at ek
          rw [if_neg (by simpa using h7)]
          by_cases h8 : chkM (mkI acc d.1) = 0
          · have ee := rf_enc (⟨nn, acc⟩, ⟨n, d.1⟩) h8
            have eem : encI (⟨nn, acc⟩, ⟨n, d.1⟩) = encI (mkI acc d.1) := rfl
            rw [eem] at ee
            rw [if_neg (by simpa using h8)]
            unfold l1_ref18_Decode
            simp only [c0, cnd_false, a4, c1, en, bnd_some_eq, cu, c2, cn, an, c3, ec, ed, h7, eqI_self, notB, Bool.not_true, ek, h8, ee]
            by_cases h9 : encI (mkI acc d.1) = s
            · rw [if_neg (by simpa using h9), h9]
              simp only [eqS_self, Bool.not_true, cnd_false]
            · rw [if_pos h9]
              have : eqS (encI (mkI acc d.1)) s = false := beq_eq_false_iff_ne.2 h9
              simp only [this, Bool.not_false, cnd_true]
              rfl
          · rw [if_pos h8]
            unfold l1_ref18_Decode
            simp only [c0, cnd_false, a4, c1, en, bnd_some_eq, cu, c2, cn, an, c3, ec, ed, h7, eqI_self, notB, Bool.not_true, ek, eqI_ne h8, Bool.not_false, cnd_true]
            rfl
        · rw [if_pos h7]
          unfold l1_ref18_Decode
          simp only [c0, cnd_false, a4, c1, en, bnd_some_eq, cu, c2, cn, an, c3, ec, ed, notB, eqI_ne h7, Bool.not_false, cnd_true]
          rfl

theorem rdec_loop {s : List Int} (hs : bytesOk s) (many : Nat) (hm : many ≤ 65536) (P0 : Sl Thing) (C0 C1 : Sl Ins) : ∀ (m i p : Nat) (nn : Bool) (acc : List Thing), i + m = many → p ≤ s.length → acc.length ≤ i → (∀ x, x ∈ acc → gT x) → ∃ n1 n2,
    loopR l1_ref18_Decode (s, (p : Int), (many : Int), (i : Int), P0, C0, ⟨nn, acc⟩, C1, ()) = some (match refP m s p acc with
      | none => noImg
      | some (pl, q) => match refTail s q pl with
        | none => noImg
        | some (pl, c) => ((⟨n1, pl⟩, ⟨n2, c⟩), true, ())) := by
  intro m
  induction m with
  | zero =>
    intro i p nn acc hi hp ha hg
    obtain rfl : i = many := by omega
    obtain ⟨n, h⟩ := rdec_tail hs p i hp P0 C0 C1 nn acc (by omega) hg
    exact ⟨nn, n, loopR_inr h⟩
  | succ m ih =>
    intro i p nn acc hi hp ha hg
    have step := rdec_step hs p many i hp hm (by omega) P0 C0 C1 nn acc ha
    unfold refP
    cases hr : refT s p with
    | none =>
      rw [hr] at step
      exact ⟨true, true, loopR_inr step⟩
    | some xq =>
      obtain ⟨x, q⟩ := xq
      rw [hr] at step
      obtain ⟨n1, n2, h⟩ := ih (i + 1) q false (acc ++ [x]) (by omega) (refT_le hr) (by rw [List.length_append, List.length_singleton]; omega) (fun y hy => by
        rcases List.mem_append.1 hy with hy | hy
        · exact hg y hy
        · rw [List.mem_singleton.1 hy]; exact refT_good hs hr)
      exact ⟨n1, n2, by rw [loopR_inl step, h]⟩

theorem rf_dec0 {s : List Int} (hs : bytesOk s) : ∃ n1 n2, f_ref18_Decode (s, ()) = some (match refD s with
    | none => noImg
    | some (pl, c) => ((⟨n1, pl⟩, ⟨n2, c⟩), true, ())) := by
  rw [u_ref18_Decode]
  unfold refD
  by_cases h6 : s.length < 6
  · have c1 : ltI (lenI s) 6 = true := decide_eq_true (by unfold lenI; omega)
    refine ⟨true, true, ?_⟩
    simp only [c1, cnd_true, bnd_some_eq]
    rw [if_pos h6]
    rfl
  · have c1 : ltI (lenI s) 6 = false := decide_eq_false (by unfold lenI; omega)
    rw [if_neg h6]
    have ec : cutL s 0 4 = some (s.take 4) := cut_nat (s := s) (a := 0) (b := 4) (by omega) (by omega)
    by_cases hm : s.take 4 = magicB
    · have e1 : eqS (s.take 4) ([84, 82, 73, 71] : List Int) = true := by rw [hm]; exact eqS_self _
      rw [if_neg (by simpa using hm)]
      have en : f_ref18_num (s, 4, 2, ()) = some (numB ((s.drop 4).take 2), ()) := rf_num hs 4 2 (by omega) (by omega)
      have hr := numB_range ((s.drop 4).take 2) (fun b hb => hs.2 b (List.mem_of_mem_drop (List.mem_of_mem_take hb)))
      have hl2 : ((s.drop 4).take 2).length = 2 := by rw [List.length_take, List.length_drop]; omega
      rw [hl2] at hr
      have e2 : (256 : Int) ^ 2 = 65536 := by decide
      rw [e2] at hr
      generalize numB ((s.drop 4).take 2) = k at en hr
      have cn : cvI .i64 k = (k.toNat : Int) := by rw [cvI_i64 (by omega) (by omega)]; omega
      obtain ⟨n1, n2, h⟩ := rdec_loop hs k.toNat (by omega) ⟨true, []⟩ ⟨true, []⟩ ⟨true, []⟩ k.toNat 0 6 true [] (by omega) (by omega) (Nat.le_refl _) (fun x hx => by cases hx)
      refine ⟨n1, n2, ?_⟩
      simp only [c1, cnd_false, ec, bnd_some_eq, e1, notB, Bool.not_true, en, cn]
      rw [show loopR l1_ref18_Decode (s, 6, (k.toNat : Int), 0, ⟨true, []⟩, ⟨true, []⟩, ⟨true, []⟩, ⟨true, []⟩, ()) = _ from h]
      cases refP k.toNat s 6 [] with
      | none => rfl
      | some pq => rfl
    · have e1 : eqS (s.take 4) ([84, 82, 73, 71] : List Int) = false := beq_eq_false_iff_ne.2 hm
      refine ⟨true, true, ?_⟩
      rw [if_pos hm]
      simp only [c1, cnd_false, ec, bnd_some_eq, e1, notB, Bool.not_false, cnd_true]
      rfl
end Fn
end Ev
namespace Ev
open Go
namespace Fn

theorem take_app {a b : List Int} {n : Nat} (h : a.length = n) : (a ++ b).take n = a := by rw [← h, List.take_left]
theorem drop_app {a b : List Int} {n : Nat} (h : a.length = n) : (a ++ b).drop n = b := by rw [← h, List.drop_left]

theorem refT_app {x : Thing} (hg : gT x) (hr : rightT x = true) (pre r : List Int) : refT (pre ++ (thingB x ++ r)) pre.length = some (x, pre.length + (thingB x).length) := by
  obtain ⟨b, n, s⟩ := x
  obtain ⟨h1, _, _⟩ := hg
  simp only at h1
  have get0 : ∀ (v : Int) (l : List Int), (pre ++ v :: l)[pre.length]? = some v := fun v l => by
    rw [List.getElem?_append_right (Nat.le_refl _), Nat.sub_self]; rfl
  have get1 : ∀ (v u : Int) (l : List Int), (pre ++ v :: u :: l)[pre.length + 1]? = some u := fun v u l => by
    rw [List.getElem?_append_right (by omega), Nat.add_sub_cancel_left]; rfl
  cases b with
  | true =>
    have hn : n = 0 := by
      unfold rightT at hr
      rw [cond_true, Bool.and_eq_true] at hr
      exact of_decide_eq_true hr.1
    subst hn
    show refT (pre ++ (1 :: ((s.length : Int) :: (s ++ r)))) pre.length = some (_, pre.length + (s.length + 2))
    have hl : (pre ++ (1 :: ((s.length : Int) :: (s ++ r)))).length = pre.length + (s.length + r.length + 2) := by simp only [List.length_append, List.length_cons]
    have hd : (pre ++ (1 :: ((s.length : Int) :: (s ++ r)))).drop (pre.length + 2) = s ++ r := by
      rw [← List.drop_drop, List.drop_left]; rfl
    unfold refT
    rw [if_neg (by omega), get0]
    simp only
    rw [get1]
    simp only [Int.toNat_natCast]
    rw [if_neg (by omega), hd, List.take_left]
    congr 2
    omega
  | false =>
    have hs : s = [] := by
      unfold rightT at hr
      rw [cond_false, Bool.and_eq_true] at hr
      exact List.isEmpty_iff.1 hr.1
    subst hs
    have e : (256 : Int) ^ 8 = 18446744073709551616 := by decide
    have e8 : (lowN 8 (n % 18446744073709551616)).length = 8 := lowN_len _ _
    have eT : (thingB (false, n, [])).length = 9 := by
      show (0 :: lowN 8 (n % 18446744073709551616)).length = 9
      rw [List.length_cons, e8]
    rw [eT]
    show refT (pre ++ (0 :: (lowN 8 (n % 18446744073709551616) ++ r))) pre.length = some ((false, n, []), pre.length + 9)
    have hl : (pre ++ (0 :: (lowN 8 (n % 18446744073709551616) ++ r))).length = pre.length + (9 + r.length) := by simp only [List.length_append, List.length_cons, e8]; omega
    have hd : (pre ++ (0 :: (lowN 8 (n % 18446744073709551616) ++ r))).drop (pre.length + 1) = lowN 8 (n % 18446744073709551616) ++ r := by
      rw [← List.drop_drop, List.drop_left]; rfl
    unfold refT
    rw [if_neg (by omega), get0]
    simp only
    rw [if_neg (by omega), hd, take_app e8, numB_low 8 _ (by omega) (by rw [e]; omega)]
    have : toI (n % 18446744073709551616) = n := by
      unfold toI
      split <;> omega
    rw [this]

theorem refP_app : ∀ (p acc : List Thing) (pre r : List Int), (∀ x, x ∈ p → gT x) → (∀ x, x ∈ p → rightT x = true) →
    refP p.length (pre ++ (poolB p ++ r)) pre.length acc = some (acc ++ p, pre.length + (poolB p).length)
  | [], acc, pre, r, _, _ => by
    show some (acc, pre.length) = some (acc ++ [], pre.length + 0)
    rw [List.append_nil, Nat.add_zero]
  | x :: p, acc, pre, r, hg, hr => by
    rw [List.length_cons, poolB_cons, List.append_assoc]
    unfold refP
    rw [refT_app (hg x (List.mem_cons_self ..)) (hr x (List.mem_cons_self ..))]
    show refP p.length _ _ (acc ++ [x]) = _
    have := refP_app p (acc ++ [x]) (pre ++ thingB x) r (fun y hy => hg y (List.mem_cons_of_mem _ hy)) (fun y hy => hr y (List.mem_cons_of_mem _ hy))
    rw [List.length_append, List.append_assoc pre] at this
    rw [this, List.append_assoc acc, List.length_append, Nat.add_assoc]
    rfl

theorem refD_enc {M : Img} (hg : ∀ x, x ∈ M.1.l → gT x) (hc : chkM M = 0) : refD (encI M) = some (M.1.l, M.2.l) := by
  obtain ⟨h1, h2, h3, h4⟩ := chkM_ok hc
  have hab := asmB_ok (good_rlx h4)
  have hcl : (codeB M).length ≤ 1000000 := hab.1
  have e2 : (256 : Int) ^ 2 = 65536 := by decide
  have e4 : (256 : Int) ^ 4 = 4294967296 := by decide
  have hck : chkM (mkI M.1.l M.2.l) = 0 := hc
  have hen : encI (mkI M.1.l M.2.l) = encI M := rfl
  have hdis : disB (codeB M) = (M.2.l, 0) := dis_back h4
  have hsplit : encI M = (magicB ++ lowN 2 (M.1.l.length : Int)) ++ (poolB M.1.l ++ (lowN 4 ((codeB M).length : Int) ++ (codeB M ++ lowN 4 (sumB (bodyI M))))) := by
    unfold encI
    generalize sumB (bodyI M) = q
    unfold bodyI headI magicB
    simp only [List.append_assoc]
  generalize hT : lowN 4 (sumB (bodyI M)) = T at hsplit
  have hTl : T.length = 4 := by rw [← hT, lowN_len]
  have hml : (magicB ++ lowN 2 (M.1.l.length : Int)).length = 6 := by rw [List.length_append, lowN_len]; rfl
  have l2 : (lowN 2 (M.1.l.length : Int)).length = 2 := lowN_len _ _
  have l4 : (lowN 4 ((codeB M).length : Int)).length = 4 := lowN_len _ _
  have hlen : (encI M).length = 6 + ((poolB M.1.l).length + (4 + ((codeB M).length + 4))) := by
    rw [hsplit]; simp only [List.length_append, hml, l4, hTl]
  have t4 : (encI M).take 4 = magicB := by rw [hsplit, List.append_assoc]; exact List.take_left (l₁ := magicB)
  have d4 : ((encI M).drop 4).take 2 = lowN 2 (M.1.l.length : Int) := by
    rw [hsplit, List.append_assoc, show ((magicB ++ (lowN 2 (M.1.l.length : Int) ++ (poolB M.1.l ++ (lowN 4 ((codeB M).length : Int) ++ (codeB M ++ T))))).drop 4) = _ from List.drop_left (l₁ := magicB), take_app l2]
  have hp := refP_app M.1.l [] (magicB ++ lowN 2 (M.1.l.length : Int)) (lowN 4 ((codeB M).length : Int) ++ (codeB M ++ T)) hg h2
  rw [← hsplit, hml, List.nil_append] at hp
  unfold refD
  rw [if_neg (by omega), if_neg (by simpa using t4), d4, numB_low 2 _ (by omega) (by rw [e2]; omega)]
  simp only [Int.toNat_natCast]
  rw [hp]
  simp only
  have dq : (encI M).drop (6 + (poolB M.1.l).length) = lowN 4 ((codeB M).length : Int) ++ (codeB M ++ T) := by
    rw [hsplit, ← List.append_assoc, drop_app (by rw [List.length_append, hml])]
  have dq4 : (encI M).drop (6 + (poolB M.1.l).length + 4) = codeB M ++ T := by
    rw [← List.drop_drop, dq, drop_app l4]
  unfold refTail
  rw [dq, dq4, take_app l4, numB_low 4 _ (by omega) (by rw [e4]; omega)]
  simp only [Int.toNat_natCast]
  rw [List.take_left, hdis]
  simp only
  rw [if_neg (by omega), if_neg (by omega), if_neg (by omega), if_neg (by simp), hck, hen, if_neg (by simp), if_neg (by simp)]

theorem refP_good {s : List Int} (hs : bytesOk s) : ∀ (k p : Nat) (acc pl : List Thing) (q : Nat), refP k s p acc = some (pl, q) → (∀ x, x ∈ acc → gT x) → ∀ x, x ∈ pl → gT x
  | 0, p, acc, pl, q, h, ha => by
    injection h with h; injection h with h _
    subst h
    exact ha
  | k + 1, p, acc, pl, q, h, ha => by
    unfold refP at h
    split at h
    · cases h
    · rename_i x q' hr
      exact refP_good hs k q' _ pl q h fun y hy => by
        rcases List.mem_append.1 hy with hy | hy
        · exact ha y hy
        · rw [List.mem_singleton.1 hy]; exact refT_good hs hr

theorem refD_some {s : List Int} (hs : bytesOk s) {p : List Thing} {c : List Ins} (h : refD s = some (p, c)) : chkM (mkI p c) = 0 ∧ encI (mkI p c) = s ∧ ∀ x, x ∈ p → gT x := by
  unfold refD at h
  split at h
  · cases h
  · split at h
    · cases h
    · split at h
      · cases h
      · rename_i pl q hp
        have hg := refP_good hs _ _ _ _ _ hp (fun x hx => by cases hx)
        unfold refTail at h
        split at h
        · cases h
        · split at h
          · cases h
          · split at h
            · cases h
            · split at h
              · cases h
              · split at h
                · cases h
                · rename_i h1
                  split at h
                  · cases h
                  · rename_i h2
                    injection h with h
                    injection h with h3 h4
                    subst h3 h4
                    exact ⟨Decidable.not_not.1 h1, Decidable.not_not.1 h2, hg⟩

theorem refD_eq {s : List Int} (hs : bytesOk s) : refD s = decR s := by
  cases hr : refD s with
  | some q =>
    obtain ⟨p, c⟩ := q
    obtain ⟨h1, h2, h3⟩ := refD_some hs hr
    have := dec_enc (M := mkI p c) h3 h1 []
    rw [List.append_nil, if_pos rfl, h2] at this
    exact this.symm
  | none =>
    cases hd : decR s with
    | none => rfl
    | some q =>
      obtain ⟨p, c⟩ := q
      obtain ⟨h1, h2⟩ := dec_some hd
      have := refD_enc (M := mkI p c) (dec_good hs hd) h1
      rw [h2, hr] at this
      cases this

theorem law_gets18 (s : List Int) (hs : ∀ b, b ∈ s → 0 ≤ b ∧ b < 256) : f_law18_ImageGets (s, ()) = some (true, ()) := by
  rw [u_law18_ImageGets]
  simp only [awake18, bnd_some_eq, notB, Bool.not_true, cnd_false]
  cases h6 : ltI 600 (lenI s) with
  | true => simp only [cnd_true]
  | false =>
    simp only [cnd_false]
    have hl : s.length ≤ 600 := by have := of_decide_eq_false h6; unfold lenI at this; omega
    have hok : bytesOk s := ⟨by omega, hs⟩
    obtain ⟨n1, n2, ed⟩ := im_dec s hok
    obtain ⟨m1, m2, er⟩ := rf_dec0 hok
    rw [refD_eq hok] at er
    cases hd : decR s with
    | none =>
      rw [hd] at ed er
      simp only at ed er
      rw [ed, er]
      have es := rf_same (⟨true, []⟩, ⟨true, []⟩) (⟨true, []⟩, ⟨true, []⟩) (Nat.zero_le _) (Nat.zero_le _)
      simp only [bnd_some_eq, noImg, es]
      rfl
    | some q =>
      obtain ⟨p, c⟩ := q
      rw [hd] at ed er
      simp only at ed er
      obtain ⟨h1, h2⟩ := dec_some hd
      obtain ⟨g1, g2, g3, g4⟩ := chkM_ok h1
      have g1 : p.length ≤ 4000 := g1
      have g5 : c.length ≤ 20000 := (chkL_ok g4).1
      have es := rf_same (⟨n1, p⟩, ⟨n2, c⟩) (⟨m1, p⟩, ⟨m2, c⟩) (by show p.length ≤ _; omega) (by show c.length ≤ _; omega)
      simp only [ed, er, bnd_some_eq, es, eqI_self]
      simp [eqB, cnd_true, bnd_some_eq]
end Fn
end Ev
