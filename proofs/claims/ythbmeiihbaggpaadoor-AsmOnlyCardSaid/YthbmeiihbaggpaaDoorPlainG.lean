/- Layer 16: the statements as data. No statement of its own about the program. -/
import Derived.Test.YthbmeiihbaggpaaDoorPlainF
namespace Ev
open Go
namespace Fn

/-! The statements as data. -/
def exL : List Ins := [(15, 1, 0), (0, 0, 0)]
theorem ex_chk : chkL exL = 0 := by decide
theorem ex_rlx : rlx exL = [false, false] := by decide
theorem ex_asm : asmB exL [false, false] = [15, 0, 0] := by decide
theorem ex_bytes : bytesOk [15, 0, 0] := ⟨by decide, fun b hb => by
  simp only [List.mem_cons, List.not_mem_nil, or_false] at hb
  omega⟩
theorem ex_dis : disB [15, 0, 0] = (exL, 0) := by
  rw [← ex_asm, ← ex_rlx]; exact dis_back ex_chk
theorem ex_told : toldB exL [false, false] = true := by decide
theorem ex_tight : tightB exL [false, false] = -1 := by decide
theorem ex_st : stOut exL [false, false] = [0, 2, 3] := by decide

theorem awake16_spec : f_law16_awake () = some (true, ()) := by
  obtain ⟨n, hn⟩ := dis_spec ex_bytes
  have h1 := assemble_spec ⟨false, exL⟩ (by decide)
  have h2 := relax_spec ⟨false, exL⟩ (by decide)
  have h3 := acheck_spec ⟨false, exL⟩ (by decide)
  have h4 := aFits_spec ⟨false, exL⟩ ⟨false, [false, false]⟩ (by decide) (by decide)
  have h5 := aStarts_spec ⟨false, exL⟩ ⟨false, [false, false]⟩ (by decide) (by decide)
  have h6 := same_spec n false exL (by decide)
  have h7 := row_spec false false [0, 2, 3] (by decide)
  simp only [ex_chk, if_true, ex_rlx, ex_asm] at h1 h2 h3
  simp only [ex_told, ex_tight, if_true, ex_st] at h4 h5
  rw [ex_dis] at hn
  unfold exL at *
  rw [u_law16_awake]
  rw [h1, bnd_some_eq]
  simp only
  rw [hn, bnd_some_eq, h2, bnd_some_eq]
  simp only [eqS_self, eqI_self, cnd_true, bnd_some_eq]
  rw [h6]
  simp only [cnd_true, bnd_some_eq]
  have e2 : eqI (lenI ([false, false] : List Bool)) 2 = true := rfl
  have e3 : at? ([false, false] : List Bool) 0 = some false := rfl
  simp only [e2, e3, cnd_true, bnd_some_eq, notB, Bool.not_false]
  rw [h3, h4, h5]
  simp only [cnd_true, bnd_some_eq, eqI_self, Bool.true_and]
  rw [show decide ((-1 : Int) < 0) = true from rfl]
  simp only [cnd_true]
  rw [h7]
  rfl

theorem dis_len (s : List Int) : (disB s).1.length ≤ 20000 := by
  unfold disB
  split
  · simp
  · rename_i its _
    unfold endB
    split
    · simp
    · split
      · simp
      · split
        · simp only [fixL_len]; omega
        · simp

theorem puts_loop (L : Sl Ins) (hc : chkL L.l = 0) (n1 n2 : Bool) : ∀ (m k : Nat), k + m = L.l.length → loopR l1_law16_AsmPuts (L, asmB L.l (rlx L.l), ⟨n1, rlx L.l⟩, ⟨n2, rlx L.l⟩, (k : Int), ()) = some (true, ()) := by
  intro m
  have hlen := (good_rlx hc).len
  have hf := (chkL_ok hc).1
  induction m with
  | zero =>
    intro k hk
    refine loopR_inr ?_
    unfold l1_law16_AsmPuts
    simp only [lenI]
    rw [cnd_lt, if_neg (by omega), eqI_self, cnd_true, rassemble_spec L hc, bnd_some_eq, bnd_some_eq]
    simp only [eqS_self]
  | succ m ih =>
    intro k hk
    obtain ⟨b, hb⟩ := getB_of (S := rlx L.l) (k := k) (by omega)
    have e1 := add1 (k := k) (by omega)
    have e : l1_law16_AsmPuts (L, asmB L.l (rlx L.l), ⟨n1, rlx L.l⟩, ⟨n2, rlx L.l⟩, (k : Int), ()) = some (.inl (L, asmB L.l (rlx L.l), ⟨n1, rlx L.l⟩, ⟨n2, rlx L.l⟩, ((k + 1 : Nat) : Int), ())) := by
      unfold l1_law16_AsmPuts
      simp only [lenI]
      rw [cnd_lt, if_pos (by omega), cnd_le, if_neg (by omega), at?_nat hb, bnd_some_eq, bnd_some_eq]
      simp only [eqB_self, notB, Bool.not_true, cnd_false, e1]
    rw [loopR_inl e, ih (k + 1) (by omega)]

theorem law_puts16 (L : Sl Ins) : f_law16_AsmPuts (L, ()) = some (true, ()) := by
  rw [u_law16_AsmPuts, awake16_spec]
  simp only [bnd_some_eq, notB, Bool.not_true, cnd_false]
  cases h : ltI 200 (lenI L.l) with
  | true => rfl
  | false =>
    have hL : (L.l.length : Int) ≤ 200 := by have := of_decide_eq_false h; unfold lenI at this; omega
    obtain ⟨n, hn⟩ := own_spec L (by omega)
    rw [cnd_false, rCheck_spec L (by omega), hn]
    simp only [bnd_some_eq]
    rw [assemble_spec _ (by simp only; omega), relax_spec _ (by simp only; omega), acheck_spec _ (by simp only; omega)]
    simp only [bnd_some_eq, eqI_self, Bool.not_true, cnd_false]
    by_cases hc : chkL L.l = 0
    · rw [if_pos hc, if_pos hc]
      simp only [hc, eqI_self, Bool.not_true, cnd_false, bnd_some_eq]
      rw [rRelax_spec L hc, bnd_some_eq]
      exact puts_loop L hc false false L.l.length 0 (by omega)
    · rw [if_neg hc, if_neg hc]
      simp only [eqI_self, Bool.not_true, cnd_false, bnd_some_eq, eqI_ne hc, Bool.not_false, cnd_true, eqS_self]
      rfl

theorem law_gets16 {s : List Int} (hs : good .str s) : f_law16_AsmGets (s, ()) = some (true, ()) := by
  rw [u_law16_AsmGets, awake16_spec]
  simp only [bnd_some_eq, notB, Bool.not_true, cnd_false]
  cases h : ltI 500 (lenI s) with
  | true => rfl
  | false =>
    have hL : (s.length : Int) ≤ 500 := by have := of_decide_eq_false h; unfold lenI at this; omega
    have hok : bytesOk s := ⟨by omega, hs.2⟩
    obtain ⟨n1, h1⟩ := dis_spec hok
    obtain ⟨n2, h2⟩ := rdis_spec hok
    rw [cnd_false, h1, h2]
    simp only [bnd_some_eq]
    rw [same_spec n1 n2 _ (by have := dis_len s; omega)]
    simp only [bnd_some_eq, cnd_true, eqI_self]

theorem fits_dec (l : List Ins) (lg : List Bool) : decide (tightB l lg < 0) = true ↔ fitL l lg := by
  rw [decide_eq_true_iff]
  exact ⟨tightB_neg, tightB_fit⟩

theorem law_fits16 (L : Sl Ins) (S : Sl Bool) : f_law16_AsmFits (L, S, ()) = some (true, ()) := by
  rw [u_law16_AsmFits, awake16_spec]
  simp only [bnd_some_eq, notB, Bool.not_true, cnd_false]
  cases h : ltI 200 (lenI L.l) with
  | true => rfl
  | false =>
    cases h' : ltI 200 (lenI S.l) with
    | true => rfl
    | false =>
      have hL : (L.l.length : Int) ≤ 200 := by have := of_decide_eq_false h; unfold lenI at this; omega
      have hS : (S.l.length : Int) ≤ 200 := by have := of_decide_eq_false h'; unfold lenI at this; omega
      obtain ⟨n, hn⟩ := own_spec L (by omega)
      obtain ⟨n', hn'⟩ := longs_spec S (by omega)
      rw [cnd_false]
      simp only [bnd_some_eq, cnd_false]
      rw [rtold_spec L S (by omega), hn, hn']
      simp only [bnd_some_eq]
      rw [aStarts_spec _ _ (by simp only; omega) (by simp only; omega), aFits_spec _ _ (by simp only; omega) (by simp only; omega)]
      simp only [bnd_some_eq]
      cases ht : toldB L.l S.l with
      | false => rfl
      | true =>
        obtain ⟨h1, h2⟩ := told_lay ht
        obtain ⟨n3, h3⟩ := rstarts_spec h2
        simp only [Bool.not_true, cnd_false, if_true]
        rw [h3, bnd_some_eq]
        simp only
        rw [row_spec false n3 _ (by rw [stOut_len]; omega), bnd_some_eq, rtight_spec h2 (chkL_ok h1).2.2]
        simp only [cnd_true, bnd_some_eq, Bool.true_and]
        unfold ltI
        rw [eqB_self]

theorem least_loop (R T : List Bool) (n1 n2 : Bool) (hn : R.length = T.length) (hR : R.length ≤ 1000000) (h : sub R T) : ∀ (m k : Nat), k + m = R.length → loopR l1_law16_AsmLeast (⟨n1, T⟩, ⟨n2, R⟩, (k : Int), ()) = some (true, ()) := by
  intro m
  induction m with
  | zero =>
    intro k hk
    refine loopR_inr ?_
    unfold l1_law16_AsmLeast
    simp only [lenI]
    rw [cnd_lt, if_neg (by omega)]
  | succ m ih =>
    intro k hk
    obtain ⟨b, hb⟩ := getB_of (S := R) (k := k) (by omega)
    have e1 := add1 (k := k) (by omega)
    have e : l1_law16_AsmLeast (⟨n1, T⟩, ⟨n2, R⟩, (k : Int), ()) = some (.inl (⟨n1, T⟩, ⟨n2, R⟩, ((k + 1 : Nat) : Int), ())) := by
      unfold l1_law16_AsmLeast
      simp only [lenI]
      rw [cnd_lt, if_pos (by omega), at?_nat hb, bnd_some_eq]
      cases b with
      | false => simp only [cnd_false, bnd_some_eq, e1]
      | true =>
        rw [cnd_true, at?_nat (h k hb), bnd_some_eq]
        simp only [notB, Bool.not_true, bnd_some_eq, cnd_false, e1]
    rw [loopR_inl e, ih (k + 1) (by omega)]

theorem told_rlx {l : List Ins} (hc : chkL l = 0) : toldB l (rlx l) = true := told_of hc (good_rlx hc).len (good_rlx hc).only

theorem law_least16 (L : Sl Ins) (S : Sl Bool) : f_law16_AsmLeast (L, S, ()) = some (true, ()) := by
  rw [u_law16_AsmLeast, awake16_spec]
  simp only [bnd_some_eq, notB, Bool.not_true, cnd_false]
  cases h : ltI 200 (lenI L.l) with
  | true => rfl
  | false =>
    cases h' : ltI 200 (lenI S.l) with
    | true => rfl
    | false =>
      have hL : (L.l.length : Int) ≤ 200 := by have := of_decide_eq_false h; unfold lenI at this; omega
      have hS : (S.l.length : Int) ≤ 200 := by have := of_decide_eq_false h'; unfold lenI at this; omega
      obtain ⟨n, hn⟩ := own_spec L (by omega)
      obtain ⟨n', hn'⟩ := longs_spec S (by omega)
      rw [cnd_false]
      simp only [bnd_some_eq, cnd_false]
      rw [hn]
      simp only [bnd_some_eq]
      rw [relax_spec _ (by simp only; omega)]
      simp only [bnd_some_eq]
      by_cases hc : chkL L.l = 0
      · rw [if_pos hc]
        simp only [eqI_self, Bool.not_true, cnd_false]
        have hg := good_rlx hc
        obtain ⟨n2, hn2⟩ := longs_spec ⟨false, rlx L.l⟩ (by simp only; have := hg.len; omega)
        rw [hn2, hn']
        simp only [bnd_some_eq]
        rw [aFits_spec _ _ (by simp only; omega) (by simp only; have := hg.len; omega), aFits_spec _ _ (by simp only; omega) (by simp only; omega)]
        simp only [bnd_some_eq]
        rw [told_rlx hc, (fits_dec _ _).2 hg.fit]
        simp only [Bool.and_self, Bool.not_true, cnd_false]
        cases hx : (toldB L.l S.l && decide (tightB L.l S.l < 0)) with
        | false => rfl
        | true =>
          rw [Bool.and_eq_true] at hx
          obtain ⟨h1, h2⟩ := told_lay hx.1
          have h3 := (fits_dec _ _).1 hx.2
          simp only [Bool.not_true, cnd_false]
          exact least_loop (rlx L.l) S.l S.nil false (by rw [hg.len, h2.len]) (by have := hg.len; omega) ((rlx_least (chkL_ok hc).2.2).2.2 S.l h2.len h3) _ 0 (Nat.zero_add _)
      · rw [if_neg hc]
        simp only [eqI_ne hc, Bool.not_false, cnd_true]
        rfl

theorem law_back16 (L : Sl Ins) : f_law16_AsmBack (L, ()) = some (true, ()) := by
  rw [u_law16_AsmBack, awake16_spec]
  simp only [bnd_some_eq, notB, Bool.not_true, cnd_false]
  cases h : ltI 200 (lenI L.l) with
  | true => rfl
  | false =>
    have hL : (L.l.length : Int) ≤ 200 := by have := of_decide_eq_false h; unfold lenI at this; omega
    obtain ⟨n, hn⟩ := own_spec L (by omega)
    rw [cnd_false, hn]
    simp only [bnd_some_eq]
    rw [assemble_spec _ (by simp only; omega)]
    simp only [bnd_some_eq]
    by_cases hc : chkL L.l = 0
    · rw [if_pos hc]
      simp only [eqI_self, Bool.not_true, cnd_false]
      obtain ⟨n2, h2⟩ := dis_spec (asmB_ok (good_rlx hc))
      rw [h2, dis_back hc, bnd_some_eq]
      simp only [eqI_self, cnd_true]
      rw [show (⟨n2, L.l⟩, L, ()) = ((⟨n2, L.l⟩ : Sl Ins), (⟨L.nil, L.l⟩ : Sl Ins), ()) from rfl, same_spec n2 L.nil L.l (by omega)]
      rfl
    · rw [if_neg hc]
      simp only [eqI_ne hc, Bool.not_false, cnd_true]
      rfl

theorem only_loop {s : List Int} {l : List Ins} (hs : bytesOk s) (hc : chkL l = 0) (ha : asmB l (rlx l) = s) (n1 n2 n3 : Bool) : ∀ (m k : Nat), k + m = l.length →
    loopR l1_law16_AsmOnly (s, ⟨n1, l⟩, s, 0, ⟨n2, rlx l⟩, 0, ⟨n3, stOut l (rlx l)⟩, (k : Int), ()) = some (true, ()) := by
  intro m
  have hG := good_rlx hc
  have hlen := hG.len
  have hf := (chkL_ok hc).1
  have hsl : s.length = pos l (rlx l) l.length := by rw [← ha, asmB_len hG]
  have hst := stOut_len l (rlx l)
  induction m with
  | zero =>
    intro k hk
    refine loopR_inr ?_
    unfold l1_law16_AsmOnly
    simp only [lenI]
    rw [cnd_lt, if_neg (by omega)]
    simp only [eqI_self, eqS_self, cnd_true, bnd_some_eq]
  | succ m ih =>
    intro k hk
    obtain ⟨i, hi⟩ := getI_of (l := l) (k := k) (by omega)
    obtain ⟨b, hb⟩ := getB_of (S := rlx l) (k := k) (by omega)
    have e1 := add1 (k := k) (by omega)
    have hp := pos_le hlen (l.length - k) k (by omega)
    rw [Nat.add_sub_cancel' (by omega)] at hp
    have hps := pos_succ hi hb
    have hz := szN_pos i b
    have hpb := (pos_bound hlen (k := k) (by omega)).2
    have hget : f_ref15_Get (s.drop (pos l (rlx l) k), ()) = some ((zeroA i, outI l (rlx l) k i, b, (szN i b : Int), 0), ()) := by
      rw [rget_spec (bytes_drop hs _), ← ha, asmF_drop hG k (m + 1) hk, get_one hG hi hb]
    have e : l1_law16_AsmOnly (s, ⟨n1, l⟩, s, 0, ⟨n2, rlx l⟩, 0, ⟨n3, stOut l (rlx l)⟩, (k : Int), ()) = some (.inl (s, ⟨n1, l⟩, s, 0, ⟨n2, rlx l⟩, 0, ⟨n3, stOut l (rlx l)⟩, ((k + 1 : Nat) : Int), ())) := by
      unfold l1_law16_AsmOnly
      simp only
      rw [show ltI (k : Int) (lenI l) = true from decide_eq_true (by unfold lenI; omega), cnd_true, e1,
        show leI (lenI (stOut l (rlx l))) ((k + 1 : Nat) : Int) = false from decide_eq_false (by unfold lenI; omega), cnd_false, at?_nat (stOut_get l (rlx l) (by omega : k ≤ l.length)), bnd_some_eq, bnd_some_eq,
        show leI (lenI s) (pos l (rlx l) k : Int) = false from decide_eq_false (by unfold lenI; omega), cnd_false, bnd_some_eq, cut_drop (by omega), bnd_some_eq, hget, bnd_some_eq]
      simp only [eqI_self, notB, Bool.not_true, cnd_false]
      rw [at?_nat hb, bnd_some_eq]
      simp only [eqB_self, Bool.not_true, cnd_false]
      rw [at?_nat (stOut_get l (rlx l) (by omega : k + 1 ≤ l.length)), bnd_some_eq, bnd_some_eq, subI_i64 (by omega) (by omega),
        show eqI (szN i b : Int) ((pos l (rlx l) (k + 1) : Int) - (pos l (rlx l) k : Int)) = true from eqI_eq.2 (by omega)]
      rfl
    rw [loopR_inl e, ih (k + 1) (by omega)]

theorem dis_err {s : List Int} (h : (disB s).2 ≠ 0) : (disB s).1 = [] := by
  unfold disB at h ⊢
  split
  · rfl
  · rename_i its hi
    rw [hi] at h
    simp only at h
    unfold endB at h ⊢
    split
    · rfl
    · rename_i h1
      rw [if_neg h1] at h
      split
      · rfl
      · rename_i h2
        rw [if_neg h2] at h
        split
        · rename_i h3
          rw [if_pos h3] at h
          exact absurd rfl h
        · rfl

theorem law_only16 {s : List Int} (hs : good .str s) : f_law16_AsmOnly (s, ()) = some (true, ()) := by
  rw [u_law16_AsmOnly, awake16_spec]
  simp only [bnd_some_eq, notB, Bool.not_true, cnd_false]
  cases h : ltI 500 (lenI s) with
  | true => rfl
  | false =>
    have hL : (s.length : Int) ≤ 500 := by have := of_decide_eq_false h; unfold lenI at this; omega
    have hok : bytesOk s := ⟨by omega, hs.2⟩
    obtain ⟨n1, h1⟩ := dis_spec hok
    rw [cnd_false, h1]
    simp only [bnd_some_eq]
    by_cases he : (disB s).2 = 0
    · have hd : disB s = ((disB s).1, 0) := by rw [← he]
      generalize (disB s).1 = l at hd
      obtain ⟨hc, ha⟩ := dis_only hd
      have hG := good_rlx hc
      have hf := (chkL_ok hc).1
      have hlen := hG.len
      rw [hd]
      simp only [eqI_self, Bool.not_true, cnd_false]
      obtain ⟨n2, h2⟩ := own_spec ⟨n1, l⟩ (by simp only; omega)
      rw [h2]
      simp only [bnd_some_eq]
      rw [assemble_spec _ (by simp only; omega), relax_spec _ (by simp only; omega)]
      simp only [bnd_some_eq, hc, if_true]
      obtain ⟨n3, h3⟩ := longs_spec ⟨false, rlx l⟩ (by simp only; omega)
      rw [h3]
      simp only [bnd_some_eq]
      rw [aStarts_spec _ _ (by simp only; omega) (by simp only; omega)]
      simp only [bnd_some_eq, told_rlx hc, if_true]
      rw [ha]
      exact only_loop hok hc ha n1 false false l.length 0 (by omega)
    · rw [eqI_ne he, dis_err he]
      rfl

theorem joins_loop (A B : Sl Ins) (hA : A.l.length ≤ 100) (hB : B.l.length ≤ 100) (ha : chkL A.l = 0) (hb : chkL B.l = 0) : ∀ (m k : Nat) (n : Bool) (c : List Ins), k + m = B.l.length → c = A.l ++ (B.l.take k).map (shiftI A.l.length) →
    loopR l1_law16_AsmJoins (A, B, asmB A.l (rlx A.l), asmB B.l (rlx B.l), (k : Int), ⟨n, c⟩, ()) = some (true, ()) := by
  intro m
  have hj := chk_join ha hb hA hB
  have hGA := good_rlx ha
  have hGB := good_rlx hb
  have b1 := (pos_bound hGA.len (Nat.le_refl A.l.length)).2
  have b2 := (pos_bound hGB.len (Nat.le_refl B.l.length)).2
  have l1 := asmB_len hGA
  have l2 := asmB_len hGB
  induction m with
  | zero =>
    intro k n c hk hcc
    have : c = A.l ++ B.l.map (shiftI A.l.length) := by
      rw [hcc, List.take_of_length_le (by omega)]
    refine loopR_inr ?_
    unfold l1_law16_AsmJoins
    simp only
    rw [show ltI (k : Int) (lenI B.l) = false from decide_eq_false (by unfold lenI; omega), cnd_false, this, assemble_spec _ (by simp; omega), bnd_some_eq]
    simp only [hj, if_true, eqI_self, cnd_true]
    rw [fit_ok (by simp only [sumI, lenI]; omega), bnd_some_eq, bnd_some_eq, asmB_join ha hb hA hB]
    simp only [catS, eqS_self]
  | succ m ih =>
    intro k n c hk hcc
    obtain ⟨i, hi⟩ := getI_of (l := B.l) (k := k) (by omega)
    have e1 := add1 (k := k) (by omega)
    have hcl : c.length = A.l.length + k := by
      rw [hcc, List.length_append, List.length_map, List.length_take]; omega
    have hnext : c ++ [shiftI A.l.length i] = A.l ++ (B.l.take (k + 1)).map (shiftI A.l.length) := by
      rw [hcc, List.take_add_one, hi, List.map_append, List.append_assoc]; rfl
    have hok := (chkL_ok hb).2.1 k i hi
    unfold okI at hok
    obtain ⟨_, h3, _⟩ := check_in hok
    have e : ∃ n', l1_law16_AsmJoins (A, B, asmB A.l (rlx A.l), asmB B.l (rlx B.l), (k : Int), ⟨n, c⟩, ()) = some (.inl (A, B, asmB A.l (rlx A.l), asmB B.l (rlx B.l), ((k + 1 : Nat) : Int), ⟨n', c ++ [shiftI A.l.length i]⟩, ())) := by
      have hfit : ∀ v : Ins, fit (sumI (lenI c) (lenI [v])) = some () := fun v => fit_ok (by simp only [sumI, lenI, List.length_singleton]; omega)
      unfold l1_law16_AsmJoins
      simp only
      rw [show ltI (k : Int) (lenI B.l) = true from decide_eq_true (by unfold lenI; omega), cnd_true, at?_nat hi, bnd_some_eq, rgoes_spec, bnd_some_eq]
      unfold shiftI
      cases hg : goesB i.1 with
      | false =>
        simp only [cnd_false, bnd_some_eq, hfit, e1, app, Bool.false_eq_true, if_false]
        exact ⟨_, rfl⟩
      | true =>
        simp only [cnd_true, bnd_some_eq, hfit, e1, app, if_true]
        unfold lenI
        rw [addI_i64 (by omega) (by omega)]
        exact ⟨_, rfl⟩
    obtain ⟨n', e⟩ := e
    rw [loopR_inl e]
    exact ih (k + 1) n' _ (by omega) hnext

theorem law_joins16 (A B : Sl Ins) : f_law16_AsmJoins (A, B, ()) = some (true, ()) := by
  rw [u_law16_AsmJoins, awake16_spec]
  simp only [bnd_some_eq, notB, Bool.not_true, cnd_false]
  cases h : ltI 100 (lenI A.l) with
  | true => rfl
  | false =>
    cases h' : ltI 100 (lenI B.l) with
    | true => rfl
    | false =>
      have hA : (A.l.length : Int) ≤ 100 := by have := of_decide_eq_false h; unfold lenI at this; omega
      have hB : (B.l.length : Int) ≤ 100 := by have := of_decide_eq_false h'; unfold lenI at this; omega
      obtain ⟨n, hn⟩ := own_spec A (by omega)
      obtain ⟨n', hn'⟩ := own_spec B (by omega)
      rw [cnd_false]
      simp only [bnd_some_eq, cnd_false]
      rw [hn, hn']
      simp only [bnd_some_eq]
      rw [assemble_spec _ (by simp only; omega), assemble_spec _ (by simp only; omega)]
      simp only [bnd_some_eq]
      by_cases ha : chkL A.l = 0
      · by_cases hb : chkL B.l = 0
        · rw [if_pos ha, if_pos hb]
          simp only [eqI_self, Bool.not_true, cnd_false, bnd_some_eq]
          exact joins_loop A B (by omega) (by omega) ha hb B.l.length 0 n A.l (by omega) (by simp)
        · rw [if_neg hb, if_pos ha]
          simp only [eqI_self, Bool.not_true, cnd_false, eqI_ne hb, bnd_some_eq]
          rfl
      · rw [if_neg ha]
        simp only [eqI_ne ha, Bool.not_false, cnd_true, bnd_some_eq]
end Fn
end Ev
