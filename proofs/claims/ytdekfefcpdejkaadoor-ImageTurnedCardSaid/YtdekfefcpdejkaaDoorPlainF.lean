/- Layer 16: what the document's functions give. No statement of its own about the program. -/
import Derived.Test.YtdekfefcpdejkaaDoorPlainE
namespace Ev
open Go
namespace Fn

/-! The document's twins. -/
theorem any_drop {α : Type} {l : List α} {k : Nat} {x : α} (h : l[k]? = some x) (p : α → Bool) : (l.drop k).any p = (p x || (l.drop (k + 1)).any p) := by
  have hl := get_lt h
  rw [List.drop_eq_getElem_cons hl, List.any_cons]
  rw [List.getElem?_eq_getElem hl] at h
  rw [Option.some.inj h]

theorem rcheck2_loop (L : Sl Ins) (hL : L.l.length ≤ 1000000) : ∀ (m k : Nat), k + m = L.l.length →
    loopR l1_ref16_Check (L, (k : Int), ()) = some (.inr ((if ((L.l.drop k).any fun x => farI L.l.length x) = true then 160 else 0), ())) := by
  intro m
  induction m with
  | zero =>
    intro k hk
    refine loopR_inr ?_
    unfold l1_ref16_Check
    simp only [lenI]
    rw [cnd_lt, if_neg (by omega), List.drop_eq_nil_of_le (by omega)]
    rfl
  | succ m ih =>
    intro k hk
    obtain ⟨i, hi⟩ := getI_of (l := L.l) (k := k) (by omega)
    have e1 := add1 (k := k) (by omega)
    have e : l1_ref16_Check (L, (k : Int), ()) = some (if farI L.l.length i = true then .inr (.inr (160, ())) else .inl (L, ((k + 1 : Nat) : Int), ())) := by
      unfold l1_ref16_Check
      simp only [lenI]
      rw [cnd_lt, if_pos (by omega), at?_nat hi, bnd_some_eq, rgoes_spec, bnd_some_eq]
      unfold farI leI
      cases goesB i.1 with
      | false => simp only [cnd_false, bnd_some_eq, e1]; rfl
      | true =>
        simp only [cnd_true, bnd_some_eq, e1, Bool.true_and]
        cases decide ((L.l.length : Int) ≤ i.2.1) <;> rfl
    rw [any_drop hi]
    cases hx : farI L.l.length i with
    | true =>
      rw [hx] at e
      rw [loopR_inr e]; rfl
    | false =>
      rw [hx] at e
      rw [loopR_inl e, ih (k + 1) (by omega), Bool.false_or]

theorem rcheck1_loop (L : Sl Ins) (hL : L.l.length ≤ 1000000) : ∀ (m k : Nat), k + m = L.l.length →
    loopR l2_ref16_Check (L, (k : Int), ()) = some ((if ((L.l.drop k).any fun x => !okI x) = true then 150 else if (L.l.any fun x => farI L.l.length x) = true then 160 else 0), ()) := by
  intro m
  induction m with
  | zero =>
    intro k hk
    have h2 := rcheck2_loop L hL L.l.length 0 (by omega)
    rw [List.drop_zero] at h2
    have e : l2_ref16_Check (L, (k : Int), ()) = some (.inr ((if (L.l.any fun x => farI L.l.length x) = true then 160 else 0), ())) := by
      unfold l2_ref16_Check
      simp only [lenI]
      rw [cnd_lt, if_neg (by omega)]
      exact h2
    rw [loopR_inr e, List.drop_eq_nil_of_le (by omega)]
    rfl
  | succ m ih =>
    intro k hk
    obtain ⟨i, hi⟩ := getI_of (l := L.l) (k := k) (by omega)
    have e1 := add1 (k := k) (by omega)
    have e : l2_ref16_Check (L, (k : Int), ()) = some (if (!okI i) = true then .inr (150, ()) else .inl (L, ((k + 1 : Nat) : Int), ())) := by
      unfold l2_ref16_Check
      simp only [lenI]
      rw [cnd_lt, if_pos (by omega), at?_nat hi, bnd_some_eq]
      have := rcheck_spec i.1 i.2.1 i.2.2
      rw [show (i, ()) = ((i.1, i.2.1, i.2.2), ()) from rfl, this, bnd_some_eq]
      unfold okI
      simp only [e1]
      cases checkB i.1 i.2.1 i.2.2 <;> rfl
    rw [any_drop hi]
    cases hx : okI i with
    | false =>
      rw [hx] at e
      rw [loopR_inr e]; rfl
    | true =>
      rw [hx] at e
      rw [loopR_inl e, ih (k + 1) (by omega)]; rfl

theorem rCheck_spec (L : Sl Ins) (hL : L.l.length ≤ 1000000) : f_ref16_Check (L, ()) = some (chkL L.l, ()) := by
  rw [u_ref16_Check]
  unfold lenI chkL
  rw [cnd_lt]
  by_cases h : 20000 < L.l.length
  · rw [if_pos (by omega), if_pos (Or.inl h)]
  · rw [if_neg (by omega)]
    have := rcheck1_loop L hL L.l.length 0 (by omega)
    rw [List.drop_zero] at this
    rw [show (0 : Int) = ((0 : Nat) : Int) from rfl, this]
    simp only [h, false_or]
    rfl

theorem rsize_spec {l : List Ins} {lg : List Bool} (h : Lay l lg) {k : Nat} {i : Ins} {b : Bool} (hi : l[k]? = some i) (hb : lg[k]? = some b) : f_ref16_size (i, b, ()) = some ((szN i b : Int), ()) := by
  have hok := h.ok k i hi
  unfold okI at hok
  obtain ⟨h1, h2, h3, _⟩ := check_in hok
  have hh := head_len i.1 i.2.1 i.2.2 b
  rw [show (i, b, ()) = ((i.1, i.2.1, i.2.2), b, ()) from rfl, u_ref16_size, rhead_spec h1 h2 h3, bnd_some_eq, rgoes_spec, bnd_some_eq]
  unfold szN lenI
  cases goesB i.1 with
  | false => simp [notB, cnd_true]
  | true =>
    simp only [notB, Bool.not_true, cnd_false]
    cases b with
    | true => rw [cnd_true, addI_i64 (by omega) (by omega)]; simp
    | false => rw [cnd_false, addI_i64 (by omega) (by omega)]; simp

theorem rstarts_loop {l : List Ins} {lg : List Bool} (h : Lay l lg) (n1 n2 : Bool) : ∀ (m k : Nat) (n3 : Bool) (a : List Int), k + m = l.length → a.length = k + 1 → (∀ j, j ≤ k → a[j]? = some (pos l lg j : Int)) →
    ∃ n, loopR l1_ref16_Starts (⟨n1, l⟩, ⟨n2, lg⟩, (k : Int), ⟨n3, a⟩, ()) = some (⟨n, stOut l lg⟩, ()) := by
  intro m
  have hf := h.few
  induction m with
  | zero =>
    intro k n3 a hk ha hj
    refine ⟨n3, loopR_inr ?_⟩
    unfold l1_ref16_Starts
    simp only [lenI]
    rw [cnd_lt, if_neg (by omega), stOut_of (l := l) (lg := lg) (by omega) fun j h => hj j (by omega)]
  | succ m ih =>
    intro k n3 a hk ha hj
    obtain ⟨i, hi⟩ := getI_of (l := l) (k := k) (by omega)
    obtain ⟨b, hb⟩ := getB_of (S := lg) (k := k) (by have := h.len; omega)
    have hp := (pos_bound h.len (k := k) (by omega)).2
    have hz := szN_pos i b
    have e : ∃ n4, l1_ref16_Starts (⟨n1, l⟩, ⟨n2, lg⟩, (k : Int), ⟨n3, a⟩, ()) = some (.inl (⟨n1, l⟩, ⟨n2, lg⟩, ((k + 1 : Nat) : Int), ⟨n4, a ++ [(pos l lg (k + 1) : Int)]⟩, ())) := by
      unfold l1_ref16_Starts
      simp only [lenI]
      rw [cnd_lt, if_pos (by omega), okAt_nat (by omega), bnd_some_eq, nth_of (hj k (Nat.le_refl _)), bnd_some_eq, at?_nat hi, bnd_some_eq, at?_nat hb, bnd_some_eq, rsize_spec h hi hb, bnd_some_eq, fit_ok (by simp only [sumI, List.length_singleton]; omega), bnd_some_eq, add1 (by omega)]
      simp only [addI_i64 (show -9223372036854775808 ≤ (pos l lg k : Int) + (szN i b : Int) by omega) (show (pos l lg k : Int) + (szN i b : Int) ≤ 9223372036854775807 by omega), app]
      rw [pos_succ hi hb]
      exact ⟨_, rfl⟩
    obtain ⟨n4, e⟩ := e
    rw [loopR_inl e]
    refine ih (k + 1) n4 _ (by omega) (by simp [ha]) fun j hj2 => ?_
    rcases Nat.lt_or_ge k j with hjk | hjk
    · obtain rfl : j = k + 1 := by omega
      rw [List.getElem?_append_right (by omega), ha, Nat.sub_self]; rfl
    · rw [List.getElem?_append_left (by omega), hj j hjk]

theorem rstarts_spec {L : Sl Ins} {S : Sl Bool} (h : Lay L.l S.l) : ∃ n, f_ref16_Starts (L, S, ()) = some (⟨n, stOut L.l S.l⟩, ()) := by
  rw [u_ref16_Starts]
  refine rstarts_loop h L.nil S.nil L.l.length 0 false [0] (by omega) rfl fun j hj => ?_
  obtain rfl : j = 0 := by omega
  rfl

theorem rtight_loop {l : List Ins} {lg : List Bool} (h : Lay l lg) (ht : inT l) (n1 n2 n3 : Bool) : ∀ (m k : Nat), k + m = l.length →
    loopR l1_ref16_Tight (⟨n1, l⟩, ⟨n2, lg⟩, ⟨n3, stOut l lg⟩, (k : Int), ()) = some (tightF l lg m k, ()) := by
  intro m
  have hf := h.few
  induction m with
  | zero =>
    intro k hk
    refine loopR_inr ?_
    unfold l1_ref16_Tight
    simp only [lenI]
    rw [cnd_lt, if_neg (by omega)]
    rfl
  | succ m ih =>
    intro k hk
    obtain ⟨i, hi⟩ := getI_of (l := l) (k := k) (by omega)
    obtain ⟨b, hb⟩ := getB_of (S := lg) (k := k) (by have := h.len; omega)
    have e1 := add1 (k := k) (by omega)
    have e : l1_ref16_Tight (⟨n1, l⟩, ⟨n2, lg⟩, ⟨n3, stOut l lg⟩, (k : Int), ()) = some (if badB l lg k = true then .inr ((k : Int), ()) else .inl (⟨n1, l⟩, ⟨n2, lg⟩, ⟨n3, stOut l lg⟩, ((k + 1 : Nat) : Int), ())) := by
      unfold l1_ref16_Tight
      simp only [lenI]
      rw [cnd_lt, if_pos (by omega), at?_nat hi, bnd_some_eq, rgoes_spec, bnd_some_eq, bad_of hi hb, e1]
      unfold badI
      cases hg : goesB i.1 with
      | false => simp only [cnd_false]; rfl
      | true =>
        obtain ⟨t1, t2⟩ := ht k i hi hg
        rw [cnd_true, at?_nat hb, bnd_some_eq]
        cases b with
        | true => simp only [notB, Bool.not_true, cnd_false]; rfl
        | false =>
          simp only [notB, Bool.not_false, cnd_true]
          rw [bnd_some_eq, at?_int t1 (stOut_get l lg (by omega)), bnd_some_eq, at?_nat (stOut_get l lg (by omega)), bnd_some_eq, far_test2 h (by omega) ⟨t1, t2⟩, rfits_spec, bnd_some_eq]
          cases fitsB (farP l lg k i) false <;> rfl
    unfold tightF
    cases hbad : badB l lg k with
    | true =>
      rw [hbad] at e
      rw [loopR_inr e]; rfl
    | false =>
      rw [hbad] at e
      rw [loopR_inl e, ih (k + 1) (by omega)]; rfl

theorem rtight_spec {L : Sl Ins} {S : Sl Bool} (h : Lay L.l S.l) (ht : inT L.l) : f_ref16_Tight (L, S, ()) = some (tightB L.l S.l, ()) := by
  obtain ⟨n, hn⟩ := rstarts_spec h
  rw [u_ref16_Tight, hn, bnd_some_eq]
  exact rtight_loop h ht L.nil S.nil n L.l.length 0 (by omega)

theorem set_sub {S R : List Bool} {k : Nat} (h : sub S R) (hk : R[k]? = some true) : sub (S.set k true) R := by
  intro j hj
  rw [List.getElem?_set] at hj
  by_cases hjk : k = j
  · subst hjk; exact hk
  · rw [if_neg hjk] at hj; exact h j hj

theorem bad_goes {l : List Ins} {S : List Bool} {k : Nat} {i : Ins} (hi : l[k]? = some i) (h : badB l S k = true) : goesB i.1 = true := by
  have hb := (badB_lt h).2
  rw [bad_of hi hb] at h
  unfold badI at h
  rw [Bool.and_eq_true, Bool.and_eq_true] at h
  exact h.1.1

theorem lay_set {l : List Ins} {S : List Bool} (h : Lay l S) {k : Nat} (hb : badB l S k = true) : Lay l (S.set k true) := by
  refine ⟨by rw [List.length_set]; exact h.len, h.few, h.ok, fun j i hi hj => ?_⟩
  rw [List.getElem?_set] at hj
  by_cases hjk : k = j
  · subst hjk; exact bad_goes hi hb
  · rw [if_neg hjk] at hj; exact h.only j i hi hj

theorem rrelax_loop {l : List Ins} (hc : chkL l = 0) (n1 n2 : Bool) (S : List Bool) (h : Lay l S) (hs : sub S (rlx l)) : loopR l1_ref16_Relax (⟨n1, l⟩, tightB l S, ⟨n2, S⟩, ()) = some (⟨n2, rlx l⟩, ()) := by
  have ht := (chkL_ok hc).2.2
  obtain ⟨r1, r2, r3⟩ := rlx_least ht
  obtain ⟨r, h1, h2⟩ := loopR_inv (f := l1_ref16_Relax) (I := fun s => ∃ S, s = (⟨n1, l⟩, tightB l S, ⟨n2, S⟩, ()) ∧ Lay l S ∧ sub S (rlx l)) (Q := fun r => r = (⟨n2, rlx l⟩, ())) (fun s => s.2.2.1.l.count false) (fun s hs => by
    obtain ⟨S, rfl, hL, hb⟩ := hs
    by_cases hx : tightB l S < 0
    · refine .inr ⟨_, ?_, rfl⟩
      unfold l1_ref16_Relax
      simp only
      rw [cnd_le, if_neg (by omega)]
      rw [sub_antisymm (by rw [hL.len, r1]) hb (r3 S hL.len (tightB_neg hx))]
    · obtain ⟨t, e1, _, h3, h4, _⟩ := tightF_nonneg (l := l) (lg := S) l.length 0 hx
      have e2 : tightB l S = (t : Int) := e1
      obtain ⟨hk1, hk2⟩ := badB_lt h4
      have hlen := hL.len
      have hLs := lay_set hL h4
      refine .inl ⟨(⟨n1, l⟩, tightB l (S.set t true), ⟨n2, S.set t true⟩, ()), ?_, ⟨_, rfl, hLs, set_sub hb (bad_mono ht hL.len r1 hb r2 h4)⟩, ?_⟩
      · unfold l1_ref16_Relax
        simp only
        rw [e2, cnd_le, if_pos (by omega), okAt_nat (by omega), bnd_some_eq, nth_of hk2, bnd_some_eq, bnd_some_eq]
        simp only [setL]
        rw [rtight_spec (L := ⟨n1, l⟩) (S := ⟨n2, S.set t true⟩) hLs ht, bnd_some_eq]
      · refine (count_lt S (S.set t true) (by rw [List.length_set]) fun j hj => ?_).2 ⟨t, hk2, ?_⟩
        · rw [List.getElem?_set]
          by_cases hjk : t = j
          · rw [if_pos hjk, if_pos (by omega)]
          · rw [if_neg hjk]; exact hj
        · rw [List.getElem?_set, if_pos rfl, if_pos (by omega)]) (⟨n1, l⟩, tightB l S, ⟨n2, S⟩, ()) ⟨S, rfl, h, hs⟩
  rw [h1, h2]

theorem rRelax_spec (L : Sl Ins) (hc : chkL L.l = 0) : f_ref16_Relax (L, ()) = some (⟨false, rlx L.l⟩, ()) := by
  obtain ⟨n, l⟩ := L
  simp only at hc ⊢
  have hf := (chkL_ok hc).1
  rw [u_ref16_Relax]
  unfold mkN lenI rep
  simp only
  rw [if_pos (by omega), bnd_some_eq]
  simp only [Int.toNat_natCast]
  rw [rtight_spec (L := ⟨n, l⟩) (S := ⟨false, List.replicate l.length false⟩) (lay_none hc) (chkL_ok hc).2.2, bnd_some_eq]
  refine rrelax_loop hc n false _ (lay_none hc) fun k hk => ?_
  rw [List.getElem?_replicate] at hk
  split at hk <;> simp at hk

theorem rasm_loop {l : List Ins} {lg : List Bool} (h : Good l lg) (n1 n2 n3 : Bool) : ∀ (m k : Nat) (buf : List Int), k + m = l.length → buf.length = pos l lg k →
    loopR l1_ref16_Assemble (⟨n2, l⟩, ⟨n1, lg⟩, ⟨n3, stOut l lg⟩, buf, (k : Int), ()) = some (buf ++ asmF l lg m k, ()) := by
  intro m
  obtain ⟨hf, hok, ht⟩ := chkL_ok h.chk
  induction m with
  | zero =>
    intro k buf hk hbuf
    refine loopR_inr ?_
    unfold l1_ref16_Assemble
    simp only [lenI]
    rw [cnd_lt, if_neg (by omega)]
    simp [asmF]
  | succ m ih =>
    intro k buf hk hbuf
    obtain ⟨i, hi⟩ := getI_of (l := l) (k := k) (by omega)
    obtain ⟨b, hb⟩ := getB_of (S := lg) (k := k) (by have := h.len; omega)
    have e1 := add1 (k := k) (by omega)
    have hp := (pos_bound h.len (k := k) (by omega)).2
    have hz := szN_pos i b
    have hone := oneB_len i (outI l lg k i) b
    have e : l1_ref16_Assemble (⟨n2, l⟩, ⟨n1, lg⟩, ⟨n3, stOut l lg⟩, buf, (k : Int), ()) = some (.inl (⟨n2, l⟩, ⟨n1, lg⟩, ⟨n3, stOut l lg⟩, buf ++ oneB i (outI l lg k i) b, ((k + 1 : Nat) : Int), ())) := by
      have hput := put_one h hi hb
      have hw : fit (sumI (lenI buf) (lenI (oneB i (outI l lg k i) b))) = some () := fit_ok (by simp only [sumI, lenI]; omega)
      have hrp : ∀ far, f_ref15_Put (i, far, b, ()) = some ((putB i.1 i.2.1 i.2.2 far b).1, (putB i.1 i.2.1 i.2.2 far b).2, ()) := fun far => rput_spec i.1 i.2.1 i.2.2 far b
      unfold l1_ref16_Assemble
      simp only
      rw [show ltI (k : Int) (lenI l) = true from decide_eq_true (by unfold lenI; omega), cnd_true, at?_nat hi, bnd_some_eq, rgoes_spec, bnd_some_eq]
      unfold outI at hput hw ⊢
      cases hg : goesB i.1 with
      | false =>
        rw [hg] at hput hw
        simp only [Bool.false_eq_true, if_false] at hput hw ⊢
        simp only [cnd_false, bnd_some_eq, at?_nat hb, at?_nat hi, hrp]
        rw [hput]
        simp only [hw, bnd_some_eq, e1, catS]
      | true =>
        obtain ⟨t1, t2⟩ := ht k i hi hg
        rw [hg] at hput hw
        simp only [if_true] at hput hw ⊢
        rw [cnd_true, bnd_some_eq, at?_int t1 (stOut_get l lg (by omega)), bnd_some_eq, e1, at?_nat (stOut_get l lg (by omega)), bnd_some_eq, far_test2 (lay_good h) (by omega) ⟨t1, t2⟩, bnd_some_eq]
        simp only [bnd_some_eq, at?_nat hb, at?_nat hi, hrp]
        rw [hput]
        simp only [hw, bnd_some_eq, e1, catS]
    rw [loopR_inl e, ih (k + 1) _ (by omega) (by rw [List.length_append, hone, hbuf, pos_succ hi hb])]
    simp only [asmF]
    rw [putK_one h hi hb, List.append_assoc]

theorem rassemble_spec (L : Sl Ins) (hc : chkL L.l = 0) : f_ref16_Assemble (L, ()) = some (asmB L.l (rlx L.l), ()) := by
  obtain ⟨n, hn⟩ := rstarts_spec (L := L) (S := ⟨false, rlx L.l⟩) (lay_good (good_rlx hc))
  rw [u_ref16_Assemble, rRelax_spec L hc, bnd_some_eq, hn, bnd_some_eq]
  exact rasm_loop (good_rlx hc) false L.nil n L.l.length 0 [] (by omega) rfl
end Fn
end Ev
namespace Ev
open Go
namespace Fn

/-! The document's bytes back. -/
structure RHeld (its : List It) (l : List Ins) (a f : List Int) : Prop where
  l : l = its.map fun x => x.1
  alen : a.length = its.length + 1
  at_ : ∀ j, j ≤ its.length → a[j]? = some (posI its j : Int)
  flen : f.length = its.length
  far : ∀ (k : Nat) (x : It), its[k]? = some x → f[k]? = some x.2.1
  fin : ∀ (k : Nat) (x : It), its[k]? = some x → -2147483648 ≤ x.2.1 ∧ x.2.1 ≤ 2147483647
  one : pos1 its

theorem rheld_nil : RHeld [] [] [0] [] := ⟨rfl, rfl, fun j hj => by obtain rfl : j = 0 := by simpa using hj
                                                                    rfl, rfl, fun k x h => by simp at h, fun k x h => by simp at h, fun k x h => by simp at h⟩

theorem snoc_get {its : List It} {x : It} {k : Nat} {y : It} (hy : (its ++ [x])[k]? = some y) : (k < its.length ∧ its[k]? = some y) ∨ (k = its.length ∧ y = x) := by
  rcases Nat.lt_or_ge k its.length with hk | hk
  · rw [List.getElem?_append_left hk] at hy
    exact .inl ⟨hk, hy⟩
  · rw [List.getElem?_append_right hk] at hy
    have := get_lt hy
    rw [List.length_singleton] at this
    have hk2 : k = its.length := by omega
    subst hk2
    rw [Nat.sub_self] at hy
    exact .inr ⟨rfl, (Option.some.inj hy).symm⟩

theorem posI_snoc (its : List It) (x : It) : posI (its ++ [x]) (its.length + 1) = posI its its.length + x.2.2 := by
  rw [posI_succ (x := x) (by rw [List.getElem?_append_right (Nat.le_refl _), Nat.sub_self]; rfl), posI_app its _ (Nat.le_refl _)]

theorem rheld_snoc {its : List It} {l : List Ins} {a f : List Int} (h : RHeld its l a f) {x : It} (h1 : 1 ≤ x.2.2) (h2 : -2147483648 ≤ x.2.1 ∧ x.2.1 ≤ 2147483647) :
    RHeld (its ++ [x]) (l ++ [x.1]) (a ++ [((posI its its.length + x.2.2 : Nat) : Int)]) (f ++ [x.2.1]) := by
  refine ⟨by rw [h.l, List.map_append]; rfl, by simp [h.alen], fun j hj => ?_, by simp [h.flen], fun k y hy => ?_, fun k y hy => ?_, fun k y hy => ?_⟩
  · rw [List.length_append, List.length_singleton] at hj
    rcases Nat.lt_or_ge its.length j with hk | hk
    · obtain rfl : j = its.length + 1 := by omega
      rw [List.getElem?_append_right (by rw [h.alen]; exact Nat.le_refl _), h.alen, Nat.sub_self, posI_snoc]; rfl
    · rw [List.getElem?_append_left (by rw [h.alen]; omega), h.at_ j hk, posI_app its [x] hk]
  · rcases snoc_get hy with ⟨hk, hy2⟩ | ⟨hk, hy2⟩
    · rw [List.getElem?_append_left (by rw [h.flen]; exact hk), h.far k y hy2]
    · subst hk
      subst hy2
      rw [List.getElem?_append_right (by rw [h.flen]; exact Nat.le_refl _), h.flen, Nat.sub_self]; rfl
  · rcases snoc_get hy with ⟨hk, hy2⟩ | ⟨hk, hy2⟩
    · exact h.fin k y hy2
    · subst hy2; exact h2
  · rcases snoc_get hy with ⟨hk, hy2⟩ | ⟨hk, hy2⟩
    · exact h.one k y hy2
    · subst hy2; exact h1

theorem rdis_loop {s : List Int} (hs : bytesOk s) : ∀ (f : Nat) (its : List It) (n1 n2 n3 : Bool) (l : List Ins) (a e : List Int), RHeld its l a e → posI its its.length ≤ s.length → s.length - posI its its.length ≤ f →
    (∃ x, parse f (s.drop (posI its its.length)) = .inl x ∧ loopR l2_ref16_Disassemble (s, ⟨n1, l⟩, ⟨n2, a⟩, ⟨n3, e⟩, ()) = some (⟨true, []⟩, x, ())) ∨
    (∃ r n1' n2' n3' l' a' e', parse f (s.drop (posI its its.length)) = .inr r ∧ RHeld (its ++ r) l' a' e' ∧ posI (its ++ r) (its ++ r).length = s.length ∧ loopR l2_ref16_Disassemble (s, ⟨n1, l⟩, ⟨n2, a⟩, ⟨n3, e⟩, ()) = loopR l2_ref16_Disassemble (s, ⟨n1', l'⟩, ⟨n2', a'⟩, ⟨n3', e'⟩, ())) := by
  intro f
  have hlen := hs.1
  induction f with
  | zero =>
    intro its n1 n2 n3 l a e h hp hf
    have hpe : posI its its.length = s.length := by omega
    refine .inr ⟨[], n1, n2, n3, l, a, e, rfl, ?_, ?_, rfl⟩
    · rw [List.append_nil]; exact h
    · rw [List.append_nil]; exact hpe
  | succ f ih =>
    intro its n1 n2 n3 l a e h hp hf
    rcases Nat.lt_or_ge (posI its its.length) s.length with hlt | hge
    · have hd := bytes_drop hs (posI its its.length)
      have hcount := posI_lt h.one its.length 0 (by omega)
      rw [Nat.zero_add] at hcount
      have hll : l.length = its.length := by rw [h.l, List.length_map]
      have hne : s.drop (posI its its.length) ≠ [] := by
        intro hx
        have : (s.drop (posI its its.length)).length = 0 := by rw [hx]; rfl
        rw [List.length_drop] at this
        omega
      have hlast : subI .i64 (lenI a) 1 = (its.length : Int) := by
        unfold lenI; rw [h.alen, subI_i64 (by omega) (by omega)]; omega
      have hok : okAt a (its.length : Int) = some its.length := okAt_nat (by rw [h.alen]; omega)
      have hnth := nth_of (h.at_ its.length (Nat.le_refl _))
      rcases parse_step hd hne f with ⟨x, h1, h2, h3⟩ | ⟨i, far, long, n, h1, h2, h3, h4, h5, h6⟩
      · refine .inl ⟨x, h3, loopR_inr ?_⟩
        unfold l2_ref16_Disassemble
        simp only
        rw [hlast, hok, bnd_some_eq, hnth, bnd_some_eq, show ltI (posI its its.length : Int) (lenI s) = true from decide_eq_true (by unfold lenI; omega), cnd_true, bnd_some_eq, hnth, bnd_some_eq, cut_drop hp, bnd_some_eq, rget_spec hd, bnd_some_eq, h1]
        simp only [failG]
        rw [eqI_ne h2]
        rfl
      · rw [List.length_drop] at h3
        have hx : posI (its ++ [(i, far, n)]) (its ++ [(i, far, n)]).length = posI its its.length + n := by
          rw [List.length_append, List.length_singleton, posI_snoc]
        have hH := rheld_snoc h (x := (i, far, n)) h2 h5
        have hcast : addI .i64 (posI its its.length : Int) (n : Int) = ((posI its its.length + n : Nat) : Int) := by
          rw [addI_i64 (by omega) (by omega)]; rfl
        have hfit1 : fit (sumI (lenI l) (lenI [i])) = some () := fit_ok (by simp only [sumI, lenI, List.length_singleton]; omega)
        have hfit2 : ∀ v : Int, fit (sumI (lenI e) (lenI [v])) = some () := fun v => fit_ok (by simp only [sumI, lenI, List.length_singleton]; have := h.flen; omega)
        have hfit3 : ∀ v : Int, fit (sumI (lenI a) (lenI [v])) = some () := fun v => fit_ok (by simp only [sumI, lenI, List.length_singleton]; have := h.alen; omega)
        have hend : ∃ n1' n2' n3', l2_ref16_Disassemble (s, ⟨n1, l⟩, ⟨n2, a⟩, ⟨n3, e⟩, ()) = some (.inl (s, ⟨n1', l ++ [i]⟩, ⟨n2', a ++ [((posI its its.length + n : Nat) : Int)]⟩, ⟨n3', e ++ [far]⟩, ())) := by
          unfold l2_ref16_Disassemble
          simp only
          rw [hlast, hok, bnd_some_eq, hnth, bnd_some_eq, show ltI (posI its its.length : Int) (lenI s) = true from decide_eq_true (by unfold lenI; omega), cnd_true, bnd_some_eq, hnth, bnd_some_eq, cut_drop hp, bnd_some_eq, rget_spec hd, bnd_some_eq, h1]
          simp only [eqI_self, notB, Bool.not_true, cnd_false, hfit1, hfit2, bnd_some_eq, hnth, hcast, hfit3, app]
          exact ⟨_, _, _, rfl⟩
        obtain ⟨n1', n2', n3', hend⟩ := hend
        rw [loopR_inl hend, h6]
        have hr := ih (its ++ [(i, far, n)]) n1' n2' n3' _ _ _ hH (by rw [hx]; omega) (by rw [hx]; omega)
        rw [hx] at hr
        rw [List.drop_drop]
        rcases hr with ⟨x, r1, r2⟩ | ⟨r, b1, b2, b3, l', a', e', r1, r2, r3, r4⟩
        · exact .inl ⟨x, by rw [r1], r2⟩
        · refine .inr ⟨(i, far, n) :: r, b1, b2, b3, l', a', e', by rw [r1], ?_, ?_, r4⟩
          · rw [List.append_assoc] at r2; exact r2
          · rw [List.append_assoc] at r3; exact r3
    · have hpe : posI its its.length = s.length := by omega
      refine .inr ⟨[], n1, n2, n3, l, a, e, ?_, ?_, ?_, rfl⟩
      · rw [hpe, List.drop_length]; rfl
      · rw [List.append_nil]; exact h
      · rw [List.append_nil]; exact hpe

theorem place_loop {its : List It} {l : List Ins} {a e : List Int} (h : RHeld its l a e) (hn : its.length ≤ 1000000) (n : Bool) (t : Int) : ∀ (m k : Nat), k + m = its.length → loopR l1_ref16_place (⟨n, a⟩, t, (k : Int), ()) = some (placeF its t m k, ()) := by
  intro m
  have hal := h.alen
  induction m with
  | zero =>
    intro k hk
    refine loopR_inr ?_
    unfold l1_ref16_place
    simp only [lenI]
    rw [add1 (by omega), cnd_lt, if_neg (by omega)]
    rfl
  | succ m ih =>
    intro k hk
    have e : l1_ref16_place (⟨n, a⟩, t, (k : Int), ()) = some (if (posI its k : Int) = t then .inr ((k : Int), ()) else .inl (⟨n, a⟩, t, ((k + 1 : Nat) : Int), ())) := by
      unfold l1_ref16_place
      simp only [lenI]
      rw [add1 (by omega), cnd_lt, if_pos (by omega), at?_nat (h.at_ k (by omega)), bnd_some_eq, cnd_eq]
      split <;> rfl
    unfold placeF
    by_cases hx : (posI its k : Int) = t
    · rw [if_pos hx] at e
      rw [loopR_inr e, if_pos hx]
    · rw [if_neg hx] at e
      rw [loopR_inl e, ih (k + 1) (by omega), if_neg hx]

theorem place_spec {its : List It} {l : List Ins} {a e : List Int} (h : RHeld its l a e) (hn : its.length ≤ 1000000) (n : Bool) (t : Int) : f_ref16_place (⟨n, a⟩, t, ()) = some (placeI its t, ()) := by
  rw [u_ref16_place]
  exact place_loop h hn n t its.length 0 (by omega)

theorem posI_le (its : List It) : ∀ (m k : Nat), k + m ≤ its.length → posI its k ≤ posI its (k + m)
  | 0, k, _ => Nat.le_refl _
  | m + 1, k, h => by
    have ih := posI_le its m k (by omega)
    have e := posI_succ (List.getElem?_eq_getElem (by omega : k + m < its.length))
    have e2 : k + (m + 1) = k + m + 1 := by omega
    rw [e2, e]
    omega

theorem rfix_loop {s : List Int} {its : List It} {l : List Ins} {at_ f : List Int} (h : RHeld its l at_ f) (hn : its.length ≤ 20000) (hp : posI its its.length ≤ 1000000) (n1 n2 n3 : Bool) : ∀ (mm k : Nat) (a : List Ins), k + mm = its.length → a.length = its.length → (∀ j, j < k → a[j]? = (fixL its)[j]?) → (∀ j, k ≤ j → a[j]? = (its.map fun x => x.1)[j]?) →
    loopR l1_ref16_Disassemble (s, (k : Int), ⟨n1, a⟩, ⟨n2, at_⟩, ⟨n3, f⟩, ()) = if (List.range' k mm).any (offI its) = true then some (.inr (⟨true, []⟩, 160, ())) else some (.inr (finA s its n1)) := by
  intro mm
  induction mm with
  | zero =>
    intro k a hk ha h1 h2
    have hfx := fixL_len its
    have : a = fixL its := by
      apply List.ext_getElem?
      intro j
      rcases Nat.lt_or_ge j k with hj | hj
      · exact h1 j hj
      · rw [List.getElem?_eq_none (by omega), List.getElem?_eq_none (by omega)]
    subst this
    simp only [List.range'_zero, List.any_nil, Bool.false_eq_true, if_false]
    refine loopR_inr ?_
    unfold l1_ref16_Disassemble
    simp only [lenI]
    rw [cnd_lt, if_neg (by omega), rCheck_spec _ (by simp only; omega), bnd_some_eq]
    unfold finA
    simp only
    by_cases hc : chkL (fixL its) = 0
    · rw [hc]
      simp only [eqI_self, notB, Bool.not_true, cnd_false]
      rw [rassemble_spec ⟨n1, fixL its⟩ hc]
      simp only [bnd_some_eq]
      by_cases hs : asmB (fixL its) (rlx (fixL its)) = s
      · rw [if_pos ⟨trivial, hs⟩, hs, eqS_self]; rfl
      · rw [if_neg fun hx => hs hx.2]
        have : eqS (asmB (fixL its) (rlx (fixL its))) s = false := by unfold eqS; exact beq_false_of_ne hs
        rw [this]; rfl
    · rw [if_neg fun hx => hc hx.1]
      simp only [eqI_ne hc, notB, Bool.not_false, cnd_true, bnd_some_eq]
  | succ mm ih =>
    intro k a hk ha h1 h2
    have hx := List.getElem?_eq_getElem (by omega : k < its.length)
    generalize its[k] = x at hx
    have hax : a[k]? = some x.1 := by rw [h2 k (Nat.le_refl _), mapL_get hx]
    have hal := h.alen
    have hfl := h.flen
    have hfx2 := h.far k x hx
    have e1 := add1 (k := k) (by omega)
    have hfx := fixL_len its
    have hb := h.fin k x hx
    have hpk := posI_le its (its.length - (k + 1)) (k + 1) (by omega)
    rw [Nat.add_sub_cancel' (by omega)] at hpk
    have keep : ∀ v : Ins, v = fixI its k x → (a.set k v).length = its.length ∧ (∀ j, j < k + 1 → (a.set k v)[j]? = (fixL its)[j]?) ∧ (∀ j, k + 1 ≤ j → (a.set k v)[j]? = (its.map fun x => x.1)[j]?) := by
      intro v hv
      refine ⟨by rw [List.length_set]; exact ha, fun j hj => ?_, fun j hj => ?_⟩
      · rw [List.getElem?_set]
        by_cases hjk : k = j
        · subst hjk
          rw [if_pos rfl, if_pos (by omega), hv, fixL_get hx]
        · rw [if_neg hjk, h1 j (by omega)]
      · rw [List.getElem?_set, if_neg (by omega), h2 j (by omega)]
    have hoff := off_of hx
    simp only [List.range'_succ, List.any_cons]
    have step : l1_ref16_Disassemble (s, (k : Int), ⟨n1, a⟩, ⟨n2, at_⟩, ⟨n3, f⟩, ()) = some (if offI its k = true then .inr (.inr (⟨true, []⟩, 160, ())) else .inl (s, ((k + 1 : Nat) : Int), ⟨n1, a.set k (fixI its k x)⟩, ⟨n2, at_⟩, ⟨n3, f⟩, ())) := by
      unfold l1_ref16_Disassemble
      simp only [lenI]
      rw [cnd_lt, if_pos (by omega), okAt_nat (by omega), bnd_some_eq, nth_of hax, bnd_some_eq, rgoes_spec, bnd_some_eq, hoff]
      unfold fixI
      cases hg : goesB x.1.1 with
      | false =>
        simp only [notB, Bool.not_false, cnd_true, bnd_some_eq, sumE, e1, Bool.false_and, Bool.false_eq_true, if_false]
        have : a.set k x.1 = a := by
          apply List.ext_getElem?
          intro j
          rw [List.getElem?_set]
          by_cases hjk : k = j
          · subst hjk; rw [if_pos rfl, if_pos (by omega), hax]
          · rw [if_neg hjk]
        rw [this]
      | true =>
        simp only [notB, Bool.not_true, cnd_false, Bool.true_and, if_true]
        rw [e1, okAt_nat (by omega), bnd_some_eq, nth_of (h.at_ (k + 1) (by omega)), bnd_some_eq, okAt_nat (by omega), bnd_some_eq, nth_of hfx2, bnd_some_eq, addI_i64 (by omega) (by omega), place_spec h (by omega), bnd_some_eq]
        have hgo : placeI its ((posI its (k + 1) : Int) + x.2.1) = goI its k x := rfl
        rw [hgo]
        rcases placeF_ge its ((posI its (k + 1) : Int) + x.2.1) its.length 0 with h3 | h3
        · have h3 : goI its k x = -1 := h3
          rw [h3]
          simp only [show ltI (-1) 0 = true from rfl, cnd_true, bnd_some_eq, sumE, show (-1 : Int) < 0 from by decide, decide_true, if_true]
        · have h3 : 0 ≤ goI its k x ∧ _ := h3
          have hnn : decide (goI its k x < 0) = false := decide_eq_false (by omega)
          have hnn2 : ltI (goI its k x) 0 = false := hnn
          simp only [hnn2, cnd_false, hnn, Bool.false_eq_true, if_false]
          rw [bnd_some_eq, nth_of hax, bnd_some_eq, bnd_some_eq, bnd_some_eq]
          simp only [sumE, e1, setL]
    cases ho : offI its k with
    | true =>
      rw [ho] at step
      rw [loopR_inr step]; rfl
    | false =>
      rw [ho] at step
      rw [loopR_inl step, Bool.false_or]
      obtain ⟨k1, k2, k3⟩ := keep _ rfl
      exact ih (k + 1) _ (by omega) k1 k2 k3

theorem rdis_spec {s : List Int} (hs : bytesOk s) : ∃ n, f_ref16_Disassemble (s, ()) = some (⟨n, (disB s).1⟩, (disB s).2, ()) := by
  rw [u_ref16_Disassemble]
  have h0 := rdis_loop hs s.length [] false false false [] [0] [] rheld_nil (Nat.zero_le _) (by omega)
  have e0 : posI ([] : List It) ([] : List It).length = 0 := rfl
  rw [e0, List.drop_zero] at h0
  unfold disB
  rcases h0 with ⟨x, h1, h2⟩ | ⟨r, n1, n2, n3, l, a, e, h1, h2, h3, h4⟩
  · rw [h1]
    exact ⟨true, h2⟩
  · rw [h1]
    rw [List.nil_append] at h2 h3
    have hsl := hs.1
    simp only
    rw [h4]
    have hll : l.length = r.length := by rw [h2.l, List.length_map]
    have hcnt := posI_lt h2.one r.length 0 (by omega)
    rw [Nat.zero_add] at hcnt
    have hlast : subI .i64 (lenI a) 1 = (r.length : Int) := by
      unfold lenI; rw [h2.alen, subI_i64 (by omega) (by omega)]; omega
    have hok : okAt a (r.length : Int) = some r.length := okAt_nat (by rw [h2.alen]; omega)
    have hnth := nth_of (h2.at_ r.length (Nat.le_refl _))
    unfold endB
    by_cases hbig : 20000 < r.length
    · rw [if_pos hbig]
      refine ⟨true, loopR_inr ?_⟩
      unfold l2_ref16_Disassemble
      simp only
      rw [hlast, hok, bnd_some_eq, hnth, bnd_some_eq]
      unfold lenI
      rw [cnd_lt, if_neg (by omega), cnd_lt, if_pos (by omega)]
    · rw [if_neg hbig]
      have hf := rfix_loop (s := s) h2 (by omega) (by omega) n1 n2 n3 r.length 0 l (by omega) hll (fun j hj => by omega) (fun j _ => by rw [h2.l])
      have hstep : l2_ref16_Disassemble (s, ⟨n1, l⟩, ⟨n2, a⟩, ⟨n3, e⟩, ()) = loopR l1_ref16_Disassemble (s, ((0 : Nat) : Int), ⟨n1, l⟩, ⟨n2, a⟩, ⟨n3, e⟩, ()) := by
        unfold l2_ref16_Disassemble
        simp only
        rw [hlast, hok, bnd_some_eq, hnth, bnd_some_eq]
        unfold lenI
        rw [cnd_lt, if_neg (by omega), cnd_lt, if_neg (by omega)]
        rfl
      rw [loopR_step, hstep, hf, ← List.range_eq_range']
      by_cases hoff : (List.range r.length).any (offI r) = true
      · rw [if_pos hoff, if_pos hoff]
        exact ⟨true, rfl⟩
      · rw [if_neg hoff, if_neg hoff]
        unfold finA
        by_cases hx : chkL (fixL r) = 0 ∧ asmB (fixL r) (rlx (fixL r)) = s
        · rw [if_pos hx, if_pos hx]; exact ⟨n1, rfl⟩
        · rw [if_neg hx, if_neg hx]; exact ⟨true, rfl⟩

/-! Small ones. -/
theorem same_loop (n1 n2 : Bool) (l : List Ins) (hL : l.length ≤ 1000000) : ∀ (m k : Nat), k + m = l.length → loopR l1_ref16_Same (⟨n1, l⟩, ⟨n2, l⟩, (k : Int), ()) = some (true, ()) := by
  intro m
  induction m with
  | zero =>
    intro k hk
    refine loopR_inr ?_
    unfold l1_ref16_Same
    simp only [lenI]
    rw [cnd_lt, if_neg (by omega)]
  | succ m ih =>
    intro k hk
    obtain ⟨i, hi⟩ := getI_of (l := l) (k := k) (by omega)
    have e1 := add1 (k := k) (by omega)
    have e : l1_ref16_Same (⟨n1, l⟩, ⟨n2, l⟩, (k : Int), ()) = some (.inl (⟨n1, l⟩, ⟨n2, l⟩, ((k + 1 : Nat) : Int), ())) := by
      unfold l1_ref16_Same
      simp only [lenI]
      rw [cnd_lt, if_pos (by omega), at?_nat hi, bnd_some_eq, bnd_some_eq]
      simp only [eqI_self, andB, Bool.and_self, notB, Bool.not_true, cnd_false, e1]
    rw [loopR_inl e, ih (k + 1) (by omega)]

theorem same_spec (n1 n2 : Bool) (l : List Ins) (hL : l.length ≤ 1000000) : f_ref16_Same (⟨n1, l⟩, ⟨n2, l⟩, ()) = some (true, ()) := by
  rw [u_ref16_Same]
  simp only [lenI, eqI_self, notB, Bool.not_true, cnd_false]
  exact same_loop n1 n2 l hL l.length 0 (by omega)

end Fn
end Ev
