/- Layer 6 in plain words: the law of a tree in the place of another one. No statement of its own about the program. -/
import Derived.Test.YtndklpaccohbcaaDoorPlainE
namespace Ev
open Go
namespace Fn

/-! A tree in the place of another one. -/
def putF (kb : Int) (tb : Tx) (nb : Int) (bs : F) : F → Nat → F
  | .nil, _ => .nil
  | .cons k t n ks r, i => if i = 0 then .cons kb tb nb bs r else if i - 1 < ks.size then .cons k t n (putF kb tb nb bs ks (i - 1)) r else .cons k t n ks (putF kb tb nb bs r (i - 1 - ks.size))
theorem putF_cons (kb : Int) (tb : Tx) (nb : Int) (bs : F) (k : Int) (t : Tx) (n : Int) (ks r : F) (i : Nat) :
    putF kb tb nb bs (.cons k t n ks r) i = if i = 0 then .cons kb tb nb bs r else if i - 1 < ks.size then .cons k t n (putF kb tb nb bs ks (i - 1)) r else .cons k t n ks (putF kb tb nb bs r (i - 1 - ks.size)) := id (Eq.refl _)
def recB : F → Nat → Bool
  | .nil, _ => false
  | .cons k _ _ ks r, i => if i = 0 then false else if i - 1 < ks.size then (if i - 1 = 0 then eqI k 8 else recB ks (i - 1)) else recB r (i - 1 - ks.size)
theorem recB_cons (k : Int) (t : Tx) (n : Int) (ks r : F) (i : Nat) : recB (.cons k t n ks r) i = if i = 0 then false else if i - 1 < ks.size then (if i - 1 = 0 then eqI k 8 else recB ks (i - 1)) else recB r (i - 1 - ks.size) := id (Eq.refl _)
theorem recB_zero : ∀ g : F, recB g 0 = false
  | .nil => rfl
  | .cons .. => rfl

theorem put_cnt (kb : Int) (tb : Tx) (nb : Int) (bs : F) : ∀ (g : F) (i : Nat), (putF kb tb nb bs g i).cnt = g.cnt
  | .nil, _ => rfl
  | .cons k t n ks r, i => by
    rw [putF_cons]
    by_cases h0 : i = 0
    · rw [if_pos h0]; rfl
    · rw [if_neg h0]
      by_cases h1 : i - 1 < ks.size
      · rw [if_pos h1]; rfl
      · rw [if_neg h1]
        show (putF kb tb nb bs r _).cnt + 1 = r.cnt + 1
        rw [put_cnt kb tb nb bs r]
theorem put_dep (kb : Int) (tb : Tx) (nb : Int) (bs : F) : ∀ (g : F) (i : Nat), (putF kb tb nb bs g i).dep ≤ g.dep + (bs.dep + 1)
  | .nil, _ => Nat.zero_le _
  | .cons k t n ks r, i => by
    rw [putF_cons]
    have hg : (F.cons k t n ks r).dep = max (ks.dep + 1) r.dep := rfl
    rw [hg]
    by_cases h0 : i = 0
    · rw [if_pos h0]
      show max (bs.dep + 1) r.dep ≤ _
      omega
    · rw [if_neg h0]
      by_cases h1 : i - 1 < ks.size
      · rw [if_pos h1]
        have := put_dep kb tb nb bs ks (i - 1)
        show max ((putF kb tb nb bs ks (i - 1)).dep + 1) r.dep ≤ _
        omega
      · rw [if_neg h1]
        have := put_dep kb tb nb bs r (i - 1 - ks.size)
        show max (ks.dep + 1) (putF kb tb nb bs r (i - 1 - ks.size)).dep ≤ _
        omega
theorem put_size (kb : Int) (tb : Tx) (nb : Int) (bs : F) : ∀ (g : F) (i : Nat), (putF kb tb nb bs g i).size ≤ g.size + (bs.size + 1)
  | .nil, _ => Nat.zero_le _
  | .cons k t n ks r, i => by
    rw [putF_cons]
    have hg : (F.cons k t n ks r).size = ks.size + r.size + 1 := rfl
    rw [hg]
    by_cases h0 : i = 0
    · rw [if_pos h0]
      show bs.size + r.size + 1 ≤ _
      omega
    · rw [if_neg h0]
      by_cases h1 : i - 1 < ks.size
      · rw [if_pos h1]
        have := put_size kb tb nb bs ks (i - 1)
        show (putF kb tb nb bs ks (i - 1)).size + r.size + 1 ≤ _
        omega
      · rw [if_neg h1]
        have := put_size kb tb nb bs r (i - 1 - ks.size)
        show ks.size + (putF kb tb nb bs r (i - 1 - ks.size)).size + 1 ≤ _
        omega
theorem put_head (kb : Int) (tb : Tx) (nb : Int) (bs : F) : ∀ (g : F) (i : Nat), (putF kb tb nb bs g (i + 1)).head = g.head
  | .nil, _ => rfl
  | .cons k t n ks r, i => by
    rw [putF_cons, if_neg (by omega)]
    by_cases h1 : i + 1 - 1 < ks.size
    · rw [if_pos h1]; rfl
    · rw [if_neg h1]; rfl
theorem put_flat (kb : Int) (tb : Tx) (nb : Int) (bs : F) : ∀ (g : F) (i : Nat), i < g.size → i + (subF g i).size ≤ g.size ∧ (putF kb tb nb bs g i).flat = g.flat.take i ++ ((tr kb tb nb bs).flat ++ g.flat.drop (i + (subF g i).size))
  | .nil, _, hi => absurd hi (Nat.not_lt_zero _)
  | .cons k t n ks r, i, hi => by
    have hg : (F.cons k t n ks r).size = ks.size + r.size + 1 := rfl
    rw [hg] at hi ⊢
    have hlk := ks.len
    have hlr := r.len
    have hflat : (F.cons k t n ks r).flat = (k, t, n, (ks.cnt : Int)) :: (ks.flat ++ r.flat) := rfl
    rw [putF_cons, subF_cons]
    by_cases h0 : i = 0
    · subst h0
      rw [if_pos rfl, if_pos rfl]
      refine ⟨by rw [tr_size]; omega, ?_⟩
      rw [flat_cons kb tb nb bs r, flat_cons k t n ks r, List.take_zero, List.nil_append, Nat.zero_add, ← (tr k t n ks).len, List.drop_left']
      rfl
    · rw [if_neg h0, if_neg h0]
      obtain ⟨j, rfl⟩ : ∃ j, i = j + 1 := ⟨i - 1, by omega⟩
      rw [show j + 1 - 1 = j by omega]
      by_cases h1 : j < ks.size
      · rw [if_pos h1, if_pos h1]
        obtain ⟨a1, a2⟩ := put_flat kb tb nb bs ks j h1
        refine ⟨by omega, ?_⟩
        have hput : (F.cons k t n (putF kb tb nb bs ks j) r).flat = (k, t, n, ((putF kb tb nb bs ks j).cnt : Int)) :: ((putF kb tb nb bs ks j).flat ++ r.flat) := rfl
        rw [hput, put_cnt, a2, hflat, List.take_succ_cons, show j + 1 + (subF ks j).size = j + (subF ks j).size + 1 by omega, List.drop_succ_cons, List.take_append_of_le_length (by omega), List.drop_append_of_le_length (by omega)]
        simp only [List.append_assoc, List.cons_append]
      · rw [if_neg h1, if_neg h1]
        obtain ⟨a1, a2⟩ := put_flat kb tb nb bs r (j - ks.size) (by omega)
        refine ⟨by omega, ?_⟩
        have hput : (F.cons k t n ks (putF kb tb nb bs r (j - ks.size))).flat = (k, t, n, (ks.cnt : Int)) :: (ks.flat ++ (putF kb tb nb bs r (j - ks.size)).flat) := rfl
        have e1 : (ks.flat ++ r.flat).take j = ks.flat ++ r.flat.take (j - ks.size) := by
          rw [List.take_append, hlk, List.take_of_length_le (by omega)]
        have e2 : (ks.flat ++ r.flat).drop (j + (subF r (j - ks.size)).size) = r.flat.drop (j - ks.size + (subF r (j - ks.size)).size) := by
          rw [List.drop_append, hlk, List.drop_eq_nil_of_le (by omega), List.nil_append]
          congr 1
          omega
        rw [hput, a2, hflat, List.take_succ_cons, show j + 1 + (subF r (j - ks.size)).size = j + (subF r (j - ks.size)).size + 1 by omega, List.drop_succ_cons, e1, e2]
        simp only [List.append_assoc, List.cons_append]

theorem node_rec {k : Int} {t : Tx} {n c hk hk' : Int} {p : Bool} (h : nodeE k t n c hk p = 0) : nodeE k t n c hk' p = bif eqI k 8 && notB (eqI hk' 5) then 61 else 0 := by
  obtain ⟨h1, h2, h3, h4, h5, h6⟩ := nodeE_zero.1 h
  cases h8 : (eqI k 8 && notB (eqI hk' 5)) with
  | false =>
    rw [cond_false]
    exact nodeE_zero.2 ⟨h1, h2, h3, h4, h5, by unfold recOk; rw [h8]; rfl⟩
  | true =>
    rw [cond_true]
    rw [Bool.and_eq_true] at h8
    have hk := eqI_eq.1 h8.1
    subst hk
    subst h2
    have hc : c = 2 := eqI_eq.1 h3
    have hn : n = 0 := eqI_eq.1 h4
    subst hc
    subst hn
    have : nodeE 8 t 0 2 hk' (isPat 8) = bif notB (eqI hk' 5) then 61 else (bif notB (nameOk t) then 62 else 0) := id (Eq.refl _)
    rw [this, h8.2]
    rfl

theorem put_err (kb : Int) (tb : Tx) (nb : Int) (bs : F) (hb : errT kb tb nb bs false = 0) : ∀ (g : F) (i : Nat) (m pat odd : Bool), i < g.size → errF m pat odd g = 0 → isPat (subF g i).head = false →
    errF m pat odd (putF kb tb nb bs g i) = bif recB g i && notB (eqI kb 5) then 61 else 0
  | .nil, _, _, _, _, hi, _, _ => absurd hi (Nat.not_lt_zero _)
  | .cons k t n ks r, i, m, pat, odd, hi, he, hp => by
    have hg : (F.cons k t n ks r).size = ks.size + r.size + 1 := rfl
    rw [hg] at hi
    obtain ⟨e1, e2⟩ := errF_ok.1 he
    obtain ⟨e3, e4⟩ := errT_ok.1 e1
    rw [subF_cons] at hp
    rw [putF_cons, recB_cons]
    by_cases h0 : i = 0
    · rw [if_pos h0] at hp
      rw [if_pos h0, if_pos h0]
      have hpt := errT_pat e1
      have hp : isPat k = false := hp
      rw [hp] at hpt
      exact errF_ok.2 ⟨by rw [← hpt]; exact hb, e2⟩
    · rw [if_neg h0] at hp
      rw [if_neg h0, if_neg h0]
      by_cases h1 : i - 1 < ks.size
      · rw [if_pos h1] at hp
        rw [if_pos h1, if_pos h1]
        have ih := put_err kb tb nb bs hb ks (i - 1) _ _ _ h1 e4 hp
        rw [errF_cons, errT_def, put_cnt]
        by_cases h2 : i - 1 = 0
        · rw [h2, recB_zero] at ih
          have ih : errF (eqI k 10) (pat || (m && odd)) false (putF kb tb nb bs ks 0) = 0 := ih
          rw [if_pos h2, h2]
          have hh : (putF kb tb nb bs ks 0).head = kb := by
            cases ks with
            | nil => exact absurd h1 (Nat.not_lt_zero _)
            | cons => rfl
          rw [hh, node_rec e3 (hk' := kb), ih]
          cases (eqI k 8 && notB (eqI kb 5)) with
          | true => rfl
          | false =>
            rw [e2]
            rfl
        · rw [if_neg h2]
          obtain ⟨j, hj⟩ : ∃ j, i - 1 = j + 1 := ⟨i - 1 - 1, by omega⟩
          rw [hj] at ih ⊢
          rw [put_head, e3, ih]
          cases (recB ks (j + 1) && notB (eqI kb 5)) with
          | true => rfl
          | false =>
            rw [e2]
            rfl
      · rw [if_neg h1] at hp
        rw [if_neg h1, if_neg h1]
        have ih := put_err kb tb nb bs hb r (i - 1 - ks.size) _ _ _ (by omega) e2 hp
        rw [errF_cons, e1, ih]
        rfl

theorem sub_pat : ∀ (g : F) (i : Nat) (m odd : Bool), i < g.size → errF m true odd g = 0 → isPat (subF g i).head = true
  | .nil, _, _, _, hi, _ => absurd hi (Nat.not_lt_zero _)
  | .cons k t n ks r, i, m, odd, hi, he => by
    have hg : (F.cons k t n ks r).size = ks.size + r.size + 1 := rfl
    rw [hg] at hi
    obtain ⟨e1, e2⟩ := errF_ok.1 he
    rw [Bool.true_or] at e1
    rw [subF_cons]
    by_cases h0 : i = 0
    · rw [if_pos h0]
      exact errT_pat e1
    · rw [if_neg h0]
      by_cases h1 : i - 1 < ks.size
      · rw [if_pos h1]
        exact sub_pat ks (i - 1) _ _ h1 (errT_ok.1 e1).2
      · rw [if_neg h1]
        exact sub_pat r (i - 1 - ks.size) _ _ (by omega) e2

theorem put_tw (kb : Int) (tb : Tx) (nb : Int) (bs : F) (hb : twT kb tb bs = false) : ∀ (g : F) (i : Nat) (m pat odd : Bool), i < g.size → errF m pat odd g = 0 → isPat (subF g i).head = false → twF g = false → twF (putF kb tb nb bs g i) = false
  | .nil, _, _, _, _, hi, _, _, _ => absurd hi (Nat.not_lt_zero _)
  | .cons k t n ks r, i, m, pat, odd, hi, he, hp, ht => by
    have hg : (F.cons k t n ks r).size = ks.size + r.size + 1 := rfl
    rw [hg] at hi
    obtain ⟨e1, e2⟩ := errF_ok.1 he
    obtain ⟨e3, e4⟩ := errT_ok.1 e1
    rw [twF_cons, Bool.or_eq_false_iff] at ht
    rw [subF_cons] at hp
    rw [putF_cons]
    by_cases h0 : i = 0
    · rw [if_pos h0, twF_cons, hb, ht.2]
      rfl
    · rw [if_neg h0] at hp
      rw [if_neg h0]
      by_cases h1 : i - 1 < ks.size
      · rw [if_pos h1] at hp
        rw [if_pos h1, twF_cons, ht.2, Bool.or_false]
        have hq : isPat k = false := by
          cases hq : isPat k with
          | false => rfl
          | true =>
            have := errT_pat e1
            rw [hq] at this
            rw [← this] at e4
            rw [sub_pat ks (i - 1) _ _ h1 e4] at hp
            cases hp
        unfold twT
        rw [hq, cond_false]
        exact put_tw kb tb nb bs hb ks (i - 1) _ _ _ h1 e4 hp (tw_kids e1 ht.1)
      · rw [if_neg h1] at hp
        rw [if_neg h1, twF_cons, ht.1, Bool.false_or]
        exact put_tw kb tb nb bs hb r (i - 1 - ks.size) _ _ _ (by omega) e2 hp ht.2

/-- The last one has no kids. -/
theorem last_ne : ∀ (g : F) (m pat odd : Bool), errF m pat odd g = 0 → ∀ x, g.flat.getLast? = some x → x.1 ≠ 8
  | .nil, _, _, _, _, x, hx => by cases hx
  | .cons k t n ks r, m, pat, odd, he, x, hx => by
    obtain ⟨e1, e2⟩ := errF_ok.1 he
    obtain ⟨e3, e4⟩ := errT_ok.1 e1
    have hflat : (F.cons k t n ks r).flat = [(k, t, n, (ks.cnt : Int))] ++ (ks.flat ++ r.flat) := rfl
    rw [hflat, List.getLast?_append, List.getLast?_append] at hx
    cases hr : r.flat.getLast? with
    | some y =>
      rw [hr] at hx
      have : y = x := by injection hx
      subst this
      exact last_ne r _ _ _ e2 y hr
    | none =>
      rw [hr] at hx
      cases hk : ks.flat.getLast? with
      | some y =>
        rw [hk] at hx
        have : y = x := by injection hx
        subst this
        exact last_ne ks _ _ _ e4 y hk
      | none =>
        rw [hk] at hx
        have hx : some ((k, t, n, (ks.cnt : Int)) : ND) = some x := hx
        injection hx with hx
        subst hx
        intro h8
        have h8 : k = 8 := h8
        have := (kids_of (nodeE_zero.1 e3).2.2.1).2.1 (by omega)
        have hz := List.getLast?_eq_none_iff.1 hk
        have := ks.len
        rw [hz] at this
        have := ks.cnt_le
        have : ([] : List ND).length = 0 := rfl
        omega

/-- Whether the one ahead is a rec. -/
theorem recB_at : ∀ (g : F) (i : Nat) (m pat odd : Bool), i + 1 < g.size → errF m pat odd g = 0 → ∀ x, g.flat[i]? = some x → recB g (i + 1) = eqI x.1 8
  | .nil, _, _, _, _, hi, _, _, _ => absurd hi (Nat.not_lt_zero _)
  | .cons k t n ks r, i, m, pat, odd, hi, he, x, hx => by
    have hg : (F.cons k t n ks r).size = ks.size + r.size + 1 := rfl
    rw [hg] at hi
    obtain ⟨e1, e2⟩ := errF_ok.1 he
    obtain ⟨e3, e4⟩ := errT_ok.1 e1
    have hlk := ks.len
    have hflat : (F.cons k t n ks r).flat = (k, t, n, (ks.cnt : Int)) :: (ks.flat ++ r.flat) := rfl
    rw [hflat] at hx
    rw [recB_cons, if_neg (by omega), show i + 1 - 1 = i by omega]
    by_cases h1 : i < ks.size
    · rw [if_pos h1]
      by_cases h2 : i = 0
      · rw [if_pos h2]
        subst h2
        have hx : some ((k, t, n, (ks.cnt : Int)) : ND) = some x := hx
        injection hx with hx
        rw [← hx]
      · rw [if_neg h2]
        obtain ⟨j, rfl⟩ : ∃ j, i = j + 1 := ⟨i - 1, by omega⟩
        rw [List.getElem?_cons_succ, List.getElem?_append_left (by omega)] at hx
        exact recB_at ks j _ _ _ h1 e4 x hx
    · rw [if_neg h1]
      by_cases h2 : i = ks.size
      · subst h2
        rw [Nat.sub_self, recB_zero]
        have : x.1 ≠ 8 := by
          refine last_ne (tr k t n ks) m pat odd (errF_ok.2 ⟨e1, rfl⟩) x ?_
          rw [List.getLast?_eq_getElem?, (tr k t n ks).len, tr_size, tr_flat]
          show ((k, t, n, (ks.cnt : Int)) :: ks.flat)[ks.size]? = _
          rw [← hx, ← List.cons_append, List.getElem?_append_left (by rw [List.length_cons]; omega)]
        rw [eqI_ne this]
      · rw [List.getElem?_cons, if_neg (by omega), List.getElem?_append_right (by omega), hlk] at hx
        have hh := recB_at r (i - 1 - ks.size) _ _ _ (by omega) e2 x hx
        rw [show i - 1 - ks.size + 1 = i - ks.size by omega] at hh
        exact hh
end Fn
end Ev
namespace Ev
open Go
namespace Fn

/-! SynPuts. -/
theorem iindex_loop (s : Int) (n : Bool) (l : List Int) (hl : l.length ≤ 1000000) : ∀ (m k : Nat), k + m = l.length →
    ∃ r, loopR l1_slices_Index (⟨n, l⟩, s, (l.length : Int), (k : Int), ()) = some (r, ()) ∧ (0 ≤ r ↔ s ∈ l.drop k) := by
  intro m
  induction m with
  | zero =>
    intro k hk
    refine ⟨-1, loopR_inr ?_, ?_⟩
    · unfold l1_slices_Index
      simp only
      rw [cnd_lt, if_neg (by omega)]
    · rw [List.drop_eq_nil_of_le (by omega)]
      exact ⟨fun h => absurd h (by decide), fun h => absurd h List.not_mem_nil⟩
  | succ m ih =>
    intro k hk
    have hlt : k < l.length := by omega
    have c0 : ltI (k : Int) (l.length : Int) = true := decide_eq_true (by omega)
    have hat := at?_nat (List.getElem?_eq_getElem hlt)
    rw [drop_cons hlt]
    by_cases h : s = l[k]
    · refine ⟨(k : Int), loopR_inr ?_, fun _ => List.mem_cons.2 (.inl h), fun _ => by omega⟩
      unfold l1_slices_Index
      simp only [c0, cnd_true, hat, bnd_some_eq, eqI_eq.2 h]
    · obtain ⟨r, r1, r2⟩ := ih (k + 1) (by omega)
      refine ⟨r, ?_, r2.trans ⟨fun hm => List.mem_cons.2 (.inr hm), fun hm => (List.mem_cons.1 hm).resolve_left h⟩⟩
      have step : l1_slices_Index (⟨n, l⟩, s, (l.length : Int), (k : Int), ()) = some (.inl (⟨n, l⟩, s, (l.length : Int), ((k + 1 : Nat) : Int), ())) := by
        unfold l1_slices_Index
        simp only [c0, cnd_true, hat, bnd_some_eq, eqI_ne h, cnd_false, add1 (show k ≤ 1000000000 by omega)]
      rw [loopR_inl step, r1]
theorem icontains_spec (n : Bool) (v : List Int) (s : Int) (hv : v.length ≤ 1000000) : f_slices_Contains (⟨n, v⟩, s, ()) = some (decide (s ∈ v), ()) := by
  obtain ⟨r, h1, h2⟩ := iindex_loop s n v hv v.length 0 (by omega)
  rw [u_slices_Contains, u_slices_Index]
  have h1 : loopR l1_slices_Index (⟨n, v⟩, s, lenI v, 0, ()) = some (r, ()) := h1
  rw [h1, bnd_some_eq]
  have : leI 0 r = decide (s ∈ v) := decide_eq_decide.2 (by rw [h2]; rfl)
  rw [this]

theorem pos_ge : ∀ (g : F) (k : Nat) (x : Int), x ∈ g.pos k → (k : Int) ≤ x
  | .nil, _, _, h => absurd h List.not_mem_nil
  | .cons _ _ _ ks r, k, x, h => by
    have h : x ∈ (k : Int) :: r.pos (k + 1 + ks.size) := h
    rcases List.mem_cons.1 h with rfl | h
    · exact Int.le_refl _
    · have := pos_ge r _ x h
      omega

/-- Which one a node belongs to: the one ahead of it, if that has any; else one further ahead, or none. -/
theorem up_spec (b : Bool) {kd : Int} {t : Tx} {n : Int} {ks : F} (hl : ks.size + 1 ≤ 10000) (hc : chkT kd t n ks false = 0) (a : Nat) (ha : a < ks.size + 1) :
    ∃ u : Int, f_tree_Up (⟨b, (tr kd t n ks).flat⟩, (a : Int), ()) = some (u, ()) ∧ -1 ≤ u ∧ u < (a : Int) ∧ ∀ k' t' n' ks', 0 < a → Sits (tr kd t n ks).flat (a - 1) (tr k' t' n' ks') → ks'.cnt ≠ 0 → u = (a : Int) - 1 := by
  have hlen : (tr kd t n ks).flat.length = ks.size + 1 := (tr kd t n ks).len
  rw [u_tree_Up, whole_spec b _ (by omega), (isTree_iff _).2 ⟨_, _, _, _, rfl⟩]
  by_cases h0 : a = 0
  · subst h0
    refine ⟨-1, ?_, by decide, by decide, fun _ _ _ _ h => absurd h (Nat.lt_irrefl 0)⟩
    have c1 : ltI ((0 : Nat) : Int) 1 = true := id (Eq.refl _)
    simp only [bnd_some_eq, nT, cnd_false, c1, cnd_true]
  · have c1 : ltI (a : Int) 1 = false := decide_eq_false (by omega)
    have c2 : leI (lenI (tr kd t n ks).flat) (a : Int) = false := decide_eq_false (by unfold lenI; omega)
    have hs : subI .i64 (a : Int) 1 = ((a - 1 : Nat) : Int) := by rw [subI_i64 (by omega) (by omega)]; omega
    simp only [bnd_some_eq, nT, cnd_false, c1, c2, hs]
    have kids : ∀ (i : Nat), i < ks.size + 1 → ∃ k' t' n' ks', Sits (tr kd t n ks).flat i (tr k' t' n' ks') ∧ f_tree_Up_1 ((i : Int), ⟨b, (tr kd t n ks).flat⟩, (a : Int), ()) = some (decide ((a : Int) ∈ ks'.pos (i + 1)), ()) := by
      intro i hi
      obtain ⟨k', t', n', ks', p, _, r2, r3, _⟩ := part_of hc hi
      obtain ⟨nb, hk⟩ := kids_spec b _ (by omega) r2
      have hle := r2.le (by omega)
      rw [tr_size] at hle
      have hp := ks'.pos_len (i + 1)
      have hcl := ks'.cnt_le
      refine ⟨k', t', n', ks', r2, ?_⟩
      rw [u_tree_Up_1, hk, bnd_some_eq, icontains_spec nb _ _ (by omega), bnd_some_eq]
    have down : ∀ (m : Nat), m < a → ∃ u : Int, loopR l1_tree_Up (((m : Nat) : Int), ⟨b, (tr kd t n ks).flat⟩, (a : Int), ()) = some (u, ()) ∧ -1 ≤ u ∧ u ≤ (m : Int) := by
      intro m
      induction m with
      | zero =>
        intro hm
        obtain ⟨k', t', n', ks', _, hu⟩ := kids 0 (by omega)
        have c3 : leI 0 ((0 : Nat) : Int) = true := id (Eq.refl _)
        cases hd : decide ((a : Int) ∈ ks'.pos (0 + 1)) with
        | true =>
          refine ⟨((0 : Nat) : Int), loopR_inr ?_, by decide, by decide⟩
          unfold l1_tree_Up
          simp only [c3, cnd_true, hu, bnd_some_eq, hd]
        | false =>
          refine ⟨-1, ?_, by decide, by decide⟩
          have hs0 : subI .i64 ((0 : Nat) : Int) 1 = -1 := id (Eq.refl _)
          have step : l1_tree_Up (((0 : Nat) : Int), ⟨b, (tr kd t n ks).flat⟩, (a : Int), ()) = some (.inl (-1, ⟨b, (tr kd t n ks).flat⟩, (a : Int), ())) := by
            unfold l1_tree_Up
            simp only [c3, cnd_true, hu, bnd_some_eq, hd, cnd_false, hs0]
          rw [loopR_inl step]
          exact loopR_inr (by
            unfold l1_tree_Up
            have c4 : leI 0 (-1) = false := id (Eq.refl _)
            simp only [c4, cnd_false])
      | succ m ih =>
        intro hm
        obtain ⟨k', t', n', ks', _, hu⟩ := kids (m + 1) (by omega)
        have c3 : leI 0 ((m + 1 : Nat) : Int) = true := decide_eq_true (by omega)
        cases hd : decide ((a : Int) ∈ ks'.pos (m + 1 + 1)) with
        | true =>
          refine ⟨((m + 1 : Nat) : Int), loopR_inr ?_, by omega, by omega⟩
          unfold l1_tree_Up
          simp only [c3, cnd_true, hu, bnd_some_eq, hd]
        | false =>
          obtain ⟨u, u1, u2, u3⟩ := ih (by omega)
          have hs1 : subI .i64 ((m + 1 : Nat) : Int) 1 = (m : Int) := by rw [subI_i64 (by omega) (by omega)]; omega
          have step : l1_tree_Up (((m + 1 : Nat) : Int), ⟨b, (tr kd t n ks).flat⟩, (a : Int), ()) = some (.inl ((m : Int), ⟨b, (tr kd t n ks).flat⟩, (a : Int), ())) := by
            unfold l1_tree_Up
            simp only [c3, cnd_true, hu, bnd_some_eq, hd, cnd_false, hs1]
          exact ⟨u, by rw [loopR_inl step, u1], u2, by omega⟩
    obtain ⟨u, u1, u2, u3⟩ := down (a - 1) (by omega)
    refine ⟨u, u1, u2, by omega, ?_⟩
    intro k' t' n' ks' _ hs' hcnt
    obtain ⟨k2, t2, n2, ks2, hs2, hu⟩ := kids (a - 1) (by omega)
    have hsame : ks2.cnt = ks'.cnt := by
      have e1 := hs2.node.1
      have e2 := hs'.node.1
      rw [e1] at e2
      injection e2 with e2
      have := congrArg (fun x : ND => x.2.2.2) e2
      have : (ks2.cnt : Int) = (ks'.cnt : Int) := this
      omega
    have hmem : (a : Int) ∈ ks2.pos (a - 1 + 1) := by
      cases ks2 with
      | nil => have : F.nil.cnt = 0 := rfl; omega
      | cons _ _ _ k3 r3 =>
        rw [show a - 1 + 1 = a by omega]
        exact List.mem_cons_self ..
    rw [decide_eq_true hmem] at hu
    have c3 : leI 0 ((a - 1 : Nat) : Int) = true := decide_eq_true (by omega)
    have step : l1_tree_Up (((a - 1 : Nat) : Int), ⟨b, (tr kd t n ks).flat⟩, (a : Int), ()) = some (.inr (((a - 1 : Nat) : Int), ())) := by
      unfold l1_tree_Up
      simp only [c3, cnd_true, hu, bnd_some_eq]
    rw [loopR_inr step] at u1
    injection u1 with u1
    have : ((a - 1 : Nat) : Int) = u := congrArg Prod.fst u1
    omega

theorem cat_loop (b : Bool) (L : List (Sl ND)) (hL : L.length ≤ 1000) : ∀ (m k : Nat) (nb : Bool) (acc : List ND), k + m = L.length → acc.length + ((L.drop k).map Sl.l).flatten.length ≤ 1000000 →
    ∃ nb', loopR l1_slices_Concat (⟨b, L⟩, (L.length : Int), (k : Int), ⟨nb, acc⟩, ()) = some (.inr (⟨nb', acc ++ ((L.drop k).map Sl.l).flatten⟩, ())) := by
  intro m
  induction m with
  | zero =>
    intro k nb acc hk _
    refine ⟨nb, loopR_inr ?_⟩
    unfold l1_slices_Concat
    simp only
    rw [cnd_lt, if_neg (by omega), List.drop_eq_nil_of_le (by omega)]
    show _ = some (Sum.inr (Sum.inr ((⟨nb, acc ++ []⟩ : Sl ND), ())))
    rw [List.append_nil]
  | succ m ih =>
    intro k nb acc hk ha
    have hlt : k < L.length := by omega
    rw [drop_cons hlt, List.map_cons, List.flatten_cons, List.length_append] at ha
    have hf : fit (sumI (lenI acc) (lenI L[k].l)) = some () := fit_small (by omega)
    obtain ⟨nb', r1⟩ := ih (k + 1) (andB nb (isE L[k].l)) (acc ++ L[k].l) (by omega) (by rw [List.length_append]; omega)
    have step : l1_slices_Concat (⟨b, L⟩, (L.length : Int), (k : Int), ⟨nb, acc⟩, ()) = some (.inl (⟨b, L⟩, (L.length : Int), ((k + 1 : Nat) : Int), ⟨andB nb (isE L[k].l), acc ++ L[k].l⟩, ())) := by
      unfold l1_slices_Concat
      simp only
      rw [cnd_lt, if_pos (by omega), at?_nat (List.getElem?_eq_getElem hlt)]
      simp only [bnd_some_eq, hf, add1 (show k ≤ 1000000000 by omega)]
      rfl
    exact ⟨nb', by rw [loopR_inl step, r1, drop_cons hlt, List.map_cons, List.flatten_cons, List.append_assoc]⟩
theorem cat_size (b : Bool) (L : List (Sl ND)) (hL : L.length ≤ 1000) (hs : (L.map Sl.l).flatten.length ≤ 100000) : ∀ (m k z : Nat), k + m = L.length → z + ((L.drop k).map Sl.l).flatten.length = (L.map Sl.l).flatten.length →
    ∃ nb', loopR l2_slices_Concat (⟨b, L⟩, (z : Int), ⟨b, L⟩, (L.length : Int), (k : Int), ()) = some (⟨nb', (L.map Sl.l).flatten⟩, ()) := by
  intro m
  induction m with
  | zero =>
    intro k z hk hz
    rw [List.drop_eq_nil_of_le (by omega)] at hz
    have hz : z + 0 = _ := hz
    obtain ⟨nb', r1⟩ := cat_loop b L hL L.length 0 (decide ((z : Int) = 0)) [] (Nat.zero_add _) (by show 0 + _ ≤ _; rw [List.drop_zero]; omega)
    refine ⟨nb', loopR_inr ?_⟩
    have hgr : f_slices_Grow (⟨true, []⟩, (z : Int), ()) = some (⟨decide ((z : Int) = 0), []⟩, ()) := by
      unfold f_slices_Grow
      have h1 : decide (0 ≤ (z : Int)) = true := decide_eq_true (by omega)
      have h2 : decide ((z : Int) ≤ 1000000) = true := decide_eq_true (by omega)
      simp only [h1, h2]
      rfl
    unfold l2_slices_Concat
    simp only
    rw [cnd_lt, if_neg (by omega), hgr, bnd_some_eq]
    exact r1
  | succ m ih =>
    intro k z hk hz
    have hlt : k < L.length := by omega
    rw [drop_cons hlt, List.map_cons, List.flatten_cons, List.length_append] at hz
    have hadd : addI .i64 (z : Int) (lenI L[k].l) = ((z + L[k].l.length : Nat) : Int) := by
      unfold lenI
      rw [addI_i64 (by omega) (by omega)]
      omega
    have hneg : ltI ((z + L[k].l.length : Nat) : Int) 0 = false := decide_eq_false (by omega)
    obtain ⟨nb', r1⟩ := ih (k + 1) (z + L[k].l.length) (by omega) (by omega)
    have step : l2_slices_Concat (⟨b, L⟩, (z : Int), ⟨b, L⟩, (L.length : Int), (k : Int), ()) = some (.inl (⟨b, L⟩, ((z + L[k].l.length : Nat) : Int), ⟨b, L⟩, (L.length : Int), ((k + 1 : Nat) : Int), ())) := by
      unfold l2_slices_Concat
      simp only
      rw [cnd_lt, if_pos (by omega), at?_nat (List.getElem?_eq_getElem hlt)]
      simp only [bnd_some_eq, hadd, hneg, cnd_false, add1 (show k ≤ 1000000000 by omega)]
    exact ⟨nb', by rw [loopR_inl step, r1]⟩
theorem cat_spec (b : Bool) (L : List (Sl ND)) (hL : L.length ≤ 1000) (hs : (L.map Sl.l).flatten.length ≤ 100000) : ∃ nb', f_slices_Concat (⟨b, L⟩, ()) = some (⟨nb', (L.map Sl.l).flatten⟩, ()) := by
  rw [u_slices_Concat]
  exact cat_size b L hL hs L.length 0 0 (Nat.zero_add _) (by rw [List.drop_zero, Nat.zero_add])

theorem put_spec (n m : Bool) {kd : Int} {t : Tx} {nn : Int} {ks : F} {kb : Int} {tb : Tx} {nb : Int} {bs : F} (hl : ks.size + 1 ≤ 1000) (hb : bs.size + 1 ≤ 1000) (hc : chkT kd t nn ks false = 0) (a : Nat) (ha : a < ks.size + 1) :
    ∃ q, f_tree_Put (⟨n, (tr kd t nn ks).flat⟩, (a : Int), ⟨m, (tr kb tb nb bs).flat⟩, ()) = some (⟨q, (putF kb tb nb bs (tr kd t nn ks) a).flat⟩, 0, ()) := by
  have hlen : (tr kd t nn ks).flat.length = ks.size + 1 := (tr kd t nn ks).len
  have hlb : (tr kb tb nb bs).flat.length = bs.size + 1 := (tr kb tb nb bs).len
  obtain ⟨k', t', n', ks', p, r1, r2, r3, _⟩ := part_of hc ha
  obtain ⟨p1, p2⟩ := put_flat kb tb nb bs (tr kd t nn ks) a ha
  rw [r1, tr_size] at p1 p2
  have hsz : (tr kd t nn ks).size = ks.size + 1 := rfl
  rw [hsz] at p1
  have c0 : ltI ((a + 1 + ks'.size : Nat) : Int) 0 = false := decide_eq_false (by omega)
  have cut1 : cutL (tr kd t nn ks).flat 0 (a : Int) = some ((tr kd t nn ks).flat.take a) := cut_pre (by omega)
  have cut2 : cutL (tr kd t nn ks).flat ((a + 1 + ks'.size : Nat) : Int) (lenI (tr kd t nn ks).flat) = some ((tr kd t nn ks).flat.drop (a + 1 + ks'.size)) := by
    unfold cutL lenI
    rw [if_pos (by omega), Int.toNat_natCast, Int.toNat_natCast, List.take_length]
  obtain ⟨q, hq⟩ := cat_spec false [⟨n, (tr kd t nn ks).flat.take a⟩, ⟨m, (tr kb tb nb bs).flat⟩, ⟨n, (tr kd t nn ks).flat.drop (a + 1 + ks'.size)⟩] (by rw [List.length_cons, List.length_cons, List.length_singleton]; omega) (by
    show ((tr kd t nn ks).flat.take a ++ ((tr kb tb nb bs).flat ++ ((tr kd t nn ks).flat.drop (a + 1 + ks'.size) ++ []))).length ≤ _
    rw [List.append_nil, List.length_append, List.length_append, List.length_take, List.length_drop]
    omega)
  refine ⟨q, ?_⟩
  have hcat : (([⟨n, (tr kd t nn ks).flat.take a⟩, ⟨m, (tr kb tb nb bs).flat⟩, ⟨n, (tr kd t nn ks).flat.drop (a + 1 + ks'.size)⟩] : List (Sl ND)).map Sl.l).flatten = (putF kb tb nb bs (tr kd t nn ks) a).flat := by
    show (tr kd t nn ks).flat.take a ++ ((tr kb tb nb bs).flat ++ ((tr kd t nn ks).flat.drop (a + 1 + ks'.size) ++ [])) = _
    rw [List.append_nil, p2, show a + (ks'.size + 1) = a + 1 + ks'.size by omega]
  rw [hcat] at hq
  rw [u_tree_Put, end_spec n _ (by omega), r2.ends, whole_spec m _ (by omega), (isTree_iff (tr kb tb nb bs).flat).2 ⟨_, _, _, _, rfl⟩]
  simp only [bnd_some_eq, c0, cnd_false, nT, cut1, cut2, hq]

theorem law_Puts (n m : Bool) (l by_ : List ND) (at_ : Int) (hg : gL l) (hgb : gL by_) : f_law06_SynPuts (⟨n, l⟩, at_, ⟨m, by_⟩, ()) = some (true, ()) := by
  rw [u_law06_SynPuts, awake_ok, few_spec, few_spec]
  cases hf : fewB l with
  | false => simp only [bnd_some_eq, nT, nF, cnd_false, cnd_true]
  | true =>
    cases hfb : fewB by_ with
    | false => simp only [bnd_some_eq, nT, nF, cnd_false, cnd_true]
    | true =>
      obtain ⟨hl, _⟩ := fewB_ok hf
      obtain ⟨hlb, _⟩ := fewB_ok hfb
      have hG := GL_few hg hf
      have hGb := GL_few hgb hfb
      cases h1 : ltI at_ 0 with
      | true => simp only [bnd_some_eq, nT, cnd_false, cnd_true]
      | false =>
        cases h2 : leI (lenI l) at_ with
        | true => simp only [bnd_some_eq, nT, cnd_false, cnd_true]
        | false =>
          have h1' := of_decide_eq_false h1
          have h2' := of_decide_eq_false h2
          unfold lenI at h2'
          obtain ⟨a, rfl⟩ : ∃ j : Nat, at_ = (j : Int) := ⟨at_.toNat, by omega⟩
          have b1 := own_spec n l (by omega)
          have b2 := own_spec m by_ (by omega)
          have e60 : eqI 60 0 = false := id (Eq.refl _)
          rcases tree_or l with h | ⟨kd, t, nn, ks, rfl⟩
          · simp only [bnd_some_eq, nT, nF, cnd_false, cnd_true, b1, Check_none false l (by omega) h, e60]
          · rcases tree_or by_ with h | ⟨kb, tb, nb, bs, rfl⟩
            · have c1 := Check_tree false kd t nn ks (by have : (tr kd t nn ks).flat.length = ks.size + 1 := (tr kd t nn ks).len; omega) hG
              by_cases hc : chkT kd t nn ks false = 0
              · simp only [bnd_some_eq, nT, nF, cnd_false, cnd_true, b1, c1, hc, e00, b2, Check_none false by_ (by omega) h, e60]
              · simp only [bnd_some_eq, nT, nF, cnd_false, cnd_true, b1, c1, eqI_ne hc]
            · have hlen : (tr kd t nn ks).flat.length = ks.size + 1 := (tr kd t nn ks).len
              have hlnb : (tr kb tb nb bs).flat.length = bs.size + 1 := (tr kb tb nb bs).len
              have c1 := Check_tree false kd t nn ks (by omega) hG
              by_cases hc : chkT kd t nn ks false = 0
              · have c2 := Check_tree false kb tb nb bs (by omega) hGb
                by_cases hcb : chkT kb tb nb bs false = 0
                · rw [hc] at c1
                  rw [hcb] at c2
                  have d1 := deep_spec false kd t nn ks (by omega)
                  have d2 := deep_spec false kb tb nb bs (by omega)
                  have hdl := ks.dep_le
                  have hdb := bs.dep_le
                  have hadd : addI .i64 ((ks.dep + 1 : Nat) : Int) ((bs.dep + 1 : Nat) : Int) = ((ks.dep + 1 + (bs.dep + 1) : Nat) : Int) := by rw [addI_i64 (by omega) (by omega)]; omega
                  by_cases hd : ks.dep + 1 + (bs.dep + 1) ≤ 90
                  · have c3 : ltI 90 ((ks.dep + 1 + (bs.dep + 1) : Nat) : Int) = false := decide_eq_false (by omega)
                    have ha : a < ks.size + 1 := by omega
                    obtain ⟨k', t', n', ks', p, s1, s2, s3, _⟩ := part_of hc ha
                    have hat := at?_nat s2.node.1
                    have hisp := ispat_spec k'
                    cases hp : isPat k' with
                    | true =>
                      rw [hp] at hisp
                      simp only [bnd_some_eq, nT, cnd_false, cnd_true, b1, b2, c1, c2, e00, d1, d2, hadd, c3, hat, hisp]
                    | false =>
                      rw [hp] at hisp
                      obtain ⟨u, u1, u2, u3, u4⟩ := up_spec false (by omega) hc a ha
                      obtain ⟨q, hq⟩ := put_spec false false (kb := kb) (tb := tb) (nb := nb) (bs := bs) (by omega) (by omega) hc a ha
                      obtain ⟨k1, k2, k3⟩ := chkT_ok.1 hc
                      obtain ⟨m1, m2, m3⟩ := chkT_ok.1 hcb
                      have hE0 : errF false false false (tr kd t nn ks) = 0 := errF_ok.2 ⟨k2, rfl⟩
                      have hsz : (tr kd t nn ks).size = ks.size + 1 := rfl
                      have hperr := put_err kb tb nb bs m2 (tr kd t nn ks) a false false false ha hE0 (by rw [s1]; exact hp)
                      have hptw := put_tw kb tb nb bs m3 (tr kd t nn ks) a false false false ha hE0 (by rw [s1]; exact hp) (by rw [twF_cons, k3]; rfl)
                      have hpd := put_dep kb tb nb bs (tr kd t nn ks) a
                      have hps := put_size kb tb nb bs (tr kd t nn ks) a
                      have hdt : (tr kd t nn ks).dep = max (ks.dep + 1) 0 := rfl
                      obtain ⟨kk, tt, n2, kks, hpt⟩ : ∃ kk tt n2 kks, putF kb tb nb bs (tr kd t nn ks) a = tr kk tt n2 kks := by
                        have := put_cnt kb tb nb bs (tr kd t nn ks) a
                        exact cnt_one (by rw [this]; rfl)
                      have hGp : GL (putF kb tb nb bs (tr kd t nn ks) a).flat := by
                        intro x hx
                        rw [(put_flat kb tb nb bs (tr kd t nn ks) a ha).2] at hx
                        rcases List.mem_append.1 hx with hx | hx
                        · exact hG x (List.mem_of_mem_take hx)
                        · rcases List.mem_append.1 hx with hx | hx
                          · exact hGb x hx
                          · exact hG x (List.mem_of_mem_drop hx)
                      rw [hpt] at hq hperr hptw hpd hps hGp
                      have hdp : (tr kk tt n2 kks).dep = max (kks.dep + 1) 0 := rfl
                      have hsp : (tr kk tt n2 kks).size = kks.size + 1 := rfl
                      rw [twF_cons, Bool.or_eq_false_iff] at hptw
                      have c4 := Check_tree q kk tt n2 kks (by omega) hGp
                      have hck : chkT kk tt n2 kks false = bif recB (tr kd t nn ks) a && notB (eqI kb 5) then 61 else 0 := by
                        have he : errT kk tt n2 kks false = bif recB (tr kd t nn ks) a && notB (eqI kb 5) then 61 else 0 := by
                          rw [← hperr, errF_cons]
                          show errT kk tt n2 kks false = bif notB (eqI (errT kk tt n2 kks false) 0) then errT kk tt n2 kks false else 0
                          cases hz : eqI (errT kk tt n2 kks false) 0 with
                          | true => rw [eqI_eq.1 hz]; rfl
                          | false => rfl
                        unfold chkT
                        have : ltI 100 ((kks.dep + 1 : Nat) : Int) = false := decide_eq_false (by omega)
                        rw [this, cond_false, he, hptw.1]
                        cases (recB (tr kd t nn ks) a && notB (eqI kb 5)) <;> rfl
                      rw [hck] at c4
                      have hrec : (bnd (cnd (leI 0 u) (bnd (at? (tr kd t nn ks).flat u) (fun x23 => some (eqI x23.1 8))) (some false)) (fun x24 => cnd x24 (some (eqI (a : Int) (addI IntKind.i64 u 1))) (some false))) = some (recB (tr kd t nn ks) a) := by
                        by_cases hu : u < 0
                        · have hle : leI 0 u = false := decide_eq_false (by omega)
                          have hr : recB (tr kd t nn ks) a = false := by
                            by_cases h0 : a = 0
                            · rw [h0]; exact recB_zero _
                            · obtain ⟨j, rfl⟩ : ∃ j, a = j + 1 := ⟨a - 1, by omega⟩
                              obtain ⟨kj, tj, nj, ksj, pj, _, j2, j3, _⟩ := part_of hc (i := j) (by omega)
                              rw [recB_at (tr kd t nn ks) j false false false ha hE0 _ j2.node.1]
                              by_cases h8 : kj = 8
                              · have h8c : ksj.cnt ≠ 0 := by
                                  have := (kids_of (nodeE_zero.1 (errT_ok.1 (chkT_ok.1 j3).2.1).1).2.2.1).2.1 (by omega)
                                  omega
                                have := u4 kj tj nj ksj (by omega) j2 h8c
                                omega
                              · exact eqI_ne h8
                          rw [hle, cnd_false, bnd_some_eq, cnd_false, hr]
                        · obtain ⟨w, rfl⟩ : ∃ w : Nat, u = (w : Int) := ⟨u.toNat, by omega⟩
                          obtain ⟨j, rfl⟩ : ∃ j, a = j + 1 := ⟨a - 1, by omega⟩
                          have hle : leI 0 (w : Int) = true := decide_eq_true (by omega)
                          obtain ⟨kw, tw, nw, ksw, pw, _, w2, w3, _⟩ := part_of hc (i := w) (by omega)
                          obtain ⟨kj, tj, nj, ksj, pj, _, j2, j3, _⟩ := part_of hc (i := j) (by omega)
                          rw [recB_at (tr kd t nn ks) j false false false ha hE0 _ j2.node.1, hle, cnd_true, at?_nat w2.node.1, bnd_some_eq, bnd_some_eq, add1 (by omega)]
                          show cnd (eqI kw 8) (some (eqI ((j + 1 : Nat) : Int) ((w + 1 : Nat) : Int))) (some false) = some (eqI kj 8)
                          by_cases hw : w = j
                          · subst hw
                            have e1 := w2.node.1
                            rw [j2.node.1] at e1
                            have : kj = kw := (Prod.mk.inj (Option.some.inj e1)).1
                            rw [this, eqIs]
                            cases eqI kw 8 <;> rfl
                          · have hne : eqI ((j + 1 : Nat) : Int) ((w + 1 : Nat) : Int) = false := eqI_ne (by omega)
                            have h8 : kj ≠ 8 := by
                              intro h8
                              have h8c : ksj.cnt ≠ 0 := by
                                have := (kids_of (nodeE_zero.1 (errT_ok.1 (chkT_ok.1 j3).2.1).1).2.2.1).2.1 (by omega)
                                omega
                              have := u4 kj tj nj ksj (by omega) j2 h8c
                              omega
                            rw [hne, eqI_ne h8]
                            cases eqI kw 8 <;> rfl
                      have hb0 : at? (tr kb tb nb bs).flat 0 = some (kb, tb, nb, (bs.cnt : Int)) := by rw [tr_flat]; exact at?_zero _ _
                      have hrec' : ∀ {α : Type} (f : Bool → Option α), (bnd (cnd (leI 0 u) (bnd (at? (tr kd t nn ks).flat u) (fun x23 => some (eqI x23.1 8))) (some false)) (fun x24 => bnd (cnd x24 (some (eqI (a : Int) (addI IntKind.i64 u 1))) (some false)) f)) = f (recB (tr kd t nn ks) a) := by
                        intro α f
                        cases hA : cnd (leI 0 u) (bnd (at? (tr kd t nn ks).flat u) (fun x23 => some (eqI x23.1 8))) (some false) with
                        | none => rw [hA] at hrec; cases hrec
                        | some x =>
                          rw [hA, bnd_some_eq] at hrec
                          rw [bnd_some_eq, hrec, bnd_some_eq]
                      have e61 : eqI 61 61 = true := id (Eq.refl _)
                      simp only [bnd_some_eq, nT, cnd_false, b1, b2, c1, c2, e00, d1, d2, hadd, c3, hat, hisp, u1, hrec', hq, hb0, c4]
                      cases recB (tr kd t nn ks) a with
                      | false => simp only [cnd_false, bnd_some_eq, Bool.false_and, cond_false, e00]
                      | true =>
                        simp only [cnd_true, bnd_some_eq, Bool.true_and]
                        cases notB (eqI kb 5) with
                        | true => simp only [cnd_true, cond_true, e61]
                        | false => simp only [cnd_false, cond_false, e00]
                  · have c3 : ltI 90 ((ks.dep + 1 + (bs.dep + 1) : Nat) : Int) = true := decide_eq_true (by omega)
                    simp only [bnd_some_eq, nT, cnd_false, cnd_true, b1, b2, c1, c2, e00, d1, d2, hadd, c3]
                · simp only [bnd_some_eq, nT, nF, cnd_false, cnd_true, b1, b2, c1, c2, hc, e00, eqI_ne hcb]
              · simp only [bnd_some_eq, nT, nF, cnd_false, cnd_true, b1, c1, eqI_ne hc]
end Fn
end Ev
namespace Ev
open Go
namespace Fn
theorem good_gND {x : ND} (h : good (.st (.pair (.int .i64) (.pair .str (.pair (.int .i64) (.int .i64))))) x) : gND x := by
  obtain ⟨_, ⟨_, h3⟩, h4, _⟩ := h
  exact ⟨fun b hb => by have := h3 b hb; omega, inK_i64.1 h4⟩
theorem good_bytes {s : Tx} (h : good .str s) : ∀ b, b ∈ s → 0 ≤ b ∧ b ≤ 255 := fun b hb => by have := h.2 b hb; omega
end Fn
end Ev
