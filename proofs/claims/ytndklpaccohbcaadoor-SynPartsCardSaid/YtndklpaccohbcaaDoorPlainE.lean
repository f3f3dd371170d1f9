/- Layer 6 in plain words: the laws of parts, functions, names. No statement of its own about the program. -/
import Derived.Test.YtndklpaccohbcaaDoorPlainD
namespace Ev
open Go
namespace Fn

/-! Parts. -/
def subF : F → Nat → F
  | .nil, _ => .nil
  | .cons k t n ks r, i => if i = 0 then tr k t n ks else if i - 1 < ks.size then subF ks (i - 1) else subF r (i - 1 - ks.size)
theorem subF_cons (k : Int) (t : Tx) (n : Int) (ks r : F) (i : Nat) : subF (.cons k t n ks r) i = if i = 0 then tr k t n ks else if i - 1 < ks.size then subF ks (i - 1) else subF r (i - 1 - ks.size) := id (Eq.refl _)

theorem errT_pat {kd : Int} {t : Tx} {n : Int} {ks : F} {p : Bool} (h : errT kd t n ks p = 0) : isPat kd = p := (nodeE_zero.1 (errT_ok.1 h).1).2.1

theorem tw_pats : ∀ (g : F) (m odd : Bool), errF m true odd g = 0 → (varsF g).Nodup → twF g = false
  | .nil, _, _, _, _ => rfl
  | .cons kd t n ks r, m, odd, he, hn => by
    obtain ⟨e1, e2⟩ := errF_ok.1 he
    have hp := errT_pat e1
    rw [Bool.true_or] at hp
    rw [varsF_cons] at hn
    have h1 := (List.nodup_append.1 hn).1
    have h2 := (List.nodup_append.1 hn).2.1
    rw [twF_cons, tw_pats r m (!odd) e2 h2, Bool.or_false]
    unfold twT
    rw [hp, cond_true]
    exact (dupL_nodup _).2 h1
theorem tw_kids {kd : Int} {t : Tx} {n : Int} {ks : F} {p : Bool} (h : errT kd t n ks p = 0) (ht : twT kd t ks = false) : twF ks = false := by
  have hp := errT_pat h
  obtain ⟨h1, h2⟩ := errT_ok.1 h
  unfold twT at ht
  cases hq : isPat kd with
  | false => rw [hq, cond_false] at ht; exact ht
  | true =>
    rw [hq, cond_true] at ht
    have hpt : p = true := by rw [← hp, hq]
    subst hpt
    by_cases h22 : kd = 22
    · subst h22
      have := (kids_of (nodeE_zero.1 h1).2.2.1).2.2.2.2 (by omega)
      rw [cnt_zero this]
      rfl
    · unfold varsT at ht
      rw [eqI_ne h22, cond_false] at ht
      exact tw_pats ks _ _ h2 ((dupL_nodup _).1 ht)

theorem part {l : List ND} : ∀ (g : F) (q i : Nat) (m pat odd : Bool), Sits l q g → i < g.size → errF m pat odd g = 0 → twF g = false →
    ∃ kd t n ks p, subF g i = tr kd t n ks ∧ Sits l (q + i) (tr kd t n ks) ∧ errT kd t n ks p = 0 ∧ ks.dep + 1 ≤ g.dep ∧ twT kd t ks = false
  | .nil, _, _, _, _, _, _, hi, _, _ => absurd hi (Nat.not_lt_zero _)
  | .cons kd t n ks r, q, i, m, pat, odd, hs, hi, he, ht => by
    obtain ⟨_, g2, g3, _⟩ := hs.node
    obtain ⟨e1, e2⟩ := errF_ok.1 he
    rw [twF_cons, Bool.or_eq_false_iff] at ht
    have hd : (F.cons kd t n ks r).dep = max (ks.dep + 1) r.dep := rfl
    have hi : i < ks.size + r.size + 1 := hi
    rw [subF_cons]
    by_cases h0 : i = 0
    · subst h0
      rw [if_pos rfl]
      exact ⟨kd, t, n, ks, _, rfl, hs.first, e1, by omega, ht.1⟩
    · rw [if_neg h0]
      by_cases h1 : i - 1 < ks.size
      · rw [if_pos h1]
        obtain ⟨kd', t', n', ks', p, r1, r2, r3, r4, r5⟩ := part ks (q + 1) (i - 1) _ _ _ g2 h1 (errT_ok.1 e1).2 (tw_kids e1 ht.1)
        rw [show q + 1 + (i - 1) = q + i by omega] at r2
        exact ⟨kd', t', n', ks', p, r1, r2, r3, by omega, r5⟩
      · rw [if_neg h1]
        obtain ⟨kd', t', n', ks', p, r1, r2, r3, r4, r5⟩ := part r (q + 1 + ks.size) (i - 1 - ks.size) _ _ _ g3 (by omega) e2 ht.2
        rw [show q + 1 + ks.size + (i - 1 - ks.size) = q + i by omega] at r2
        exact ⟨kd', t', n', ks', p, r1, r2, r3, by omega, r5⟩

/-- Of what is right, each part. -/
theorem part_of {kd : Int} {t : Tx} {n : Int} {ks : F} {pat : Bool} (h : chkT kd t n ks pat = 0) {i : Nat} (hi : i < ks.size + 1) :
    ∃ kd' t' n' ks' p, subF (tr kd t n ks) i = tr kd' t' n' ks' ∧ Sits (tr kd t n ks).flat i (tr kd' t' n' ks') ∧ chkT kd' t' n' ks' p = 0 ∧ ks'.dep + 1 ≤ ks.dep + 1 := by
  obtain ⟨h1, h2, h3⟩ := chkT_ok.1 h
  obtain ⟨kd', t', n', ks', p, r1, r2, r3, r4, r5⟩ := part (tr kd t n ks) 0 i false pat false (sits_tree kd t n ks) hi (errF_ok.2 ⟨by rw [Bool.false_and, Bool.or_false]; exact h2, rfl⟩) (by rw [twF_cons, h3]; rfl)
  rw [Nat.zero_add] at r2
  have hd : (tr kd t n ks).dep = max (ks.dep + 1) 0 := rfl
  exact ⟨kd', t', n', ks', p, r1, r2, chkT_ok.2 ⟨by omega, r3, r5⟩, by omega⟩

theorem end_out (b : Bool) (l : List ND) (hl : l.length ≤ 10000) (k : Int) (h : k < 0 ∨ (l.length : Int) ≤ k) : f_tree_End (⟨b, l⟩, k, ()) = some (-1, ()) := by
  by_cases hk : k < 0
  · exact end_neg _ _ hk
  · obtain ⟨j, rfl⟩ : ∃ j : Nat, k = (j : Int) := ⟨k.toNat, by omega⟩
    rw [end_spec b l hl, endZ_pos]
    rw [List.drop_eq_nil_of_le (by omega)]
    rfl

theorem law_Parts (n : Bool) (l : List ND) (at_ : Int) (hg : gL l) : f_law06_SynParts (⟨n, l⟩, at_, ()) = some (true, ()) := by
  rw [u_law06_SynParts, awake_ok, few_spec]
  cases hf : fewB l with
  | false => simp only [bnd_some_eq, nT, nF, cnd_false, cnd_true]
  | true =>
    obtain ⟨hl, _⟩ := fewB_ok hf
    have hG := GL_few hg hf
    have b5 := own_spec n l (by omega)
    have e60 : eqI 60 0 = false := id (Eq.refl _)
    rcases tree_or l with h | ⟨kd, t, nn, ks, rfl⟩
    · simp only [bnd_some_eq, nT, nF, cnd_false, cnd_true, b5, Check_none false l (by omega) h, e60]
    · have hlen : (tr kd t nn ks).flat.length = ks.size + 1 := (tr kd t nn ks).len
      have c1 := Check_tree false kd t nn ks (by omega) hG
      by_cases hc : chkT kd t nn ks false = 0
      · rw [hc] at c1
        by_cases ho : at_ < 0 ∨ ((tr kd t nn ks).flat.length : Int) ≤ at_
        · have hsub := sub_none false (tr kd t nn ks).flat at_ (end_out false _ (by omega) _ ho)
          have e20 : eqI 20 0 = false := id (Eq.refl _)
          have last : (bnd (cnd (ltI at_ 0) (some true) (some (leI (lenI (tr kd t nn ks).flat) at_))) fun x9 => some (x9, ())) = some (true, ()) := by
            rcases ho with ho | ho
            · have : ltI at_ 0 = true := decide_eq_true ho
              rw [this]; rfl
            · have : leI (lenI (tr kd t nn ks).flat) at_ = true := decide_eq_true ho
              rw [this]
              cases ltI at_ 0 <;> rfl
          simp only [bnd_some_eq, nT, nF, cnd_false, cnd_true, b5, c1, e00, hsub, e20, last]
        · obtain ⟨j, rfl⟩ : ∃ j : Nat, at_ = (j : Int) := ⟨at_.toNat, by omega⟩
          obtain ⟨kd', t', n', ks', p, _, r2, r3, _⟩ := part_of hc (i := j) (by omega)
          have hsub := sub_spec false (tr kd t nn ks).flat (by omega) r2
          have hle := r2.le (by omega)
          rw [tr_size] at hle
          have hG' := hG.sub r2
          have hlen' : (tr kd' t' n' ks').flat.length = ks'.size + 1 := (tr kd' t' n' ks').len
          have b6 := own_spec false (tr kd' t' n' ks').flat (by omega)
          have c2 := Check_tree false kd' t' n' ks' (by omega) hG'
          have c3 := Pat_tree false kd' t' n' ks' (by omega) hG'
          have last : (bnd (cnd (eqI (chkT kd' t' n' ks' false) 0) (some true) (some (eqI (chkT kd' t' n' ks' true) 0))) fun x14 => some (x14, ())) = some (true, ()) := by
            cases p with
            | false => rw [r3]; rfl
            | true => rw [r3]; cases eqI (chkT kd' t' n' ks' false) 0 <;> rfl
          simp only [bnd_some_eq, nT, cnd_false, b5, c1, e00, hsub, b6, c2, c3, last]
      · simp only [bnd_some_eq, nT, nF, cnd_false, cnd_true, b5, c1, eqI_ne hc]
end Fn
end Ev
namespace Ev
open Go
namespace Fn

/-! Make; SynFuns. -/
theorem make_loop (b : Bool) (L : List (Sl ND)) (hL : L.length ≤ 1000) : ∀ (m k : Nat) (acc : List ND), k + m = L.length → acc.length + ((L.drop k).map Sl.l).flatten.length ≤ 1000000 →
    loopR l1_tree_Make (⟨b, L⟩, (L.length : Int), (k : Int), ⟨false, acc⟩, ()) = some (⟨false, acc ++ ((L.drop k).map Sl.l).flatten⟩, ()) := by
  intro m
  induction m with
  | zero =>
    intro k acc hk _
    refine loopR_inr ?_
    unfold l1_tree_Make
    simp only
    rw [cnd_lt, if_neg (by omega), List.drop_eq_nil_of_le (by omega)]
    show _ = some (Sum.inr ((⟨false, acc ++ []⟩ : Sl ND), ()))
    rw [List.append_nil]
  | succ m ih =>
    intro k acc hk ha
    have hlt : k < L.length := by omega
    rw [drop_cons hlt, List.map_cons, List.flatten_cons, List.length_append] at ha
    have hf : fit (sumI (lenI acc) (lenI L[k].l)) = some () := fit_small (by omega)
    have step : l1_tree_Make (⟨b, L⟩, (L.length : Int), (k : Int), ⟨false, acc⟩, ()) = some (.inl (⟨b, L⟩, (L.length : Int), ((k + 1 : Nat) : Int), ⟨false, acc ++ L[k].l⟩, ())) := by
      unfold l1_tree_Make
      simp only
      rw [cnd_lt, if_pos (by omega), at?_nat (List.getElem?_eq_getElem hlt)]
      simp only [bnd_some_eq, hf, andB_false, add1 (show k ≤ 1000000000 by omega)]
      rfl
    rw [loopR_inl step, ih (k + 1) _ (by omega) (by rw [List.length_append]; omega), drop_cons hlt, List.map_cons, List.flatten_cons, List.append_assoc]
theorem make_spec (k : Int) (t : Tx) (n c : Int) (b : Bool) (L : List (Sl ND)) (hL : L.length ≤ 1000) (hs : (L.map Sl.l).flatten.length ≤ 100000) :
    f_tree_Make ((k, t, n, c), ⟨b, L⟩, ()) = some (⟨false, (k, t, n, (L.length : Int)) :: (L.map Sl.l).flatten⟩, ()) := by
  rw [u_tree_Make]
  exact make_loop b L hL L.length 0 [(k, t, n, (L.length : Int))] (Nat.zero_add _) (by show 1 + _ ≤ _; rw [List.drop_zero]; omega)

theorem mem_less {x : Tx} {a c : List Tx} : x ∈ lessL a c ↔ x ∈ a ∧ x ∉ c := by
  unfold lessL
  rw [List.mem_filter, Bool.not_eq_true', decide_eq_false_iff_not]
theorem less_app (a b c : List Tx) : lessL (a ++ b) c = lessL a c ++ lessL b c := List.filter_append ..
theorem less_in {x : Tx} {c : List Tx} (h : x ∈ c) (xs : List Tx) : lessL (x :: xs) c = lessL xs c := by
  unfold lessL
  rw [List.filter_cons, decide_eq_true h]
  rfl
theorem less_out {x : Tx} {c : List Tx} (h : x ∉ c) (xs : List Tx) : lessL (x :: xs) c = x :: lessL xs c := by
  unfold lessL
  rw [List.filter_cons, decide_eq_false h]
  rfl
theorem addU_less (c : List Tx) : ∀ (xs o : List Tx), addU (lessL o c) (lessL xs c) = lessL (addU o xs) c
  | [], _ => rfl
  | x :: xs, o => by
    rw [addU_cons]
    by_cases hc : x ∈ c
    · rw [less_in hc, ← addU_less c xs]
      congr 1
      by_cases ho : x ∈ o
      · rw [if_pos ho]
      · rw [if_neg ho, less_app, less_in hc]
        show _ = _ ++ []
        rw [List.append_nil]
    · rw [less_out hc, addU_cons, ← addU_less c xs]
      congr 1
      by_cases ho : x ∈ o
      · rw [if_pos ho, if_pos (mem_less.2 ⟨ho, hc⟩)]
      · rw [if_neg ho, if_neg (fun h => ho (mem_less.1 h).1), less_app, less_out hc]
        rfl

theorem funs_loop (s : Tx) (S : Sl ND) (na : Bool) (a A : List Tx) (ha : a.length ≤ 1000000) (hfin : ∀ w, l1_law06_SynFuns (s, (a.length : Int), S, ⟨false, w⟩, ⟨na, a⟩, ()) = some (.inr (decide (A = w), ()))) :
    ∀ (m k : Nat) (w : List Tx), k + m = a.length → w.length ≤ k → loopR l1_law06_SynFuns (s, (k : Int), S, ⟨false, w⟩, ⟨na, a⟩, ()) = some (decide (A = w ++ lessL (a.drop k) [s]), ()) := by
  intro m
  induction m with
  | zero =>
    intro k w hk _
    have : k = a.length := by omega
    subst this
    rw [loopR_inr (hfin w), List.drop_length]
    show _ = some (decide (A = w ++ []), ())
    rw [List.append_nil]
  | succ m ih =>
    intro k w hk hw
    have hlt : k < a.length := by omega
    have c0 : ltI (k : Int) (lenI a) = true := decide_eq_true (by unfold lenI; omega)
    rw [drop_cons hlt]
    by_cases h : a[k] = s
    · have step : l1_law06_SynFuns (s, (k : Int), S, ⟨false, w⟩, ⟨na, a⟩, ()) = some (.inl (s, ((k + 1 : Nat) : Int), S, ⟨false, w⟩, ⟨na, a⟩, ())) := by
        unfold l1_law06_SynFuns
        simp only [c0, cnd_true, okAt_nat hlt, bnd_some_eq, nth_lt hlt, eqS_eq.2 h, nT, cnd_false, add1 (show k ≤ 1000000000 by omega)]
      rw [loopR_inl step, ih (k + 1) w (by omega) (by omega), less_in (by rw [h]; exact List.mem_singleton.2 rfl)]
    · have hn : eqS a[k] s = false := eqF_false h
      have hf : fit (sumI (lenI w) (lenI [a[k]])) = some () := fit_small (by show w.length + 1 ≤ _; omega)
      have step : l1_law06_SynFuns (s, (k : Int), S, ⟨false, w⟩, ⟨na, a⟩, ()) = some (.inl (s, ((k + 1 : Nat) : Int), S, ⟨false, w ++ [a[k]]⟩, ⟨na, a⟩, ())) := by
        unfold l1_law06_SynFuns
        simp only [c0, cnd_true, okAt_nat hlt, bnd_some_eq, nth_lt hlt, hn, nF, hf, andB_false, add1 (show k ≤ 1000000000 by omega)]
        rfl
      rw [loopR_inl step, ih (k + 1) _ (by omega) (by rw [List.length_append, List.length_singleton]; omega), less_out (fun e => h (List.mem_singleton.1 e)), List.append_assoc]
      rfl

theorem rng0 : rng 0 := ⟨by decide, by decide⟩
theorem node5 (s : Tx) (hk : Int) : nodeE 5 s 0 1 hk false = bif notB (nameOk s) then 62 else 0 := id (Eq.refl _)
theorem errT_def (kd : Int) (t : Tx) (n : Int) (ks : F) (pat : Bool) : errT kd t n ks pat = bif notB (eqI (nodeE kd t n (ks.cnt : Int) ks.head pat) 0) then nodeE kd t n (ks.cnt : Int) ks.head pat else errF (eqI kd 10) pat false ks := id (Eq.refl _)

theorem law_Funs (n : Bool) (l : List ND) (s : Tx) (hg : gL l) (hs : ∀ b, b ∈ s → 0 ≤ b ∧ b ≤ 255) : f_law06_SynFuns (⟨n, l⟩, s, ()) = some (true, ()) := by
  rw [u_law06_SynFuns, awake_ok, few_spec]
  cases hf : fewB l with
  | false => simp only [bnd_some_eq, nT, nF, cnd_false, cnd_true]
  | true =>
    obtain ⟨hl, _⟩ := fewB_ok hf
    have hG := GL_few hg hf
    cases h3 : ltI 300 (lenI s) with
    | true => simp only [bnd_some_eq, nT, cnd_false, cnd_true]
    | false =>
      have h3 := of_decide_eq_false h3
      unfold lenI at h3
      have b5 := own_spec n l (by omega)
      have e60 : eqI 60 0 = false := id (Eq.refl _)
      rcases tree_or l with h | ⟨kd, t, nn, ks, rfl⟩
      · simp only [bnd_some_eq, nT, nF, cnd_false, cnd_true, b5, Check_none false l (by omega) h, e60]
      · have hlen : (tr kd t nn ks).flat.length = ks.size + 1 := (tr kd t nn ks).len
        have c1 := Check_tree false kd t nn ks (by omega) hG
        by_cases hc : chkT kd t nn ks false = 0
        · rw [hc] at c1
          have c2 := deep_spec false kd t nn ks (by omega)
          by_cases hd : ks.dep + 1 ≤ 90
          · have c3 : ltI 90 ((ks.dep + 1 : Nat) : Int) = false := decide_eq_false (by omega)
            have c4 := make_spec 5 s 0 0 false [⟨false, (tr kd t nn ks).flat⟩] (by rw [List.length_singleton]; omega) (by show ((tr kd t nn ks).flat ++ []).length ≤ _; rw [List.append_nil]; omega)
            have e : ((5, s, 0, (([⟨false, (tr kd t nn ks).flat⟩] : List (Sl ND)).length : Int)) :: (([⟨false, (tr kd t nn ks).flat⟩] : List (Sl ND)).map Sl.l).flatten : List ND) = (tr 5 s 0 (tr kd t nn ks)).flat := by
              rw [tr_flat 5]
              show _ :: ((tr kd t nn ks).flat ++ []) = _
              rw [List.append_nil]
              rfl
            rw [e] at c4
            have hG5 : GL (tr 5 s 0 (tr kd t nn ks)).flat := by
              rw [tr_flat 5]
              intro x hx
              rcases List.mem_cons.1 hx with rfl | hx
              · exact ⟨hs, by show s.length ≤ _; omega, rng0⟩
              · exact hG x hx
            have hsz : (tr kd t nn ks).size = ks.size + 1 := rfl
            have c5 := name_spec hs
            have c6 := Check_tree false 5 s 0 (tr kd t nn ks) (by omega) hG5
            have hdep : (tr kd t nn ks).dep = max (ks.dep + 1) 0 := rfl
            have hdl : ltI 100 (((tr kd t nn ks).dep + 1 : Nat) : Int) = false := decide_eq_false (by omega)
            have hn5 : nodeE 5 s 0 ((tr kd t nn ks).cnt : Int) (tr kd t nn ks).head false = bif notB (nameOk s) then 62 else 0 := node5 s _
            cases hnm : nameOk s with
            | false =>
              rw [hnm] at c5 hn5
              have hE : errT 5 s 0 (tr kd t nn ks) false = 62 := by
                rw [errT_def, hn5]; rfl
              have hck : chkT 5 s 0 (tr kd t nn ks) false = 62 := by
                unfold chkT
                rw [hdl, cond_false, hE]; rfl
              rw [hck] at c6
              have c7 := Free_none false _ c6 (by decide)
              have e62 : eqI 62 62 = true := id (Eq.refl _)
              have el : eqI (lenI ([] : List Tx)) 0 = true := id (Eq.refl _)
              simp only [bnd_some_eq, nT, nF, cnd_false, cnd_true, b5, c1, e00, c2, c3, c4, c5, c6, c7, e62, el]
            | true =>
              rw [hnm] at c5 hn5
              obtain ⟨k1, k2, k3⟩ := chkT_ok.1 hc
              have hE : errT 5 s 0 (tr kd t nn ks) false = 0 := errT_ok.2 ⟨hn5, errF_ok.2 ⟨k2, rfl⟩⟩
              have hck : chkT 5 s 0 (tr kd t nn ks) false = 0 := chkT_ok.2 ⟨by omega, hE, by
                show (twT kd t ks || false) = false
                rw [k3]; rfl⟩
              obtain ⟨nf, c7⟩ := Free_spec false (by omega) hG5 hck
              obtain ⟨na, c8⟩ := Free_spec false (by omega) hG hc
              have hfr : freeT 5 s (tr kd t nn ks) = lessL (freeT kd t ks) [s] := id (Eq.refl _)
              rw [hck] at c6
              rw [hfr] at c7
              have q1 := addU_len (freeT kd t ks) []
              have q2 := freeT_len kd t ks
              have q3 : ([] : List Tx).length = 0 := rfl
              have q4 := addU_len (lessL (freeT kd t ks) [s]) []
              have q5 := lessL_len (freeT kd t ks) [s]
              have hfl : (tr 5 s 0 (tr kd t nn ks)).flat.length = ks.size + 1 + 1 := (tr 5 s 0 (tr kd t nn ks)).len
              have b6 := own_spec false (tr 5 s 0 (tr kd t nn ks)).flat (by omega)
              have hlt : ∀ a : List Tx, ltI (a.length : Int) (lenI a) = false := fun a => decide_eq_false (by unfold lenI; omega)
              have c9 := funs_loop s ⟨false, (tr 5 s 0 (tr kd t nn ks)).flat⟩ na (addU [] (freeT kd t ks)) (addU [] (lessL (freeT kd t ks) [s])) (by omega) (fun w => by
                unfold l1_law06_SynFuns
                simp only [hlt, cnd_false, b6, bnd_some_eq, c6, e00, cnd_true, c7, same_spec nf false _ w (show (addU [] (lessL (freeT kd t ks) [s])).length ≤ 1000000 by omega)]) _ 0 [] (Nat.zero_add _) (Nat.le_refl _)
              have h0 : ((0 : Nat) : Int) = 0 := rfl
              rw [h0, List.drop_zero, List.nil_append, ← addU_less] at c9
              have hl0 : lessL [] [s] = [] := id (Eq.refl _)
              rw [hl0, decide_eq_true rfl] at c9
              simp only [bnd_some_eq, nT, cnd_false, b5, c1, e00, c2, c3, c4, c5, c8, c9]
          · have c3 : ltI 90 ((ks.dep + 1 : Nat) : Int) = true := decide_eq_true (by omega)
            simp only [bnd_some_eq, nT, cnd_false, cnd_true, b5, c1, e00, c2, c3]
        · simp only [bnd_some_eq, nT, nF, cnd_false, cnd_true, b5, c1, eqI_ne hc]
end Fn
end Ev
namespace Ev
open Go
namespace Fn

/-! SynNames. -/
theorem names_ok : ∀ (g : F) (m pat odd : Bool), errF m pat odd g = 0 → ∀ x, x ∈ varsF g → nameOk x = true
  | .nil, _, _, _, _, x, hx => absurd hx (List.not_mem_nil)
  | .cons kd t n ks r, m, pat, odd, he, x, hx => by
    obtain ⟨e1, e2⟩ := errF_ok.1 he
    obtain ⟨e3, e4⟩ := errT_ok.1 e1
    rw [varsF_cons] at hx
    rcases List.mem_append.1 hx with hx | hx
    · unfold varsT at hx
      by_cases h22 : kd = 22
      · subst h22
        have hx : x ∈ [t] := hx
        rw [List.mem_singleton.1 hx]
        have ht := (nodeE_zero.1 e3).2.2.2.2.1
        cases hn : nameOk t with
        | true => rfl
        | false =>
          have ht : (true && notB (true && notB (nameOk t)) && notB (false && notB (conOk t))) = true := ht
          rw [hn] at ht
          have hc : (true && notB (true && notB false) && notB (false && notB (conOk t))) = false := id (Eq.refl _)
          rw [hc] at ht
          cases ht
      · rw [eqI_ne h22, cond_false] at hx
        exact names_ok ks _ _ _ e4 x hx
    · exact names_ok r _ _ _ e2 x hx
theorem names_okT {kd : Int} {t : Tx} {n : Int} {ks : F} {pat : Bool} (h : errT kd t n ks pat = 0) : ∀ x, x ∈ varsT kd t ks → nameOk x = true := by
  intro x hx
  refine names_ok (tr kd t n ks) false pat false (errF_ok.2 ⟨by rw [Bool.false_and, Bool.or_false]; exact h, rfl⟩) x ?_
  rw [varsF_cons]
  exact List.mem_append.2 (.inl hx)

/-- An expression that has names. -/
def z9 : Tx := [122, 57]
def vk : List Tx → Int
  | [] => 3
  | _ :: _ => 6
def vt : List Tx → Tx
  | [] => z9
  | _ :: _ => []
def vs : List Tx → F
  | [] => .nil
  | x :: xs => .cons 3 x 0 .nil (tr (vk xs) (vt xs) 0 (vs xs))
theorem z9_ok : nameOk z9 = true := by kernel_rfl
theorem node3 (x : Tx) (h : nameOk x = true) (hk : Int) : nodeE 3 x 0 0 hk false = 0 := by
  have : nodeE 3 x 0 0 hk false = bif notB (nameOk x) then 62 else 0 := id (Eq.refl _)
  rw [this, h]
  rfl
theorem err3 (x : Tx) (h : nameOk x = true) : errT 3 x 0 .nil false = 0 := errT_ok.2 ⟨node3 x h _, rfl⟩
theorem node6 (hk : Int) : nodeE 6 [] 0 2 hk false = 0 := id (Eq.refl _)
theorem v_err : ∀ L : List Tx, (∀ x, x ∈ L → nameOk x = true) → errT (vk L) (vt L) 0 (vs L) false = 0
  | [], _ => err3 z9 z9_ok
  | x :: xs, h => errT_ok.2 ⟨node6 _, errF_ok.2 ⟨err3 x (h x (List.mem_cons_self ..)), errF_ok.2 ⟨v_err xs (fun y hy => h y (List.mem_cons_of_mem _ hy)), rfl⟩⟩⟩
theorem v_tw : ∀ L : List Tx, twT (vk L) (vt L) (vs L) = false
  | [] => id (Eq.refl _)
  | x :: xs => by
    show (twT 3 x .nil || (twT (vk xs) (vt xs) (vs xs) || false)) = false
    rw [v_tw xs]
    rfl
theorem v_size : ∀ L : List Tx, (vs L).size = 2 * L.length
  | [] => rfl
  | x :: xs => by
    show 0 + ((vs xs).size + 0 + 1) + 1 = 2 * (xs.length + 1)
    rw [v_size xs]
    omega
theorem v_dep : ∀ L : List Tx, (vs L).dep ≤ L.length
  | [] => Nat.le_refl _
  | x :: xs => by
    have := v_dep xs
    show max (0 + 1) (max ((vs xs).dep + 1) 0) ≤ xs.length + 1
    omega
theorem v_free : ∀ L : List Tx, freeT (vk L) (vt L) (vs L) = L ++ [z9]
  | [] => id (Eq.refl _)
  | x :: xs => by
    show [x] ++ (freeT (vk xs) (vt xs) (vs xs) ++ []) = _
    rw [v_free xs, List.append_nil]
    rfl
theorem v_flat (x : Tx) (xs : List Tx) : (tr (vk (x :: xs)) (vt (x :: xs)) 0 (vs (x :: xs))).flat = (6, [], 0, 2) :: (3, x, 0, 0) :: (tr (vk xs) (vt xs) 0 (vs xs)).flat := by
  rw [tr_flat (vk (x :: xs))]
  rfl
theorem v_good : ∀ L : List Tx, (∀ x, x ∈ L → (∀ b, b ∈ x → 0 ≤ b ∧ b ≤ 255) ∧ x.length ≤ 1000000) → GL (tr (vk L) (vt L) 0 (vs L)).flat
  | [], _ => gb_of (by kernel_rfl)
  | x :: xs, h => by
    intro y hy
    rw [v_flat] at hy
    rcases List.mem_cons.1 hy with rfl | hy
    · exact ⟨fun b hb => absurd hb List.not_mem_nil, Nat.zero_le _, rng0⟩
    · rcases List.mem_cons.1 hy with rfl | hy
      · have := h x (List.mem_cons_self ..)
        exact ⟨this.1, this.2, rng0⟩
      · exact v_good xs (fun z hz => h z (List.mem_cons_of_mem _ hz)) y hy

theorem in1_loop (P : Sl ND) (nb : Bool) (N : List Tx) (hN : N.length ≤ 1000000) (hd : N.Nodup) (i : Nat) (hi : i < N.length) : ∀ (m k : Nat), k + m = i →
    loopR l1_law06_SynNames (P, (i : Int), (k : Int), ⟨nb, N⟩, ()) = some (.inl (P, ((i + 1 : Nat) : Int), ⟨nb, N⟩, ())) := by
  intro m
  induction m with
  | zero =>
    intro k hk
    refine loopR_inr ?_
    unfold l1_law06_SynNames
    simp only
    rw [cnd_lt, if_neg (by omega), add1 (by omega)]
  | succ m ih =>
    intro k hk
    have hlt : k < N.length := by omega
    have c0 : ltI (k : Int) (i : Int) = true := decide_eq_true (by omega)
    have hne : eqS N[i] N[k] = false := eqF_false fun e => by
      exact List.pairwise_iff_getElem.1 hd k i hlt hi (by omega) e.symm
    have step : l1_law06_SynNames (P, (i : Int), (k : Int), ⟨nb, N⟩, ()) = some (.inl (P, (i : Int), ((k + 1 : Nat) : Int), ⟨nb, N⟩, ())) := by
      unfold l1_law06_SynNames
      simp only [c0, cnd_true, okAt_nat hi, okAt_nat hlt, bnd_some_eq, nth_lt hi, nth_lt hlt, hne, cnd_false, add1 (show k ≤ 1000000000 by omega)]
    rw [loopR_inl step, ih (k + 1) (by omega)]

theorem vloop (P : Sl ND) (nb : Bool) (N : List Tx) (hN : N.length ≤ 200) (r : ((Sl ND) × Int × (Sl Tx) × Unit) ⊕ (Bool × Unit))
    (hfin : l2_law06_SynNames (P, (N.length : Int), ⟨nb, N⟩, ⟨false, (tr (vk N.reverse) (vt N.reverse) 0 (vs N.reverse)).flat⟩, ()) = some (.inr r)) : ∀ (m k : Nat), k + m = N.length →
    loopR l2_law06_SynNames (P, (k : Int), ⟨nb, N⟩, ⟨false, (tr (vk (N.take k).reverse) (vt (N.take k).reverse) 0 (vs (N.take k).reverse)).flat⟩, ()) = some r := by
  intro m
  induction m with
  | zero =>
    intro k hk
    have : k = N.length := by omega
    subst this
    rw [List.take_length]
    exact loopR_inr hfin
  | succ m ih =>
    intro k hk
    have hlt : k < N.length := by omega
    have c0 : ltI (k : Int) (lenI N) = true := decide_eq_true (by unfold lenI; omega)
    have ht : (N.take (k + 1)).reverse = N[k] :: (N.take k).reverse := by
      rw [List.take_succ_eq_append_getElem hlt, List.reverse_append]
      rfl
    have hL : (N.take k).reverse.length ≤ 200 := by rw [List.length_reverse, List.length_take]; omega
    have hfl := (tr (vk (N.take k).reverse) (vt (N.take k).reverse) 0 (vs (N.take k).reverse)).len
    rw [tr_size, v_size] at hfl
    have hmk := make_spec 6 [] 0 0 false [⟨false, [(3, N[k], 0, 0)]⟩, ⟨false, (tr (vk (N.take k).reverse) (vt (N.take k).reverse) 0 (vs (N.take k).reverse)).flat⟩] (by rw [List.length_cons, List.length_singleton]; omega) (by
      show ([(3, N[k], 0, 0)] ++ ((tr (vk (N.take k).reverse) (vt (N.take k).reverse) 0 (vs (N.take k).reverse)).flat ++ [])).length ≤ _
      rw [List.append_nil, List.length_append, List.length_singleton]
      omega)
    have e : ((6, [], 0, (([⟨false, [(3, N[k], 0, 0)]⟩, ⟨false, (tr (vk (N.take k).reverse) (vt (N.take k).reverse) 0 (vs (N.take k).reverse)).flat⟩] : List (Sl ND)).length : Int)) :: (([⟨false, [(3, N[k], 0, 0)]⟩, ⟨false, (tr (vk (N.take k).reverse) (vt (N.take k).reverse) 0 (vs (N.take k).reverse)).flat⟩] : List (Sl ND)).map Sl.l).flatten : List ND) = (tr (vk (N.take (k + 1)).reverse) (vt (N.take (k + 1)).reverse) 0 (vs (N.take (k + 1)).reverse)).flat := by
      rw [ht, v_flat]
      show (6, [], 0, 2) :: ([(3, N[k], 0, 0)] ++ ((tr (vk (N.take k).reverse) (vt (N.take k).reverse) 0 (vs (N.take k).reverse)).flat ++ [])) = _
      rw [List.append_nil]
      rfl
    rw [e] at hmk
    have step : l2_law06_SynNames (P, (k : Int), ⟨nb, N⟩, ⟨false, (tr (vk (N.take k).reverse) (vt (N.take k).reverse) 0 (vs (N.take k).reverse)).flat⟩, ()) = some (.inl (P, ((k + 1 : Nat) : Int), ⟨nb, N⟩, ⟨false, (tr (vk (N.take (k + 1)).reverse) (vt (N.take (k + 1)).reverse) 0 (vs (N.take (k + 1)).reverse)).flat⟩, ())) := by
      unfold l2_law06_SynNames
      simp only [c0, cnd_true, okAt_nat hlt, bnd_some_eq, nth_lt hlt, hmk, add1 (show k ≤ 1000000000 by omega)]
    rw [loopR_inl step, ih (k + 1) (by omega)]

theorem less_all {a c : List Tx} (h : ∀ x, x ∈ a → x ∈ c) : lessL a c = [] := by
  unfold lessL
  rw [List.filter_eq_nil_iff]
  intro x hx
  rw [decide_eq_true (h x hx)]
  decide

theorem flat_cons (k : Int) (t : Tx) (n : Int) (ks r : F) : (F.cons k t n ks r).flat = (tr k t n ks).flat ++ r.flat := by
  rw [tr_flat]
  rfl
theorem node10 (hk : Int) : nodeE 10 [] 0 3 hk false = 0 := id (Eq.refl _)
theorem err1 : errT 1 [] 0 .nil false = 0 := by kernel_rfl

theorem names_fin (n nb : Bool) {kd : Int} {t : Tx} {nn : Int} {ks : F} (hl : ks.size + 1 ≤ 120) (hG : GL (tr kd t nn ks).flat) (hc : chkT kd t nn ks true = 0) (hd : ks.dep + 1 ≤ 90) :
    l2_law06_SynNames (⟨n, (tr kd t nn ks).flat⟩, ((varsT kd t ks).length : Int), ⟨nb, varsT kd t ks⟩, ⟨false, (tr (vk (varsT kd t ks).reverse) (vt (varsT kd t ks).reverse) 0 (vs (varsT kd t ks).reverse)).flat⟩, ()) = some (.inr (.inr (true, ()))) := by
  obtain ⟨k1, k2, k3⟩ := chkT_ok.1 hc
  have hv := varsT_len kd t ks
  have hnm := names_okT k2
  have hbytes : ∀ x, x ∈ varsT kd t ks → (∀ b, b ∈ x → 0 ≤ b ∧ b ≤ 255) ∧ x.length ≤ 1000000 := by
    intro x hx
    rw [← valid_namesT k2] at hx
    obtain ⟨d, h1, h2⟩ := List.mem_filterMap.1 hx
    by_cases h : d.1 = 22
    · rw [if_pos h] at h2
      injection h2 with h2
      subst h2
      exact ⟨(hG d h1).1, (hG d h1).2.1⟩
    · rw [if_neg h] at h2; cases h2
  generalize hNN : varsT kd t ks = N at hv hnm hbytes
  have c0 : ltI (N.length : Int) (lenI N) = false := decide_eq_false (by unfold lenI; omega)
  have hin := in_spec nb N z9 (by omega)
  have hin : f_ref06_In (⟨nb, N⟩, [122, 57], ()) = some (decide (z9 ∈ N), ()) := hin
  unfold l2_law06_SynNames
  cases h50 : ltI 50 (lenI N) with
  | true => simp only [c0, cnd_false, cnd_true, bnd_some_eq]
  | false =>
    have h50' := of_decide_eq_false h50
    unfold lenI at h50'
    by_cases hz : z9 ∈ N
    · rw [decide_eq_true hz] at hin
      simp only [c0, cnd_false, cnd_true, bnd_some_eq, hin]
    · rw [decide_eq_false hz] at hin
      have hlen : (tr kd t nn ks).flat.length = ks.size + 1 := (tr kd t nn ks).len
      have hR : N.reverse.length = N.length := List.length_reverse
      have hvl := (tr (vk N.reverse) (vt N.reverse) 0 (vs N.reverse)).len
      rw [tr_size, v_size] at hvl
      have b5 := own_spec n (tr kd t nn ks).flat (by omega)
      have hmk := make_spec 10 [] 0 0 false [⟨false, [(1, [], 0, 0)]⟩, ⟨false, (tr kd t nn ks).flat⟩, ⟨false, (tr (vk N.reverse) (vt N.reverse) 0 (vs N.reverse)).flat⟩] (by rw [List.length_cons, List.length_cons, List.length_singleton]; omega) (by
        show ([(1, [], 0, 0)] ++ ((tr kd t nn ks).flat ++ ((tr (vk N.reverse) (vt N.reverse) 0 (vs N.reverse)).flat ++ []))).length ≤ _
        rw [List.append_nil, List.length_append, List.length_append, List.length_singleton]
        omega)
      have e : ((10, [], 0, (([⟨false, [(1, [], 0, 0)]⟩, ⟨false, (tr kd t nn ks).flat⟩, ⟨false, (tr (vk N.reverse) (vt N.reverse) 0 (vs N.reverse)).flat⟩] : List (Sl ND)).length : Int)) :: (([⟨false, [(1, [], 0, 0)]⟩, ⟨false, (tr kd t nn ks).flat⟩, ⟨false, (tr (vk N.reverse) (vt N.reverse) 0 (vs N.reverse)).flat⟩] : List (Sl ND)).map Sl.l).flatten : List ND)
          = (tr 10 [] 0 (.cons 1 [] 0 .nil (.cons kd t nn ks (tr (vk N.reverse) (vt N.reverse) 0 (vs N.reverse))))).flat := by
        rw [tr_flat 10, flat_cons 1, flat_cons kd t nn ks (tr (vk N.reverse) (vt N.reverse) 0 (vs N.reverse))]
        show (10, [], 0, 3) :: ([(1, [], 0, 0)] ++ ((tr kd t nn ks).flat ++ ((tr (vk N.reverse) (vt N.reverse) 0 (vs N.reverse)).flat ++ []))) = _
        rw [List.append_nil]
        rfl
      rw [e] at hmk
      have hGm : GL (tr 10 [] 0 (.cons 1 [] 0 .nil (.cons kd t nn ks (tr (vk N.reverse) (vt N.reverse) 0 (vs N.reverse))))).flat := by
        rw [tr_flat 10, flat_cons 1, flat_cons kd t nn ks (tr (vk N.reverse) (vt N.reverse) 0 (vs N.reverse))]
        intro y hy
        rcases List.mem_cons.1 hy with rfl | hy
        · exact ⟨fun b hb => absurd hb List.not_mem_nil, Nat.zero_le _, rng0⟩
        · rcases List.mem_append.1 hy with hy | hy
          · have hy : y ∈ [((1, [], 0, 0) : ND)] := hy
            rw [List.mem_singleton.1 hy]
            exact ⟨fun b hb => absurd hb List.not_mem_nil, Nat.zero_le _, rng0⟩
          · rcases List.mem_append.1 hy with hy | hy
            · exact hG y hy
            · exact v_good N.reverse (fun x hx => hbytes x (List.mem_reverse.1 hx)) y hy
      have hsz : (F.cons 1 [] 0 .nil (.cons kd t nn ks (tr (vk N.reverse) (vt N.reverse) 0 (vs N.reverse)))).size = 0 + (ks.size + ((vs N.reverse).size + 0 + 1) + 1) + 1 := rfl
      have hvs := v_size N.reverse
      have hdp : (F.cons 1 [] 0 .nil (.cons kd t nn ks (tr (vk N.reverse) (vt N.reverse) 0 (vs N.reverse)))).dep = max (0 + 1) (max (ks.dep + 1) (max ((vs N.reverse).dep + 1) 0)) := rfl
      have hvd := v_dep N.reverse
      have hE : errT 10 [] 0 (.cons 1 [] 0 .nil (.cons kd t nn ks (tr (vk N.reverse) (vt N.reverse) 0 (vs N.reverse)))) false = 0 :=
        errT_ok.2 ⟨node10 _, errF_ok.2 ⟨err1, errF_ok.2 ⟨k2, errF_ok.2 ⟨v_err N.reverse (fun x hx => hnm x (List.mem_reverse.1 hx)), rfl⟩⟩⟩⟩
      have hT : twT 10 [] (.cons 1 [] 0 .nil (.cons kd t nn ks (tr (vk N.reverse) (vt N.reverse) 0 (vs N.reverse)))) = false := by
        show (twT 1 [] .nil || (twT kd t ks || (twT (vk N.reverse) (vt N.reverse) (vs N.reverse) || false))) = false
        rw [k3, v_tw]
        rfl
      have hck : chkT 10 [] 0 (.cons 1 [] 0 .nil (.cons kd t nn ks (tr (vk N.reverse) (vt N.reverse) 0 (vs N.reverse)))) false = 0 := chkT_ok.2 ⟨by omega, hE, hT⟩
      have c1 := Check_tree false 10 [] 0 (.cons 1 [] 0 .nil (.cons kd t nn ks (tr (vk N.reverse) (vt N.reverse) 0 (vs N.reverse)))) (by omega) hGm
      rw [hck] at c1
      obtain ⟨nf, c2⟩ := Free_spec false (by omega) hGm hck
      have hfr : freeT 10 [] (.cons 1 [] 0 .nil (.cons kd t nn ks (tr (vk N.reverse) (vt N.reverse) 0 (vs N.reverse)))) = [z9] := by
        show [] ++ (lessL (freeT (vk N.reverse) (vt N.reverse) (vs N.reverse)) (varsT kd t ks) ++ []) = _
        rw [List.append_nil, List.nil_append, v_free, less_app, hNN, less_all (fun x hx => List.mem_reverse.1 hx), less_out hz]
        rfl
      rw [hfr] at c2
      have c3 := same_spec nf false [z9] [z9] (by decide)
      rw [decide_eq_true rfl] at c3
      have c3 : f_ref06_Same (⟨nf, addU [] [z9]⟩, ⟨false, [[122, 57]]⟩, ()) = some (true, ()) := c3
      have hml : (tr 10 [] 0 (.cons 1 [] 0 .nil (.cons kd t nn ks (tr (vk N.reverse) (vt N.reverse) 0 (vs N.reverse))))).flat.length = 0 + (ks.size + ((vs N.reverse).size + 0 + 1) + 1) + 1 + 1 := (tr 10 [] 0 _).len
      have c4 := rwhole_spec false (tr 10 [] 0 (.cons 1 [] 0 .nil (.cons kd t nn ks (tr (vk N.reverse) (vt N.reverse) 0 (vs N.reverse))))).flat (by omega)
      rw [(isTree_iff _).2 ⟨_, _, _, _, rfl⟩] at c4
      have b6 := own_spec false (tr 10 [] 0 (.cons 1 [] 0 .nil (.cons kd t nn ks (tr (vk N.reverse) (vt N.reverse) 0 (vs N.reverse))))).flat (by omega)
      simp only [c0, cnd_false, bnd_some_eq, hin, b5, hmk, b6, c1, e00, cnd_true, c2, c3, c4]

theorem law_Names (n : Bool) (l : List ND) (hg : gL l) : f_law06_SynNames (⟨n, l⟩, ()) = some (true, ()) := by
  rw [u_law06_SynNames, awake_ok, few_spec]
  cases hf : fewB l with
  | false => simp only [bnd_some_eq, nT, nF, cnd_false, cnd_true]
  | true =>
    obtain ⟨hl, _⟩ := fewB_ok hf
    have hG := GL_few hg hf
    have b5 := own_spec n l (by omega)
    have e60 : eqI 60 0 = false := id (Eq.refl _)
    rcases tree_or l with h | ⟨kd, t, nn, ks, rfl⟩
    · simp only [bnd_some_eq, nT, nF, cnd_false, cnd_true, b5, Pat_none false l (by omega) h, e60]
    · have hlen : (tr kd t nn ks).flat.length = ks.size + 1 := (tr kd t nn ks).len
      have c1 := Pat_tree false kd t nn ks (by omega) hG
      by_cases hc : chkT kd t nn ks true = 0
      · rw [hc] at c1
        obtain ⟨nb, c2⟩ := Names_spec false (by omega) hG hc
        obtain ⟨k1, k2, k3⟩ := chkT_ok.1 hc
        have hv := varsT_len kd t ks
        have hnm := names_okT k2
        have hpat := errT_pat k2
        have hdup : (varsT kd t ks).Nodup := by
          unfold twT at k3
          rw [hpat, cond_true] at k3
          exact (dupL_nodup _).1 k3
        have hgood : ∀ x, x ∈ varsT kd t ks → ∀ b, b ∈ x → 0 ≤ b ∧ b ≤ 255 := by
          intro x hx
          rw [← valid_namesT k2] at hx
          obtain ⟨d, h1, h2⟩ := List.mem_filterMap.1 hx
          by_cases h : d.1 = 22
          · rw [if_pos h] at h2
            injection h2 with h2
            subst h2
            exact (hG d h1).1
          · rw [if_neg h] at h2; cases h2
        have c3 := deep_spec false kd t nn ks (by omega)
        have main : ∀ (m k : Nat), k + m = (varsT kd t ks).length → loopR l3_law06_SynNames (⟨n, (tr kd t nn ks).flat⟩, (k : Int), ⟨nb, varsT kd t ks⟩, ()) = some (true, ()) := by
          intro m
          induction m with
          | zero =>
            intro k hk
            have hke : k = (varsT kd t ks).length := by omega
            subst hke
            have c0 : ltI ((varsT kd t ks).length : Int) (lenI (varsT kd t ks)) = false := decide_eq_false (by unfold lenI; omega)
            refine loopR_inr ?_
            unfold l3_law06_SynNames
            by_cases hd : ks.dep + 1 ≤ 90
            · have c4 : ltI 90 ((ks.dep + 1 : Nat) : Int) = false := decide_eq_false (by omega)
              have c5 := vloop ⟨n, (tr kd t nn ks).flat⟩ nb (varsT kd t ks) (by omega) _ (names_fin n nb (by omega) hG hc hd) _ 0 (Nat.zero_add _)
              have c5 : loopR l2_law06_SynNames (⟨n, (tr kd t nn ks).flat⟩, 0, ⟨nb, varsT kd t ks⟩, ⟨false, [(3, [122, 57], 0, 0)]⟩, ()) = some (.inr (true, ())) := c5
              simp only [c0, cnd_false, b5, bnd_some_eq, c3, c4, c5]
            · have c4 : ltI 90 ((ks.dep + 1 : Nat) : Int) = true := decide_eq_true (by omega)
              simp only [c0, cnd_false, b5, bnd_some_eq, c3, c4, cnd_true]
          | succ m ih =>
            intro k hk
            have hlt : k < (varsT kd t ks).length := by omega
            have c0 : ltI (k : Int) (lenI (varsT kd t ks)) = true := decide_eq_true (by unfold lenI; omega)
            have hmem : (varsT kd t ks)[k] ∈ varsT kd t ks := List.getElem_mem hlt
            have c4 := name_spec (hgood _ hmem)
            rw [hnm _ hmem] at c4
            have c5 := in1_loop ⟨n, (tr kd t nn ks).flat⟩ nb (varsT kd t ks) (by omega) hdup k hlt k 0 (Nat.zero_add _)
            have h0 : ((0 : Nat) : Int) = 0 := rfl
            rw [h0] at c5
            have step : l3_law06_SynNames (⟨n, (tr kd t nn ks).flat⟩, (k : Int), ⟨nb, varsT kd t ks⟩, ()) = some (.inl (⟨n, (tr kd t nn ks).flat⟩, ((k + 1 : Nat) : Int), ⟨nb, varsT kd t ks⟩, ())) := by
              unfold l3_law06_SynNames
              simp only [c0, cnd_true, okAt_nat hlt, bnd_some_eq, nth_lt hlt, c4, nT, cnd_false, c5]
            rw [loopR_inl step, ih (k + 1) (by omega)]
        have main0 := main _ 0 (Nat.zero_add _)
        have h0 : ((0 : Nat) : Int) = 0 := rfl
        rw [h0] at main0
        simp only [bnd_some_eq, nT, cnd_false, b5, c1, e00, c2, main0]
      · simp only [bnd_some_eq, nT, nF, cnd_false, cnd_true, b5, c1, eqI_ne hc]
end Fn
end Ev
