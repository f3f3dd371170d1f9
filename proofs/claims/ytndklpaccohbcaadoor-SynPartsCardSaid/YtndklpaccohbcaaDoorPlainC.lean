/- Layer 6 in plain words: names of patterns; Check; what is free. No statement of its own about the program. -/
import Derived.Test.YtndklpaccohbcaaDoorPlainB
namespace Ev
open Go
namespace Fn

/-! Names: sorted, and each once. -/
abbrev Tx := List Int
def dupL : List Tx → Bool
  | [] => false
  | a :: r => decide (a ∈ r) || dupL r
theorem dupL_nodup : ∀ l : List Tx, dupL l = false ↔ l.Nodup
  | [] => by simp [dupL]
  | a :: r => by
    unfold dupL
    rw [List.nodup_cons, ← dupL_nodup r, Bool.or_eq_false_iff, decide_eq_false_iff_not]

def namesL (l : List ND) : List Tx := l.filterMap fun x => if x.1 = 22 then some x.2.1 else none
theorem namesL_app (a b : List ND) : namesL (a ++ b) = namesL a ++ namesL b := List.filterMap_append ..
theorem namesL_cons (x : ND) (l : List ND) : namesL (x :: l) = (if x.1 = 22 then [x.2.1] else []) ++ namesL l := by
  show List.filterMap _ (x :: l) = _
  rw [List.filterMap_cons]
  by_cases h : x.1 = 22
  · rw [if_pos h, if_pos h]; rfl
  · rw [if_neg h, if_neg h]; rfl
theorem namesL_len (l : List ND) : (namesL l).length ≤ l.length := List.length_filterMap_le _ _

theorem names_loop (b : Bool) (l : List ND) (hl : l.length ≤ 10000) : ∀ (m k : Nat) (nb : Bool) (out : List Tx), k + m = l.length → out.length ≤ k →
    ∃ nb', loopR l1_syn_names (⟨b, l⟩, (l.length : Int), (k : Int), ⟨nb, out⟩, ()) = some (⟨nb', out ++ namesL (l.drop k)⟩, ()) := by
  intro m
  induction m with
  | zero =>
    intro k nb out hk _
    refine ⟨nb, loopR_inr ?_⟩
    unfold l1_syn_names
    simp only
    rw [cnd_lt, if_neg (by omega), List.drop_eq_nil_of_le (by omega)]
    show _ = some (Sum.inr ((⟨nb, out ++ []⟩ : Sl Tx), ()))
    rw [List.append_nil]
  | succ m ih =>
    intro k nb out hk ho
    have hlt : k < l.length := by omega
    rw [drop_cons hlt, namesL_cons]
    have hat := at?_nat (List.getElem?_eq_getElem hlt)
    by_cases h : l[k].1 = 22
    · have hf : fit (sumI (lenI out) (lenI [l[k].2.1])) = some () := fit_small (by show out.length + 1 ≤ _; omega)
      have step : l1_syn_names (⟨b, l⟩, (l.length : Int), (k : Int), ⟨nb, out⟩, ()) = some (.inl (⟨b, l⟩, (l.length : Int), ((k + 1 : Nat) : Int), ⟨false, out ++ [l[k].2.1]⟩, ())) := by
        unfold l1_syn_names
        simp only
        rw [cnd_lt, if_pos (by omega), hat, bnd_some_eq, cnd_eq, if_pos h, hf, bnd_some_eq, bnd_some_eq, andB_one, add1 (by omega)]
        rfl
      obtain ⟨nb', h'⟩ := ih (k + 1) false (out ++ [l[k].2.1]) (by omega) (by rw [List.length_append, List.length_singleton]; omega)
      refine ⟨nb', ?_⟩
      rw [loopR_inl step, h', if_pos h, List.append_assoc]
    · have step : l1_syn_names (⟨b, l⟩, (l.length : Int), (k : Int), ⟨nb, out⟩, ()) = some (.inl (⟨b, l⟩, (l.length : Int), ((k + 1 : Nat) : Int), ⟨nb, out⟩, ())) := by
        unfold l1_syn_names
        simp only
        rw [cnd_lt, if_pos (by omega), hat, bnd_some_eq, cnd_eq, if_neg h, bnd_some_eq, add1 (by omega)]
      obtain ⟨nb', h'⟩ := ih (k + 1) nb out (by omega) (by omega)
      refine ⟨nb', ?_⟩
      rw [loopR_inl step, h', if_neg h, List.nil_append]
theorem names_spec (b : Bool) (l : List ND) (hl : l.length ≤ 10000) : ∃ nb, f_syn_names (⟨b, l⟩, ()) = some (⟨nb, namesL l⟩, ()) := by
  rw [u_syn_names]
  exact names_loop b l hl l.length 0 true [] (by omega) (Nat.le_refl _)

/-- Two alike stand side by side. -/
def adj : List Tx → Bool
  | [] => false
  | [_] => false
  | a :: b :: r => decide (a = b) || adj (b :: r)
theorem adj_get : ∀ l : List Tx, adj l = true ↔ ∃ k, k + 1 < l.length ∧ l[k + 1]? = l[k]?
  | [] => by simp [adj]
  | [a] => by simp [adj]
  | a :: b :: r => by
    unfold adj
    rw [Bool.or_eq_true, decide_eq_true_eq, adj_get (b :: r)]
    constructor
    · rintro (h | ⟨k, h1, h2⟩)
      · exact ⟨0, by simp, by simp [h]⟩
      · exact ⟨k + 1, by simpa using h1, by simpa using h2⟩
    · rintro ⟨k, h1, h2⟩
      cases k with
      | zero => left; simpa using h2.symm
      | succ k => right; exact ⟨k, by simpa using h1, by simpa using h2⟩

theorem sumI_nat (a b : Nat) : sumI (a : Int) (b : Int) = ((a + b : Nat) : Int) := by show (a : Int) + (b : Int) = _; omega
theorem okAt_z {α : Type} {l : List α} {z : Int} {i : Nat} (e : z = (i : Int)) (h : i < l.length) : okAt l z = some i := by rw [e]; exact okAt_nat h
theorem nth_lt {α : Type} {l : List α} {i : Nat} (h : i < l.length) : nth l i = some l[i] := by unfold nth; exact List.getElem?_eq_getElem h

/-- What is left is less. -/
theorem compact_in (k0 : Nat) (nb : Bool) : ∀ (m k k2 : Nat) (s : List Tx), s.length ≤ 1000000 → k0 + k2 + m = s.length → 1 ≤ k2 → k + 1 ≤ k0 + k2 →
    ∃ c : List Tx, loopR l1_slices_Compact ((k : Int), (k0 : Int), (k2 : Int), ⟨nb, s⟩, ()) = some (.inr (⟨nb, c⟩, ())) ∧ c.length < s.length := by
  intro m
  induction m with
  | zero =>
    intro k k2 s hs h1 h2 h3
    refine ⟨(zerL s (k : Int) []).take k, loopR_inr ?_, ?_⟩
    · have e1 : lenI (dropL s (k0 : Int)) = (k2 : Int) := by unfold lenI dropL; rw [List.length_drop, Int.toNat_natCast]; omega
      have ez : (zerL s (k : Int) ([] : Tx)).length = s.length := by unfold zerL; rw [List.length_append, List.length_take, List.length_replicate, Int.toNat_natCast]; omega
      unfold l1_slices_Compact
      simp only [e1]
      rw [cnd_lt, if_neg (by omega)]
      have c1 : cutN (lenI s) (k : Int) = some k := by unfold cutN lenI; rw [if_pos (by omega), Int.toNat_natCast]
      have c2 : cutN (lenI (zerL s (k : Int) ([] : Tx))) (k : Int) = some k := by unfold cutN lenI; rw [if_pos (by omega), Int.toNat_natCast]
      rw [c1, bnd_some_eq, c2, bnd_some_eq]
      rfl
    · rw [List.length_take]; omega
  | succ m ih =>
    intro k k2 s hs h1 h2 h3
    have e1 : lenI (dropL s (k0 : Int)) = ((k2 + m + 1 : Nat) : Int) := by unfold lenI dropL; rw [List.length_drop, Int.toNat_natCast]; omega
    have e2 : subI .i64 (k2 : Int) 1 = ((k2 - 1 : Nat) : Int) := by rw [subI_i64 (by omega) (by omega)]; omega
    have l1 : leI 0 (k2 : Int) = true := decide_eq_true (by omega)
    have l2 : leI 0 ((k2 - 1 : Nat) : Int) = true := decide_eq_true (by omega)
    have step : ∃ (k' : Nat) (s' : List Tx), l1_slices_Compact ((k : Int), (k0 : Int), (k2 : Int), ⟨nb, s⟩, ()) = some (.inl ((k' : Int), (k0 : Int), ((k2 + 1 : Nat) : Int), ⟨nb, s'⟩, ())) ∧ s'.length = s.length ∧ k' + 1 ≤ k0 + (k2 + 1) := by
      unfold l1_slices_Compact
      simp only [e1]
      rw [cnd_lt, if_pos (by omega), e2, l1, l2, cnd_true, cnd_true, sumI_nat, sumI_nat, okAt_nat (by omega), okAt_nat (by omega)]
      simp only [bnd_some_eq, nth_lt (show k0 + k2 < s.length by omega), nth_lt (show k0 + (k2 - 1) < s.length by omega)]
      cases eqS s[k0 + k2] s[k0 + (k2 - 1)] with
      | true =>
        refine ⟨k, s, ?_, rfl, by omega⟩
        simp only [notB, Bool.not_true, cnd_false, bnd_some_eq, add1 (show k2 ≤ 1000000000 by omega)]
      | false =>
        refine ⟨k + 1, s.set k s[k0 + k2], ?_, by rw [List.length_set], by omega⟩
        simp only [notB, Bool.not_false, cnd_true, bnd_some_eq, okAt_nat (show k < s.length by omega), nth_lt (show k < s.length by omega), add1 (show k2 ≤ 1000000000 by omega), add1 (show k ≤ 1000000000 by omega)]
        rfl
    obtain ⟨k', s', h4, h5, h6⟩ := step
    obtain ⟨c, g1, g2⟩ := ih k' (k2 + 1) s' (by omega) (by omega) (by omega) h6
    exact ⟨c, by rw [loopR_inl h4, g1], by omega⟩

theorem compact_loop (nb : Bool) (s : List Tx) (hs : s.length ≤ 1000000) : ∀ (m k : Nat), k + m = s.length → 1 ≤ k → (∀ j, j + 1 < k → s[j + 1]? ≠ s[j]?) →
    ∃ c, loopR l2_slices_Compact ((k : Int), ⟨nb, s⟩, ()) = some (⟨nb, c⟩, ()) ∧ decide (c.length < s.length) = adj s := by
  intro m
  induction m with
  | zero =>
    intro k h1 h2 h3
    refine ⟨s, loopR_inr ?_, ?_⟩
    · unfold l2_slices_Compact
      simp only
      rw [cnd_lt, if_neg (by unfold lenI; omega)]
    · have : adj s = false := by
        cases h : adj s with
        | false => rfl
        | true =>
          obtain ⟨j, g1, g2⟩ := (adj_get s).1 h
          exact absurd g2 (h3 j (by omega))
      rw [this]
      exact decide_eq_false (Nat.lt_irrefl _)
  | succ m ih =>
    intro k h1 h2 h3
    have e2 : subI .i64 (k : Int) 1 = ((k - 1 : Nat) : Int) := by rw [subI_i64 (by omega) (by omega)]; omega
    have hc : cutN (lenI s) (k : Int) = some k := by unfold cutN lenI; rw [if_pos (by omega), Int.toNat_natCast]
    by_cases he : s[k] = s[k - 1]
    · obtain ⟨c, g1, g2⟩ := compact_in k nb m k 1 s hs (by omega) (Nat.le_refl _) (by omega)
      have g1 : loopR l1_slices_Compact ((k : Int), (k : Int), 1, ⟨nb, s⟩, ()) = some (.inr (⟨nb, c⟩, ())) := g1
      refine ⟨c, loopR_inr ?_, ?_⟩
      · unfold l2_slices_Compact
        simp only
        rw [cnd_lt, if_pos (by unfold lenI; omega), e2, okAt_nat (by omega), okAt_nat (by omega)]
        simp only [bnd_some_eq, nth_lt (show k < s.length by omega), nth_lt (show k - 1 < s.length by omega), hc]
        rw [cnd_eqS, if_pos he, g1]
      · have : adj s = true := (adj_get s).2 ⟨k - 1, by omega, by
          rw [show k - 1 + 1 = k by omega, List.getElem?_eq_getElem (by omega), List.getElem?_eq_getElem (by omega), he]⟩
        rw [this]
        exact decide_eq_true g2
    · have step : l2_slices_Compact ((k : Int), ⟨nb, s⟩, ()) = some (.inl (((k + 1 : Nat) : Int), ⟨nb, s⟩, ())) := by
        unfold l2_slices_Compact
        simp only
        rw [cnd_lt, if_pos (by unfold lenI; omega), e2, okAt_nat (by omega), okAt_nat (by omega)]
        simp only [bnd_some_eq, nth_lt (show k < s.length by omega), nth_lt (show k - 1 < s.length by omega)]
        rw [cnd_eqS, if_neg he, add1 (by omega)]
      obtain ⟨c, g1, g2⟩ := ih (k + 1) (by omega) (by omega) (fun j hj => by
        by_cases hjk : j + 1 = k
        · have : j = k - 1 := by omega
          subst this
          rw [show k - 1 + 1 = k by omega, List.getElem?_eq_getElem (by omega), List.getElem?_eq_getElem (by omega)]
          exact fun e => he (Option.some.inj e)
        · exact h3 j (by omega))
      exact ⟨c, by rw [loopR_inl step, g1], g2⟩

theorem compact_spec (nb : Bool) (s : List Tx) (hs : s.length ≤ 1000000) : ∃ c, f_slices_Compact (⟨nb, s⟩, ()) = some (⟨nb, c⟩, ()) ∧ decide (c.length < s.length) = adj s := by
  rw [u_slices_Compact, cnd_lt]
  by_cases h : lenI s < 2
  · rw [if_pos h]
    refine ⟨s, rfl, ?_⟩
    have : adj s = false := by
      have h : (s.length : Int) < 2 := h
      match s, h with
      | [], _ => rfl
      | [a], _ => rfl
      | a :: b :: r, h => simp at h; omega
    rw [this]
    exact decide_eq_false (Nat.lt_irrefl _)
  · rw [if_neg h]
    have h : ¬ (s.length : Int) < 2 := h
    exact compact_loop nb s hs (s.length - 1) 1 (by omega) (Nat.le_refl _) (fun j hj => by omega)

/-- What is sorted has two alike side by side just where it has two alike. -/
theorem adj_sorted : ∀ l : List Tx, (l.Pairwise fun a b => (!strLt b a) = true) → adj l = dupL l
  | [], _ => rfl
  | [a], _ => by simp [adj, dupL]
  | a :: b :: r, h => by
    have ih := adj_sorted (b :: r) (List.pairwise_cons.1 h).2
    unfold adj
    rw [ih]
    conv => rhs; unfold dupL
    by_cases hab : a = b
    · simp [hab]
    · have hm : a ∉ b :: r := by
        intro hm
        rcases List.mem_cons.1 hm with e | e
        · exact hab e
        · have h1 := (List.pairwise_cons.1 h).1 b (List.mem_cons_self ..)
          have h2 := (List.pairwise_cons.1 (List.pairwise_cons.1 h).2).1 a e
          simp only [Bool.not_eq_true'] at h1 h2
          exact hab (strLt_total _ _ h2 h1)
      rw [decide_eq_false hab, decide_eq_false hm]

theorem dup_perm {a b : List Tx} (h : a.Perm b) : dupL a = dupL b := by
  have := h.nodup_iff
  rw [← dupL_nodup, ← dupL_nodup] at this
  cases ha : dupL a <;> cases hb : dupL b <;> simp_all

theorem dup_of (nb : Bool) (s : List Tx) (hs : s.length ≤ 1000000) (hg : ∀ x, x ∈ s → goodS x = true) :
    ∃ c nb', bnd (f_slices_Sort (⟨nb, s⟩, ())) (fun x => f_slices_Compact (x.1, ())) = some (⟨nb', c⟩, ()) ∧ decide (c.length < s.length) = dupL s := by
  have e : f_slices_Sort (⟨nb, s⟩, ()) = some (⟨nb, s.mergeSort fun a b => !strLt b a⟩, ()) := by
    show (bif s.all goodS && decide (s.length < 4611686018427387904) then _ else none) = _
    rw [List.all_eq_true.2 hg, decide_eq_true (show s.length < 4611686018427387904 by omega)]
    rfl
  have hlen : (s.mergeSort fun a b => !strLt b a).length = s.length := List.length_mergeSort _
  obtain ⟨c, h1, h2⟩ := compact_spec nb (s.mergeSort fun a b => !strLt b a) (by omega)
  rw [e, bnd_some_eq]
  refine ⟨c, nb, h1, ?_⟩
  rw [← hlen, h2, adj_sorted, dup_perm (List.mergeSort_perm _ _)]
  refine List.pairwise_mergeSort (fun a b c h1 h2 => ?_) (fun a b => ?_) _
  · simp only [Bool.not_eq_true'] at h1 h2 ⊢
    cases h3 : strLt c a with
    | false => rfl
    | true =>
      cases h4 : strLt b c with
      | true => rw [strLt_trans _ _ _ h4 h3] at h1; cases h1
      | false =>
        have e := strLt_total _ _ h2 h4
        subst e
        rw [h1] at h3; cases h3
  · cases h3 : strLt b a with
    | false => rfl
    | true =>
      cases h4 : strLt a b with
      | false => rfl
      | true => have := strLt_trans _ _ _ h3 h4; rw [strLt_irrefl] at this; cases this
end Fn
end Ev
namespace Ev
open Go
namespace Fn

/-! Sub; names of a pattern; a name twice. -/
theorem Sits.flat_eq {l : List ND} {k : Nat} {f : F} (h : Sits l k f) : (l.drop k).take f.size = f.flat := by
  obtain ⟨post, h⟩ := h
  rw [h, ← f.len, List.take_left']
  rfl

theorem ovl_full {α : Type} (a c : List α) (h : a.length = c.length) : ovl a c = c := by
  unfold ovl
  rw [h, List.take_length, ← h, List.drop_length, List.append_nil]

theorem sub_spec (b : Bool) (l : List ND) (hl : l.length ≤ 10000) {k : Nat} {kd : Int} {t : List Int} {n : Int} {ks r : F} (h : Sits l k (.cons kd t n ks r)) :
    f_tree_Sub (⟨b, l⟩, (k : Int), ()) = some (⟨false, (tr kd t n ks).flat⟩, 0, ()) := by
  obtain ⟨g1, g2, g3, g4⟩ := h.node
  rw [u_tree_Sub, end_spec b l hl, h.ends]
  have hs : subI .i64 ((k + 1 + ks.size : Nat) : Int) (k : Int) = ((ks.size + 1 : Nat) : Int) := by rw [subI_i64 (by omega) (by omega)]; omega
  have hm : mkN ((ks.size + 1 : Nat) : Int) ((ks.size + 1 : Nat) : Int) = some (ks.size + 1) := by
    unfold mkN; rw [if_pos (by omega), Int.toNat_natCast]
  have hc : cutL l (k : Int) ((k + 1 + ks.size : Nat) : Int) = some ((l.take (k + 1 + ks.size)).drop k) := by
    unfold cutL; rw [if_pos (by omega), Int.toNat_natCast, Int.toNat_natCast]
  have hd : (l.take (k + 1 + ks.size)).drop k = (tr kd t n ks).flat := by
    rw [List.drop_take, show k + 1 + ks.size - k = (tr kd t n ks).size by rw [tr_size]; omega]
    exact h.first.flat_eq
  simp only [bnd_some_eq]
  rw [cnd_lt, if_neg (by omega)]
  simp only [hs, hm, bnd_some_eq, hc, hd]
  rw [ovl_full]
  rw [(tr kd t n ks).len, tr_size]
  exact List.length_replicate

theorem sub_none (b : Bool) (l : List ND) (k : Int) (h : f_tree_End (⟨b, l⟩, k, ()) = some (-1, ())) : f_tree_Sub (⟨b, l⟩, k, ()) = some (⟨true, []⟩, 20, ()) := by
  rw [u_tree_Sub, h]
  simp only [bnd_some_eq]
  rw [cnd_lt, if_pos (by decide)]

theorem GL.sub {l : List ND} (hg : GL l) {k : Nat} {f : F} (h : Sits l k f) : GL f.flat := by
  intro x hx
  rw [← h.flat_eq] at hx
  exact hg x (List.mem_of_mem_drop (List.mem_of_mem_take hx))

theorem good_names {l : List ND} (hg : GL l) : ∀ x, x ∈ namesL l → goodS x = true := by
  intro x hx
  obtain ⟨d, h1, h2⟩ := List.mem_filterMap.1 hx
  by_cases h : d.1 = 22
  · rw [if_pos h] at h2
    injection h2 with h2
    subst h2
    obtain ⟨g1, g2, _⟩ := hg d h1
    unfold goodS
    rw [Bool.and_eq_true, List.all_eq_true, decide_eq_true_eq]
    exact ⟨fun b hb => decide_eq_true (g1 b hb), by omega⟩
  · rw [if_neg h] at h2; cases h2

theorem check2_spec (b : Bool) (l : List ND) (hl : l.length ≤ 10000) (hg : GL l) {k : Nat} {kd : Int} {t : List Int} {n : Int} {ks r : F} (h : Sits l k (.cons kd t n ks r)) :
    f_syn_check_2 ((k : Int), ⟨b, l⟩, ()) = some (dupL (namesL (tr kd t n ks).flat), ()) := by
  obtain ⟨g1, g2, g3, g4⟩ := h.node
  rw [u_syn_check_2, sub_spec b l hl h]
  simp only [bnd_some_eq]
  have hlen : (tr kd t n ks).flat.length ≤ 10000 := by rw [(tr kd t n ks).len, tr_size]; omega
  obtain ⟨nb, h1⟩ := names_spec false (tr kd t n ks).flat hlen
  have hn := namesL_len (tr kd t n ks).flat
  obtain ⟨c, nb', h2, h3⟩ := dup_of nb (namesL (tr kd t n ks).flat) (by omega) (good_names (hg.sub h.first))
  have h4 : f_syn_count (⟨false, (tr kd t n ks).flat⟩, ()) = some (lenI (namesL (tr kd t n ks).flat), ()) := by
    rw [u_syn_count, h1]; rfl
  rw [h1]
  simp only [bnd_some_eq, h4]
  cases hs : f_slices_Sort (⟨nb, namesL (tr kd t n ks).flat⟩, ()) with
  | none => rw [hs] at h2; cases h2
  | some x =>
    rw [hs, bnd_some_eq] at h2
    simp only [bnd_some_eq, h2]
    rw [← h3]
    congr 2
    exact decide_eq_decide.2 (by unfold lenI; omega)

/-- Of each tree: the names; of all. -/
def varsF : F → List Tx
  | .nil => []
  | .cons kd t _ ks r => (bif eqI kd 22 then [t] else varsF ks) ++ varsF r
def varsT (kd : Int) (t : Tx) (ks : F) : List Tx := bif eqI kd 22 then [t] else varsF ks
theorem varsF_cons (kd : Int) (t : Tx) (n : Int) (ks r : F) : varsF (.cons kd t n ks r) = varsT kd t ks ++ varsF r := id (Eq.refl _)
theorem varsF_len : ∀ f : F, (varsF f).length ≤ f.size
  | .nil => Nat.le_refl _
  | .cons kd t n ks r => by
    have h1 := varsF_len ks
    have h2 := varsF_len r
    rw [varsF_cons, List.length_append]
    show _ ≤ ks.size + r.size + 1
    unfold varsT
    cases eqI kd 22 with
    | true => show 1 + _ ≤ _; omega
    | false => show (varsF ks).length + _ ≤ _; omega

theorem vars_all (b : Bool) (l : List ND) (hl : l.length ≤ 10000) {k : Nat} {kd : Int} {t : List Int} {n : Int} {ks : F} (h : Sits l k (tr kd t n ks)) :
    ∀ N, ks.size + 1 ≤ N → recN g_ref06_Vars N (⟨b, l⟩, (k : Int), ()) = some (⟨false, varsT kd t ks⟩, ()) := by
  refine F.each_one (l := l) (P := fun k kd t _ ks => ∀ N, ks.size + 1 ≤ N → recN g_ref06_Vars N (⟨b, l⟩, (k : Int), ()) = some (⟨false, varsT kd t ks⟩, ())) ?_ h
  clear h k kd t n ks
  intro k kd t n ks hs he N hN
  obtain ⟨N, rfl⟩ : ∃ m, N = m + 1 := ⟨N - 1, by omega⟩
  show g_ref06_Vars (recN g_ref06_Vars N) _ = _
  obtain ⟨g1, g2, g3, g4⟩ := hs.node
  rw [u_ref06_Vars, at?_nat g1]
  simp only [bnd_some_eq]
  unfold varsT
  cases h22 : eqI kd 22 with
  | true => rfl
  | false =>
    rw [cnd_false, cond_false, rkids_spec b l hl hs, bnd_some_eq]
    have loop : ∀ (g : F) (q : Nat) (pre : List Int) (out : List Tx), g.Each (fun k kd t _ ks => ∀ N, ks.size + 1 ≤ N → recN g_ref06_Vars N (⟨b, l⟩, (k : Int), ()) = some (⟨false, varsT kd t ks⟩, ())) q →
        g.size ≤ N → pre ++ g.pos q = ks.pos (k + 1) → out.length + g.size ≤ 1000000 →
        loopR (l1_ref06_Vars (recN g_ref06_Vars N)) (⟨b, l⟩, ⟨false, ks.pos (k + 1)⟩, (pre.length : Int), ⟨false, out⟩, ()) = some (⟨false, out ++ varsF g⟩, ()) := by
      intro g
      induction g with
      | nil =>
        intro q pre out _ _ hp _
        have hp : pre ++ [] = ks.pos (k + 1) := hp
        rw [List.append_nil] at hp
        refine loopR_inr ?_
        unfold l1_ref06_Vars
        simp only
        rw [cnd_lt, if_neg (by rw [hp]; unfold lenI; omega)]
        show _ = some (Sum.inr ((⟨false, out ++ []⟩ : Sl Tx), ()))
        rw [List.append_nil]
      | cons kd' t' n' ks' r' _ ih =>
        intro q pre out hE hz hp ho
        have hz : ks'.size + r'.size + 1 ≤ N := hz
        have ho : out.length + (ks'.size + r'.size + 1) ≤ 1000000 := ho
        have hp : pre ++ (q : Int) :: r'.pos (q + 1 + ks'.size) = ks.pos (k + 1) := hp
        have hlen : (ks.pos (k + 1)).length = ks.cnt := ks.pos_len _
        have hpl := congrArg List.length hp
        rw [List.length_append, List.length_cons, hlen] at hpl
        have hc := ks.cnt_le
        have hget : (ks.pos (k + 1))[pre.length]? = some (q : Int) := by rw [← hp]; simp
        have hv : (varsT kd' t' ks').length ≤ ks'.size + 1 := by
          have := varsF_len (tr kd' t' n' ks')
          have e : varsF (tr kd' t' n' ks') = varsT kd' t' ks' ++ [] := varsF_cons ..
          rw [e, List.append_nil, tr_size] at this
          exact this
        have hf : fit (sumI (lenI out) (lenI (varsT kd' t' ks'))) = some () := fit_small (by omega)
        have step : l1_ref06_Vars (recN g_ref06_Vars N) (⟨b, l⟩, ⟨false, ks.pos (k + 1)⟩, (pre.length : Int), ⟨false, out⟩, ()) = some (.inl (⟨b, l⟩, ⟨false, ks.pos (k + 1)⟩, ((pre.length + 1 : Nat) : Int), ⟨false, out ++ varsT kd' t' ks'⟩, ())) := by
          unfold l1_ref06_Vars
          simp only
          rw [cnd_lt, if_pos (by unfold lenI; rw [hlen]; omega), at?_nat hget, bnd_some_eq, hE.1 N (by omega), bnd_some_eq]
          simp only [hf, bnd_some_eq, add1 (show pre.length ≤ 1000000000 by omega), andB_false]
          rfl
        have hi := ih (q + 1 + ks'.size) (pre ++ [(q : Int)]) (out ++ varsT kd' t' ks') hE.2 (by omega) (by rw [List.append_assoc]; exact hp) (by rw [List.length_append]; omega)
        rw [List.length_append] at hi
        have hi : loopR (l1_ref06_Vars (recN g_ref06_Vars N)) (⟨b, l⟩, ⟨false, ks.pos (k + 1)⟩, ((pre.length + 1 : Nat) : Int), ⟨false, out ++ varsT kd' t' ks'⟩, ()) = _ := hi
        rw [loopR_inl step, hi, List.append_assoc]
        rfl
    exact loop ks (k + 1) [] [] he (by omega) rfl (by show 0 + ks.size ≤ _; omega)
theorem vars_spec (b : Bool) (l : List ND) (hl : l.length ≤ 10000) {k : Nat} {kd : Int} {t : List Int} {n : Int} {ks : F} (h : Sits l k (tr kd t n ks)) :
    f_ref06_Vars (⟨b, l⟩, (k : Int), ()) = some (⟨false, varsT kd t ks⟩, ()) :=
  recR_eq (ks.size + 1) fun N hN => vars_all b l hl h N hN

/-- The reference's own search for two alike. -/
theorem tw_in (nb : Bool) (v : List Tx) (hv : v.length ≤ 1000000) (i : Nat) (hi : i < v.length) : ∀ (m j : Nat), j + m = i →
    ∃ r, loopR l1_ref06_twice ((i : Int), (j : Int), ⟨nb, v⟩, ()) = some r ∧ ((∃ q, j ≤ q ∧ q < i ∧ v[q]? = v[i]?) ∧ r = .inr (true, ()) ∨ (∀ q, j ≤ q → q < i → v[q]? ≠ v[i]?) ∧ r = .inl (((i + 1 : Nat) : Int), ⟨nb, v⟩, ())) := by
  intro m
  induction m with
  | zero =>
    intro j hj
    refine ⟨_, loopR_inr ?_, .inr ⟨fun q h1 h2 => by omega, rfl⟩⟩
    unfold l1_ref06_twice
    simp only
    rw [cnd_lt, if_neg (by omega), add1 (by omega)]
  | succ m ih =>
    intro j hj
    have hstep : l1_ref06_twice ((i : Int), (j : Int), ⟨nb, v⟩, ()) = if v[i] = v[j] then some (.inr (.inr (true, ()))) else some (.inl ((i : Int), ((j + 1 : Nat) : Int), ⟨nb, v⟩, ())) := by
      unfold l1_ref06_twice
      simp only
      rw [cnd_lt, if_pos (by omega), okAt_nat hi, okAt_nat (by omega)]
      simp only [bnd_some_eq, nth_lt hi, nth_lt (show j < v.length by omega)]
      rw [cnd_eqS, add1 (by omega)]
    by_cases h : v[i] = v[j]
    · rw [if_pos h] at hstep
      exact ⟨_, loopR_inr hstep, .inl ⟨⟨j, Nat.le_refl _, by omega, by rw [List.getElem?_eq_getElem hi, List.getElem?_eq_getElem (by omega), h]⟩, rfl⟩⟩
    · rw [if_neg h] at hstep
      obtain ⟨r, h1, h2⟩ := ih (j + 1) (by omega)
      refine ⟨r, by rw [loopR_inl hstep, h1], ?_⟩
      rcases h2 with ⟨⟨q, e1, e2, e3⟩, e4⟩ | ⟨e1, e2⟩
      · exact .inl ⟨⟨q, by omega, e2, e3⟩, e4⟩
      · refine .inr ⟨fun q h3 h4 => ?_, e2⟩
        by_cases hq : q = j
        · subst hq
          rw [List.getElem?_eq_getElem hi, List.getElem?_eq_getElem (by omega)]
          exact fun e => h (Option.some.inj e).symm
        · exact e1 q (by omega) h4

theorem tw_loop (nb : Bool) (v : List Tx) (hv : v.length ≤ 1000000) : ∀ (m i : Nat), i + m = v.length → (∀ a c : Nat, a < c → c < i → v[a]? ≠ v[c]?) →
    loopR l2_ref06_twice ((i : Int), ⟨nb, v⟩, ()) = some (dupL v, ()) := by
  have hiff : dupL v = true ↔ ∃ a c : Nat, a < c ∧ c < v.length ∧ v[a]? = v[c]? := by
    have key : v.Nodup ↔ ∀ i j : Nat, i < j → j < v.length → v[i]? ≠ v[j]? := by
      unfold List.Nodup
      rw [List.pairwise_iff_getElem]
      constructor
      · intro h i j hij hj e
        rw [List.getElem?_eq_getElem (show i < v.length by omega), List.getElem?_eq_getElem hj] at e
        exact h i j (by omega) hj hij (Option.some.inj e)
      · intro h i j hi hj hij e
        exact h i j hij hj (by rw [List.getElem?_eq_getElem hi, List.getElem?_eq_getElem hj, e])
    have := (dupL_nodup v).trans key
    constructor
    · intro h
      apply Classical.byContradiction
      intro hn
      have hh : dupL v = false := this.2 fun i j hij hj e => hn ⟨i, j, hij, hj, e⟩
      rw [h] at hh; cases hh
    · rintro ⟨a, c, h1, h2, h3⟩
      cases hd : dupL v with
      | true => rfl
      | false => exact absurd h3 (this.1 hd a c h1 h2)
  intro m
  induction m with
  | zero =>
    intro i hi hno
    refine loopR_inr ?_
    unfold l2_ref06_twice
    simp only
    rw [cnd_lt, if_neg (by unfold lenI; omega)]
    cases hd : dupL v with
    | false => rfl
    | true =>
      obtain ⟨a, c, h1, h2, h3⟩ := hiff.1 hd
      exact absurd h3 (hno a c h1 (by omega))
  | succ m ih =>
    intro i hi hno
    obtain ⟨r, h1, h2⟩ := tw_in nb v hv i (by omega) i 0 (by omega)
    have h1 : loopR l1_ref06_twice ((i : Int), 0, ⟨nb, v⟩, ()) = some r := h1
    have hstep : l2_ref06_twice ((i : Int), ⟨nb, v⟩, ()) = loopR l1_ref06_twice ((i : Int), 0, ⟨nb, v⟩, ()) := by
      unfold l2_ref06_twice
      simp only
      rw [cnd_lt, if_pos (by unfold lenI; omega)]
    rw [h1] at hstep
    rcases h2 with ⟨⟨q, e1, e2, e3⟩, e4⟩ | ⟨e1, e2⟩
    · subst e4
      rw [loopR_inr hstep, hiff.2 ⟨q, i, e2, by omega, e3⟩]
    · subst e2
      rw [loopR_inl hstep, ih (i + 1) (by omega) (fun a c h3 h4 => by
        by_cases hc : c = i
        · subst hc; exact e1 a (by omega) h3
        · exact hno a c h3 (by omega))]

/-- Has a pattern a name twice? -/
def twF : F → Bool
  | .nil => false
  | .cons kd t _ ks r => (bif isPat kd then dupL (varsT kd t ks) else twF ks) || twF r
def twT (kd : Int) (t : Tx) (ks : F) : Bool := bif isPat kd then dupL (varsT kd t ks) else twF ks
theorem twF_cons (kd : Int) (t : Tx) (n : Int) (ks r : F) : twF (.cons kd t n ks r) = (twT kd t ks || twF r) := id (Eq.refl _)

theorem twice_all (b : Bool) (l : List ND) (hl : l.length ≤ 10000) {k : Nat} {kd : Int} {t : List Int} {n : Int} {ks : F} (h : Sits l k (tr kd t n ks)) :
    ∀ N, ks.size + 1 ≤ N → recN g_ref06_twice N (⟨b, l⟩, (k : Int), ()) = some (twT kd t ks, ()) := by
  refine F.each_one (l := l) (P := fun k kd t _ ks => ∀ N, ks.size + 1 ≤ N → recN g_ref06_twice N (⟨b, l⟩, (k : Int), ()) = some (twT kd t ks, ())) ?_ h
  clear h k kd t n ks
  intro k kd t n ks hs he N hN
  obtain ⟨N, rfl⟩ : ∃ m, N = m + 1 := ⟨N - 1, by omega⟩
  show g_ref06_twice (recN g_ref06_twice N) _ = _
  obtain ⟨g1, g2, g3, g4⟩ := hs.node
  rw [u_ref06_twice, at?_nat g1]
  simp only [bnd_some_eq, ispat_spec]
  unfold twT
  cases isPat kd with
  | true =>
    rw [cnd_true, cond_true, vars_spec b l hl hs, bnd_some_eq]
    have hv : (varsT kd t ks).length ≤ ks.size + 1 := by
      have := varsF_len (tr kd t n ks)
      have e : varsF (tr kd t n ks) = varsT kd t ks ++ [] := varsF_cons ..
      rw [e, List.append_nil, tr_size] at this
      exact this
    exact tw_loop false (varsT kd t ks) (by omega) _ 0 (Nat.zero_add _) (fun a c h1 h2 => by omega)
  | false =>
    rw [cnd_false, cond_false, rkids_spec b l hl hs, bnd_some_eq]
    have loop : ∀ (g : F) (q : Nat) (pre : List Int), g.Each (fun k kd t _ ks => ∀ N, ks.size + 1 ≤ N → recN g_ref06_twice N (⟨b, l⟩, (k : Int), ()) = some (twT kd t ks, ())) q →
        g.size ≤ N → pre ++ g.pos q = ks.pos (k + 1) →
        loopR (l3_ref06_twice (recN g_ref06_twice N)) (⟨b, l⟩, ⟨false, ks.pos (k + 1)⟩, (pre.length : Int), ()) = some (twF g, ()) := by
      intro g
      induction g with
      | nil =>
        intro q pre _ _ hp
        have hp : pre ++ [] = ks.pos (k + 1) := hp
        rw [List.append_nil] at hp
        refine loopR_inr ?_
        unfold l3_ref06_twice
        simp only
        rw [cnd_lt, if_neg (by rw [hp]; unfold lenI; omega)]
        rfl
      | cons kd' t' n' ks' r' _ ih =>
        intro q pre hE hz hp
        have hz : ks'.size + r'.size + 1 ≤ N := hz
        have hp : pre ++ (q : Int) :: r'.pos (q + 1 + ks'.size) = ks.pos (k + 1) := hp
        have hlen : (ks.pos (k + 1)).length = ks.cnt := ks.pos_len _
        have hpl := congrArg List.length hp
        rw [List.length_append, List.length_cons, hlen] at hpl
        have hc := ks.cnt_le
        have hget : (ks.pos (k + 1))[pre.length]? = some (q : Int) := by rw [← hp]; simp
        have step : l3_ref06_twice (recN g_ref06_twice N) (⟨b, l⟩, ⟨false, ks.pos (k + 1)⟩, (pre.length : Int), ()) =
            cnd (twT kd' t' ks') (some (.inr (true, ()))) (some (.inl (⟨b, l⟩, ⟨false, ks.pos (k + 1)⟩, ((pre.length + 1 : Nat) : Int), ()))) := by
          unfold l3_ref06_twice
          simp only
          rw [cnd_lt, if_pos (by unfold lenI; rw [hlen]; omega), at?_nat hget, bnd_some_eq, hE.1 N (by omega), bnd_some_eq, add1 (by omega)]
        rw [twF_cons]
        cases ht : twT kd' t' ks' with
        | true =>
          rw [ht, cnd_true] at step
          rw [loopR_inr step]
          rfl
        | false =>
          rw [ht, cnd_false] at step
          have hi := ih (q + 1 + ks'.size) (pre ++ [(q : Int)]) hE.2 (by omega) (by rw [List.append_assoc]; exact hp)
          rw [List.length_append] at hi
          have hi : loopR (l3_ref06_twice (recN g_ref06_twice N)) (⟨b, l⟩, ⟨false, ks.pos (k + 1)⟩, ((pre.length + 1 : Nat) : Int), ()) = _ := hi
          rw [loopR_inl step, hi]
          rfl
    exact loop ks (k + 1) [] he (by omega) rfl
theorem twice_spec (b : Bool) (l : List ND) (hl : l.length ≤ 10000) {k : Nat} {kd : Int} {t : List Int} {n : Int} {ks : F} (h : Sits l k (tr kd t n ks)) :
    f_ref06_twice (⟨b, l⟩, (k : Int), ()) = some (twT kd t ks, ()) :=
  recR_eq (ks.size + 1) fun N hN => twice_all b l hl h N hN
end Fn
end Ev
namespace Ev
open Go
namespace Fn

/-! What is an expression, or a pattern. -/
theorem zero_split {a b : Int} : (bif notB (eqI a 0) then a else b) = 0 ↔ a = 0 ∧ b = 0 := by
  cases h : eqI a 0 with
  | true =>
    have := eqI_eq.1 h
    rw [nT, cond_false]
    exact ⟨fun e => ⟨this, e⟩, fun e => e.2⟩
  | false =>
    have hn : a ≠ 0 := fun e => by rw [e] at h; cases h
    rw [nF, cond_true]
    exact ⟨fun e => absurd e hn, fun e => absurd e.1 hn⟩

theorem errT_ok {kd : Int} {t : Tx} {n : Int} {ks : F} {pat : Bool} : errT kd t n ks pat = 0 ↔ nodeE kd t n (ks.cnt : Int) ks.head pat = 0 ∧ errF (eqI kd 10) pat false ks = 0 := zero_split
theorem errF_ok {m pat odd : Bool} {kd : Int} {t : Tx} {n : Int} {ks r : F} : errF m pat odd (.cons kd t n ks r) = 0 ↔ errT kd t n ks (pat || (m && odd)) = 0 ∧ errF m pat (!odd) r = 0 := by
  rw [errF_cons]; exact zero_split

def numOk (k n : Int) : Bool := bif eqI k 1 || eqI k 23 then wrapOk n else eqI n 0
def textOk (k : Int) (t : Tx) : Bool := (bif eqI (sortK k) 0 then eqS t [] else bif eqI (sortK k) 3 then notB (ltI 200 (lenI t)) else true) && notB (eqI (sortK k) 1 && notB (nameOk t)) && notB (eqI (sortK k) 2 && notB (conOk t))
def recOk (k hk : Int) : Bool := notB (eqI k 8 && notB (eqI hk 5))
theorem nodeX_zero (k : Int) (t : Tx) (hk : Int) : nodeX k t hk = 0 ↔ textOk k t = true ∧ recOk k hk = true := by
  unfold nodeX nodeY textOk recOk
  generalize (eqI k 8 && notB (eqI hk 5)) = T
  generalize eqI (sortK k) 0 = s0
  generalize eqI (sortK k) 1 = s1
  generalize eqI (sortK k) 2 = s2
  generalize eqI (sortK k) 3 = s3
  generalize eqS t [] = a
  generalize ltI 200 (lenI t) = c
  generalize nameOk t = d
  generalize conOk t = e
  revert T s0 s1 s2 s3 a c d e
  decide
theorem nodeE_zero {k : Int} {t : Tx} {n c hk : Int} {pat : Bool} : nodeE k t n c hk pat = 0 ↔ ltI (sortK k) 0 = false ∧ isPat k = pat ∧ kidsK k c = true ∧ numOk k n = true ∧ textOk k t = true ∧ recOk k hk = true := by
  rw [← nodeX_zero]
  have e : nodeE k t n c hk pat = bif ltI (sortK k) 0 then 61 else bif notB (eqB (isPat k) pat) then 61 else bif notB (kidsK k c) then 61 else bif numOk k n then nodeX k t hk else 61 := by
    unfold nodeE numOk
    cases (eqI k 1 || eqI k 23) <;> rfl
  rw [e]
  cases ltI (sortK k) 0 with
  | true => simp
  | false =>
    have hp : eqB (isPat k) pat = true ↔ isPat k = pat := by cases isPat k <;> cases pat <;> decide
    cases h1 : eqB (isPat k) pat with
    | false =>
      have : isPat k ≠ pat := fun e => by rw [hp.2 e] at h1; cases h1
      simp [nF, this]
    | true =>
      rw [nT, cond_false, cond_false]
      have := hp.1 h1
      cases kidsK k c with
      | false => simp [nF]
      | true =>
        rw [nT, cond_false]
        cases numOk k n with
        | false => simp
        | true => simp [this]

/-- How many kids. -/
theorem kids_of {k c : Int} (h : kidsK k c = true) : (k = 5 ∨ k = 11 → c = 1) ∧ (k = 6 ∨ k = 7 ∨ k = 8 ∨ k = 12 → c = 2) ∧ (k = 9 → c = 3) ∧ (k = 10 → 3 ≤ c ∧ c % 2 = 1) ∧ (k = 1 ∨ k = 2 ∨ k = 3 ∨ k = 4 ∨ k = 21 ∨ k = 22 ∨ k = 23 → c = 0) := by
  refine ⟨?_, ?_, ?_, ?_, ?_⟩
  · rintro (rfl | rfl) <;> exact eqI_eq.1 h
  · rintro (rfl | rfl | rfl | rfl) <;> exact eqI_eq.1 h
  · rintro rfl; exact eqI_eq.1 h
  · rintro rfl
    have h : (leI 3 c && eqI (c % 2) 1) = true := h
    rw [Bool.and_eq_true, eqI_eq] at h
    exact ⟨of_decide_eq_true h.1, h.2⟩
  · rintro (rfl | rfl | rfl | rfl | rfl | rfl | rfl) <;> exact eqI_eq.1 h

theorem cnt_zero {f : F} (h : (f.cnt : Int) = 0) : f = .nil := by
  cases f with
  | nil => rfl
  | cons _ _ _ _ r => have h : ((r.cnt + 1 : Nat) : Int) = 0 := h; omega

/-- Of what is right, the names are those of all nodes. -/
theorem valid_names : ∀ (f : F) (m pat odd : Bool), errF m pat odd f = 0 → namesL f.flat = varsF f
  | .nil, _, _, _, _ => rfl
  | .cons kd t n ks r, m, pat, odd, h => by
    obtain ⟨h1, h2⟩ := errF_ok.1 h
    obtain ⟨h3, h4⟩ := errT_ok.1 h1
    have i1 := valid_names ks _ _ _ h4
    have i2 := valid_names r _ _ _ h2
    show namesL ((kd, t, n, (ks.cnt : Int)) :: (ks.flat ++ r.flat)) = _
    rw [namesL_cons, namesL_app, i1, i2, varsF_cons]
    unfold varsT
    by_cases h22 : kd = 22
    · subst h22
      have := (kids_of (nodeE_zero.1 h3).2.2.1).2.2.2.2 (by omega)
      rw [cnt_zero this, if_pos rfl]
      rfl
    · rw [if_neg h22, eqI_ne h22]; rfl
theorem valid_namesT {kd : Int} {t : Tx} {n : Int} {ks : F} {pat : Bool} (h : errT kd t n ks pat = 0) : namesL (tr kd t n ks).flat = varsT kd t ks := by
  have h' : errF false pat false (tr kd t n ks) = 0 := errF_ok.2 ⟨by rw [Bool.false_and, Bool.or_false]; exact h, rfl⟩
  rw [valid_names _ _ _ _ h', varsF_cons]
  exact List.append_nil _

theorem chk_loop (b : Bool) (l : List ND) (hl : l.length ≤ 10000) (hg : GL l) : ∀ (f : F) (q : Nat) (m pat odd : Bool), Sits l q f → q ≤ l.length → errF m pat odd f = 0 →
    loopR l1_syn_check ((q : Int), ⟨b, l⟩, ()) = bif twF f then some (63, ()) else loopR l1_syn_check (((q + f.size : Nat) : Int), ⟨b, l⟩, ()) := by
  intro f
  induction f with
  | nil => intro q m pat odd _ _ _; rfl
  | cons kd t n ks r ih1 ih2 =>
    intro q m pat odd hs hq he
    obtain ⟨g1, g2, g3, g4⟩ := hs.node
    obtain ⟨h1, h2⟩ := errF_ok.1 he
    obtain ⟨h3, h4⟩ := errT_ok.1 h1
    rw [twF_cons]
    have esz : q + (F.cons kd t n ks r).size = q + 1 + ks.size + r.size := by show q + (ks.size + r.size + 1) = _; omega
    rw [esz]
    have rest := ih2 (q + 1 + ks.size) m pat (!odd) g3 (by omega) h2
    cases hp : isPat kd with
    | true =>
      have hT : twT kd t ks = dupL (varsT kd t ks) := by unfold twT; rw [hp]; rfl
      have hc2 := check2_spec b l hl hg hs
      rw [valid_namesT h1, ← hT] at hc2
      have step : l1_syn_check ((q : Int), ⟨b, l⟩, ()) = bif twT kd t ks then some (.inr (63, ())) else some (.inl (((q + 1 + ks.size : Nat) : Int), ⟨b, l⟩, ())) := by
        unfold l1_syn_check
        simp only
        rw [cnd_lt, if_pos (by unfold lenI; omega), at?_nat g1]
        simp only [bnd_some_eq, pattern_spec, hp, nT, cnd_false, hc2]
        cases twT kd t ks with
        | true => rfl
        | false =>
          rw [cnd_false, end_spec b l hl, hs.ends]
          simp only [bnd_some_eq]
          have e1 : subI .i64 ((q + 1 + ks.size : Nat) : Int) 1 = ((q + ks.size : Nat) : Int) := by rw [subI_i64 (by omega) (by omega)]; omega
          rw [e1]
          show some (Sum.inl (addI .i64 ((q + ks.size : Nat) : Int) 1, _, ())) = _
          rw [add1 (by omega), show q + ks.size + 1 = q + 1 + ks.size by omega]
          rfl
      cases ht : twT kd t ks with
      | true =>
        rw [ht, cond_true] at step
        rw [loopR_inr step]
        rfl
      | false =>
        rw [ht, cond_false] at step
        rw [loopR_inl step, rest]
        rfl
    | false =>
      have hT : twT kd t ks = twF ks := by unfold twT; rw [hp]; rfl
      have step : l1_syn_check ((q : Int), ⟨b, l⟩, ()) = some (.inl (((q + 1 : Nat) : Int), ⟨b, l⟩, ())) := by
        unfold l1_syn_check
        simp only
        rw [cnd_lt, if_pos (by unfold lenI; omega), at?_nat g1]
        simp only [bnd_some_eq, pattern_spec, hp, nF, cnd_true]
        show some (Sum.inl (addI .i64 (q : Int) 1, _, ())) = _
        rw [add1 (by omega)]
      rw [loopR_inl step, ih1 (q + 1) _ _ _ g2 (by omega) h4, hT]
      cases twF ks with
      | true => rfl
      | false => rw [cond_false, rest]; rfl

/-- What Check comes to, of a tree. -/
def chkT (kd : Int) (t : Tx) (n : Int) (ks : F) (pat : Bool) : Int :=
  bif ltI 100 ((ks.dep + 1 : Nat) : Int) then 60 else bif notB (eqI (errT kd t n ks pat) 0) then errT kd t n ks pat else bif twT kd t ks then 63 else 0

theorem check_tree (b : Bool) (kd : Int) (t : Tx) (n : Int) (ks : F) (pat : Bool) (hl : ks.size + 1 ≤ 4000) (hg : GL (tr kd t n ks).flat) : f_syn_check (⟨b, (tr kd t n ks).flat⟩, pat, ()) = some (chkT kd t n ks pat, ()) := by
  have hlen : (tr kd t n ks).flat.length = ks.size + 1 := (tr kd t n ks).len
  have hs := sits_tree kd t n ks
  rw [u_syn_check, whole_spec b _ (by omega), (isTree_iff _).2 ⟨kd, t, n, ks, rfl⟩, deep_spec b kd t n ks (by omega)]
  have hw := walk_spec b b _ (by omega) hg pat hs
  have h0 : ((0 : Nat) : Int) = 0 := rfl
  rw [h0] at hw
  have c0 : ltI 4000 (lenI (tr kd t n ks).flat) = false := decide_eq_false (by unfold lenI; omega)
  simp only [c0, cnd_false, bnd_some_eq, nT, hw]
  unfold chkT
  cases ltI 100 ((ks.dep + 1 : Nat) : Int) with
  | true => rfl
  | false =>
    rw [cnd_false, cond_false]
    unfold walkV
    cases hv : eqI (errT kd t n ks pat) 0 with
    | false =>
      rw [cond_false, nF]
      show cnd (notB (eqI (errT kd t n ks pat) 0)) _ _ = _
      rw [hv]
      rfl
    | true =>
      rw [cond_true, nT, cond_false]
      show loopR l1_syn_check (0, _, ()) = _
      have hz := eqI_eq.1 hv
      have := chk_loop b (tr kd t n ks).flat (by omega) hg (tr kd t n ks) 0 false pat false hs (by omega) (errF_ok.2 ⟨by rw [Bool.false_and, Bool.or_false]; exact hz, rfl⟩)
      rw [h0, twF_cons] at this
      rw [this]
      have hf : twF .nil = false := rfl
      rw [hf, Bool.or_false]
      cases twT kd t ks with
      | true => rfl
      | false =>
        rw [cond_false, cond_false]
        refine loopR_inr ?_
        unfold l1_syn_check
        simp only
        rw [cnd_lt, if_neg (by unfold lenI; rw [hlen, tr_size]; omega)]

theorem rcheck_tree (b : Bool) (kd : Int) (t : Tx) (n : Int) (ks : F) (pat : Bool) (hl : ks.size + 1 ≤ 4000) (hg : GL (tr kd t n ks).flat) : f_ref06_Check (⟨b, (tr kd t n ks).flat⟩, pat, ()) = some (chkT kd t n ks pat, ()) := by
  have hlen : (tr kd t n ks).flat.length = ks.size + 1 := (tr kd t n ks).len
  have hs := sits_tree kd t n ks
  have hd := rdeep_spec b _ (by omega) hs
  have hw := nodes_spec b _ (by omega) hg pat hs
  have ht := twice_spec b _ (by omega) hs
  have h0 : ((0 : Nat) : Int) = 0 := rfl
  rw [h0] at hw hd ht
  rw [u_ref06_Check, rwhole_spec b _ (by omega), (isTree_iff _).2 ⟨kd, t, n, ks, rfl⟩]
  have c0 : ltI 4000 (lenI (tr kd t n ks).flat) = false := decide_eq_false (by unfold lenI; omega)
  simp only [c0, cnd_false, bnd_some_eq, nT, hw, hd, ht]
  unfold chkT
  cases ltI 100 ((ks.dep + 1 : Nat) : Int) with
  | true => rfl
  | false =>
    rw [cnd_false, cond_false]
    cases notB (eqI (errT kd t n ks pat) 0) with
    | true => rfl
    | false => cases twT kd t ks <;> rfl

theorem check_none (b : Bool) (l : List ND) (hl : l.length ≤ 4000) (pat : Bool) (h : isTree l = false) : f_syn_check (⟨b, l⟩, pat, ()) = some (60, ()) := by
  rw [u_syn_check, whole_spec b _ (by omega), h]
  have c0 : ltI 4000 (lenI l) = false := decide_eq_false (by unfold lenI; omega)
  simp only [c0, cnd_false, bnd_some_eq, nF, cnd_true]
theorem rcheck_none (b : Bool) (l : List ND) (hl : l.length ≤ 4000) (pat : Bool) (h : isTree l = false) : f_ref06_Check (⟨b, l⟩, pat, ()) = some (60, ()) := by
  rw [u_ref06_Check, rwhole_spec b _ (by omega), h]
  have c0 : ltI 4000 (lenI l) = false := decide_eq_false (by unfold lenI; omega)
  simp only [c0, cnd_false, bnd_some_eq, nF, cnd_true]

/-- The answer, of any nodes. -/
theorem tree_or (l : List ND) : isTree l = false ∨ ∃ kd t n ks, l = (tr kd t n ks).flat := by
  cases h : isTree l with
  | false => exact .inl rfl
  | true => exact .inr ((isTree_iff l).1 h)

theorem Check_tree (b : Bool) (kd : Int) (t : Tx) (n : Int) (ks : F) (hl : ks.size + 1 ≤ 4000) (hg : GL (tr kd t n ks).flat) : f_syn_Check (⟨b, (tr kd t n ks).flat⟩, ()) = some (chkT kd t n ks false, ()) := by
  rw [u_syn_Check, check_tree b kd t n ks false hl hg]; rfl
theorem Pat_tree (b : Bool) (kd : Int) (t : Tx) (n : Int) (ks : F) (hl : ks.size + 1 ≤ 4000) (hg : GL (tr kd t n ks).flat) : f_syn_Pat (⟨b, (tr kd t n ks).flat⟩, ()) = some (chkT kd t n ks true, ()) := by
  rw [u_syn_Pat, check_tree b kd t n ks true hl hg]; rfl
theorem Check_none (b : Bool) (l : List ND) (hl : l.length ≤ 4000) (h : isTree l = false) : f_syn_Check (⟨b, l⟩, ()) = some (60, ()) := by
  rw [u_syn_Check, check_none b l hl false h]; rfl
theorem Pat_none (b : Bool) (l : List ND) (hl : l.length ≤ 4000) (h : isTree l = false) : f_syn_Pat (⟨b, l⟩, ()) = some (60, ()) := by
  rw [u_syn_Pat, check_none b l hl true h]; rfl

theorem chkT_ok {kd : Int} {t : Tx} {n : Int} {ks : F} {pat : Bool} : chkT kd t n ks pat = 0 ↔ ks.dep + 1 ≤ 100 ∧ errT kd t n ks pat = 0 ∧ twT kd t ks = false := by
  unfold chkT
  cases h : ltI 100 ((ks.dep + 1 : Nat) : Int) with
  | true =>
    have := of_decide_eq_true h
    rw [cond_true]
    constructor
    · intro e; cases e
    · rintro ⟨e, _⟩; omega
  | false =>
    have := of_decide_eq_false h
    rw [cond_false, zero_split]
    constructor
    · rintro ⟨e1, e2⟩
      refine ⟨by omega, e1, ?_⟩
      cases ht : twT kd t ks with
      | false => rfl
      | true => rw [ht] at e2; cases e2
    · rintro ⟨_, e1, e2⟩
      refine ⟨e1, ?_⟩
      rw [e2]; rfl
end Fn
end Ev
namespace Ev
open Go
namespace Fn

/-! What is free: as often as it stands there. -/
def lessL (a c : List Tx) : List Tx := a.filter fun x => !decide (x ∈ c)
theorem lessL_len (a c : List Tx) : (lessL a c).length ≤ a.length := List.length_filter_le _ _

theorem in_loop (n : Bool) (v : List Tx) (s : Tx) (hv : v.length ≤ 1000000) : ∀ (m k : Nat), k + m = v.length → loopR l1_ref06_In (⟨n, v⟩, s, (k : Int), ()) = some (decide (s ∈ v.drop k), ()) := by
  intro m
  induction m with
  | zero =>
    intro k hk
    refine loopR_inr ?_
    unfold l1_ref06_In
    simp only
    rw [cnd_lt, if_neg (by unfold lenI; omega), List.drop_eq_nil_of_le (by omega)]
    simp
  | succ m ih =>
    intro k hk
    have hlt : k < v.length := by omega
    rw [drop_cons hlt]
    have step : l1_ref06_In (⟨n, v⟩, s, (k : Int), ()) = if v[k] = s then some (.inr (true, ())) else some (.inl (⟨n, v⟩, s, ((k + 1 : Nat) : Int), ())) := by
      unfold l1_ref06_In
      simp only
      rw [cnd_lt, if_pos (by unfold lenI; omega), at?_nat (List.getElem?_eq_getElem hlt), bnd_some_eq, cnd_eqS, add1 (by omega)]
    by_cases h : v[k] = s
    · rw [if_pos h] at step
      rw [loopR_inr step]
      simp [h, -List.getElem_cons_drop]
    · rw [if_neg h] at step
      have hn : s ≠ v[k] := fun e => h e.symm
      rw [loopR_inl step, ih (k + 1) (by omega)]
      simp [hn, -List.getElem_cons_drop]
theorem in_spec (n : Bool) (v : List Tx) (s : Tx) (hv : v.length ≤ 1000000) : f_ref06_In (⟨n, v⟩, s, ()) = some (decide (s ∈ v), ()) := by
  rw [u_ref06_In]
  exact in_loop n v s hv v.length 0 (Nat.zero_add _)

theorem less_loop (n1 n2 : Bool) (a c : List Tx) (ha : a.length ≤ 1000000) (hc : c.length ≤ 1000000) : ∀ (m k : Nat) (out : List Tx), k + m = a.length → out.length ≤ k →
    loopR l1_ref06_less (⟨n1, a⟩, ⟨n2, c⟩, (k : Int), ⟨false, out⟩, ()) = some (⟨false, out ++ lessL (a.drop k) c⟩, ()) := by
  intro m
  induction m with
  | zero =>
    intro k out hk _
    refine loopR_inr ?_
    unfold l1_ref06_less
    simp only
    rw [cnd_lt, if_neg (by unfold lenI; omega), List.drop_eq_nil_of_le (by omega)]
    show _ = some (Sum.inr ((⟨false, out ++ []⟩ : Sl Tx), ()))
    rw [List.append_nil]
  | succ m ih =>
    intro k out hk ho
    have hlt : k < a.length := by omega
    have hat := at?_nat (List.getElem?_eq_getElem hlt)
    rw [drop_cons hlt]
    unfold lessL
    rw [List.filter_cons]
    by_cases h : a[k] ∈ c
    · have step : l1_ref06_less (⟨n1, a⟩, ⟨n2, c⟩, (k : Int), ⟨false, out⟩, ()) = some (.inl (⟨n1, a⟩, ⟨n2, c⟩, ((k + 1 : Nat) : Int), ⟨false, out⟩, ())) := by
        unfold l1_ref06_less
        simp only
        rw [cnd_lt, if_pos (by unfold lenI; omega), hat, bnd_some_eq, in_spec n2 c _ hc, bnd_some_eq, decide_eq_true h]
        simp only [nT, cnd_false, bnd_some_eq, add1 (show k ≤ 1000000000 by omega)]
      rw [loopR_inl step, ih (k + 1) out (by omega) (by omega), decide_eq_true h]
      rfl
    · have hf : fit (sumI (lenI out) (lenI [a[k]])) = some () := fit_small (by show out.length + 1 ≤ _; omega)
      have step : l1_ref06_less (⟨n1, a⟩, ⟨n2, c⟩, (k : Int), ⟨false, out⟩, ()) = some (.inl (⟨n1, a⟩, ⟨n2, c⟩, ((k + 1 : Nat) : Int), ⟨false, out ++ [a[k]]⟩, ())) := by
        unfold l1_ref06_less
        simp only
        rw [cnd_lt, if_pos (by unfold lenI; omega), hat, bnd_some_eq, in_spec n2 c _ hc, bnd_some_eq, decide_eq_false h]
        simp only [nF, cnd_true, bnd_some_eq, hf, andB_false, add1 (show k ≤ 1000000000 by omega)]
        rfl
      rw [loopR_inl step, ih (k + 1) (out ++ [a[k]]) (by omega) (by rw [List.length_append, List.length_singleton]; omega), decide_eq_false h, List.append_assoc]
      rfl
theorem less_spec (n1 n2 : Bool) (a c : List Tx) (ha : a.length ≤ 1000000) (hc : c.length ≤ 1000000) : f_ref06_less (⟨n1, a⟩, ⟨n2, c⟩, ()) = some (⟨false, lessL a c⟩, ()) := by
  rw [u_ref06_less]
  exact less_loop n1 n2 a c ha hc a.length 0 [] (Nat.zero_add _) (Nat.le_refl _)

/-- Of pairs of a pattern and what it leads to. -/
def pairsL : List (List Tx) → List (List Tx) → List Tx
  | _ :: e :: L, v :: _ :: V => lessL e v ++ pairsL L V
  | _, _ => []
def freeK (kd : Int) (t : Tx) (L V : List (List Tx)) : List Tx :=
  bif eqI kd 3 then [t] else bif eqI kd 5 then lessL (L.getD 0 []) [t] else bif eqI kd 7 || eqI kd 12 then L.getD 0 [] ++ lessL (L.getD 1 []) [t] else
  bif eqI kd 8 then lessL (L.getD 0 [] ++ L.getD 1 []) [t] else bif eqI kd 10 then L.getD 0 [] ++ pairsL L.tail V.tail else L.flatten
def varssF : F → List (List Tx)
  | .nil => []
  | .cons kd t _ ks r => varsT kd t ks :: varssF r
def freesF : F → List (List Tx)
  | .nil => []
  | .cons kd t _ ks r => freeK kd t (freesF ks) (varssF ks) :: freesF r
def freeT (kd : Int) (t : Tx) (ks : F) : List Tx := freeK kd t (freesF ks) (varssF ks)
theorem freesF_cons (kd : Int) (t : Tx) (n : Int) (ks r : F) : freesF (.cons kd t n ks r) = freeT kd t ks :: freesF r := id (Eq.refl _)
theorem varssF_cons (kd : Int) (t : Tx) (n : Int) (ks r : F) : varssF (.cons kd t n ks r) = varsT kd t ks :: varssF r := id (Eq.refl _)

theorem pairs_len : ∀ (L V : List (List Tx)), (pairsL L V).length ≤ L.flatten.length
  | [], _ => Nat.zero_le _
  | [_], _ => Nat.zero_le _
  | _ :: _ :: _, [] => Nat.zero_le _
  | _ :: _ :: _, [_] => Nat.zero_le _
  | p :: e :: L, v :: w :: V => by
    have h1 := pairs_len L V
    have h2 := lessL_len e v
    show (lessL e v ++ pairsL L V).length ≤ (p ++ (e ++ L.flatten)).length
    simp only [List.length_append]
    omega
theorem freeK_len (kd : Int) (t : Tx) (L V : List (List Tx)) : (freeK kd t L V).length ≤ L.flatten.length + 1 := by
  have h01 : (L.getD 0 []).length + (L.getD 1 []).length ≤ L.flatten.length := by
    match L with
    | [] => exact Nat.le_refl _
    | [a] => show a.length + 0 ≤ (a ++ []).length; rw [List.append_nil]; omega
    | a :: b :: r => show a.length + b.length ≤ (a ++ (b ++ r.flatten)).length; simp only [List.length_append]; omega
  have ht : (L.getD 0 []).length + (pairsL L.tail V.tail).length ≤ L.flatten.length := by
    have := pairs_len L.tail V.tail
    match L, this with
    | [], _ => exact Nat.le_refl _
    | a :: r, h => show a.length + (pairsL r V.tail).length ≤ (a ++ r.flatten).length; rw [List.length_append]; have h : (pairsL r V.tail).length ≤ r.flatten.length := h; omega
  unfold freeK
  cases eqI kd 3 with
  | true => show 1 ≤ _; omega
  | false =>
    cases eqI kd 5 with
    | true => have := lessL_len (L.getD 0 []) [t]; show (lessL _ _).length ≤ _; omega
    | false =>
      cases (eqI kd 7 || eqI kd 12) with
      | true => have := lessL_len (L.getD 1 []) [t]; show (_ ++ lessL _ _).length ≤ _; rw [List.length_append]; omega
      | false =>
        cases eqI kd 8 with
        | true => have := lessL_len (L.getD 0 [] ++ L.getD 1 []) [t]; rw [List.length_append] at this; show (lessL _ _).length ≤ _; omega
        | false =>
          cases eqI kd 10 with
          | true => show (_ ++ pairsL _ _).length ≤ _; rw [List.length_append]; omega
          | false => show L.flatten.length ≤ _; omega
theorem frees_len : ∀ f : F, (freesF f).flatten.length ≤ f.size
  | .nil => Nat.le_refl _
  | .cons kd t n ks r => by
    have h1 := frees_len ks
    have h2 := frees_len r
    have h3 := freeK_len kd t (freesF ks) (varssF ks)
    rw [freesF_cons]
    show (freeT kd t ks ++ (freesF r).flatten).length ≤ ks.size + r.size + 1
    unfold freeT
    rw [List.length_append]
    omega
theorem freeT_len (kd : Int) (t : Tx) (ks : F) : (freeT kd t ks).length ≤ ks.size + 1 := by
  have h1 := frees_len ks
  have h3 := freeK_len kd t (freesF ks) (varssF ks)
  unfold freeT
  omega
theorem varsT_len (kd : Int) (t : Tx) (ks : F) : (varsT kd t ks).length ≤ ks.size + 1 := by
  have := varsF_len (tr kd t 0 ks)
  have e : varsF (tr kd t 0 ks) = varsT kd t ks ++ [] := varsF_cons ..
  rw [e, List.append_nil, tr_size] at this
  exact this

/-- One, two trees. -/
theorem cnt_one {f : F} (h : (f.cnt : Int) = 1) : ∃ k t n ks, f = tr k t n ks := by
  cases f with
  | nil => cases h
  | cons k t n ks r =>
    have h : ((r.cnt + 1 : Nat) : Int) = 1 := h
    have : r = .nil := cnt_zero (by omega)
    subst this
    exact ⟨k, t, n, ks, rfl⟩
theorem cnt_two {f : F} (h : (f.cnt : Int) = 2) : ∃ k t n ks k2 t2 n2 ks2, f = .cons k t n ks (tr k2 t2 n2 ks2) := by
  cases f with
  | nil => cases h
  | cons k t n ks r =>
    have h : ((r.cnt + 1 : Nat) : Int) = 2 := h
    obtain ⟨k2, t2, n2, ks2, rfl⟩ := cnt_one (f := r) (by omega)
    exact ⟨k, t, n, ks, k2, t2, n2, ks2, rfl⟩

/-- That each is right, as it stands. -/
def PF (b : Bool) (l : List ND) (k : Nat) (kd : Int) (t : Tx) (n : Int) (ks : F) : Prop :=
  ∀ pat, errT kd t n ks pat = 0 → ∀ N, ks.size + 1 ≤ N → recN g_ref06_free N (⟨b, l⟩, (k : Int), ()) = some (⟨false, freeT kd t ks⟩, ())

theorem at?_zero {α : Type} (x : α) (r : List α) : at? (x :: r) 0 = some x := id (Eq.refl _)
theorem at?_one {α : Type} (x y : α) (r : List α) : at? (x :: y :: r) 1 = some y := id (Eq.refl _)

theorem free_pairs (b : Bool) (l : List ND) (hl : l.length ≤ 10000) (N : Nat) (K : List Int) (hK : K.length ≤ 10000) : ∀ (g : F) (q : Nat) (pre : List Int) (m pat odd : Bool) (out : List Tx), Sits l q g → g.Each (PF b l) q → errF m pat odd g = 0 →
    g.size ≤ N → pre ++ g.pos q = K → out.length + g.size ≤ 1000000 →
    loopR (l1_ref06_free (recN g_ref06_free N)) (⟨b, l⟩, ⟨false, K⟩, (pre.length : Int), ⟨false, out⟩, ()) = some (⟨false, out ++ pairsL (freesF g) (varssF g)⟩, ())
  | .nil => by
    intro q pre m pat odd out _ _ _ _ hp _
    have hp : pre ++ [] = K := hp
    rw [List.append_nil] at hp
    refine loopR_inr ?_
    unfold l1_ref06_free
    simp only
    rw [hp, add1 (by omega), cnd_lt, if_neg (by unfold lenI; omega)]
    show _ = some (Sum.inr ((⟨false, out ++ []⟩ : Sl Tx), ()))
    rw [List.append_nil]
  | .cons x' t' n' ks' .nil => by
    intro q pre m pat odd out _ _ _ _ hp _
    have hp : pre ++ [(q : Int)] = K := hp
    have hpl := congrArg List.length hp
    rw [List.length_append, List.length_singleton] at hpl
    refine loopR_inr ?_
    unfold l1_ref06_free
    simp only
    rw [add1 (by omega), cnd_lt, if_neg (by unfold lenI; omega)]
    show _ = some (Sum.inr ((⟨false, out ++ []⟩ : Sl Tx), ()))
    rw [List.append_nil]
  | .cons xp tp np ksp (.cons xe te ne kse r) => by
    intro q pre m pat odd out hs hE he hz hp ho
    obtain ⟨_, _, s3, _⟩ := hs.node
    obtain ⟨_, _, s4, s5⟩ := s3.node
    obtain ⟨e1, e2⟩ := errF_ok.1 he
    obtain ⟨e3, e4⟩ := errF_ok.1 e2
    have hz : ksp.size + (kse.size + r.size + 1) + 1 ≤ N := hz
    have ho : out.length + (ksp.size + (kse.size + r.size + 1) + 1) ≤ 1000000 := ho
    have hp : pre ++ (q : Int) :: ((q + 1 + ksp.size : Nat) : Int) :: r.pos (q + 1 + ksp.size + 1 + kse.size) = K := hp
    have hpl := congrArg List.length hp
    rw [List.length_append, List.length_cons, List.length_cons] at hpl
    have hg1 : K[pre.length]? = some (q : Int) := by rw [← hp]; simp
    have hg2 : K[pre.length + 1]? = some ((q + 1 + ksp.size : Nat) : Int) := by rw [← hp]; simp
    have hv := varsT_len xp tp ksp
    have hfl := freeT_len xe te kse
    have hll := lessL_len (freeT xe te kse) (varsT xp tp ksp)
    have hf : fit (sumI (lenI out) (lenI (lessL (freeT xe te kse) (varsT xp tp ksp)))) = some () := fit_small (by omega)
    have e2' : addI .i64 (pre.length : Int) 2 = ((pre.length + 2 : Nat) : Int) := by rw [addI_i64 (by omega) (by omega)]; omega
    have step : l1_ref06_free (recN g_ref06_free N) (⟨b, l⟩, ⟨false, K⟩, (pre.length : Int), ⟨false, out⟩, ()) = some (.inl (⟨b, l⟩, ⟨false, K⟩, ((pre.length + 2 : Nat) : Int), ⟨false, out ++ lessL (freeT xe te kse) (varsT xp tp ksp)⟩, ())) := by
      unfold l1_ref06_free
      simp only
      rw [add1 (by omega), cnd_lt, if_pos (by unfold lenI; omega), at?_nat hg2, bnd_some_eq, hE.2.1 _ e3 N (by omega), bnd_some_eq, at?_nat hg1, bnd_some_eq, vars_spec b l hl hs.first, bnd_some_eq]
      simp only [less_spec false false (freeT xe te kse) (varsT xp tp ksp) (by omega) (by omega), bnd_some_eq, hf, e2', andB_false]
      rfl
    have hi := free_pairs b l hl N K hK r (q + 1 + ksp.size + 1 + kse.size) (pre ++ [(q : Int), ((q + 1 + ksp.size : Nat) : Int)]) m pat (!!odd) (out ++ lessL (freeT xe te kse) (varsT xp tp ksp)) s4 hE.2.2 e4 (by omega) (by rw [List.append_assoc]; exact hp) (by rw [List.length_append]; omega)
    rw [List.length_append] at hi
    have hi : loopR (l1_ref06_free (recN g_ref06_free N)) (⟨b, l⟩, ⟨false, K⟩, ((pre.length + 2 : Nat) : Int), ⟨false, out ++ lessL (freeT xe te kse) (varsT xp tp ksp)⟩, ()) = _ := hi
    rw [loopR_inl step, hi, List.append_assoc]
    rfl

theorem free_row (b : Bool) (l : List ND) (N : Nat) (K : List Int) (hK : K.length ≤ 10000) : ∀ (g : F) (q : Nat) (pre : List Int) (m pat odd : Bool) (out : List Tx), g.Each (PF b l) q → errF m pat odd g = 0 →
    g.size ≤ N → pre ++ g.pos q = K → out.length + g.size ≤ 1000000 →
    loopR (l2_ref06_free (recN g_ref06_free N)) (⟨b, l⟩, ⟨false, K⟩, (pre.length : Int), ⟨false, out⟩, ()) = some (⟨false, out ++ (freesF g).flatten⟩, ()) := by
  intro g
  induction g with
  | nil =>
    intro q pre m pat odd out _ _ _ hp _
    have hp : pre ++ [] = K := hp
    rw [List.append_nil] at hp
    refine loopR_inr ?_
    unfold l2_ref06_free
    simp only
    rw [hp, cnd_lt, if_neg (by unfold lenI; omega)]
    show _ = some (Sum.inr ((⟨false, out ++ []⟩ : Sl Tx), ()))
    rw [List.append_nil]
  | cons x' t' n' ks' r _ ih =>
    intro q pre m pat odd out hE he hz hp ho
    obtain ⟨e1, e2⟩ := errF_ok.1 he
    have hz : ks'.size + r.size + 1 ≤ N := hz
    have ho : out.length + (ks'.size + r.size + 1) ≤ 1000000 := ho
    have hp : pre ++ (q : Int) :: r.pos (q + 1 + ks'.size) = K := hp
    have hpl := congrArg List.length hp
    rw [List.length_append, List.length_cons] at hpl
    have hg1 : K[pre.length]? = some (q : Int) := by rw [← hp]; simp
    have hfl := freeT_len x' t' ks'
    have hf : fit (sumI (lenI out) (lenI (freeT x' t' ks'))) = some () := fit_small (by omega)
    have step : l2_ref06_free (recN g_ref06_free N) (⟨b, l⟩, ⟨false, K⟩, (pre.length : Int), ⟨false, out⟩, ()) = some (.inl (⟨b, l⟩, ⟨false, K⟩, ((pre.length + 1 : Nat) : Int), ⟨false, out ++ freeT x' t' ks'⟩, ())) := by
      unfold l2_ref06_free
      simp only
      rw [cnd_lt, if_pos (by unfold lenI; omega), at?_nat hg1, bnd_some_eq, hE.1 _ e1 N (by omega), bnd_some_eq]
      simp only [hf, bnd_some_eq, andB_false, add1 (show pre.length ≤ 1000000000 by omega)]
      rfl
    have hi := ih (q + 1 + ks'.size) (pre ++ [(q : Int)]) m pat (!odd) (out ++ freeT x' t' ks') hE.2 e2 (by omega) (by rw [List.append_assoc]; exact hp) (by rw [List.length_append]; omega)
    rw [List.length_append] at hi
    have hi : loopR (l2_ref06_free (recN g_ref06_free N)) (⟨b, l⟩, ⟨false, K⟩, ((pre.length + 1 : Nat) : Int), ⟨false, out ++ freeT x' t' ks'⟩, ()) = _ := hi
    rw [loopR_inl step, hi, List.append_assoc]
    rfl

theorem free_all (b : Bool) (l : List ND) (hl : l.length ≤ 10000) {k : Nat} {kd : Int} {t : List Int} {n : Int} {ks : F} (h : Sits l k (tr kd t n ks)) : PF b l k kd t n ks := by
  refine F.each_one (l := l) (P := PF b l) ?_ h
  clear h k kd t n ks
  intro k kd t n ks hs he pat herr N hN
  obtain ⟨N, rfl⟩ : ∃ m, N = m + 1 := ⟨N - 1, by omega⟩
  show g_ref06_free (recN g_ref06_free N) _ = _
  obtain ⟨g1, g2, g3, g4⟩ := hs.node
  obtain ⟨h1, h2⟩ := errT_ok.1 herr
  obtain ⟨k1, k2, k3, k4, k5⟩ := kids_of (nodeE_zero.1 h1).2.2.1
  have hpos : (ks.pos (k + 1)).length = ks.cnt := ks.pos_len _
  have hc := ks.cnt_le
  rw [u_ref06_free, at?_nat g1, rkids_spec b l hl hs]
  simp only [bnd_some_eq]
  unfold freeT freeK
  cases e3 : eqI kd 3 with
  | true => rfl
  | false =>
    rw [cnd_false, cond_false]
    cases e5 : eqI kd 5 with
    | true =>
      obtain ⟨x', t', n', ks', rfl⟩ := cnt_one (k1 (.inl (eqI_eq.1 e5)))
      obtain ⟨i1, i2⟩ := errF_ok.1 h2
      have hfl := freeT_len x' t' ks'
      have hsz : (tr x' t' n' ks').size = ks'.size + 1 := rfl
      rw [cnd_true, cond_true]
      show bnd (at? (((k + 1 : Nat) : Int) :: []) 0) _ = _
      rw [at?_zero, bnd_some_eq, he.1 _ i1 N (by omega), bnd_some_eq, less_spec _ _ _ _ (by omega) (by rw [List.length_singleton]; omega)]
      rfl
    | false =>
      rw [cnd_false, cond_false]
      have e7 : (bnd (cnd (eqI kd 7) (some ((⟨b, l⟩ : Sl ND), (⟨false, ks.pos (k + 1)⟩ : Sl Int), kd, eqI kd 7, kd, t, n, (ks.cnt : Int), ())) (some (⟨b, l⟩, ⟨false, ks.pos (k + 1)⟩, kd, eqI kd 12, kd, t, n, (ks.cnt : Int), ()))) fun x => some x) = some (⟨b, l⟩, ⟨false, ks.pos (k + 1)⟩, kd, eqI kd 7 || eqI kd 12, kd, t, n, (ks.cnt : Int), ()) := by
        cases eqI kd 7 <;> rfl
      have e7' : cnd (eqI kd 7) (some ((⟨b, l⟩ : Sl ND), (⟨false, ks.pos (k + 1)⟩ : Sl Int), kd, eqI kd 7, kd, t, n, (ks.cnt : Int), ())) (some (⟨b, l⟩, ⟨false, ks.pos (k + 1)⟩, kd, eqI kd 12, kd, t, n, (ks.cnt : Int), ())) = some (⟨b, l⟩, ⟨false, ks.pos (k + 1)⟩, kd, eqI kd 7 || eqI kd 12, kd, t, n, (ks.cnt : Int), ()) := by
        cases eqI kd 7 <;> rfl
      rw [e7', bnd_some_eq]
      simp only
      cases e712 : (eqI kd 7 || eqI kd 12) with
      | true =>
        have hk : kd = 7 ∨ kd = 12 := by
          rcases Bool.or_eq_true _ _ ▸ e712 with e | e
          · exact .inl (eqI_eq.1 e)
          · exact .inr (eqI_eq.1 e)
        obtain ⟨xa, ta, na, ka, xb, tb, nb, kb, rfl⟩ := cnt_two (k2 (by omega))
        obtain ⟨i1, i2⟩ := errF_ok.1 h2
        obtain ⟨i3, _⟩ := errF_ok.1 i2
        have hfa := freeT_len xa ta ka
        have hfb := freeT_len xb tb kb
        have hsz : (F.cons xa ta na ka (tr xb tb nb kb)).size = ka.size + (kb.size + 1) + 1 := rfl
        have hll := lessL_len (freeT xb tb kb) [t]
        rw [cnd_true, cond_true]
        show bnd (at? (((k + 1 : Nat) : Int) :: ((k + 1 + 1 + ka.size : Nat) : Int) :: []) 0) _ = _
        rw [at?_zero, bnd_some_eq, he.1 _ i1 N (by omega), bnd_some_eq]
        show bnd (at? (((k + 1 : Nat) : Int) :: ((k + 1 + 1 + ka.size : Nat) : Int) :: []) 1) _ = _
        rw [at?_one, bnd_some_eq, he.2.1 _ i3 N (by omega), bnd_some_eq, less_spec _ _ _ _ (by omega) (by rw [List.length_singleton]; omega), bnd_some_eq]
        have hf : fit (sumI (lenI (freeT xa ta ka)) (lenI (lessL (freeT xb tb kb) [t]))) = some () := fit_small (by omega)
        simp only [hf, bnd_some_eq, andB_false]
        rfl
      | false =>
        rw [cnd_false, cond_false]
        cases e8 : eqI kd 8 with
        | true =>
          obtain ⟨xa, ta, na, ka, xb, tb, nb, kb, rfl⟩ := cnt_two (k2 (by have := eqI_eq.1 e8; omega))
          obtain ⟨i1, i2⟩ := errF_ok.1 h2
          obtain ⟨i3, _⟩ := errF_ok.1 i2
          have hfa := freeT_len xa ta ka
          have hfb := freeT_len xb tb kb
          have hsz : (F.cons xa ta na ka (tr xb tb nb kb)).size = ka.size + (kb.size + 1) + 1 := rfl
          rw [cnd_true, cond_true]
          show bnd (at? (((k + 1 : Nat) : Int) :: ((k + 1 + 1 + ka.size : Nat) : Int) :: []) 0) _ = _
          rw [at?_zero, bnd_some_eq, he.1 _ i1 N (by omega), bnd_some_eq]
          show bnd (at? (((k + 1 : Nat) : Int) :: ((k + 1 + 1 + ka.size : Nat) : Int) :: []) 1) _ = _
          have hf : fit (sumI (lenI (freeT xa ta ka)) (lenI (freeT xb tb kb))) = some () := fit_small (by omega)
          rw [at?_one, bnd_some_eq, he.2.1 _ i3 N (by omega), bnd_some_eq, hf, bnd_some_eq]
          have hla : (app (freeT xa ta ka) (freeT xb tb kb)).length ≤ 1000000 := by unfold app; rw [List.length_append]; omega
          rw [less_spec _ _ _ _ hla (by rw [List.length_singleton]; omega), bnd_some_eq]
          rfl
        | false =>
          rw [cnd_false, cond_false]
          cases e10 : eqI kd 10 with
          | true =>
            rw [cnd_true, cond_true]
            rw [e10] at h2
            cases ks with
            | nil => have := (k4 (eqI_eq.1 e10)).1; exact absurd this (by decide)
            | cons xa ta na ka r =>
              obtain ⟨i1, i2⟩ := errF_ok.1 h2
              have hfa := freeT_len xa ta ka
              have hsz : (F.cons xa ta na ka r).size = ka.size + r.size + 1 := rfl
              have hp1 : (F.cons xa ta na ka r).pos (k + 1) = ((k + 1 : Nat) : Int) :: r.pos (k + 1 + 1 + ka.size) := rfl
              rw [hp1, at?_zero, bnd_some_eq, he.1 _ i1 N (by omega), bnd_some_eq]
              exact free_pairs b l hl N _ (by rw [← hp1, hpos]; omega) r (k + 1 + 1 + ka.size) [((k + 1 : Nat) : Int)] _ _ _ (freeT xa ta ka) g2.node.2.2.1 he.2 i2 (by omega) rfl (by omega)
          | false =>
            rw [cnd_false, cond_false]
            exact free_row b l N _ (by rw [hpos]; omega) ks (k + 1) [] _ _ _ [] he h2 (by omega) rfl (by show 0 + ks.size ≤ _; omega)

theorem free_spec (b : Bool) (l : List ND) (hl : l.length ≤ 10000) {k : Nat} {kd : Int} {t : List Int} {n : Int} {ks : F} (h : Sits l k (tr kd t n ks)) {pat : Bool} (he : errT kd t n ks pat = 0) :
    f_ref06_free (⟨b, l⟩, (k : Int), ()) = some (⟨false, freeT kd t ks⟩, ()) :=
  recR_eq (ks.size + 1) fun N hN => free_all b l hl h pat he N hN

/-- Each once, in order. -/
def addU (o xs : List Tx) : List Tx := xs.foldl (fun o x => if x ∈ o then o else o ++ [x]) o
theorem addU_nil (o : List Tx) : addU o [] = o := id (Eq.refl _)
theorem addU_cons (o : List Tx) (x : Tx) (xs : List Tx) : addU o (x :: xs) = addU (if x ∈ o then o else o ++ [x]) xs := id (Eq.refl _)
theorem addU_app (o xs ys : List Tx) : addU o (xs ++ ys) = addU (addU o xs) ys := List.foldl_append ..
theorem addU_len : ∀ (xs o : List Tx), (addU o xs).length ≤ o.length + xs.length
  | [], o => Nat.le_refl _
  | x :: xs, o => by
    have := addU_len xs (if x ∈ o then o else o ++ [x])
    rw [addU_cons, List.length_cons]
    by_cases h : x ∈ o
    · rw [if_pos h] at this ⊢; omega
    · rw [if_neg h] at this ⊢; rw [List.length_append, List.length_singleton] at this; omega

theorem rFree_loop (n : Bool) (a : List Tx) (ha : a.length ≤ 1000000) : ∀ (m k : Nat) (out : List Tx), k + m = a.length → out.length ≤ k →
    loopR l1_ref06_Free ((k : Int), ⟨n, a⟩, ⟨false, out⟩, ()) = some (⟨false, addU out (a.drop k)⟩, ()) := by
  intro m
  induction m with
  | zero =>
    intro k out hk _
    refine loopR_inr ?_
    unfold l1_ref06_Free
    simp only
    rw [cnd_lt, if_neg (by unfold lenI; omega), List.drop_eq_nil_of_le (by omega)]
    rfl
  | succ m ih =>
    intro k out hk ho
    have hlt : k < a.length := by omega
    rw [drop_cons hlt, addU_cons]
    by_cases h : a[k] ∈ out
    · have step : l1_ref06_Free ((k : Int), ⟨n, a⟩, ⟨false, out⟩, ()) = some (.inl (((k + 1 : Nat) : Int), ⟨n, a⟩, ⟨false, out⟩, ())) := by
        unfold l1_ref06_Free
        simp only
        rw [cnd_lt, if_pos (by unfold lenI; omega), okAt_nat hlt]
        simp only [bnd_some_eq, nth_lt hlt, in_spec false out _ (show out.length ≤ 1000000 by omega), decide_eq_true h, nT, cnd_false, add1 (show k ≤ 1000000000 by omega)]
      rw [loopR_inl step, ih (k + 1) out (by omega) (by omega), if_pos h]
    · have hf : fit (sumI (lenI out) (lenI [a[k]])) = some () := fit_small (by show out.length + 1 ≤ _; omega)
      have step : l1_ref06_Free ((k : Int), ⟨n, a⟩, ⟨false, out⟩, ()) = some (.inl (((k + 1 : Nat) : Int), ⟨n, a⟩, ⟨false, out ++ [a[k]]⟩, ())) := by
        unfold l1_ref06_Free
        simp only
        rw [cnd_lt, if_pos (by unfold lenI; omega), okAt_nat hlt]
        simp only [bnd_some_eq, nth_lt hlt, in_spec false out _ (show out.length ≤ 1000000 by omega), decide_eq_false h, nF, cnd_true, hf, andB_false, add1 (show k ≤ 1000000000 by omega)]
        rfl
      rw [loopR_inl step, ih (k + 1) (out ++ [a[k]]) (by omega) (by rw [List.length_append, List.length_singleton]; omega), if_neg h]

theorem rFree_spec (b : Bool) {kd : Int} {t : List Int} {n : Int} {ks : F} (hl : ks.size + 1 ≤ 10000) {pat : Bool} (he : errT kd t n ks pat = 0) :
    f_ref06_Free (⟨b, (tr kd t n ks).flat⟩, ()) = some (⟨false, addU [] (freeT kd t ks)⟩, ()) := by
  have hlen : (tr kd t n ks).flat.length = ks.size + 1 := (tr kd t n ks).len
  have hf := free_spec b _ (by omega) (sits_tree kd t n ks) he
  have h0 : ((0 : Nat) : Int) = 0 := rfl
  rw [h0] at hf
  rw [u_ref06_Free, hf, bnd_some_eq]
  have := freeT_len kd t ks
  exact rFree_loop false (freeT kd t ks) (by omega) _ 0 [] (Nat.zero_add _) (Nat.le_refl _)
end Fn
end Ev
