/- Layer 15 in plain words, third part: what is put is got, and what is got is put. No statement of its own about the program. -/
import Derived.Test.YtdekfefcpdejkaaGreatDoorPlainB
namespace Ev
open Go
namespace Fn

/-! What is put, and what is got. -/
def numD (l : List Int) (p : Nat) : Int ⊕ (Int × Nat) := match l with
  | [] => .inl 152
  | c0 :: r => if c0 < 128 then .inr (c0, p + 1) else match r with
    | [] => .inl 152
    | c1 :: r => if c1 = 0 then .inl 153 else if c1 < 128 then .inr (c0 % 128 + c1 * 128, p + 2) else match r with
      | [] => .inl 152
      | c2 :: _ => if 1048576 < c0 % 128 + c1 % 128 * 128 + c2 % 128 * 16384 ∨ c2 = 0 then .inl 153 else if c2 < 128 then .inr (c0 % 128 + c1 % 128 * 128 + c2 * 16384, p + 3) else .inl 153

theorem numG_drop (s : List Int) (p : Nat) : numG s p = numD (s.drop p) p := by
  unfold numG numD
  have h0 : s[p]? = (s.drop p)[0]? := by rw [List.getElem?_drop]; rfl
  have h1 : s[p + 1]? = (s.drop p)[1]? := by rw [List.getElem?_drop]
  have h2 : s[p + 2]? = (s.drop p)[2]? := by rw [List.getElem?_drop]
  rw [h0, h1, h2]
  match s.drop p with
  | [] => rfl
  | [a] => rfl
  | [a, b] => rfl
  | a :: b :: c :: r => rfl

theorem numD_nb {n : Int} (h0 : 0 ≤ n) (h : n ≤ 1048576) (post : List Int) (p : Nat) : numD (nb n ++ post) p = .inr (n, p + (nb n).length) := by
  unfold nb
  split
  · show numD (n :: post) p = _
    simp only [numD]
    rw [if_pos (by assumption)]; rfl
  · split
    · show numD ((n % 128 + 128) :: (n / 128) :: post) p = _
      simp only [numD]
      rw [if_neg (by omega), if_neg (by omega), if_pos (by omega)]
      congr 2
      omega
    · show numD ((n % 128 + 128) :: (n / 128 % 128 + 128) :: (n / 16384) :: post) p = _
      simp only [numD]
      rw [if_neg (by omega), if_neg (by omega), if_neg (by omega), if_neg (by omega), if_pos (by omega)]
      congr 2
      omega

theorem numD_cut {n : Int} (p k : Nat) (hk : k < (nb n).length) : numD ((nb n).take k) p = .inl 152 := by
  unfold nb at hk ⊢
  split at hk
  · rename_i h1
    rw [if_pos h1]
    have : k = 0 := by simpa using hk
    subst this; rfl
  · rename_i h1
    rw [if_neg h1]
    split at hk
    · rename_i h2
      rw [if_pos h2]
      have : k = 0 ∨ k = 1 := by simp at hk; omega
      rcases this with rfl | rfl
      · rfl
      · show numD [n % 128 + 128] p = _
        simp only [numD]
        rw [if_neg (by omega)]
    · rename_i h2
      rw [if_neg h2]
      have : k = 0 ∨ k = 1 ∨ k = 2 := by simp at hk; omega
      rcases this with rfl | rfl | rfl
      · rfl
      · show numD [n % 128 + 128] p = _
        simp only [numD]
        rw [if_neg (by omega)]
      · show numD [n % 128 + 128, n / 128 % 128 + 128] p = _
        simp only [numD]
        rw [if_neg (by omega), if_neg (by omega), if_neg (by omega)]

theorem numD_inv {l : List Int} (hl : ∀ b, b ∈ l → 0 ≤ b ∧ b < 256) {p : Nat} {n : Int} {q : Nat} (h : numD l p = .inr (n, q)) : ∃ post, l = nb n ++ post ∧ q = p + (nb n).length ∧ 0 ≤ n ∧ n ≤ 1048576 := by
  unfold numD at h
  split at h
  · cases h
  · rename_i c0 r
    have b0 := hl c0 (List.mem_cons_self ..)
    split at h
    · cases h
      rename_i h1
      have : nb n = [n] := by unfold nb; rw [if_pos h1]
      exact ⟨r, by rw [this]; rfl, by rw [this]; rfl, b0.1, by omega⟩
    · rename_i h1
      split at h
      · cases h
      · rename_i c1 r
        have b1 := hl c1 (List.mem_cons_of_mem _ (List.mem_cons_self ..))
        split at h
        · cases h
        · split at h
          · cases h
            have : nb (c0 % 128 + c1 * 128) = [c0, c1] := by
              unfold nb
              rw [if_neg (by omega), if_pos (by omega)]
              congr 1
              · omega
              · congr 1; omega
            exact ⟨r, by rw [this]; rfl, by rw [this]; rfl, by omega, by omega⟩
          · split at h
            · cases h
            · rename_i c2 r
              have b2 := hl c2 (List.mem_cons_of_mem _ (List.mem_cons_of_mem _ (List.mem_cons_self ..)))
              split at h
              · cases h
              · split at h
                · cases h
                  have : nb (c0 % 128 + c1 % 128 * 128 + c2 * 16384) = [c0, c1, c2] := by
                    unfold nb
                    rw [if_neg (by omega), if_neg (by omega)]
                    congr 1
                    · omega
                    · congr 1
                      · omega
                      · congr 1; omega
                  exact ⟨r, by rw [this]; rfl, by rw [this]; rfl, by omega, by omega⟩
                · cases h

def okN (ns : List Int) : Prop := ∀ n, n ∈ ns → 0 ≤ n ∧ n ≤ 1048576

theorem numsG_nb {s : List Int} : ∀ (ns : List Int) (p : Nat) (post : List Int), okN ns → s.drop p = ns.flatMap nb ++ post → numsG s ns.length p = .inr (ns, p + (ns.flatMap nb).length)
  | [], p, _, _, _ => rfl
  | n :: ns, p, post, hn, h => by
    obtain ⟨h0, h1⟩ := hn n (List.mem_cons_self ..)
    rw [List.flatMap_cons, List.append_assoc] at h
    have hd : s.drop (p + (nb n).length) = ns.flatMap nb ++ post := by
      rw [← List.drop_drop, h, List.drop_left]
    simp only [List.length_cons, numsG]
    rw [numG_drop, h, numD_nb h0 h1]
    simp only
    rw [numsG_nb ns _ post (fun m hm => hn m (List.mem_cons_of_mem _ hm)) hd]
    simp only [List.flatMap_cons, List.length_append]
    rw [Nat.add_assoc]

theorem numsG_cut {s : List Int} : ∀ (ns : List Int) (p j : Nat), okN ns → j < (ns.flatMap nb).length → s.drop p = (ns.flatMap nb).take j → numsG s ns.length p = .inl 152
  | [], p, j, _, hj, _ => by simp at hj
  | n :: ns, p, j, hn, hj, h => by
    obtain ⟨h0, h1⟩ := hn n (List.mem_cons_self ..)
    rw [List.flatMap_cons] at h hj
    rw [List.length_append] at hj
    simp only [List.length_cons, numsG]
    rw [numG_drop]
    by_cases hjn : j < (nb n).length
    · rw [List.take_append_of_le_length (by omega)] at h
      rw [h, numD_cut p j hjn]
    · rw [List.take_append, List.take_of_length_le (by omega)] at h
      have hd : s.drop (p + (nb n).length) = (ns.flatMap nb).take (j - (nb n).length) := by
        rw [← List.drop_drop, h, List.drop_left]
      rw [h, numD_nb h0 h1]
      simp only
      rw [numsG_cut ns _ (j - (nb n).length) (fun m hm => hn m (List.mem_cons_of_mem _ hm)) (by omega) hd]

theorem numsG_inv {s : List Int} (hs : ∀ b, b ∈ s → 0 ≤ b ∧ b < 256) : ∀ (k p : Nat) (ns : List Int) (q : Nat), numsG s k p = .inr (ns, q) → ns.length = k ∧ okN ns ∧ q = p + (ns.flatMap nb).length ∧ s.drop p = ns.flatMap nb ++ s.drop q
  | 0, p, ns, q, h => by
    simp only [numsG] at h
    cases h
    exact ⟨rfl, (fun n hn => by cases hn), rfl, rfl⟩
  | k + 1, p, ns, q, h => by
    simp only [numsG] at h
    split at h
    · cases h
    · rename_i n r hn
      split at h
      · cases h
      · rename_i l t hl
        cases h
        rw [numG_drop] at hn
        obtain ⟨post, e1, e2, e3, e4⟩ := numD_inv (fun b hb => hs b (List.mem_of_mem_drop hb)) hn
        obtain ⟨f1, f2, f3, f4⟩ := numsG_inv hs k r l q hl
        have hd : s.drop r = post := by rw [e2, ← List.drop_drop, e1, List.drop_left]
        refine ⟨by simp [f1], fun m hm => ?_, by rw [f3, e2, List.flatMap_cons, List.length_append]; omega, ?_⟩
        · rcases List.mem_cons.1 hm with rfl | hm
          · exact ⟨e3, e4⟩
          · exact f2 m hm
        · rw [e1, ← hd, f4, List.flatMap_cons, List.append_assoc]

theorem far_back {far : Int} {long : Bool} (h : fitsB far long = true) : farS (if long = true then 4 else 1) (farL (lowB (if long = true then 4 else 1) far)) = far := by
  unfold fitsB at h
  cases long
  · have h := of_decide_eq_true h
    simp only [Bool.false_eq_true, if_false, lowB, farL, farS, if_true]
    split <;> omega
  · have h := of_decide_eq_true h
    simp only [if_true, lowB, farL, farS]
    rw [if_neg (by omega)]
    split <;> omega

theorem low_back {b0 : Int} {w : Nat} {l : List Int} (hl : l.length = w) (hb : ∀ b, b ∈ l → 0 ≤ b ∧ b < 256) (hw : w = 1 ∨ w = 4) (_ : b0 = 0) : lowB w (farS w (farL l)) = l ∧ fitsB (farS w (farL l)) (decide (w = 4)) = true := by
  rcases hw with rfl | rfl
  · match l, hl with
    | [a], _ =>
      have ha := hb a (List.mem_cons_self ..)
      have e : farL [a] = a := by simp [farL]
      rw [e]
      unfold farS fitsB
      rw [if_pos rfl]
      refine ⟨?_, ?_⟩
      · simp only [lowB]
        split
        · congr 1; omega
        · congr 1; omega
      · simp only [decide_eq_true_eq]
        rw [if_neg (by omega)]
        exact decide_eq_true (by split <;> omega)
  · match l, hl with
    | [a, b, c, d], _ =>
      have ha := hb a (by simp)
      have hb' := hb b (by simp)
      have hc := hb c (by simp)
      have hd := hb d (by simp)
      have e : farL [a, b, c, d] = a + 256 * (b + 256 * (c + 256 * d)) := by simp [farL]
      rw [e]
      unfold farS fitsB
      rw [if_neg (by omega)]
      refine ⟨?_, ?_⟩
      · simp only [lowB]
        split
        · congr 1
          · omega
          · congr 1
            · omega
            · congr 1
              · omega
              · congr 1; omega
        · congr 1
          · omega
          · congr 1
            · omega
            · congr 1
              · omega
              · congr 1; omega
      · simp only [decide_true, if_true]
        exact decide_eq_true (by split <;> omega)

/-- The told numbers are as many as there are. -/
theorem told_length (o a b : Int) : (toldL o a b).length = (numI o).toNat := by
  have h1 := numI_lt o
  unfold toldL
  split
  · rename_i hg
    have := goes_num hg
    rw [List.length_take]
    simp; omega
  · rw [List.length_take]
    simp; omega

theorem told_ok {o a b : Int} (ha : 0 ≤ a ∧ a ≤ 1048576) (hb : 0 ≤ b ∧ b ≤ 1048576) : okN (toldL o a b) := fun n hn => by
  rcases told_mem hn with rfl | rfl
  · exact ha
  · exact hb

theorem told_get {o a b : Int} (h4 : 0 < numI o ∨ goesB o = true ∨ a = 0) (h5 : numI o = 2 ∨ (numI o = 1 ∧ goesB o = true) ∨ b = 0) :
    (goesB o = true → (toldL o a b).getD 0 0 = b) ∧ (goesB o = false → (toldL o a b).getD 0 0 = a ∧ (toldL o a b).getD 1 0 = b) := by
  have h1 := numI_lt o
  unfold toldL
  refine ⟨fun hg => ?_, fun hg => ?_⟩
  · have := goes_num hg
    rw [if_pos hg]
    have : numI o = 0 ∨ numI o = 1 := by omega
    rcases this with h | h
    · rw [h]
      have : b = 0 := by rcases h5 with h5 | h5 | h5 <;> omega
      simp [this]
    · rw [h]; rfl
  · rw [hg]
    simp only [Bool.false_eq_true, if_false]
    have : numI o = 0 ∨ numI o = 1 ∨ numI o = 2 := by omega
    rcases this with h | h | h
    · rw [h]
      have hb0 : b = 0 := by rcases h5 with h5 | h5 | h5 <;> omega
      have ha0 : a = 0 := by
        rcases h4 with h4 | h4 | h4
        · omega
        · rw [hg] at h4; cases h4
        · exact h4
      simp [hb0, ha0]
    · rw [h]
      have hb0 : b = 0 := by
        rcases h5 with h5 | h5 | h5
        · omega
        · rw [hg] at h5; cases h5.2
        · exact h5
      subst hb0
      exact ⟨rfl, rfl⟩
    · rw [h]; exact ⟨rfl, rfl⟩

/-- What is put is got again. -/
theorem get_put {o a b far : Int} {long : Bool} (hr : rightB o a b long = true) (hgo : goesB o = true ∨ far = 0) (hf : goesB o = true → fitsB far long = true) (more : List Int) :
    getB ((headB o a b long ++ (if goesB o = true then lowB (if long = true then 4 else 1) far else [])) ++ more) =
      ((o, (if goesB o = true then 0 else a), b), far, long, ((headB o a b long ++ (if goesB o = true then lowB (if long = true then 4 else 1) far else [])).length : Int), 0) := by
  have hr' := hr
  unfold rightB at hr'
  rw [Bool.and_eq_true] at hr'
  obtain ⟨h1, h2, h3, h4, h5⟩ := check_in hr'.1
  obtain ⟨t1, t2⟩ := told_get h4 h5
  have htl := told_length o a b
  unfold headB
  simp only [List.cons_append]
  have hm : (if long = true then o + 128 else o) % 128 = o := by split <;> omega
  have hd : decide (128 ≤ (if long = true then o + 128 else o)) = long := by
    cases long
    · exact decide_eq_false (by simp; omega)
    · exact decide_eq_true (by simp; omega)
  have hk : knownB o = true := decide_eq_true h1
  have hbad : ¬ (knownB o = false ∨ (128 ≤ (if long = true then o + 128 else o) ∧ goesB o = false)) := by
    rintro (h | ⟨h, hg⟩)
    · rw [hk] at h; cases h
    · cases long
      · simp at h; omega
      · rw [hg] at hr'; simp at hr'
  generalize hhd : (if long = true then o + 128 else o) = hd0 at *
  simp only [getB]
  rw [hm, if_neg hbad, hd, ← htl]
  have hns := numsG_nb (s := hd0 :: (List.flatMap nb (toldL o a b) ++ (if goesB o = true then lowB (if long = true then 4 else 1) far else []) ++ more)) (toldL o a b) 1 ((if goesB o = true then lowB (if long = true then 4 else 1) far else []) ++ more) (told_ok h2 h3) (by simp)
  rw [hns]
  simp only
  unfold resG wideN
  cases hg : goesB o with
  | false =>
    obtain ⟨g1, g2⟩ := t2 hg
    have hlong : long = false := by
      cases long
      · rfl
      · rw [hg] at hr'; simp at hr'
    have hf0 : far = 0 := hgo.resolve_left (by rw [hg]; simp)
    simp only [Bool.false_eq_true, if_false, Nat.add_zero, List.append_nil]
    rw [if_neg (by simp; omega), g1, g2, hlong, hf0]
    simp; omega
  | true =>
    have g1 := t1 hg
    simp only [if_true]
    generalize hw : (if long = true then 4 else 1) = w
    have hll : (lowB w far).length = w := low_len w far
    rw [if_neg (by simp [hll]; omega), g1]
    have hdr : List.take w (List.drop (1 + (List.flatMap nb (toldL o a b)).length) (hd0 :: (List.flatMap nb (toldL o a b) ++ lowB w far ++ more))) = lowB w far := by
      rw [Nat.add_comm, List.drop_succ_cons, List.append_assoc, List.drop_left]
      rw [List.take_append_of_le_length (by omega), List.take_of_length_le (by omega)]
    rw [hdr]
    have hfb := far_back (hf hg)
    rw [hw] at hfb
    rw [hfb]
    simp [hll]; omega
end Fn
end Ev
namespace Ev
open Go
namespace Fn

theorem nb_bytes {n : Int} (h0 : 0 ≤ n) (h : n ≤ 1048576) : ∀ b, b ∈ nb n → 0 ≤ b ∧ b < 256 := by
  intro b hb
  unfold nb at hb
  split at hb
  · simp at hb; omega
  · split at hb
    · simp at hb; omega
    · simp at hb; omega

theorem low_bytes : ∀ (k : Nat) (n : Int) (b : Int), b ∈ lowB k n → 0 ≤ b ∧ b < 256
  | 0, _, b, h => by simp [lowB] at h
  | k + 1, n, b, h => by
    simp only [lowB] at h
    rcases List.mem_cons.1 h with rfl | h
    · omega
    · exact low_bytes k _ b h

theorem head_bytes {o a b : Int} {long : Bool} (ho : 0 ≤ o ∧ o < 21) (ha : 0 ≤ a ∧ a ≤ 1048576) (hb : 0 ≤ b ∧ b ≤ 1048576) : ∀ x, x ∈ headB o a b long → 0 ≤ x ∧ x < 256 := by
  intro x hx
  unfold headB at hx
  rcases List.mem_cons.1 hx with rfl | hx
  · split <;> omega
  · obtain ⟨n, hn, hx⟩ := List.mem_flatMap.1 hx
    have := told_ok (o := o) ha hb n hn
    exact nb_bytes this.1 this.2 x hx

/-- What is put, if it may be. -/
theorem put_cases (o a b far : Int) (long : Bool) : (∃ e, putB o a b far long = ([], e) ∧ e ≠ 0) ∨
    (putB o a b far long = (headB o a b long ++ (if goesB o = true then lowB (if long = true then 4 else 1) far else []), 0) ∧ rightB o a b long = true ∧ (goesB o = true ∨ far = 0) ∧ (goesB o = true → fitsB far long = true)) := by
  unfold putB
  by_cases h : rightB o a b long = true ∧ (goesB o = true ∨ far = 0)
  · rw [if_pos h]
    cases hg : goesB o with
    | false => exact .inr ⟨by simp, h.1, by rw [hg] at h; exact h.2, fun h => by cases h⟩
    | true =>
      cases hf : fitsB far long with
      | false => exact .inl ⟨151, by simp, by decide⟩
      | true => exact .inr ⟨by simp, h.1, .inl rfl, fun _ => rfl⟩
  · rw [if_neg h]
    exact .inl ⟨150, rfl, by decide⟩

theorem put_bytes {o a b far : Int} {long : Bool} (hr : rightB o a b long = true) : ∀ x, x ∈ headB o a b long ++ (if goesB o = true then lowB (if long = true then 4 else 1) far else []) → 0 ≤ x ∧ x < 256 := by
  unfold rightB at hr
  rw [Bool.and_eq_true] at hr
  obtain ⟨h1, h2, h3, _⟩ := check_in hr.1
  intro x hx
  rcases List.mem_append.1 hx with hx | hx
  · exact head_bytes h1 h2 h3 x hx
  · split at hx
    · exact low_bytes _ _ x hx
    · cases hx

theorem put_len {o a b far : Int} {long : Bool} : 1 ≤ (headB o a b long ++ (if goesB o = true then lowB (if long = true then 4 else 1) far else [])).length ∧ (headB o a b long ++ (if goesB o = true then lowB (if long = true then 4 else 1) far else [])).length ≤ 11 := by
  have := head_len o a b long
  have h2 : (if goesB o = true then lowB (if long = true then 4 else 1) far else []).length ≤ 4 := by
    split
    · rw [low_len]; split <;> omega
    · simp
  rw [List.length_append]
  omega

theorem resG_err {s : List Int} {long : Bool} {o : Int} {p : Nat} {l : List Int} (h : (resG s long o p l).2.2.2.2 ≠ 0) : resG s long o p l = failG (resG s long o p l).2.2.2.2 := by
  unfold resG at h ⊢
  split
  · rfl
  · rename_i h1
    rw [if_neg h1] at h
    split at h <;> exact absurd rfl h

/-- What is got is nothing, or has just these bytes. -/
theorem get_inv {s : List Int} (hs : bytesOk s) : (∃ e, getB s = failG e ∧ e ≠ 0) ∨
    ∃ o a b far long n, getB s = ((o, a, b), far, long, ((n : Nat) : Int), 0) ∧ putB o a b far long = (s.take n, 0) ∧ n ≤ s.length ∧ checkB o a b = true := by
  cases s with
  | nil => exact .inl ⟨152, rfl, by decide⟩
  | cons c r =>
    have hc := hs.2 c (List.mem_cons_self ..)
    simp only [getB]
    by_cases hbad : knownB (c % 128) = false ∨ (128 ≤ c ∧ goesB (c % 128) = false)
    · rw [if_pos hbad]; exact .inl ⟨153, rfl, by decide⟩
    · rw [if_neg hbad]
      have hk : knownB (c % 128) = true := by
        cases h : knownB (c % 128) with
        | true => rfl
        | false => exact absurd (.inl h) hbad
      have ho := known_in hk
      have hlg : 128 ≤ c → goesB (c % 128) = true := fun h => by
        cases h2 : goesB (c % 128) with
        | true => rfl
        | false => exact absurd (.inr ⟨h, h2⟩) hbad
      cases hn : numsG (c :: r) (numI (c % 128)).toNat 1 with
      | inl e =>
        refine .inl ⟨e, rfl, ?_⟩
        have key : ∀ (k p : Nat) (e : Int), numsG (c :: r) k p = .inl e → e ≠ 0 := by
          intro k
          induction k with
          | zero => intro p e h; cases h
          | succ k ih =>
            intro p e h
            simp only [numsG] at h
            split at h
            · rename_i e' he
              cases h
              exact numG_err he
            · rename_i n q hq
              split at h
              · rename_i e' he
                cases h
                exact ih _ _ he
              · cases h
        exact key _ _ _ hn
      | inr x =>
        obtain ⟨l, p⟩ := x
        obtain ⟨f1, f2, f3, f4⟩ := numsG_inv hs.2 _ _ _ _ hn
        simp only
        unfold resG
        by_cases hsh : (c :: r).length < p + wideN (c % 128) (decide (128 ≤ c))
        · rw [if_pos hsh]; exact .inl ⟨152, rfl, by decide⟩
        · rw [if_neg hsh]
          have hlen : p ≤ (c :: r).length := by omega
          have hr : r = l.flatMap nb ++ (c :: r).drop p := by
            have := f4; rw [List.drop_succ_cons, List.drop_zero] at this; exact this
          have hnum := numI_lt (c % 128)
          have hhead : ∀ a b, toldL (c % 128) a b = l → headB (c % 128) a b (decide (128 ≤ c)) = (c :: r).take p := by
            intro a b ht
            unfold headB
            rw [ht]
            have e1 : (if decide (128 ≤ c) = true then c % 128 + 128 else c % 128) = c := by
              by_cases h : 128 ≤ c
              · rw [if_pos (decide_eq_true h)]; omega
              · rw [if_neg (by simpa using h)]; omega
            rw [e1, f3, Nat.add_comm, List.take_succ_cons]
            congr 1
            conv => rhs; rw [hr]
            rw [List.take_left]
          have rng : ∀ i, 0 ≤ l.getD i 0 ∧ l.getD i 0 ≤ 1048576 := by
            intro i
            rw [List.getD_eq_getElem?_getD]
            cases h : l[i]? with
            | none => exact ⟨by decide, by decide⟩
            | some n => exact f2 n (List.mem_of_getElem? h)
          cases hg : goesB (c % 128) with
          | false =>
            have hnl : ¬ 128 ≤ c := fun h => by rw [hlg h] at hg; cases hg
            have hw : wideN (c % 128) (decide (128 ≤ c)) = 0 := by unfold wideN; rw [hg]; rfl
            refine .inr ⟨c % 128, l.getD 0 0, l.getD 1 0, 0, false, p, by simp, ?_, hlen, ?_⟩
            · have ht : toldL (c % 128) (l.getD 0 0) (l.getD 1 0) = l := by
                unfold toldL
                rw [hg]
                simp only [Bool.false_eq_true, if_false]
                rw [← f1]
                match l, f1 with
                | [], _ => rfl
                | [a], _ => rfl
                | [a, b], _ => rfl
                | a :: b :: d :: q, f1 => simp at f1; omega
              have hck : checkB (c % 128) (l.getD 0 0) (l.getD 1 0) = true := chk_flat l f1 ho (rng 0) (rng 1) hg
              unfold putB rightB
              rw [hck, hg]
              have := hhead _ _ ht
              rw [decide_eq_false hnl] at this
              rw [this]
              simp only [Bool.not_false, Bool.true_or, Bool.and_self, Bool.false_eq_true, or_true, and_self, if_true, if_false]
            · exact chk_flat l f1 ho (rng 0) (rng 1) hg
          | true =>
            have h1 := goes_num hg
            have hll : l.length ≤ 1 := by omega
            have hck : checkB (c % 128) 0 (l.getD 0 0) = true := by
              unfold checkB
              have e1 : decide (0 ≤ c % 128 ∧ c % 128 < 21) = true := decide_eq_true ho
              have e2 : decide (0 ≤ l.getD 0 0 ∧ l.getD 0 0 ≤ 1048576) = true := decide_eq_true (rng 0)
              rw [e1, e2, hg]
              have : numI (c % 128) = 1 ∨ l.getD 0 0 = 0 := by
                match l, f1 with
                | [], _ => exact .inr rfl
                | a :: q, f1 => simp at f1; exact .inl (by omega)
              rcases this with h | h
              · rw [h]; rfl
              · rw [h]; simp
            have ht : toldL (c % 128) 0 (l.getD 0 0) = l := by
              unfold toldL
              rw [if_pos hg, ← f1]
              match l, hll with
              | [], _ => rfl
              | [a], _ => rfl
            have hwd : wideN (c % 128) (decide (128 ≤ c)) = (if decide (128 ≤ c) = true then 4 else 1) := by unfold wideN; rw [if_pos hg]
            rw [hwd] at hsh ⊢
            generalize hlong : decide (128 ≤ c) = long at *
            have hw14 : (if long = true then 4 else 1) = 1 ∨ (if long = true then 4 else 1) = 4 := by cases long <;> simp
            have hdec : decide ((if long = true then 4 else 1) = 4) = long := by cases long <;> rfl
            generalize hw : (if long = true then 4 else 1) = w at *
            have htk : (((c :: r).drop p).take w).length = w := take_len (by omega)
            obtain ⟨lb1, lb2⟩ := low_back (b0 := 0) htk (fun b hb => hs.2 b (List.mem_of_mem_drop (List.mem_of_mem_take hb))) hw14 rfl
            rw [hdec] at lb2
            refine .inr ⟨c % 128, 0, l.getD 0 0, farS w (farL (((c :: r).drop p).take w)), long, p + w, by simp, ?_, by omega, hck⟩
            unfold putB rightB
            rw [hck, hg, lb2, hw, lb1, hhead _ _ ht]
            simp [List.take_add]
where
  chk_flat {c : Int} (l : List Int) (f1 : l.length = (numI (c % 128)).toNat) (ho : 0 ≤ c % 128 ∧ c % 128 < 21) (h0 : 0 ≤ l.getD 0 0 ∧ l.getD 0 0 ≤ 1048576) (h1 : 0 ≤ l.getD 1 0 ∧ l.getD 1 0 ≤ 1048576) (hg : goesB (c % 128) = false) : checkB (c % 128) (l.getD 0 0) (l.getD 1 0) = true := by
    have hnum := numI_lt (c % 128)
    unfold checkB
    have e1 : decide (0 ≤ c % 128 ∧ c % 128 < 21) = true := decide_eq_true ho
    have e2 : decide (0 ≤ l.getD 0 0 ∧ l.getD 0 0 ≤ 1048576) = true := decide_eq_true h0
    have e3 : decide (0 ≤ l.getD 1 0 ∧ l.getD 1 0 ≤ 1048576) = true := decide_eq_true h1
    rw [e1, e2, e3, hg]
    match l, f1 with
    | [], f1 =>
      have : numI (c % 128) = 0 := by simp at f1; omega
      rw [this]; decide
    | [a], f1 =>
      have : numI (c % 128) = 1 := by simp at f1; omega
      rw [this]; rfl
    | [a, b], f1 =>
      have : numI (c % 128) = 2 := by simp at f1; omega
      rw [this]; rfl
    | a :: b :: d :: q, f1 => simp at f1; omega

end Fn
end Ev
