/- Layer 4 in plain words: the bind, by the program and by the document; in a row again. No statement of its own about the program. -/
import Derived.Test.YtkfbakajbeifgaaDoorPlainA
namespace Ev
open Go
namespace Fn

/-! slices.Concat; what is shut. -/
theorem grow_spec {n : Nat} (h : n ≤ 1000000) : f_slices_Grow (⟨true, []⟩, (n : Int), ()) = some (⟨decide ((n : Int) = 0), []⟩, ()) := by
  unfold f_slices_Grow
  have h1 : decide (0 ≤ (n : Int)) = true := decide_eq_true (by omega)
  have h2 : decide ((n : Int) ≤ 1000000) = true := decide_eq_true (by omega)
  simp only [h1, h2]
  rfl

def totL (ls : List (Sl Int)) : Nat := (ls.map fun s => s.l.length).sum
theorem totL_cons (s : Sl Int) (ls : List (Sl Int)) : totL (s :: ls) = s.l.length + totL ls := by simp [totL]

theorem cat1_loop (b : Bool) (ls : List (Sl Int)) (hn : ls.length ≤ 1000) : ∀ (m k : Nat) (out : Sl Int), k + m = ls.length → out.l.length + totL (ls.drop k) ≤ 1000000 → ∃ q,
    loopR l1_slices_Concat (⟨b, ls⟩, (ls.length : Int), (k : Int), out, ()) = some (.inr (⟨q, out.l ++ ((ls.drop k).map (·.l)).flatten⟩, ())) := by
  intro m
  induction m with
  | zero =>
    intro k out hk ho
    refine ⟨out.nil, loopR_inr ?_⟩
    unfold l1_slices_Concat
    simp only
    rw [cnd_lt, if_neg (by omega), List.drop_eq_nil_of_le (by omega)]
    simp
  | succ m ih =>
    intro k out hk ho
    have hlt : k < ls.length := by omega
    rw [drop_cons hlt, totL_cons] at ho
    obtain ⟨q, hq⟩ := ih (k + 1) ⟨andB out.nil (isE ls[k].l), out.l ++ ls[k].l⟩ (by omega) (by show (out.l ++ ls[k].l).length + _ ≤ _; rw [List.length_append]; omega)
    refine ⟨q, ?_⟩
    have step : l1_slices_Concat (⟨b, ls⟩, (ls.length : Int), (k : Int), out, ()) = some (.inl (⟨b, ls⟩, (ls.length : Int), ((k + 1 : Nat) : Int), ⟨andB out.nil (isE ls[k].l), out.l ++ ls[k].l⟩, ())) := by
      unfold l1_slices_Concat
      simp only
      rw [cnd_lt, if_pos (by omega), at?_nat (List.getElem?_eq_getElem hlt), bnd_some_eq, fit_ok (by unfold sumI lenI; omega), bnd_some_eq, add1 (by omega)]
      rfl
    rw [loopR_inl step, hq, drop_cons hlt, List.map_cons, List.flatten_cons, List.append_assoc]

theorem cat2_loop (b : Bool) (ls : List (Sl Int)) (hn : ls.length ≤ 1000) (ht : totL ls ≤ 1000000) : ∀ (m k sz : Nat), k + m = ls.length → sz + totL (ls.drop k) = totL ls → ∃ q,
    loopR l2_slices_Concat (⟨b, ls⟩, (sz : Int), ⟨b, ls⟩, (ls.length : Int), (k : Int), ()) = some (⟨q, (ls.map (·.l)).flatten⟩, ()) := by
  intro m
  induction m with
  | zero =>
    intro k sz hk hs
    rw [List.drop_eq_nil_of_le (by omega)] at hs
    have hs : sz = totL ls := by simpa [totL] using hs
    obtain ⟨q, hq⟩ := cat1_loop b ls hn ls.length 0 ⟨decide ((sz : Int) = 0), []⟩ (by omega) (by rw [List.drop_zero]; simpa using ht)
    refine ⟨q, loopR_inr ?_⟩
    unfold l2_slices_Concat
    simp only
    rw [cnd_lt, if_neg (by omega), grow_spec (by omega), bnd_some_eq]
    exact hq.trans (by rw [List.drop_zero]; rfl)
  | succ m ih =>
    intro k sz hk hs
    have hlt : k < ls.length := by omega
    rw [drop_cons hlt, totL_cons] at hs
    obtain ⟨q, hq⟩ := ih (k + 1) (sz + ls[k].l.length) (by omega) (by omega)
    refine ⟨q, ?_⟩
    have ea : addI .i64 (sz : Int) (lenI ls[k].l) = ((sz + ls[k].l.length : Nat) : Int) := by
      unfold lenI
      rw [addI_i64 (by omega) (by omega)]; omega
    have c1 : ltI ((sz + ls[k].l.length : Nat) : Int) 0 = false := decide_eq_false (by omega)
    have step : l2_slices_Concat (⟨b, ls⟩, (sz : Int), ⟨b, ls⟩, (ls.length : Int), (k : Int), ()) = some (.inl (⟨b, ls⟩, ((sz + ls[k].l.length : Nat) : Int), ⟨b, ls⟩, (ls.length : Int), ((k + 1 : Nat) : Int), ())) := by
      unfold l2_slices_Concat
      simp only
      rw [cnd_lt, if_pos (by omega), at?_nat (List.getElem?_eq_getElem hlt), bnd_some_eq, ea, c1, cnd_false, bnd_some_eq, add1 (by omega)]
    rw [loopR_inl step, hq]

theorem concat_spec (b : Bool) (ls : List (Sl Int)) (hn : ls.length ≤ 1000) (ht : totL ls ≤ 1000000) : ∃ q, f_slices_Concat (⟨b, ls⟩, ()) = some (⟨q, (ls.map (·.l)).flatten⟩, ()) := by
  rw [u_slices_Concat]
  exact cat2_loop b ls hn ht ls.length 0 0 (by omega) (by rw [List.drop_zero, Nat.zero_add])

theorem sub_nat {a b : Nat} (h : b ≤ a) (ha : a ≤ 1000000000) : subI .i64 (a : Int) (b : Int) = ((a - b : Nat) : Int) := by
  rw [subI_i64 (by omega) (by omega)]; omega

theorem climb1 (b1 b2 : Bool) (O : List Int) (o : Int) (Q : List (Sl Int)) (p2 p1 : Sl Int) (hl : p2.l.length + p1.l.length ≤ 100000) (hO : O.length ≤ 1000) (hQ : Q.length ≤ 1000) :
    ∃ q, f_fix_Climb_1 (⟨b1, O ++ [o]⟩, ⟨b2, Q ++ [p2, p1]⟩, ()) = some (⟨b1, O⟩, ⟨false, Q ++ [⟨q, o :: (p2.l ++ p1.l)⟩]⟩, ()) := by
  obtain ⟨q, hq⟩ := concat_spec false [⟨false, [o]⟩, p2, p1] (by show 3 ≤ 1000; decide) (by simp [totL]; omega)
  refine ⟨q, ?_⟩
  have l1 : lenI (O ++ [o]) = ((O.length + 1 : Nat) : Int) := by simp [lenI]
  have l2 : lenI (Q ++ [p2, p1]) = ((Q.length + 2 : Nat) : Int) := by simp [lenI]
  have s1 : subI .i64 ((O.length + 1 : Nat) : Int) 1 = (O.length : Int) := by rw [show (1 : Int) = ((1 : Nat) : Int) from rfl, sub_nat (by omega) (by omega), Nat.add_sub_cancel]
  have s2 : subI .i64 ((Q.length + 2 : Nat) : Int) 2 = (Q.length : Int) := by rw [show (2 : Int) = ((2 : Nat) : Int) from rfl, sub_nat (by omega) (by omega), Nat.add_sub_cancel]
  have s3 : subI .i64 ((Q.length + 2 : Nat) : Int) 1 = ((Q.length + 1 : Nat) : Int) := by rw [show (1 : Int) = ((1 : Nat) : Int) from rfl, sub_nat (by omega) (by omega)]; rfl
  have g1 : (O ++ [o])[O.length]? = some o := by simp
  have g2 : (Q ++ [p2, p1])[Q.length]? = some p2 := by simp
  have g3 : (Q ++ [p2, p1])[Q.length + 1]? = some p1 := by simp
  have k1 : okAt (O ++ [o]) (O.length : Int) = some O.length := okAt_nat (by simp)
  have k2 : okAt (Q ++ [p2, p1]) (Q.length : Int) = some Q.length := okAt_nat (by simp)
  have k3 : okAt (Q ++ [p2, p1]) ((Q.length + 1 : Nat) : Int) = some (Q.length + 1) := okAt_nat (by simp)
  have c1 : cutN ((O.length + 1 : Nat) : Int) (O.length : Int) = some O.length := by unfold cutN; rw [if_pos (by omega)]; rfl
  have c2 : cutN ((Q.length + 2 : Nat) : Int) (Q.length : Int) = some Q.length := by unfold cutN; rw [if_pos (by omega)]; rfl
  have t1 : takeL (O ++ [o]) O.length = O := List.take_left
  have t2 : takeL (Q ++ [p2, p1]) Q.length = Q := List.take_left
  have hfl : (([⟨false, [o]⟩, p2, p1] : List (Sl Int)).map (·.l)).flatten = o :: (p2.l ++ p1.l) := by simp
  rw [hfl] at hq
  have fo : ∀ x : Sl Int, fit (sumI (lenI Q) (lenI [x])) = some () := fun x => fit_ok (by simp only [sumI, lenI, List.length_singleton]; omega)
  have hc : f_slices_Concat (⟨false, ([⟨false, ([o] : List Int)⟩, p2, p1] : List (Sl Int))⟩, ()) = some (⟨q, o :: (p2.l ++ p1.l)⟩, ()) := hq
  rw [u_fix_Climb_1]
  simp only [l1, l2, s1, s2, s3, k1, k2, k3, bnd_some_eq, nth_of g1, nth_of g2, nth_of g3, hc, c1, c2, eqI_self, cnd_true, t1, t2, fo, isE, List.isEmpty_cons, cnd_false, app]
end Fn
end Ev
namespace Ev
open Go
open Fx (B Inv Mid lo waits comes shutAll climbL)
namespace Fn

def lvF (fs : List Fix1) (i : Nat) : Int := match fs[i]? with
  | some x => x.2.1
  | none => 0
def sdF (fs : List Fix1) (i : Nat) : Int := match fs[i]? with
  | some x => x.2.2
  | none => 0
theorem lvF_of {fs : List Fix1} {i : Nat} {x : Fix1} (h : fs[i]? = some x) : lvF fs i = x.2.1 := by unfold lvF; rw [h]
theorem sdF_of {fs : List Fix1} {i : Nat} {x : Fix1} (h : fs[i]? = some x) : sdF fs i = x.2.2 := by unfold sdF; rw [h]

/-- The operators that wait, and the parts, as they stand in memory: the last one last. -/
def Rep (S : List (Nat × List Int)) (cur : List Int) (op : List Int) (pt : List (Sl Int)) : Prop :=
  op.reverse = S.map (fun p => (p.1 : Int)) ∧ pt.reverse.map (·.l) = cur :: S.map (·.2)

theorem Rep.pop {o : Nat} {P cur : List Int} {S : List (Nat × List Int)} {op : List Int} {pt : List (Sl Int)} (h : Rep ((o, P) :: S) cur op pt) :
    ∃ O Q p2 p1, op = O ++ [(o : Int)] ∧ pt = Q ++ [p2, p1] ∧ p2.l = P ∧ p1.l = cur ∧ O.length = S.length ∧ Q.length = S.length ∧ ∀ q, q.l = (o : Int) :: (P ++ cur) → Rep S ((o : Int) :: (P ++ cur)) O (Q ++ [q]) := by
  obtain ⟨h1, h2⟩ := h
  cases hr : op.reverse with
  | nil => rw [hr] at h1; cases h1
  | cons a O' =>
    rw [hr, List.map_cons] at h1
    injection h1 with h3 h4
    subst h3
    cases hp : pt.reverse with
    | nil => rw [hp] at h2; cases h2
    | cons p1 Q1 =>
      rw [hp, List.map_cons, List.map_cons] at h2
      injection h2 with h5 h6
      cases Q1 with
      | nil => cases h6
      | cons p2 Q' =>
        rw [List.map_cons] at h6
        injection h6 with h7 h8
        have e1 : op = O'.reverse ++ [(o : Int)] := by
          have := congrArg List.reverse hr
          rw [List.reverse_reverse] at this
          rw [this, List.reverse_cons]
        have e2 : pt = Q'.reverse ++ [p2, p1] := by
          have := congrArg List.reverse hp
          rw [List.reverse_reverse] at this
          rw [this, List.reverse_cons, List.reverse_cons, List.append_assoc]
          rfl
        have n1 : O'.length = S.length := by have := congrArg List.length h4; simpa using this
        have n2 : Q'.length = S.length := by have := congrArg List.length h8; simpa using this
        refine ⟨O'.reverse, Q'.reverse, p2, p1, e1, e2, h7, h5, by rw [List.length_reverse, n1], by rw [List.length_reverse, n2], fun q hq => ⟨by rw [List.reverse_reverse, h4], ?_⟩⟩
        rw [List.reverse_append, List.reverse_reverse]
        show q.l :: Q'.map (·.l) = _
        rw [hq, h8]

theorem Inv.short {lv sd : Nat → Int} : ∀ {S : List (Nat × List Int)} {cur : List Int} {k : Nat}, Inv lv sd S cur k → S.length ≤ k
  | [], _, _, _ => Nat.zero_le _
  | (o, P) :: S, cur, k, h => by
    have := Inv.short h.2.2.2.2.1
    have h1 := h.1
    rw [List.length_cons]
    omega

theorem Inv.inside {lv sd : Nat → Int} {o k : Nat} {P cur : List Int} {S : List (Nat × List Int)} (h : Inv lv sd ((o, P) :: S) cur k) : P.length + cur.length ≤ 2 * k := by
  have h1 := (Fx.Inv.B h.pop).len
  rw [List.length_cons, List.length_append] at h1
  omega

theorem shut_ok (b1 b2 : Bool) {lv sd : Nat → Int} {o k : Nat} {P cur : List Int} {S : List (Nat × List Int)} (h : Inv lv sd ((o, P) :: S) cur k) (hk : k ≤ 400) {op : List Int} {pt : List (Sl Int)} (hr : Rep ((o, P) :: S) cur op pt) :
    ∃ op' b3 pt', f_fix_Climb_1 (⟨b1, op⟩, ⟨b2, pt⟩, ()) = some (⟨b1, op'⟩, ⟨b3, pt'⟩, ()) ∧ Rep S ((o : Int) :: (P ++ cur)) op' pt' := by
  obtain ⟨O, Q, p2, p1, e1, e2, e3, e4, e5, e6, e7⟩ := hr.pop
  have hs := Inv.short h
  rw [List.length_cons] at hs
  have hi := Inv.inside h
  obtain ⟨q, hq⟩ := climb1 b1 b2 O (o : Int) Q p2 p1 (by rw [e3, e4]; omega) (by omega) (by omega)
  refine ⟨O, false, Q ++ [⟨q, (o : Int) :: (p2.l ++ p1.l)⟩], by rw [e1, e2]; exact hq, e7 _ (by rw [e3, e4])⟩

theorem waits_loop (b0 b1 : Bool) {fs : List Fix1} (hn : fs.length ≤ 400) {k : Nat} (hk : k < fs.length) (opt : List Int) (_hs : ∀ o, o ≤ k → sdF fs o = -1 ∨ sdF fs o = 0 ∨ sdF fs o = 1) : ∀ (S : List (Nat × List Int)) (cur : List Int) (op : List Int) (b2 : Bool) (pt : List (Sl Int)),
    Inv (lvF fs) (sdF fs) S cur k → Rep S cur op pt →
    ∃ op' b3 pt', loopR l1_fix_Climb ((k : Int), (fs.length : Int), (k : Int), ⟨b0, fs⟩, opt, lvF fs k, sdF fs k, ⟨b1, op⟩, ⟨b2, pt⟩, ()) = some (match waits (lvF fs) (sdF fs) k S cur with
        | none => .inr (.inr (.inr (⟨true, []⟩, 43, ())))
        | some _ => .inl ((k : Int), (fs.length : Int), (k : Int), ⟨b0, fs⟩, ⟨b1, op'⟩, ⟨b3, pt'⟩, ())) ∧
      ∀ S' cur', waits (lvF fs) (sdF fs) k S cur = some (S', cur') → Rep S' cur' op' pt' := by
  intro S
  induction S with
  | nil =>
    intro cur op b2 pt h hr
    have e : op = [] := by
      have := hr.1
      simpa using this
    subst e
    refine ⟨[], b2, pt, loopR_inr ?_, fun S' cur' e => ?_⟩
    · unfold l1_fix_Climb
      simp only
      rw [cnd_lt, if_neg (by show ¬ (0 : Int) < (([] : List Int).length : Int); simp)]
      rfl
    · injection e with e
      injection e with e1 e2
      subst e1 e2
      exact hr
  | cons s S ih =>
    obtain ⟨o, P⟩ := s
    intro cur op b2 pt h hr
    have ho : o < k := h.1
    have hx := List.getElem?_eq_getElem (show o < fs.length by omega)
    obtain ⟨O, Q, p2, p1, e1, e2, _, _, e5, _, _⟩ := hr.pop
    have hsh := Inv.short h
    rw [List.length_cons] at hsh
    have l1 : lenI op = ((O.length + 1 : Nat) : Int) := by rw [e1]; simp [lenI]
    have s1 : subI .i64 ((O.length + 1 : Nat) : Int) 1 = (O.length : Int) := by rw [show (1 : Int) = ((1 : Nat) : Int) from rfl, sub_nat (by omega) (by omega), Nat.add_sub_cancel]
    have k1 : okAt op (O.length : Int) = some O.length := okAt_nat (by rw [e1]; simp)
    have g1 : nth op O.length = some (o : Int) := nth_of (by rw [e1]; simp)
    have k2 : okAt fs (o : Int) = some o := okAt_nat (by omega)
    have g2 : nth fs o = some fs[o] := nth_of hx
    have hlo := lvF_of hx
    have hso := sdF_of hx
    have c0 : ltI 0 ((O.length + 1 : Nat) : Int) = true := decide_eq_true (by omega)
    obtain ⟨op', b3, pt', c1, c2⟩ := shut_ok b1 b2 h (by omega) hr
    have body : l1_fix_Climb ((k : Int), (fs.length : Int), (k : Int), ⟨b0, fs⟩, opt, lvF fs k, sdF fs k, ⟨b1, op⟩, ⟨b2, pt⟩, ()) =
        if lvF fs o < lvF fs k then some (.inr (.inl ((k : Int), (fs.length : Int), (k : Int), ⟨b0, fs⟩, ⟨b1, op⟩, ⟨b2, pt⟩, ())))
        else if lvF fs k < lvF fs o then some (.inl ((k : Int), (fs.length : Int), (k : Int), ⟨b0, fs⟩, opt, lvF fs k, sdF fs k, ⟨b1, op'⟩, ⟨b3, pt'⟩, ()))
        else if sdF fs o ≠ sdF fs k ∨ sdF fs k = 0 then some (.inr (.inr (.inr (.inr (⟨true, []⟩, 43, ())))))
        else if 0 < sdF fs k then some (.inr (.inl ((k : Int), (fs.length : Int), (k : Int), ⟨b0, fs⟩, ⟨b1, op⟩, ⟨b2, pt⟩, ())))
        else some (.inl ((k : Int), (fs.length : Int), (k : Int), ⟨b0, fs⟩, opt, lvF fs k, sdF fs k, ⟨b1, op'⟩, ⟨b3, pt'⟩, ())) := by
      unfold l1_fix_Climb
      simp only [l1, s1, k1, g1, k2, g2, c0, cnd_true, bnd_some_eq]
      rw [cnd_lt, ← hlo, ← hso]
      by_cases q1 : lvF fs o < lvF fs k
      · rw [if_pos q1, if_pos q1]
      · rw [if_neg q1, if_neg q1, cnd_lt]
        by_cases q2 : lvF fs k < lvF fs o
        · rw [if_pos q2, if_pos q2, bnd_some_eq]
          simp only [sumE, c1, bnd_some_eq]
        · rw [if_neg q2, if_neg q2]
          have e3 : (cnd (notB (eqI (sdF fs o) (sdF fs k))) (some true) (some (eqI (sdF fs k) 0)) : Option Bool) = some (decide (sdF fs o ≠ sdF fs k ∨ sdF fs k = 0)) := by
            rw [cnd_not, cnd_eq]
            by_cases q3 : sdF fs o = sdF fs k
            · rw [if_pos q3]
              have : eqI (sdF fs k) 0 = decide (sdF fs o ≠ sdF fs k ∨ sdF fs k = 0) := by
                rw [Bool.eq_iff_iff, eqI_eq]
                simp [q3]
              rw [this]
            · rw [if_neg q3]
              simp [q3]
          rw [e3, bnd_some_eq, cnd_dec]
          by_cases q3 : sdF fs o ≠ sdF fs k ∨ sdF fs k = 0
          · rw [if_pos q3, if_pos q3, bnd_some_eq]
            rfl
          · rw [if_neg q3, if_neg q3, cnd_lt]
            by_cases q4 : 0 < sdF fs k
            · rw [if_pos q4, if_pos q4, bnd_some_eq]
              rfl
            · rw [if_neg q4, if_neg q4, bnd_some_eq]
              simp only [sumE, c1, bnd_some_eq]
    unfold waits
    by_cases q1 : lvF fs o < lvF fs k
    · rw [if_pos q1] at body ⊢
      refine ⟨op, b2, pt, loopR_inr body, fun S' cur' e => ?_⟩
      injection e with e; injection e with a1 a2; subst a1 a2
      exact hr
    · rw [if_neg q1] at body ⊢
      by_cases q2 : lvF fs k < lvF fs o
      · rw [if_pos q2] at body ⊢
        obtain ⟨op2, b4, pt2, d1, d2⟩ := ih _ op' b3 pt' h.pop c2
        exact ⟨op2, b4, pt2, by rw [loopR_inl body]; exact d1, d2⟩
      · rw [if_neg q2] at body ⊢
        by_cases q3 : sdF fs o ≠ sdF fs k ∨ sdF fs k = 0
        · rw [if_pos q3] at body ⊢
          exact ⟨op, b2, pt, loopR_inr body, fun S' cur' e => by cases e⟩
        · rw [if_neg q3] at body ⊢
          by_cases q4 : 0 < sdF fs k
          · rw [if_pos q4] at body ⊢
            refine ⟨op, b2, pt, loopR_inr body, fun S' cur' e => ?_⟩
            injection e with e; injection e with a1 a2; subst a1 a2
            exact hr
          · rw [if_neg q4] at body ⊢
            obtain ⟨op2, b4, pt2, d1, d2⟩ := ih _ op' b3 pt' h.pop c2
            exact ⟨op2, b4, pt2, by rw [loopR_inl body]; exact d1, d2⟩

theorem shut_loop (b1 : Bool) {lv sd : Nat → Int} {n : Nat} (hn : n ≤ 400) : ∀ (S : List (Nat × List Int)) (cur : List Int) (op : List Int) (b2 : Bool) (pt : List (Sl Int)), Inv lv sd S cur n → Rep S cur op pt →
    ∃ q, loopR l2_fix_Climb (⟨b1, op⟩, ⟨b2, pt⟩, ()) = some (.inr (.inr (⟨q, shutAll S cur⟩, 0, ()))) := by
  intro S
  induction S with
  | nil =>
    intro cur op b2 pt h hr
    have e : op = [] := by
      have := hr.1
      simpa using this
    subst e
    obtain ⟨c, hc⟩ : ∃ c, pt = [c] ∧ c.l = cur := by
      have := hr.2
      cases hp : pt.reverse with
      | nil => rw [hp] at this; cases this
      | cons p1 Q =>
        rw [hp] at this
        injection this with h1 h2
        obtain rfl : Q = [] := by cases Q with
          | nil => rfl
          | cons _ _ => cases h2
        refine ⟨p1, ?_, h1⟩
        have := congrArg List.reverse hp
        rw [List.reverse_reverse] at this
        exact this
    obtain ⟨rfl, hcl⟩ := hc
    refine ⟨c.nil, loopR_inr ?_⟩
    unfold l2_fix_Climb
    simp only
    rw [cnd_lt, if_neg (by show ¬ (0 : Int) < (([] : List Int).length : Int); simp)]
    show some (Sum.inr (Sum.inr (Sum.inr (c, 0, ())))) = _
    rw [← hcl]
    rfl
  | cons s S ih =>
    obtain ⟨o, P⟩ := s
    intro cur op b2 pt h hr
    obtain ⟨op', b3, pt', c1, c2⟩ := shut_ok b1 b2 h hn hr
    obtain ⟨O, Q, p2, p1, e1, e2, _, _, e5, _, _⟩ := hr.pop
    obtain ⟨q, hq⟩ := ih _ op' b3 pt' h.pop c2
    refine ⟨q, ?_⟩
    have step : l2_fix_Climb (⟨b1, op⟩, ⟨b2, pt⟩, ()) = some (.inl (⟨b1, op'⟩, ⟨b3, pt'⟩, ())) := by
      unfold l2_fix_Climb
      simp only
      rw [cnd_lt, if_pos (by rw [e1]; unfold lenI; rw [List.length_append, List.length_singleton]; omega), c1, bnd_some_eq]
    rw [loopR_inl step, hq]
    rfl
end Fn
end Ev
namespace Ev
open Go
open Fx (B Inv Mid lo waits comes shutAll climbL)
namespace Fn

theorem sumE_inl {α β : Type} (f : α → Option β) (a : α) : sumE f (.inl a) = f a := Eq.trans (Eq.refl _) (Eq.refl _)
theorem sumE_inr {α β : Type} (f : α → Option β) (b : β) : sumE f (.inr b) = some b := Eq.trans (Eq.refl _) (Eq.refl _)
theorem app_eq {α : Type} (l m : List α) : app l m = l ++ m := Eq.trans (Eq.refl _) (Eq.refl _)
theorem isE_one {α : Type} (x : α) : isE [x] = false := Eq.trans (Eq.refl _) (Eq.refl _)

theorem Rep.push {S : List (Nat × List Int)} {cur : List Int} {op : List Int} {pt : List (Sl Int)} (h : Rep S cur op pt) (k : Nat) (q : Sl Int) : Rep ((k, cur) :: S) q.l (op ++ [(k : Int)]) (pt ++ [q]) := by
  obtain ⟨h1, h2⟩ := h
  refine ⟨?_, ?_⟩
  · rw [List.reverse_append]
    show (k : Int) :: op.reverse = _
    rw [h1]; rfl
  · rw [List.reverse_append]
    show q.l :: pt.reverse.map (·.l) = _
    rw [h2]; rfl

theorem Rep.len {S : List (Nat × List Int)} {cur : List Int} {op : List Int} {pt : List (Sl Int)} (h : Rep S cur op pt) : op.length = S.length ∧ pt.length = S.length + 1 := by
  obtain ⟨h1, h2⟩ := h
  have e1 := congrArg List.length h1
  have e2 := congrArg List.length h2
  simp only [List.length_reverse, List.length_map, List.length_cons] at e1 e2
  exact ⟨e1, e2⟩

theorem comes_loop (b0 : Bool) {fs : List Fix1} (hn : fs.length ≤ 400) (hs : ∀ o, o < fs.length → sdF fs o = -1 ∨ sdF fs o = 0 ∨ sdF fs o = 1) : ∀ (m k : Nat) (S : List (Nat × List Int)) (cur : List Int) (b1 : Bool) (op : List Int) (b2 : Bool) (pt : List (Sl Int)),
    k + m = fs.length → Inv (lvF fs) (sdF fs) S cur k → lo S = k → Rep S cur op pt → ∃ q,
    loopR l3_fix_Climb ((fs.length : Int), (k : Int), ⟨b0, fs⟩, ⟨b1, op⟩, ⟨b2, pt⟩, ()) = some (match comes (lvF fs) (sdF fs) m k S cur with
      | none => .inr (⟨true, []⟩, 43, ())
      | some (S', cur') => .inr (⟨q, shutAll S' cur'⟩, 0, ())) := by
  intro m
  induction m with
  | zero =>
    intro k S cur b1 op b2 pt hk h hl hr
    have h' : Inv (lvF fs) (sdF fs) S cur fs.length := by rw [← hk]; exact h
    obtain ⟨q, hq⟩ := shut_loop b1 (n := fs.length) hn S cur op b2 pt h' hr
    refine ⟨q, loopR_inr ?_⟩
    unfold l3_fix_Climb
    simp only
    rw [cnd_lt, if_neg (by omega), hq]
    rfl
  | succ m ih =>
    intro k S cur b1 op b2 pt hk h hl hr
    have hlt : k < fs.length := by omega
    have hx := List.getElem?_eq_getElem hlt
    have hlv := lvF_of hx
    have hsd := sdF_of hx
    obtain ⟨op', b3, pt', w1, w2⟩ := waits_loop b0 b1 hn hlt fs[k].1 (fun o ho => hs o (by omega)) S cur op b2 pt h hr
    rw [hlv, hsd] at w1
    have hw := Fx.waits_ok (lv := lvF fs) (sd := sdF fs) (k := k) (fun o ho => hs o (by omega)) S cur h (Mid.start hl)
    unfold comes
    cases hw2 : waits (lvF fs) (sdF fs) k S cur with
    | none =>
      rw [hw2] at w1
      refine ⟨true, loopR_inr ?_⟩
      unfold l3_fix_Climb
      simp only
      rw [cnd_lt, if_pos (by omega), okAt_nat hlt, bnd_some_eq, nth_of hx, bnd_some_eq, w1, bnd_some_eq, sumE_inr]
    | some z =>
      obtain ⟨S', cur'⟩ := z
      rw [hw2] at w1 hw
      obtain ⟨g1, g2, g3⟩ := hw
      have hr' := (w2 S' cur' hw2).push k ⟨false, [-2 - (k : Int)]⟩
      obtain ⟨n1, n2⟩ := (w2 S' cur' hw2).len
      have hsh := Inv.short g1
      obtain ⟨q, hq⟩ := ih (k + 1) _ _ (andB b1 false) (op' ++ [(k : Int)]) (andB b3 false) (pt' ++ [⟨false, [-2 - (k : Int)]⟩]) (by omega) (g1.push g2 g3) rfl hr'
      refine ⟨q, ?_⟩
      have e2 : subI .i64 (-2) (k : Int) = -2 - (k : Int) := subI_i64 (by omega) (by omega)
      have f1 : fit (sumI (lenI op') (lenI ([(k : Int)] : List Int))) = some () := fit_ok (by simp only [sumI, lenI, List.length_singleton]; omega)
      have f2 : fit (sumI (lenI pt') (lenI ([⟨false, [-2 - (k : Int)]⟩] : List (Sl Int)))) = some () := fit_ok (by simp only [sumI, lenI, List.length_singleton]; omega)
      have step : l3_fix_Climb ((fs.length : Int), (k : Int), ⟨b0, fs⟩, ⟨b1, op⟩, ⟨b2, pt⟩, ()) = some (.inl ((fs.length : Int), ((k + 1 : Nat) : Int), ⟨b0, fs⟩, ⟨andB b1 false, op' ++ [(k : Int)]⟩, ⟨andB b3 false, pt' ++ [⟨false, [-2 - (k : Int)]⟩]⟩, ())) := by
        unfold l3_fix_Climb
        simp only
        rw [cnd_lt, if_pos (by omega), okAt_nat hlt, bnd_some_eq, nth_of hx, bnd_some_eq, w1, bnd_some_eq]
        rw [sumE_inl]
        simp only [e2, f1, f2, bnd_some_eq, add1 (by omega : k ≤ 1000000000), app_eq, isE_one]
      rw [loopR_inl step, hq]

/-- How operators bind, as the program tells it. -/
def climbF (fs : List Fix1) : Option (List Int) := climbL (lvF fs) (sdF fs) fs.length

theorem climb3 (b0 : Bool) {fs : List Fix1} (hn : fs.length ≤ 400) (hs : ∀ o, o < fs.length → sdF fs o = -1 ∨ sdF fs o = 0 ∨ sdF fs o = 1) : ∃ q,
    loopR l3_fix_Climb (lenI fs, 0, ⟨b0, fs⟩, ⟨true, []⟩, ⟨false, [⟨false, [-1]⟩]⟩, ()) = some (.inr (match climbF fs with | none => (⟨true, []⟩, 43, ()) | some x => (⟨q, x⟩, 0, ()))) := by
  obtain ⟨q, hq⟩ := comes_loop b0 hn hs fs.length 0 [] [-1] true [] false [⟨false, [-1]⟩] (by omega) (show B _ _ 0 0 [-1] from B.nil 0) rfl ⟨rfl, rfl⟩
  refine ⟨q, ?_⟩
  refine Eq.trans hq ?_
  unfold climbF climbL
  cases comes (lvF fs) (sdF fs) fs.length 0 [] [-1] with
  | none => rfl
  | some z => rfl

/-- All operators' fixities. -/
def findAll (l : List Fix1) : List (List Int) → Option (List Fix1)
  | [] => some []
  | op :: r => match findF l op with
    | none => none
    | some x => match findAll l r with
      | none => none
      | some y => some (x :: y)

theorem findAll_spec {l : List Fix1} : ∀ {ops : List (List Int)} {fs : List Fix1}, findAll l ops = some fs → fs.length = ops.length ∧ ∀ x, x ∈ fs → x ∈ l
  | [], fs, h => by
    injection h with h
    subst h
    exact ⟨rfl, fun x hx => by cases hx⟩
  | op :: r, fs, h => by
    unfold findAll at h
    split at h
    · cases h
    · rename_i x hx
      split at h
      · cases h
      · rename_i y hy
        injection h with h
        subst h
        obtain ⟨h1, h2⟩ := findAll_spec hy
        refine ⟨by rw [List.length_cons, List.length_cons, h1], fun z hz => ?_⟩
        rcases List.mem_cons.1 hz with rfl | hz
        · exact (findF_mem hx).1
        · exact h2 z hz

theorem sides_ok {l fs : List Fix1} (hr : ∀ x, x ∈ l → rightF x = true) (hm : ∀ x, x ∈ fs → x ∈ l) (o : Nat) (ho : o < fs.length) : sdF fs o = -1 ∨ sdF fs o = 0 ∨ sdF fs o = 1 := by
  rw [sdF_of (List.getElem?_eq_getElem ho)]
  have := hr _ (hm _ (List.getElem_mem ho))
  unfold rightF at this
  simp only [Bool.and_eq_true, decide_eq_true_eq] at this
  omega

theorem fs_loop (n1 n2 b : Bool) {l : List Fix1} (hl : l.length ≤ 1000000) (ops : List (List Int)) (hn : ops.length ≤ 400) : ∀ (m k : Nat) (acc : List Fix1), k + m = ops.length → acc.length = k →
    loopR l4_fix_Climb (⟨n1, l⟩, ⟨n2, ops⟩, (ops.length : Int), (k : Int), ⟨b, acc ++ List.replicate m (([] : List Int), 0, 0)⟩, ()) = (match findAll l (ops.drop k) with
      | none => some (⟨true, []⟩, 42, ())
      | some r => loopR l4_fix_Climb (⟨n1, l⟩, ⟨n2, ops⟩, (ops.length : Int), (ops.length : Int), ⟨b, acc ++ r⟩, ())) := by
  intro m
  induction m with
  | zero =>
    intro k acc hk ha
    rw [List.drop_eq_nil_of_le (by omega)]
    obtain rfl : k = ops.length := by omega
    rfl
  | succ m ih =>
    intro k acc hk ha
    have hlt : k < ops.length := by omega
    rw [drop_cons hlt]
    unfold findAll
    have hf := find_spec n1 l ops[k] hl
    have hlen : (acc ++ List.replicate (m + 1) (([] : List Int), (0 : Int), (0 : Int))).length = ops.length := by rw [List.length_append, List.length_replicate]; omega
    cases hff : findF l ops[k] with
    | none =>
      rw [hff] at hf
      refine loopR_inr ?_
      unfold l4_fix_Climb
      simp only
      rw [cnd_lt, if_pos (by omega), at?_nat (List.getElem?_eq_getElem hlt), bnd_some_eq, hf, bnd_some_eq]
      rfl
    | some x =>
      rw [hff] at hf
      have hset : (acc ++ List.replicate (m + 1) (([] : List Int), (0 : Int), (0 : Int))).set k x = (acc ++ [x]) ++ List.replicate m (([] : List Int), 0, 0) := by
        rw [List.set_append_right _ _ (by omega), ha, Nat.sub_self, List.replicate_succ, List.set_cons_zero, List.append_assoc]
        rfl
      have hnth : (acc ++ List.replicate (m + 1) (([] : List Int), (0 : Int), (0 : Int)))[k]? = some (([] : List Int), 0, 0) := by
        rw [List.getElem?_append_right (by omega), ha, Nat.sub_self]; rfl
      have step : l4_fix_Climb (⟨n1, l⟩, ⟨n2, ops⟩, (ops.length : Int), (k : Int), ⟨b, acc ++ List.replicate (m + 1) (([] : List Int), 0, 0)⟩, ()) =
          some (.inl (⟨n1, l⟩, ⟨n2, ops⟩, (ops.length : Int), ((k + 1 : Nat) : Int), ⟨b, (acc ++ [x]) ++ List.replicate m (([] : List Int), 0, 0)⟩, ())) := by
        unfold l4_fix_Climb
        simp only
        rw [cnd_lt, if_pos (by omega), at?_nat (List.getElem?_eq_getElem hlt), bnd_some_eq, hf, bnd_some_eq]
        simp only [notB, Bool.not_true, cnd_false]
        rw [okAt_nat (by omega), bnd_some_eq, nth_of hnth, bnd_some_eq, bnd_some_eq, add1 (by omega)]
        show some (Sum.inl (_, _, _, _, (⟨b, (acc ++ List.replicate (m + 1) (([] : List Int), (0 : Int), (0 : Int))).set k x⟩ : Sl Fix1), ())) = _
        rw [hset]
      rw [loopR_inl step, ih (k + 1) (acc ++ [x]) (by omega) (by rw [List.length_append, ha]; rfl)]
      cases findAll l (ops.drop (k + 1)) with
      | none => rfl
      | some y =>
        show loopR l4_fix_Climb (_, _, _, _, (⟨b, (acc ++ [x]) ++ y⟩ : Sl Fix1), ()) = loopR l4_fix_Climb (_, _, _, _, (⟨b, acc ++ x :: y⟩ : Sl Fix1), ())
        rw [List.append_assoc]
        rfl

/-- What Climb tells. -/
def resC (q : Bool) (l : List Fix1) (ops : List (List Int)) : Sl Int × Int × Unit :=
  if checkF l ≠ 0 then (⟨true, []⟩, checkF l, ()) else if 400 < ops.length then (⟨true, []⟩, 40, ()) else match findAll l ops with
    | none => (⟨true, []⟩, 42, ())
    | some fs => match climbF fs with
      | none => (⟨true, []⟩, 43, ())
      | some x => (⟨q, x⟩, 0, ())

theorem climb_spec (n1 n2 : Bool) {l : List Fix1} (h : gL l) (ops : List (List Int)) : ∃ q, f_fix_Climb (⟨n1, l⟩, ⟨n2, ops⟩, ()) = some (resC q l ops) := by
  rw [u_fix_Climb, check_spec n1 h, bnd_some_eq]
  by_cases hc : checkF l = 0
  · have e0 : notB (eqI (checkF l) 0) = false := by rw [hc]; rfl
    simp only [e0, cnd_false]
    rw [cnd_lt]
    by_cases h4 : 400 < ops.length
    · refine ⟨true, ?_⟩
      unfold resC
      rw [if_pos (by show (400 : Int) < (ops.length : Int); omega), if_neg (by simpa using hc), if_pos h4]
    · rw [if_neg (by show ¬ (400 : Int) < (ops.length : Int); omega)]
      have hmk : mkN (lenI ops) (lenI ops) = some ops.length := by unfold mkN lenI; rw [if_pos (by omega)]; rfl
      rw [hmk, bnd_some_eq]
      have hloop := fs_loop n1 n2 false h.2.2 ops (by omega) ops.length 0 [] (by omega) rfl
      rw [List.nil_append, List.drop_zero] at hloop
      have hloop : loopR l4_fix_Climb (⟨n1, l⟩, ⟨n2, ops⟩, lenI ops, 0, ⟨false, rep ops.length (([] : List Int), 0, 0)⟩, ()) = _ := hloop
      rw [hloop]
      have res : ∀ q, resC q l ops = match findAll l ops with
          | none => (⟨true, []⟩, 42, ())
          | some fs => match climbF fs with
            | none => (⟨true, []⟩, 43, ())
            | some x => (⟨q, x⟩, 0, ()) := fun q => by
        unfold resC
        rw [if_neg (by simpa using hc), if_neg h4]
      cases hf : findAll l ops with
      | none =>
        refine ⟨true, ?_⟩
        rw [res, hf]
      | some fs =>
        obtain ⟨f1, f2⟩ := findAll_spec hf
        obtain ⟨_, hr, _⟩ := check_ok hc
        obtain ⟨q, hq⟩ := climb3 false (fs := fs) (by omega) (sides_ok hr f2)
        refine ⟨q, ?_⟩
        rw [res, hf]
        refine loopR_inr ?_
        unfold l4_fix_Climb
        simp only [List.nil_append]
        rw [cnd_lt, if_neg (by omega), hq]
  · have e0 : notB (eqI (checkF l) 0) = true := by rw [eqI_ne hc]; rfl
    refine ⟨true, ?_⟩
    simp only [e0, cnd_true]
    unfold resC
    rw [if_pos hc]
end Fn
end Ev
namespace Ev
open Go
open Fx (B rootOf)
namespace Fn

abbrev BindT := (Sl Fix1 × Int × Int × Unit) → Option (Sl Int × Bool × Unit)

theorem low_loop (self : BindT) (b0 : Bool) {fs : List Fix1} (hn : fs.length ≤ 400) (a b : Nat) (hb : b ≤ fs.length) : ∀ (j k : Nat) (low : Int), k + j = b →
    ∃ low', loopR (l2_ref04_bind self) (⟨b0, fs⟩, (a : Int), (b : Int), low, (k : Int), ()) = loopR (l2_ref04_bind self) (⟨b0, fs⟩, (a : Int), (b : Int), low', (b : Int), ()) ∧ low' ≤ low ∧ (∀ i, k ≤ i → i < b → low' ≤ lvF fs i) ∧
      (low' = low ∨ ∃ i, k ≤ i ∧ i < b ∧ lvF fs i = low') := by
  intro j
  induction j with
  | zero =>
    intro k low hk
    obtain rfl : k = b := by omega
    exact ⟨low, rfl, Int.le_refl _, fun i h1 h2 => by omega, .inl rfl⟩
  | succ j ih =>
    intro k low hk
    have hlt : k < fs.length := by omega
    have hx := List.getElem?_eq_getElem hlt
    obtain ⟨low', h1, h2, h3, h4⟩ := ih (k + 1) (minI low fs[k].2.1) (by omega)
    have step : l2_ref04_bind self (⟨b0, fs⟩, (a : Int), (b : Int), low, (k : Int), ()) = some (.inl (⟨b0, fs⟩, (a : Int), (b : Int), minI low fs[k].2.1, ((k + 1 : Nat) : Int), ())) := by
      unfold l2_ref04_bind
      simp only
      rw [cnd_lt, if_pos (by omega), at?_nat hx, bnd_some_eq, add1 (by omega)]
    have hm : minI low fs[k].2.1 ≤ low ∧ minI low fs[k].2.1 ≤ lvF fs k ∧ (minI low fs[k].2.1 = low ∨ minI low fs[k].2.1 = lvF fs k) := by
      rw [lvF_of hx]
      unfold minI
      split <;> omega
    refine ⟨low', by rw [loopR_inl step, h1], by omega, fun i g1 g2 => ?_, ?_⟩
    · by_cases e : i = k
      · subst e; omega
      · exact h3 i (by omega) g2
    · rcases h4 with h4 | ⟨i, g1, g2, g3⟩
      · rcases hm.2.2 with e | e
        · exact .inl (by omega)
        · exact .inr ⟨k, Nat.le_refl _, by omega, by omega⟩
      · exact .inr ⟨i, by omega, g2, g3⟩

theorem cnt_loop (self : BindT) (b0 : Bool) {fs : List Fix1} (hn : fs.length ≤ 400) (a b : Nat) (hb : b ≤ fs.length) (low : Int) : ∀ (j k : Nat) (first last n left right : Int), k + j = b → a ≤ k → Fx.St (lvF fs) (sdF fs) low a k first last n left right →
    (0 ≤ n ∧ n ≤ k) → (0 ≤ left ∧ left ≤ k) → (0 ≤ right ∧ right ≤ k) →
    ∃ f' l' n' lf' rt', loopR (l1_ref04_bind self) (⟨b0, fs⟩, (a : Int), (b : Int), low, first, last, n, left, right, (k : Int), ()) = loopR (l1_ref04_bind self) (⟨b0, fs⟩, (a : Int), (b : Int), low, f', l', n', lf', rt', (b : Int), ()) ∧
      Fx.St (lvF fs) (sdF fs) low a b f' l' n' lf' rt' := by
  intro j
  induction j with
  | zero =>
    intro k first last n left right hk _ hs _ _ _
    obtain rfl : k = b := by omega
    exact ⟨_, _, _, _, _, rfl, hs⟩
  | succ j ih =>
    intro k first last n left right hk ha hs h1 h2 h3
    have hlt : k < fs.length := by omega
    have hx := List.getElem?_eq_getElem hlt
    have hlv := lvF_of hx
    have hsd := sdF_of hx
    have ad : ∀ x : Int, 0 ≤ x ∧ x ≤ k → addI .i64 x 1 = x + 1 := fun x hx => addI_i64 (by omega) (by omega)
    by_cases he : lvF fs k = low
    · obtain ⟨f', l', n', lf', rt', g1, g2⟩ := ih (k + 1) (if first < 0 then (k : Int) else first) k (n + 1) (if sdF fs k < 0 then left + 1 else left) (if 0 < sdF fs k then right + 1 else right) (by omega) (by omega) (hs.low ha he) (by omega) (by split <;> omega) (by split <;> omega)
      refine ⟨f', l', n', lf', rt', ?_, g2⟩
      have step : l1_ref04_bind self (⟨b0, fs⟩, (a : Int), (b : Int), low, first, last, n, left, right, (k : Int), ()) =
          some (.inl (⟨b0, fs⟩, (a : Int), (b : Int), low, (if first < 0 then (k : Int) else first), (k : Int), n + 1, (if sdF fs k < 0 then left + 1 else left), (if 0 < sdF fs k then right + 1 else right), ((k + 1 : Nat) : Int), ())) := by
        unfold l1_ref04_bind
        simp only
        rw [cnd_lt, if_pos (by omega), at?_nat hx, bnd_some_eq, cnd_not, cnd_eq, ← hlv, if_pos he]
        rw [cnd_lt]
        by_cases c1 : first < 0
        · rw [if_pos c1, if_pos c1, bnd_some_eq]
          simp only
          rw [at?_nat hx, bnd_some_eq, cnd_lt, ← hsd, ad n h1, ad left h2]
          by_cases c2 : sdF fs k < 0
          · rw [if_pos c2, if_pos c2, bnd_some_eq]
            simp only
            rw [at?_nat hx, bnd_some_eq, cnd_lt, ← hsd, if_neg (by omega), if_neg (by omega), bnd_some_eq, bnd_some_eq, sumE_inl, add1 (by omega)]
          · rw [if_neg c2, if_neg c2, bnd_some_eq]
            simp only
            rw [at?_nat hx, bnd_some_eq, cnd_lt, ← hsd, ad right h3]
            by_cases c3 : 0 < sdF fs k
            · rw [if_pos c3, if_pos c3, bnd_some_eq, bnd_some_eq, sumE_inl, add1 (by omega)]
            · rw [if_neg c3, if_neg c3, bnd_some_eq, bnd_some_eq, sumE_inl, add1 (by omega)]
        · rw [if_neg c1, if_neg c1, bnd_some_eq]
          simp only
          rw [at?_nat hx, bnd_some_eq, cnd_lt, ← hsd, ad n h1, ad left h2]
          by_cases c2 : sdF fs k < 0
          · rw [if_pos c2, if_pos c2, bnd_some_eq]
            simp only
            rw [at?_nat hx, bnd_some_eq, cnd_lt, ← hsd, if_neg (by omega), if_neg (by omega), bnd_some_eq, bnd_some_eq, sumE_inl, add1 (by omega)]
          · rw [if_neg c2, if_neg c2, bnd_some_eq]
            simp only
            rw [at?_nat hx, bnd_some_eq, cnd_lt, ← hsd, ad right h3]
            by_cases c3 : 0 < sdF fs k
            · rw [if_pos c3, if_pos c3, bnd_some_eq, bnd_some_eq, sumE_inl, add1 (by omega)]
            · rw [if_neg c3, if_neg c3, bnd_some_eq, bnd_some_eq, sumE_inl, add1 (by omega)]
      rw [loopR_inl step, g1]
    · obtain ⟨f', l', n', lf', rt', g1, g2⟩ := ih (k + 1) first last n left right (by omega) (by omega) (hs.other he) (by omega) (by omega) (by omega)
      refine ⟨f', l', n', lf', rt', ?_, g2⟩
      have step : l1_ref04_bind self (⟨b0, fs⟩, (a : Int), (b : Int), low, first, last, n, left, right, (k : Int), ()) = some (.inl (⟨b0, fs⟩, (a : Int), (b : Int), low, first, last, n, left, right, ((k + 1 : Nat) : Int), ())) := by
        unfold l1_ref04_bind
        simp only
        rw [cnd_lt, if_pos (by omega), at?_nat hx, bnd_some_eq, cnd_not, cnd_eq, ← hlv, if_neg he, bnd_some_eq, sumE_inl, add1 (by omega)]
      rw [loopR_inl step, g1]

/-- What bind tells. -/
def resB : Option (List Int) → Sl Int × Bool × Unit
  | none => (⟨true, []⟩, false, ())
  | some x => (⟨false, x⟩, true, ())

/-- Both parts, or none. -/
def both (q : Nat) (y z : Option (List Int)) : Option (List Int) := match y, z with
  | some y, some z => some ((q : Int) :: (y ++ z))
  | _, _ => none

def resE (r : Option Int) (q : Nat) (y z : Option (List Int)) : Option (List Int) := match r with
  | none => none
  | some _ => both q y z

def finE (self : BindT) (L : Sl Fix1) (a b i : Int) : Option ((Sl Fix1 × Int × Int × Int × Int × Int × Int × Int × Int × Int × Unit) ⊕ ((Sl Fix1 × Int × Int × Int × Int × Unit) ⊕ (Sl Int × Bool × Unit))) :=
  bnd (self (L, a, i, ())) (fun x13 => bnd (self (L, addI .i64 i 1, b, ())) (fun x14 => bnd (cnd (notB x13.2.1) (some true) (some (notB x14.2.1))) (fun x15 => cnd x15 (some (Sum.inr (Sum.inr (⟨true, ([] : List Int)⟩, false, ()))))
    (bnd (fit (sumI (lenI ([i] : List Int)) (lenI x13.1.l))) (fun _ => bnd (fit (sumI (lenI (app ([i] : List Int) x13.1.l)) (lenI x14.1.l))) (fun _ => some (Sum.inr (Sum.inr (⟨andB (andB false (isE x13.1.l)) (isE x14.1.l), app (app ([i] : List Int) x13.1.l) x14.1.l⟩, true, ())))))))))

theorem bind_end (self : BindT) (b0 : Bool) {fs : List Fix1} (_hn : fs.length ≤ 400) (a b : Nat) (low f l n lf rt : Int) (r : Option Int) (hr : rootOf f l n lf rt = r)
    (q : Nat) (y z : Option (List Int)) (hq : ∀ i, r = some i → i = (q : Int) ∧ q < 400 ∧ self (⟨b0, fs⟩, (a : Int), (q : Int), ()) = some (resB y) ∧ self (⟨b0, fs⟩, ((q + 1 : Nat) : Int), (b : Int), ()) = some (resB z) ∧
      (∀ u, y = some u → u.length ≤ 10000) ∧ (∀ u, z = some u → u.length ≤ 10000)) :
    loopR (l1_ref04_bind self) (⟨b0, fs⟩, (a : Int), (b : Int), low, f, l, n, lf, rt, (b : Int), ()) = some (.inr (resB (resE r q y z))) := by
  refine loopR_inr ?_
  have c1 : (cnd (ltI 1 n) (some (eqI lf n)) (some false) : Option Bool) = some (decide (1 < n ∧ lf = n)) := by
    rw [cnd_lt]
    by_cases h : 1 < n
    · rw [if_pos h]
      have : eqI lf n = decide (1 < n ∧ lf = n) := by rw [Bool.eq_iff_iff, eqI_eq]; simp [h]
      rw [this]
    · rw [if_neg h]; simp [h]
  have c2 : (cnd (ltI 1 n) (some (notB (eqI rt n))) (some false) : Option Bool) = some (decide (1 < n ∧ rt ≠ n)) := by
    rw [cnd_lt]
    by_cases h : 1 < n
    · rw [if_pos h]
      have : notB (eqI rt n) = decide (1 < n ∧ rt ≠ n) := by
        unfold notB
        rw [Bool.eq_iff_iff, Bool.not_eq_true', ← Bool.not_eq_true, eqI_eq]
        simp [h]
      rw [this]
    · rw [if_neg h]; simp [h]
  have fin : ∀ i, r = some i → finE self ⟨b0, fs⟩ (a : Int) (b : Int) i = some (.inr (.inr (resB (both q y z)))) := by
    intro i hi
    obtain ⟨rfl, h0, h1, h2, h3, h4⟩ := hq i hi
    unfold finE
    rw [h1, bnd_some_eq, add1 (by omega), h2, bnd_some_eq]
    cases y with
    | none => rfl
    | some u =>
      cases z with
      | none => rfl
      | some v =>
        have b1 := h3 u rfl
        have b2 := h4 v rfl
        have e1 : (cnd (notB (resB (some u)).2.1) (some true) (some (notB (resB (some v)).2.1)) : Option Bool) = some false := rfl
        rw [e1, bnd_some_eq, cnd_false]
        have f1 : fit (sumI (lenI ([(q : Int)] : List Int)) (lenI (resB (some u)).1.l)) = some () := fit_ok (by show (1 : Int) + (u.length : Int) ≤ _; omega)
        have f2 : fit (sumI (lenI (app ([(q : Int)] : List Int) (resB (some u)).1.l)) (lenI (resB (some v)).1.l)) = some () := fit_ok (by show (((q : Int) :: u).length : Int) + (v.length : Int) ≤ _; rw [List.length_cons]; omega)
        rw [f1, bnd_some_eq, f2, bnd_some_eq]
        rfl
  unfold l1_ref04_bind
  simp only
  rw [cnd_lt, if_neg (by omega), c1, bnd_some_eq, cnd_dec]
  unfold rootOf at hr
  by_cases h1 : 1 < n ∧ lf = n
  · rw [if_pos h1, bnd_some_eq, sumE_inl]
    rw [if_pos h1] at hr
    have := fin l hr.symm
    rw [← hr]
    exact this
  · rw [if_neg h1, c2, bnd_some_eq, cnd_dec]
    rw [if_neg h1] at hr
    by_cases h2 : 1 < n ∧ rt ≠ n
    · rw [if_pos h2, bnd_some_eq, sumE_inr]
      rw [if_pos h2] at hr
      rw [← hr]
      rfl
    · rw [if_neg h2, bnd_some_eq, sumE_inl]
      rw [if_neg h2] at hr
      have := fin f hr.symm
      rw [← hr]
      exact this

/-- What bind is to tell. -/
def char (fs : List Fix1) (a b : Nat) (r : Option (List Int)) : Prop := match r with
  | some x => B (lvF fs) (sdF fs) a b x
  | none => ∀ x, ¬ B (lvF fs) (sdF fs) a b x
theorem char_unique {fs : List Fix1} {a b : Nat} {r r' : Option (List Int)} (h : char fs a b r) (h' : char fs a b r') : r = r' := by
  cases r with
  | none => cases r' with
    | none => rfl
    | some x => exact absurd h' (h x)
  | some x => cases r' with
    | none => exact absurd h (h' x)
    | some y => rw [Fx.B.unique h h']
theorem char_ex (fs : List Fix1) (a b : Nat) : ∃ r, char fs a b r := by
  by_cases h : ∃ x, B (lvF fs) (sdF fs) a b x
  · obtain ⟨x, hx⟩ := h
    exact ⟨some x, hx⟩
  · exact ⟨none, fun x hx => h ⟨x, hx⟩⟩

theorem bind_N (b0 : Bool) {fs : List Fix1} (hn : fs.length ≤ 400) (hlv : ∀ i, i < fs.length → lvF fs i ≤ 9) : ∀ (m a b : Nat) (r : Option (List Int)), b = a + m → b ≤ fs.length → char fs a b r →
    ∀ N, m + 1 ≤ N → recN g_ref04_bind N (⟨b0, fs⟩, (a : Int), (b : Int), ()) = some (resB r) := by
  intro m
  induction m using Nat.strongRecOn with
  | _ m ih =>
    intro a b r hb hle hc N hN
    obtain ⟨N, rfl⟩ : ∃ M, N = M + 1 := ⟨N - 1, by omega⟩
    show g_ref04_bind (recN g_ref04_bind N) _ = _
    rw [u_ref04_bind, cnd_eq]
    by_cases h0 : m = 0
    · subst h0
      obtain rfl : b = a := by omega
      have : r = some [-1 - (b : Int)] := char_unique hc (show char fs b b (some _) from B.nil b)
      rw [if_pos rfl, subI_i64 (by omega) (by omega), this]
      rfl
    · rw [if_neg (by omega)]
      obtain ⟨low, e1, e2, e3, e4⟩ := low_loop (recN g_ref04_bind N) b0 hn a b hle m a 10 (by omega)
      have hlow : ∃ i, a ≤ i ∧ i < b ∧ lvF fs i = low := by
        rcases e4 with h | h
        · have h1 := e3 a (Nat.le_refl _) (by omega)
          have h2 := hlv a (by omega)
          omega
        · exact h
      obtain ⟨f, l, n, lf, rt, k1, k2⟩ := cnt_loop (recN g_ref04_bind N) b0 hn a b hle low m a (-1) (-1) 0 0 0 (by omega) (Nat.le_refl _) (Fx.St.start _ _ low a (-1)) (by omega) (by omega) (by omega)
      have hroot := k2.root e3 hlow
      have tail : ∀ v : Sl Int × Bool × Unit, loopR (l1_ref04_bind (recN g_ref04_bind N)) (⟨b0, fs⟩, (a : Int), (b : Int), low, -1, -1, 0, 0, 0, (a : Int), ()) = some (.inr v) →
          loopR (l2_ref04_bind (recN g_ref04_bind N)) (⟨b0, fs⟩, (a : Int), (b : Int), low, (b : Int), ()) = some v := by
        intro v hv
        refine loopR_inr ?_
        unfold l2_ref04_bind
        simp only
        rw [cnd_lt, if_neg (by omega), hv]
      rw [e1]
      cases hro : rootOf f l n lf rt with
      | none =>
        rw [hro] at hroot
        have : r = none := char_unique hc (show char fs a b none from hroot)
        rw [this]
        refine tail _ ?_
        rw [k1]
        exact bind_end _ b0 hn a b low f l n lf rt none hro 0 none none (fun i hi => by cases hi)
      | some i =>
        rw [hro] at hroot
        obtain ⟨q, rfl, q1, q2, q3, q4⟩ := hroot
        obtain ⟨r1, p1⟩ := char_ex fs a q
        obtain ⟨r2, p2⟩ := char_ex fs (q + 1) b
        have s1 := ih (q - a) (by omega) a q r1 (by omega) (by omega) p1 N (by omega)
        have s2 := ih (b - (q + 1)) (by omega) (q + 1) b r2 (by omega) (by omega) p2 N (by omega)
        have hl : ∀ (a b : Nat) (r : Option (List Int)), b ≤ 400 → char fs a b r → ∀ u, r = some u → u.length ≤ 10000 := by
          intro a b r hb hc u hu
          subst hu
          have := Fx.B.len hc
          omega
        have hr : r = both q r1 r2 := by
          refine char_unique hc ?_
          cases r1 with
          | none =>
            show ∀ x, ¬ _
            intro x hx
            obtain ⟨y, z, g1, g2, _⟩ := (Fx.B.from_root q1 q2 q3 q4).1 hx
            exact p1 y g1
          | some y =>
            cases r2 with
            | none =>
              show ∀ x, ¬ _
              intro x hx
              obtain ⟨y', z, g1, g2, _⟩ := (Fx.B.from_root q1 q2 q3 q4).1 hx
              exact p2 z g2
            | some z => exact (Fx.B.from_root q1 q2 q3 q4).2 ⟨y, z, p1, p2, rfl⟩
        rw [hr]
        refine tail _ ?_
        rw [k1]
        exact bind_end _ b0 hn a b low f l n lf rt (some (q : Int)) hro q r1 r2 (fun i hi => by
          injection hi with hi
          exact ⟨hi.symm, by omega, s1, s2, hl a q r1 (by omega) p1, hl (q + 1) b r2 (by omega) p2⟩)

theorem bind_spec (b0 : Bool) {fs : List Fix1} (hn : fs.length ≤ 400) (hlv : ∀ i, i < fs.length → lvF fs i ≤ 9) {r : Option (List Int)} (hc : char fs 0 fs.length r) :
    f_ref04_bind (⟨b0, fs⟩, 0, (fs.length : Int), ()) = some (resB r) := by
  unfold f_ref04_bind
  exact recR_eq (fs.length + 1) fun N hN => bind_N b0 hn hlv fs.length 0 fs.length r (by omega) (Nat.le_refl _) hc N hN
end Fn
end Ev
namespace Ev
open Go
namespace Fn

theorem levels_ok {l fs : List Fix1} (hr : ∀ x, x ∈ l → rightF x = true) (hm : ∀ x, x ∈ fs → x ∈ l) (o : Nat) (ho : o < fs.length) : lvF fs o ≤ 9 := by
  rw [lvF_of (List.getElem?_eq_getElem ho)]
  have := hr _ (hm _ (List.getElem_mem ho))
  unfold rightF at this
  simp only [Bool.and_eq_true, decide_eq_true_eq] at this
  omega

theorem climbF_char {fs : List Fix1} (hs : ∀ o, o < fs.length → sdF fs o = -1 ∨ sdF fs o = 0 ∨ sdF fs o = 1) : char fs 0 fs.length (climbF fs) := by
  have h := Fx.climbL_ok (lv := lvF fs) (sd := sdF fs) (n := fs.length) hs
  unfold climbF
  cases hc : Fx.climbL (lvF fs) (sdF fs) fs.length with
  | none => rw [hc] at h; exact h
  | some x => rw [hc] at h; exact h

theorem rclimb_loop (n1 n2 : Bool) {l : List Fix1} (h : gL l) (hr : ∀ x, x ∈ l → rightF x = true) (ops : List (List Int)) (hn : ops.length ≤ 400) : ∀ (m k : Nat) (b : Bool) (acc : List Fix1), k + m = ops.length → acc.length = k → (∀ x, x ∈ acc → x ∈ l) →
    loopR l1_ref04_Climb (⟨n1, l⟩, ⟨n2, ops⟩, (k : Int), ⟨b, acc⟩, ()) = some (match findAll l (ops.drop k) with
      | none => (⟨true, []⟩, 42, ())
      | some r => match climbF (acc ++ r) with
        | none => (⟨true, []⟩, 43, ())
        | some x => (⟨false, x⟩, 0, ())) := by
  intro m
  induction m with
  | zero =>
    intro k b acc hk ha hm
    rw [List.drop_eq_nil_of_le (by omega)]
    have hs := sides_ok hr hm
    have hb := bind_spec b (fs := acc) (by omega) (levels_ok hr hm) (climbF_char hs)
    refine loopR_inr ?_
    unfold l1_ref04_Climb
    simp only
    have hb : f_ref04_bind (⟨b, acc⟩, 0, lenI acc, ()) = _ := hb
    rw [cnd_lt, if_neg (by unfold lenI; omega), hb, bnd_some_eq]
    unfold findAll
    simp only [List.append_nil]
    cases climbF acc with
    | none => rfl
    | some x => rfl
  | succ m ih =>
    intro k b acc hk ha hm
    have hlt : k < ops.length := by omega
    rw [drop_cons hlt]
    have hf := rfind_spec n1 l ops[k] h.2.2
    unfold findAll
    cases hff : findF l ops[k] with
    | none =>
      rw [hff] at hf
      refine loopR_inr ?_
      unfold l1_ref04_Climb
      simp only
      rw [cnd_lt, if_pos (by unfold lenI; omega), at?_nat (List.getElem?_eq_getElem hlt), bnd_some_eq, hf, bnd_some_eq]
      rfl
    | some x =>
      rw [hff] at hf
      have step : l1_ref04_Climb (⟨n1, l⟩, ⟨n2, ops⟩, (k : Int), ⟨b, acc⟩, ()) = some (.inl (⟨n1, l⟩, ⟨n2, ops⟩, ((k + 1 : Nat) : Int), ⟨andB b false, acc ++ [x]⟩, ())) := by
        unfold l1_ref04_Climb
        simp only
        rw [cnd_lt, if_pos (by unfold lenI; omega), at?_nat (List.getElem?_eq_getElem hlt), bnd_some_eq, hf, bnd_some_eq]
        simp only [notB, Bool.not_true, cnd_false]
        rw [fit_ok (by unfold sumI lenI; simp only [List.length_singleton]; omega), bnd_some_eq, add1 (by omega)]
        rfl
      have hih := ih (k + 1) (andB b false) (acc ++ [x]) (by omega) (by rw [List.length_append, ha]; rfl) (fun y hy => by
        rcases List.mem_append.1 hy with hy | hy
        · exact hm y hy
        · rw [List.mem_singleton.1 hy]; exact (findF_mem hff).1)
      rw [loopR_inl step, hih]
      cases findAll l (ops.drop (k + 1)) with
      | none => rfl
      | some r =>
        show some (match climbF ((acc ++ [x]) ++ r) with | none => _ | some x => _) = some (match climbF (acc ++ x :: r) with | none => _ | some x => _)
        rw [List.append_assoc]
        rfl

theorem rclimb_spec (n1 n2 : Bool) {l : List Fix1} (h : gL l) (ops : List (List Int)) : f_ref04_Climb (⟨n1, l⟩, ⟨n2, ops⟩, ()) = some (resC false l ops) := by
  rw [u_ref04_Climb, rcheck_spec n1 h, bnd_some_eq]
  unfold resC
  by_cases hc : checkF l = 0
  · have e0 : notB (eqI (checkF l) 0) = false := by rw [hc]; rfl
    simp only [e0, cnd_false]
    rw [if_neg (by simpa using hc), cnd_lt]
    by_cases h4 : 400 < ops.length
    · rw [if_pos (by show (400 : Int) < (ops.length : Int); omega), if_pos h4]
    · rw [if_neg (by show ¬ (400 : Int) < (ops.length : Int); omega), if_neg h4]
      obtain ⟨_, hr, _⟩ := check_ok hc
      have := rclimb_loop n1 n2 h hr ops (by omega) ops.length 0 false [] (by omega) rfl (fun x hx => by cases hx)
      rw [List.drop_zero] at this
      exact this
  · have e0 : notB (eqI (checkF l) 0) = true := by rw [eqI_ne hc]; rfl
    simp only [e0, cnd_true]
    rw [if_pos hc]

/-! In a row again. -/
def rf4 (q : Bool) : Option (List Int × Nat) → Int × Sl Int × Unit
  | some (a, e) => ((e : Int), ⟨q, a⟩, ())
  | none => (-1, ⟨true, []⟩, ())
def endF (n : Nat) : Option (List Int × Nat) → Option (List Int)
  | some (a, e) => if e = n then some a else none
  | none => none
theorem flat_both (b : Bool) {l : List Int} (hl : l.length ≤ 100000) : ∀ (d at_ : Nat), l.length - at_ = d → at_ ≤ l.length → ∃ res : Option (List Int × Nat),
    (∀ f, d + 1 ≤ f → Fx.flatB (l.drop at_) f = res.map fun p => (p.1, l.drop p.2)) ∧
    (∀ a e, res = some (a, e) → at_ < e ∧ e ≤ l.length ∧ a.length = e - at_) ∧
    (∀ (nn : Bool) (out : List Int), out.length ≤ 100000 + at_ → ∃ r, (∀ N, d + 1 ≤ N → recN g_fix_Flat_1 N ((at_ : Int), ⟨nn, out⟩, ⟨b, l⟩, ()) = some r) ∧ match res with
      | some (a, e) => ∃ q, r = (true, (e : Int), ⟨b, l⟩, ⟨q, out ++ a⟩, ())
      | none => r.1 = false) ∧
    (∃ q, ∀ N, d + 1 ≤ N → recN g_ref04_flat N (⟨b, l⟩, (at_ : Int), ()) = some (rf4 q res)) := by
  intro d
  induction d using Nat.strongRecOn with
  | _ d ih =>
    intro at_ hd hle
    have pred : ∀ N, d + 1 ≤ N → ∃ M, N = M + 1 := fun N h => ⟨N - 1, by omega⟩
    by_cases h0 : at_ = l.length
    · refine ⟨none, fun f hf => ?_, (fun a e h => by cases h), fun nn out ho => ⟨(false, (at_ : Int), ⟨b, l⟩, ⟨nn, out⟩, ()), fun N hN => ?_, rfl⟩, true, fun N hN => ?_⟩
      · obtain ⟨f, rfl⟩ := pred f hf
        rw [List.drop_eq_nil_of_le (by omega)]
        rfl
      · obtain ⟨N, rfl⟩ := pred N hN
        show g_fix_Flat_1 (recN g_fix_Flat_1 N) _ = _
        rw [u_fix_Flat_1, cnd_le, if_pos (by show (l.length : Int) ≤ (at_ : Int); omega)]
      · obtain ⟨N, rfl⟩ := pred N hN
        show g_ref04_flat (recN g_ref04_flat N) _ = _
        rw [u_ref04_flat, cnd_le, if_pos (by show (l.length : Int) ≤ (at_ : Int); omega)]
        rfl
    · have hlt : at_ < l.length := by omega
      have hx := List.getElem?_eq_getElem hlt
      have c0 : leI (lenI l) (at_ : Int) = false := decide_eq_false (by show ¬ (l.length : Int) ≤ (at_ : Int); omega)
      have hdrop := drop_cons hlt
      have ad := add1 (k := at_) (by omega)
      by_cases hneg : l[at_] < 0
      · have c1 : ltI l[at_] 0 = true := decide_eq_true hneg
        refine ⟨some ([l[at_]], at_ + 1), fun f hf => ?_, fun a e h => ?_, fun nn out ho => ⟨(true, ((at_ + 1 : Nat) : Int), ⟨b, l⟩, ⟨andB nn false, out ++ [l[at_]]⟩, ()), fun N hN => ?_, _, rfl⟩, false, fun N hN => ?_⟩
        · obtain ⟨f, rfl⟩ := pred f hf
          rw [hdrop]
          show (if l[at_] < 0 then _ else _) = _
          rw [if_pos hneg]
          rfl
        · injection h with h; injection h with h1 h2; subst h1 h2
          exact ⟨by omega, by omega, by simp⟩
        · obtain ⟨N, rfl⟩ := pred N hN
          show g_fix_Flat_1 (recN g_fix_Flat_1 N) _ = _
          rw [u_fix_Flat_1]
          simp only [c0, cnd_false, at?_nat hx, bnd_some_eq, c1, cnd_true]
          rw [fit_ok (by unfold sumI lenI; simp only [List.length_singleton]; omega), bnd_some_eq, ad]
          rfl
        · obtain ⟨N, rfl⟩ := pred N hN
          show g_ref04_flat (recN g_ref04_flat N) _ = _
          rw [u_ref04_flat]
          simp only [c0, cnd_false, at?_nat hx, bnd_some_eq, c1, cnd_true, ad, rf4]
      · have c1 : ltI l[at_] 0 = false := decide_eq_false hneg
        obtain ⟨r1, a1, a2, a3, q4, a4⟩ := ih (l.length - (at_ + 1)) (by omega) (at_ + 1) rfl (by omega)
        have fl : ∀ f, Fx.flatB (l.drop at_) (f + 1) = match Fx.flatB (l.drop (at_ + 1)) f with
            | none => none
            | some (a, r') => match Fx.flatB r' f with
              | none => none
              | some (b, r'') => some (a ++ l[at_] :: b, r'') := by
          intro f
          rw [hdrop]
          show (if l[at_] < 0 then _ else _) = _
          rw [if_neg hneg]
          rfl
        cases r1 with
        | none =>
          refine ⟨none, fun f hf => ?_, (fun a e h => by cases h), fun nn out ho => ?_, true, fun N hN => ?_⟩
          · obtain ⟨f, rfl⟩ := pred f hf
            rw [fl, a1 f (by omega)]
            rfl
          · obtain ⟨r, b1, b2⟩ := a3 nn out (by omega)
            have b2 : r.1 = false := b2
            refine ⟨(false, r.2.1, r.2.2.1, r.2.2.2.1, ()), fun N hN => ?_, rfl⟩
            obtain ⟨N, rfl⟩ := pred N hN
            show g_fix_Flat_1 (recN g_fix_Flat_1 N) _ = _
            rw [u_fix_Flat_1]
            simp only [c0, cnd_false, at?_nat hx, bnd_some_eq, c1, ad, b1 N (by omega), b2, notB, Bool.not_false, cnd_true]
          · obtain ⟨N, rfl⟩ := pred N hN
            show g_ref04_flat (recN g_ref04_flat N) _ = _
            have c2 : ltI (-1) 0 = true := rfl
            rw [u_ref04_flat]
            simp only [c0, cnd_false, at?_nat hx, bnd_some_eq, c1, ad, a4 N (by omega), rf4, c2, cnd_true]
        | some p1 =>
          obtain ⟨x1, e1⟩ := p1
          obtain ⟨g1, g2, g3⟩ := a2 x1 e1 rfl
          obtain ⟨r2, d1, d2, d3, q5, d4⟩ := ih (l.length - e1) (by omega) e1 rfl g2
          have c3 : ltI (e1 : Int) 0 = false := decide_eq_false (by omega)
          cases r2 with
          | none =>
            refine ⟨none, fun f hf => ?_, (fun a e h => by cases h), fun nn out ho => ?_, true, fun N hN => ?_⟩
            · obtain ⟨f, rfl⟩ := pred f hf
              rw [fl, a1 f (by omega)]
              show (match Fx.flatB (l.drop e1) f with | none => none | some (b, r'') => some (x1 ++ l[at_] :: b, r'')) = _
              rw [d1 f (by omega)]
              rfl
            · obtain ⟨r, b1, q, b2⟩ := a3 nn out (by omega)
              subst b2
              obtain ⟨r', b3, b4⟩ := d3 (andB q false) ((out ++ x1) ++ [l[at_]]) (by simp only [List.length_append, List.length_singleton]; omega)
              have b4 : r'.1 = false := b4
              refine ⟨(r'.1, r'.2.1, r'.2.2.1, r'.2.2.2.1, ()), fun N hN => ?_, b4⟩
              obtain ⟨N, rfl⟩ := pred N hN
              show g_fix_Flat_1 (recN g_fix_Flat_1 N) _ = _
              rw [u_fix_Flat_1]
              simp only [c0, cnd_false, at?_nat hx, bnd_some_eq, c1, ad, b1 N (by omega), notB, Bool.not_true]
              rw [fit_ok (by unfold sumI lenI; simp only [List.length_append, List.length_singleton]; omega), bnd_some_eq]
              simp only [isE_one, app_eq, b3 N (by omega), bnd_some_eq]
            · obtain ⟨N, rfl⟩ := pred N hN
              show g_ref04_flat (recN g_ref04_flat N) _ = _
              have c2 : ltI (-1) 0 = true := rfl
              rw [u_ref04_flat]
              simp only [c0, cnd_false, at?_nat hx, bnd_some_eq, c1, ad, a4 N (by omega), rf4, c3, d4 N (by omega), c2, cnd_true]
          | some p2 =>
            obtain ⟨x2, e2⟩ := p2
            obtain ⟨h1, h2, h3⟩ := d2 x2 e2 rfl
            have c4 : ltI (e2 : Int) 0 = false := decide_eq_false (by omega)
            refine ⟨some (x1 ++ l[at_] :: x2, e2), fun f hf => ?_, fun a e h => ?_, fun nn out ho => ?_, andB (andB q4 false) (isE x2), fun N hN => ?_⟩
            · obtain ⟨f, rfl⟩ := pred f hf
              rw [fl, a1 f (by omega)]
              show (match Fx.flatB (l.drop e1) f with | none => none | some (b, r'') => some (x1 ++ l[at_] :: b, r'')) = _
              rw [d1 f (by omega)]
              rfl
            · injection h with h; injection h with i1 i2; subst i1 i2
              refine ⟨by omega, h2, ?_⟩
              rw [List.length_append, List.length_cons]
              omega
            · obtain ⟨r, b1, q, b2⟩ := a3 nn out (by omega)
              subst b2
              obtain ⟨r', b3, q', b4⟩ := d3 (andB q false) ((out ++ x1) ++ [l[at_]]) (by simp only [List.length_append, List.length_singleton]; omega)
              subst b4
              refine ⟨(true, (e2 : Int), ⟨b, l⟩, ⟨q', out ++ (x1 ++ l[at_] :: x2)⟩, ()), fun N hN => ?_, q', rfl⟩
              obtain ⟨N, rfl⟩ := pred N hN
              show g_fix_Flat_1 (recN g_fix_Flat_1 N) _ = _
              rw [u_fix_Flat_1]
              simp only [c0, cnd_false, at?_nat hx, bnd_some_eq, c1, ad, b1 N (by omega), notB, Bool.not_true]
              rw [fit_ok (by unfold sumI lenI; simp only [List.length_append, List.length_singleton]; omega), bnd_some_eq]
              simp only [isE_one, app_eq, b3 N (by omega), bnd_some_eq]
              simp only [List.append_assoc, List.singleton_append]
            · obtain ⟨N, rfl⟩ := pred N hN
              show g_ref04_flat (recN g_ref04_flat N) _ = _
              rw [u_ref04_flat]
              simp only [c0, cnd_false, at?_nat hx, bnd_some_eq, c1, ad, a4 N (by omega), rf4, c3, d4 N (by omega), c4]
              rw [fit_ok (by unfold sumI lenI; simp only [List.length_singleton]; omega), bnd_some_eq, fit_ok (by unfold sumI lenI app; simp only [List.length_append, List.length_singleton]; omega), bnd_some_eq]
              simp only [isE_one, app_eq, List.append_assoc, List.singleton_append]

def flatF (l : List Int) : Option (List Int) := match Fx.flatB l (l.length + 1) with
  | some (a, []) => some a
  | _ => none
def resF (q : Bool) : Option (List Int) → Sl Int × Bool × Unit
  | some a => (⟨q, a⟩, true, ())
  | none => (⟨true, []⟩, false, ())

theorem flat_spec (b : Bool) {l : List Int} (hl : l.length ≤ 100000) : (∃ q, f_fix_Flat (⟨b, l⟩, ()) = some (resF q (flatF l))) ∧ (∃ q, f_ref04_Flat (⟨b, l⟩, ()) = some (resF q (flatF l))) := by
  obtain ⟨res, h1, h2, h3, q4, h4⟩ := flat_both b hl l.length 0 (by omega) (by omega)
  have e1 := h1 (l.length + 1) (Nat.le_refl _)
  rw [List.drop_zero] at e1
  have hF : flatF l = endF l.length res := by
    unfold flatF
    rw [e1]
    clear h1 h3 h4 e1
    cases res with
    | none => rfl
    | some p =>
      obtain ⟨a, e⟩ := p
      obtain ⟨_, g2, _⟩ := h2 a e rfl
      show (match some (a, l.drop e) with | some (a, []) => some a | _ => none) = if e = l.length then some a else none
      by_cases he : e = l.length
      · rw [if_pos he, List.drop_eq_nil_of_le (by omega)]
      · rw [if_neg he, drop_cons (by omega : e < l.length)]
  constructor
  · obtain ⟨r, g1, g2⟩ := h3 true [] (by show (0 : Nat) ≤ _; omega)
    have hw : f_fix_Flat_1 (0, ⟨true, []⟩, ⟨b, l⟩, ()) = some r := by
      unfold f_fix_Flat_1
      exact recR_eq (l.length + 1) g1
    rw [u_fix_Flat, hw, bnd_some_eq, hF]
    cases res with
    | none =>
      have g2 : r.1 = false := g2
      refine ⟨true, ?_⟩
      simp only [g2, notB, Bool.not_false, cnd_true, bnd_some_eq]
      rfl
    | some p =>
      obtain ⟨a, e⟩ := p
      obtain ⟨q, rfl⟩ := g2
      obtain ⟨_, g3, _⟩ := h2 a e rfl
      refine ⟨q, ?_⟩
      simp only [notB, Bool.not_true, cnd_false, bnd_some_eq, endF]
      by_cases he : e = l.length
      · rw [if_pos he]
        have : eqI (e : Int) (lenI l) = true := by rw [he]; exact eqI_self _
        rw [this]
        rfl
      · rw [if_neg he]
        have : eqI (e : Int) (lenI l) = false := eqI_ne (by unfold lenI; omega)
        rw [this]
        rfl
  · have hw : f_ref04_flat (⟨b, l⟩, 0, ()) = some (rf4 q4 res) := by
      unfold f_ref04_flat
      exact recR_eq (l.length + 1) h4
    rw [u_ref04_Flat, hw, bnd_some_eq, hF]
    cases res with
    | none =>
      have : eqI (-1) (lenI l) = false := eqI_ne (by unfold lenI; omega)
      refine ⟨true, ?_⟩
      simp only [rf4, this, notB, Bool.not_false, cnd_true]
      rfl
    | some p =>
      obtain ⟨a, e⟩ := p
      refine ⟨q4, ?_⟩
      simp only [rf4, endF]
      by_cases he : e = l.length
      · rw [if_pos he]
        have : eqI (e : Int) (lenI l) = true := by rw [he]; exact eqI_self _
        rw [this]
        rfl
      · rw [if_neg he]
        have : eqI (e : Int) (lenI l) = false := eqI_ne (by unfold lenI; omega)
        rw [this]
        rfl

theorem flat_of {lv sd : Nat → Int} {n : Nat} {x : List Int} (h : Fx.B lv sd 0 n x) : flatF x = some (Fx.rowOf 0 n) := by
  have := h.flat [] (x.length + 1) (by omega)
  rw [List.append_nil, Nat.sub_zero] at this
  unfold flatF
  rw [this]
end Fn
end Ev
