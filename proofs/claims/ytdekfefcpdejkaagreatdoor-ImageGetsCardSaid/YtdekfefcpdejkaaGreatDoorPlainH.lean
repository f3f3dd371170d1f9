/- Layer 18: the document's pools; the laws of pools. No statement of its own about the program. -/
import Derived.Test.YtdekfefcpdejkaaGreatDoorPlainG
namespace Ev
open Go
namespace Fn

/-! The same. -/
theorem eq_loop {σ ρ α : Type} [DecidableEq α] (f : σ → Option (σ ⊕ ρ)) (S : Nat → σ) (l m : List α) (hlen : m.length = l.length) (no : ρ) (e : Option ρ)
    (hstep : ∀ (k : Nat) (x y : α), l[k]? = some x → m[k]? = some y → f (S k) = if x = y then some (.inl (S (k + 1))) else some (.inr no)) (hend : loopR f (S l.length) = e) :
    loopR f (S 0) = if l = m then e else some no := by
  have key : ∀ (d k : Nat), k + d = l.length → loopR f (S k) = if l.drop k = m.drop k then e else some no := by
    intro d
    induction d with
    | zero =>
      intro k hk
      rw [List.drop_eq_nil_of_le (by omega), List.drop_eq_nil_of_le (by omega), if_pos rfl]
      have : k = l.length := by omega
      rw [this, hend]
    | succ d ih =>
      intro k hk
      have h1 : k < l.length := by omega
      have h2 : k < m.length := by omega
      rw [drop_cons h1, drop_cons h2]
      have hs := hstep k l[k] m[k] (List.getElem?_eq_getElem h1) (List.getElem?_eq_getElem h2)
      by_cases he : l[k] = m[k]
      · rw [if_pos he] at hs
        rw [loopR_inl hs, ih (k + 1) (by omega), he]
        by_cases hr : l.drop (k + 1) = m.drop (k + 1)
        · rw [if_pos hr, if_pos (by rw [hr])]
        · rw [if_neg hr, if_neg (fun h => hr (List.cons.inj h).2)]
      · rw [if_neg he] at hs
        rw [loopR_inr hs, if_neg (fun h => he (List.cons.inj h).1)]
  have := key l.length 0 (by omega)
  simpa using this

theorem eqI_len {α β : Type} (l : List α) (m : List β) : eqI (lenI l) (lenI m) = decide (l.length = m.length) := by
  by_cases h : l.length = m.length
  · rw [decide_eq_true h]; exact eqI_eq.2 (by unfold lenI; omega)
  · rw [decide_eq_false h]; exact eqI_ne (by unfold lenI; omega)

theorem eqIns_spec (x y : Ins) : andB (eqI x.1 y.1) (andB (eqI x.2.1 y.2.1) (eqI x.2.2 y.2.2)) = decide (x = y) := by
  obtain ⟨a, n, s⟩ := x
  obtain ⟨b, m, t⟩ := y
  show ((a == b) && ((n == m) && (s == t))) = _
  rw [Bool.eq_iff_iff]
  simp [Prod.ext_iff]

theorem eqC_spec (P Q : Sl Thing) (hP : P.l.length ≤ 1000000) : f_slices_EqualC (P, Q, ()) = some (decide (P.l = Q.l), ()) := by
  rw [u_slices_EqualC, eqI_len, cnd_not, cnd_dec]
  by_cases h : P.l.length = Q.l.length
  · rw [if_pos h]
    have := eq_loop l1_slices_EqualC (fun k => (P, Q, (P.l.length : Int), (k : Int), ())) P.l Q.l h.symm (false, ()) (some (true, ())) (fun k x y hx hy => by
      have hk := get_lt hx
      unfold l1_slices_EqualC
      simp only
      rw [cnd_lt, if_pos (by omega), at?_nat hx, bnd_some_eq, at?_nat hy, bnd_some_eq, eqT_spec, cnd_not, cnd_dec]
      by_cases he : x = y
      · rw [if_pos he, if_pos he, add1 (by omega)]
      · rw [if_neg he, if_neg he]) (by
      refine loopR_inr ?_
      unfold l1_slices_EqualC
      simp only
      rw [cnd_lt, if_neg (by omega)])
    refine this.trans ?_
    by_cases he : P.l = Q.l
    · rw [if_pos he, decide_eq_true he]
    · rw [if_neg he, decide_eq_false he]
  · rw [if_neg h, decide_eq_false (fun e => h (by rw [e]))]

theorem eqI_spec (P Q : Sl Ins) (hP : P.l.length ≤ 1000000) : f_slices_Equal (P, Q, ()) = some (decide (P.l = Q.l), ()) := by
  rw [u_slices_Equal, eqI_len, cnd_not, cnd_dec]
  by_cases h : P.l.length = Q.l.length
  · rw [if_pos h]
    have := eq_loop l1_slices_Equal (fun k => (P, Q, (P.l.length : Int), (k : Int), ())) P.l Q.l h.symm (false, ()) (some (true, ())) (fun k x y hx hy => by
      have hk := get_lt hx
      unfold l1_slices_Equal
      simp only
      rw [cnd_lt, if_pos (by omega), at?_nat hx, bnd_some_eq, at?_nat hy, bnd_some_eq, eqIns_spec, cnd_not, cnd_dec]
      by_cases he : x = y
      · rw [if_pos he, if_pos he, add1 (by omega)]
      · rw [if_neg he, if_neg he]) (by
      refine loopR_inr ?_
      unfold l1_slices_Equal
      simp only
      rw [cnd_lt, if_neg (by omega)])
    refine this.trans ?_
    by_cases he : P.l = Q.l
    · rw [if_pos he, decide_eq_true he]
    · rw [if_neg he, decide_eq_false he]
  · rw [if_neg h, decide_eq_false (fun e => h (by rw [e]))]

theorem rSame_spec (P Q : Sl Ins) (hP : P.l.length ≤ 1000000) : f_ref16_Same (P, Q, ()) = some (decide (P.l = Q.l), ()) := by
  rw [u_ref16_Same, eqI_len, cnd_not, cnd_dec]
  by_cases h : P.l.length = Q.l.length
  · rw [if_pos h]
    have := eq_loop l1_ref16_Same (fun k => (P, Q, (k : Int), ())) P.l Q.l h.symm (false, ()) (some (true, ())) (fun k x y hx hy => by
      have hk := get_lt hx
      unfold l1_ref16_Same
      simp only
      rw [cnd_lt, if_pos (by show (k : Int) < (P.l.length : Int); omega), at?_nat hx, bnd_some_eq, at?_nat hy, bnd_some_eq, eqIns_spec, cnd_not, cnd_dec]
      by_cases he : x = y
      · rw [if_pos he, if_pos he, add1 (by omega)]
      · rw [if_neg he, if_neg he]) (by
      refine loopR_inr ?_
      unfold l1_ref16_Same
      simp only
      rw [cnd_lt, if_neg (by show ¬ (P.l.length : Int) < (P.l.length : Int); omega)])
    refine this.trans ?_
    by_cases he : P.l = Q.l
    · rw [if_pos he, decide_eq_true he]
    · rw [if_neg he, decide_eq_false he]
  · rw [if_neg h, decide_eq_false (fun e => h (by rw [e]))]

abbrev Img := Sl Thing × Sl Ins

theorem im_same (M N : Img) (h1 : M.1.l.length ≤ 1000000) (h2 : M.2.l.length ≤ 1000000) : f_image_Same (M, N, ()) = some (decide (M.1.l = N.1.l ∧ M.2.l = N.2.l), ()) := by
  obtain ⟨P, C⟩ := M
  obtain ⟨Q, D⟩ := N
  rw [u_image_Same, eqC_spec P Q h1, bnd_some_eq]
  show bnd (cnd (decide (P.l = Q.l)) _ _) _ = some (decide (P.l = Q.l ∧ C.l = D.l), ())
  rw [cnd_dec, eqI_spec C D h2]
  by_cases he : P.l = Q.l
  · rw [if_pos he, bnd_some_eq, bnd_some_eq]
    simp [he]
  · rw [if_neg he, bnd_some_eq]
    simp [he]

theorem rf_same (M N : Img) (h1 : M.1.l.length ≤ 1000000) (h2 : M.2.l.length ≤ 1000000) : f_ref18_Same (M, N, ()) = some (decide (M.1.l = N.1.l ∧ M.2.l = N.2.l), ()) := by
  obtain ⟨P, C⟩ := M
  obtain ⟨Q, D⟩ := N
  have h1 : P.l.length ≤ 1000000 := h1
  rw [u_ref18_Same, eqI_len, cnd_not, cnd_dec]
  show _ = some (decide (P.l = Q.l ∧ C.l = D.l), ())
  by_cases h : P.l.length = Q.l.length
  · rw [if_pos h]
    have := eq_loop l1_ref18_Same (fun k => ((k : Int), P, C, Q, D, ())) P.l Q.l h.symm (false, ()) (some (decide (C.l = D.l), ())) (fun k x y hx hy => by
      have hk := get_lt hx
      unfold l1_ref18_Same
      simp only
      rw [cnd_lt, if_pos (by show (k : Int) < (P.l.length : Int); omega), at?_nat hx, bnd_some_eq, at?_nat hy, bnd_some_eq, eqT_spec, cnd_not, cnd_dec]
      by_cases he : x = y
      · rw [if_pos he, if_pos he, add1 (by omega)]
      · rw [if_neg he, if_neg he]) (by
      refine loopR_inr ?_
      unfold l1_ref18_Same
      simp only
      rw [cnd_lt, if_neg (by show ¬ (P.l.length : Int) < (P.l.length : Int); omega), rSame_spec C D h2]
      rfl)
    refine this.trans ?_
    by_cases he : P.l = Q.l
    · rw [if_pos he]; simp [he]
    · rw [if_neg he]; simp [he]
  · rw [if_neg h, decide_eq_false (fun e => h (by rw [e.1]))]

/-! May a pool be? -/
def chkP : Option Thing → List Thing → Bool
  | _, [] => true
  | p, x :: r => rightT x && (match p with | none => true | some y => lessD y x) && chkP (some x) r

theorem chkP_some : ∀ (l : List Thing) (a : Thing), chkP (some a) l = true ↔ (∀ x, x ∈ l → rightT x = true) ∧ strictL (a :: l)
  | [], a => by
    constructor
    · intro _; exact ⟨(fun x hx => by cases hx), List.pairwise_singleton ..⟩
    · intro _; rfl
  | x :: r, a => by
    show (rightT x && lessD a x && chkP (some x) r) = true ↔ _
    rw [Bool.and_eq_true, Bool.and_eq_true, chkP_some r x]
    constructor
    · rintro ⟨⟨h1, h2⟩, h3, h4⟩
      refine ⟨fun y hy => ?_, List.pairwise_cons.2 ⟨fun y hy => ?_, h4⟩⟩
      · rcases List.mem_cons.1 hy with rfl | hy
        · exact h1
        · exact h3 y hy
      · rcases List.mem_cons.1 hy with rfl | hy
        · exact h2
        · exact lessD_trans a x y h2 ((List.pairwise_cons.1 h4).1 y hy)
    · rintro ⟨h1, h2⟩
      obtain ⟨h3, h4⟩ := List.pairwise_cons.1 h2
      exact ⟨⟨h1 x (List.mem_cons_self ..), h3 x (List.mem_cons_self ..)⟩, fun y hy => h1 y (List.mem_cons_of_mem _ hy), h4⟩

theorem chkP_none (l : List Thing) : chkP none l = true ↔ (∀ x, x ∈ l → rightT x = true) ∧ strictL l := by
  cases l with
  | nil => exact ⟨fun _ => ⟨(fun x hx => by cases hx), List.Pairwise.nil⟩, fun _ => rfl⟩
  | cons x r =>
    show (rightT x && true && chkP (some x) r) = true ↔ _
    rw [Bool.and_true, Bool.and_eq_true, chkP_some r x]
    constructor
    · rintro ⟨h1, h3, h4⟩
      refine ⟨fun y hy => ?_, h4⟩
      rcases List.mem_cons.1 hy with rfl | hy
      · exact h1
      · exact h3 y hy
    · rintro ⟨h1, h2⟩
      exact ⟨h1 x (List.mem_cons_self ..), fun y hy => h1 y (List.mem_cons_of_mem _ hy), h2⟩

/-- What is wrong with an image. -/
def chkM (M : Img) : Int := if 4000 < M.1.l.length ∨ chkP none M.1.l = false then 180 else chkL M.2.l

def prevT (l : List Thing) (k : Nat) : Option Thing := if k = 0 then none else l[k - 1]?

theorem check_loop (P : Sl Thing) (C : Sl Ins) (hP : P.l.length ≤ 1000000) (hC : C.l.length ≤ 1000000) (hg : ∀ x, x ∈ P.l → gT x) : ∀ (m k : Nat), k + m = P.l.length →
    loopR l1_image_Check (P, (P.l.length : Int), (k : Int), P, C, ()) = some (if chkP (prevT P.l k) (P.l.drop k) = true then chkL C.l else 180, ()) := by
  intro m
  induction m with
  | zero =>
    intro k hk
    refine loopR_inr ?_
    unfold l1_image_Check
    simp only
    rw [cnd_lt, if_neg (by omega), List.drop_eq_nil_of_le (by omega), acheck_spec C hC, bnd_some_eq]
    rfl
  | succ m ih =>
    intro k hk
    have hlt : k < P.l.length := by omega
    rw [drop_cons hlt]
    have hpk : prevT P.l (k + 1) = some P.l[k] := by
      unfold prevT
      rw [if_neg (by omega), Nat.add_sub_cancel, List.getElem?_eq_getElem hlt]
    have step : l1_image_Check (P, (P.l.length : Int), (k : Int), P, C, ()) = if (rightT P.l[k] && (match prevT P.l k with | none => true | some y => lessD y P.l[k])) = true then some (.inl (P, (P.l.length : Int), ((k + 1 : Nat) : Int), P, C, ())) else some (.inr (180, ())) := by
      unfold l1_image_Check
      simp only
      rw [cnd_lt, if_pos (by omega), at?_nat (List.getElem?_eq_getElem hlt), bnd_some_eq, im_right _ (hg _ (List.getElem_mem hlt)), bnd_some_eq, cnd_not]
      cases hr : rightT P.l[k] with
      | false => rfl
      | true =>
        rw [cnd_true, Bool.true_and, cnd_lt]
        by_cases h0 : k = 0
        · subst h0
          rw [if_neg (by omega), cnd_false]
          rfl
        · rw [if_pos (by omega)]
          have s1 : subI .i64 (k : Int) 1 = ((k - 1 : Nat) : Int) := by rw [subI_i64 (by omega) (by omega)]; omega
          have hl1 : k - 1 < P.l.length := by omega
          rw [s1, at?_nat (List.getElem?_eq_getElem hl1), bnd_some_eq, im_less, bnd_some_eq, cnd_not, add1 (by omega)]
          have : prevT P.l k = some P.l[k - 1] := by unfold prevT; rw [if_neg h0, List.getElem?_eq_getElem hl1]
          rw [this]
          show _ = if lessD P.l[k - 1] P.l[k] = true then _ else _
          cases lessD P.l[k - 1] P.l[k] <;> rfl
    show _ = some (if (rightT P.l[k] && (match prevT P.l k with | none => true | some y => lessD y P.l[k]) && chkP (some P.l[k]) (P.l.drop (k + 1))) = true then chkL C.l else 180, ())
    cases hb : (rightT P.l[k] && (match prevT P.l k with | none => true | some y => lessD y P.l[k])) with
    | true =>
      rw [hb, if_pos rfl] at step
      rw [loopR_inl step, ih (k + 1) (by omega), hpk, Bool.true_and]
    | false =>
      rw [hb, if_neg Bool.false_ne_true] at step
      rw [loopR_inr step, Bool.false_and, if_neg Bool.false_ne_true]

theorem im_check (M : Img) (hP : M.1.l.length ≤ 1000000) (hC : M.2.l.length ≤ 1000000) (hg : ∀ x, x ∈ M.1.l → gT x) : f_image_Check (M, ()) = some (chkM M, ()) := by
  obtain ⟨P, C⟩ := M
  have hP : P.l.length ≤ 1000000 := hP
  rw [u_image_Check, cnd_lt]
  unfold chkM
  show (if 4000 < (P.l.length : Int) then _ else loopR l1_image_Check (P, (P.l.length : Int), ((0 : Nat) : Int), P, C, ())) = some (if 4000 < P.l.length ∨ chkP none P.l = false then 180 else chkL C.l, ())
  by_cases hl : 4000 < P.l.length
  · rw [if_pos (by omega), if_pos (.inl hl)]
  · rw [if_neg (by omega), check_loop P C hP hC hg P.l.length 0 (by omega)]
    show some (if chkP none P.l = true then chkL C.l else 180, ()) = _
    cases hc : chkP none P.l with
    | true => rw [if_pos rfl, if_neg (by simp [hl])]
    | false => rw [if_neg Bool.false_ne_true, if_pos (.inr rfl)]
end Fn
end Ev
namespace Ev
open Go
namespace Fn

theorem own_eq (L : Sl Thing) (h : L.l.length ≤ 1000000) : f_law18_own (L, ()) = some (⟨false, L.l⟩, ()) := by
  rw [u_law18_own, fit_ok (by simp only [sumI, lenI, List.length_nil]; omega), bnd_some_eq]
  rfl

theorem good_gT {x : Thing} (h : good (.st (.pair .bool (.pair (.int .i64) .str))) x) : gT x := by
  obtain ⟨_, h1, h2, h3⟩ := h
  have h1 := inK_i64.1 h1
  exact ⟨h1, fun b hb => by have := h3 b hb; omega, h2⟩

end Fn
end Ev
