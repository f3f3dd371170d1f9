/- Layer 18: the document's pools; the laws of pools. No statement of its own about the program. -/
import Derived.Test.YtdekfefcpdejkaaDoorPlainG
namespace Ev
open Go
namespace Fn

/-! The same. -/
theorem eq_loop {σ ρ α : Type} [DecidableEq α] (f : σ → Option (σ ⊕ ρ)) (S : Nat → σ) (l m : List α) (hlen : m.length = l.length) (no : ρ) (e : Option ρ)
    (hstep : ∀ (k : Nat) (x y : α), l[k]? = some x → m[k]? = some y → f (S k) = if x = y then some (.inl (S (k + 1))) else some (.inr no)) (hend : loopR f (S l.length) = e) :
    loopR f (S 0) = if l = m then e else some no := by
  have key : ∀ (d k : Nat), k + d = l.length → loopR f (S k) = if l.drop k = m.drop k then e else some no := by
    intro d
    induction d with
    | zero =>
      intro k hk
      rw [List.drop_eq_nil_of_le (by omega), List.drop_eq_nil_of_le (by omega), if_pos rfl]
      have : k = l.length := by omega
      rw [this, hend]
    | succ d ih =>
      intro k hk
      have h1 : k < l.length := by omega
      have h2 : k < m.length := by omega
      rw [drop_cons h1, drop_cons h2]
      have hs := hstep k l[k] m[k] (List.getElem?_eq_getElem h1) (List.getElem?_eq_getElem h2)
      by_cases he : l[k] = m[k]
      · rw [if_pos he] at hs
        rw [loopR_inl hs, ih (k + 1) (by omega), he]
        by_cases hr : l.drop (k + 1) = m.drop (k + 1)
        · rw [if_pos hr, if_pos (by rw [hr])]
        · rw [if_neg hr, if_neg (fun h => hr (List.cons.inj h).2)]
      · rw [if_neg he] at hs
        rw [loopR_inr hs, if_neg (fun h => he (List.cons.inj h).1)]
  have := key l.length 0 (by omega)
  simpa using this

theorem eqI_len {α β : Type} (l : List α) (m : List β) : eqI (lenI l) (lenI m) = decide (l.length = m.length) := by
  by_cases h : l.length = m.length
  · rw [decide_eq_true h]; exact eqI_eq.2 (by unfold lenI; omega)
  · rw [decide_eq_false h]; exact eqI_ne (by unfold lenI; omega)

theorem eqIns_spec (x y : Ins) : andB (eqI x.1 y.1) (andB (eqI x.2.1 y.2.1) (eqI x.2.2 y.2.2)) = decide (x = y) := by
  obtain ⟨a, n, s⟩ := x
  obtain ⟨b, m, t⟩ := y
  show ((a == b) && ((n == m) && (s == t))) = _
  rw [Bool.eq_iff_iff]
  simp [Prod.ext_iff]

theorem eqC_spec (P Q : Sl Thing) (hP : P.l.length ≤ 1000000) : f_slices_EqualC (P, Q, ()) = some (decide (P.l = Q.l), ()) := by
  rw [u_slices_EqualC, eqI_len, cnd_not, cnd_dec]
  by_cases h : P.l.length = Q.l.length
  · rw [if_pos h]
    have := eq_loop l1_slices_EqualC (fun k => (P, Q, (P.l.length : Int), (k : Int), ())) P.l Q.l h.symm (false, ()) (some (true, ())) (fun k x y hx hy => by
      have hk := get_lt hx
      unfold l1_slices_EqualC
      simp only
      rw [cnd_lt, if_pos (by omega), at?_nat hx, bnd_some_eq, at?_nat hy, bnd_some_eq, eqT_spec, cnd_not, cnd_dec]
      by_cases he : x = y
      · rw [if_pos he, if_pos he, add1 (by omega)]
      · rw [if_neg he, if_neg he]) (by
      refine loopR_inr ?_
      unfold l1_slices_EqualC
      simp only
      rw [cnd_lt, if_neg (by omega)])
    refine this.trans ?_
    by_cases he : P.l = Q.l
    · rw [if_pos he, decide_eq_true he]
    · rw [if_neg he, decide_eq_false he]
  · rw [if_neg h, decide_eq_false (fun e => h (by rw [e]))]

theorem eqI_spec (P Q : Sl Ins) (hP : P.l.length ≤ 1000000) : f_slices_Equal (P, Q, ()) = some (decide (P.l = Q.l), ()) := by
  rw [u_slices_Equal, eqI_len, cnd_not, cnd_dec]
  by_cases h : P.l.length = Q.l.length
  · rw [if_pos h]
    have := eq_loop l1_slices_Equal (fun k => (P, Q, (P.l.length : Int), (k : Int), ())) P.l Q.l h.symm (false, ()) (some (true, ())) (fun k x y hx hy => by
      have hk := get_lt hx
      unfold l1_slices_Equal
      simp only
      rw [cnd_lt, if_pos (by omega), at?_nat hx, bnd_some_eq, at?_nat hy, bnd_some_eq, eqIns_spec, cnd_not, cnd_dec]
      by_cases he : x = y
      · rw [if_pos he, if_pos he, add1 (by omega)]
      · rw [if_neg he, if_neg he]) (by
      refine loopR_inr ?_
      unfold l1_slices_Equal
      simp only
      rw [cnd_lt, if_neg (by omega)])
    refine this.trans ?_
    by_cases he : P.l = Q.l
    · rw [if_pos he, decide_eq_true he]
    · rw [if_neg he, decide_eq_false he]
  · rw [if_neg h, decide_eq_false (fun e => h (by rw [e]))]

theorem rSame_spec (P Q : Sl Ins) (hP : P.l.length ≤ 1000000) : f_ref16_Same (P, Q, ()) = some (decide (P.l = Q.l), ()) := by
  rw [u_ref16_Same, eqI_len, cnd_not, cnd_dec]
  by_cases h : P.l.length = Q.l.length
  · rw [if_pos h]
    have := eq_loop l1_ref16_Same (fun k => (P, Q, (k : Int), ())) P.l Q.l h.symm (false, ()) (some (true, ())) (fun k x y hx hy => by
      have hk := get_lt hx
      unfold l1_ref16_Same
      simp only
      rw [cnd_lt, if_pos (by show (k : Int) < (P.l.length : Int); omega), at?_nat hx, bnd_some_eq, at?_nat hy, bnd_some_eq, eqIns_spec, cnd_not, cnd_dec]
      by_cases he : x = y
      · rw [if_pos he, if_pos he, add1 (by omega)]
      · rw [if_neg he, if_neg he]) (by
      refine loopR_inr ?_
      unfold l1_ref16_Same
      simp only
      rw [cnd_lt, if_neg (by show ¬ (P.l.length : Int) < (P.l.length : Int); omega)])
    refine this.trans ?_
    by_cases he : P.l = Q.l
    · rw [if_pos he, decide_eq_true he]
    · rw [if_neg he, decide_eq_false he]
  · rw [if_neg h, decide_eq_false (fun e => h (by rw [e]))]

abbrev Img := Sl Thing × Sl Ins

theorem im_same (M N : Img) (h1 : M.1.l.length ≤ 1000000) (h2 : M.2.l.length ≤ 1000000) : f_image_Same (M, N, ()) = some (decide (M.1.l = N.1.l ∧ M.2.l = N.2.l), ()) := by
  obtain ⟨P, C⟩ := M
  obtain ⟨Q, D⟩ := N
  rw [u_image_Same, eqC_spec P Q h1, bnd_some_eq]
  show bnd (cnd (decide (P.l = Q.l)) _ _) _ = some (decide (P.l = Q.l ∧ C.l = D.l), ())
  rw [cnd_dec, eqI_spec C D h2]
  by_cases he : P.l = Q.l
  · rw [if_pos he, bnd_some_eq, bnd_some_eq]
    simp [he]
  · rw [if_neg he, bnd_some_eq]
    simp [he]

theorem rf_same (M N : Img) (h1 : M.1.l.length ≤ 1000000) (h2 : M.2.l.length ≤ 1000000) : f_ref18_Same (M, N, ()) = some (decide (M.1.l = N.1.l ∧ M.2.l = N.2.l), ()) := by
  obtain ⟨P, C⟩ := M
  obtain ⟨Q, D⟩ := N
  have h1 : P.l.length ≤ 1000000 := h1
  rw [u_ref18_Same, eqI_len, cnd_not, cnd_dec]
  show _ = some (decide (P.l = Q.l ∧ C.l = D.l), ())
  by_cases h : P.l.length = Q.l.length
  · rw [if_pos h]
    have := eq_loop l1_ref18_Same (fun k => ((k : Int), P, C, Q, D, ())) P.l Q.l h.symm (false, ()) (some (decide (C.l = D.l), ())) (fun k x y hx hy => by
      have hk := get_lt hx
      unfold l1_ref18_Same
      simp only
      rw [cnd_lt, if_pos (by show (k : Int) < (P.l.length : Int); omega), at?_nat hx, bnd_some_eq, at?_nat hy, bnd_some_eq, eqT_spec, cnd_not, cnd_dec]
      by_cases he : x = y
      · rw [if_pos he, if_pos he, add1 (by omega)]
      · rw [if_neg he, if_neg he]) (by
      refine loopR_inr ?_
      unfold l1_ref18_Same
      simp only
      rw [cnd_lt, if_neg (by show ¬ (P.l.length : Int) < (P.l.length : Int); omega), rSame_spec C D h2]
      rfl)
    refine this.trans ?_
    by_cases he : P.l = Q.l
    · rw [if_pos he]; simp [he]
    · rw [if_neg he]; simp [he]
  · rw [if_neg h, decide_eq_false (fun e => h (by rw [e.1]))]

/-! May a pool be? -/
def chkP : Option Thing → List Thing → Bool
  | _, [] => true
  | p, x :: r => rightT x && (match p with | none => true | some y => lessD y x) && chkP (some x) r

theorem chkP_some : ∀ (l : List Thing) (a : Thing), chkP (some a) l = true ↔ (∀ x, x ∈ l → rightT x = true) ∧ strictL (a :: l)
  | [], a => by
    constructor
    · intro _; exact ⟨(fun x hx => by cases hx), List.pairwise_singleton ..⟩
    · intro _; rfl
  | x :: r, a => by
    show (rightT x && lessD a x && chkP (some x) r) = true ↔ _
    rw [Bool.and_eq_true, Bool.and_eq_true, chkP_some r x]
    constructor
    · rintro ⟨⟨h1, h2⟩, h3, h4⟩
      refine ⟨fun y hy => ?_, List.pairwise_cons.2 ⟨fun y hy => ?_, h4⟩⟩
      · rcases List.mem_cons.1 hy with rfl | hy
        · exact h1
        · exact h3 y hy
      · rcases List.mem_cons.1 hy with rfl | hy
        · exact h2
        · exact lessD_trans a x y h2 ((List.pairwise_cons.1 h4).1 y hy)
    · rintro ⟨h1, h2⟩
      obtain ⟨h3, h4⟩ := List.pairwise_cons.1 h2
      exact ⟨⟨h1 x (List.mem_cons_self ..), h3 x (List.mem_cons_self ..)⟩, fun y hy => h1 y (List.mem_cons_of_mem _ hy), h4⟩

theorem chkP_none (l : List Thing) : chkP none l = true ↔ (∀ x, x ∈ l → rightT x = true) ∧ strictL l := by
  cases l with
  | nil => exact ⟨fun _ => ⟨(fun x hx => by cases hx), List.Pairwise.nil⟩, fun _ => rfl⟩
  | cons x r =>
    show (rightT x && true && chkP (some x) r) = true ↔ _
    rw [Bool.and_true, Bool.and_eq_true, chkP_some r x]
    constructor
    · rintro ⟨h1, h3, h4⟩
      refine ⟨fun y hy => ?_, h4⟩
      rcases List.mem_cons.1 hy with rfl | hy
      · exact h1
      · exact h3 y hy
    · rintro ⟨h1, h2⟩
      exact ⟨h1 x (List.mem_cons_self ..), fun y hy => h1 y (List.mem_cons_of_mem _ hy), h2⟩

/-- What is wrong with an image. -/
def chkM (M : Img) : Int := if 4000 < M.1.l.length ∨ chkP none M.1.l = false then 180 else chkL M.2.l

def prevT (l : List Thing) (k : Nat) : Option Thing := if k = 0 then none else l[k - 1]?

theorem check_loop (P : Sl Thing) (C : Sl Ins) (hP : P.l.length ≤ 1000000) (hC : C.l.length ≤ 1000000) (hg : ∀ x, x ∈ P.l → gT x) : ∀ (m k : Nat), k + m = P.l.length →
    loopR l1_image_Check (P, (P.l.length : Int), (k : Int), P, C, ()) = some (if chkP (prevT P.l k) (P.l.drop k) = true then chkL C.l else 180, ()) := by
  intro m
  induction m with
  | zero =>
    intro k hk
    refine loopR_inr ?_
    unfold l1_image_Check
    simp only
    rw [cnd_lt, if_neg (by omega), List.drop_eq_nil_of_le (by omega), acheck_spec C hC, bnd_some_eq]
    rfl
  | succ m ih =>
    intro k hk
    have hlt : k < P.l.length := by omega
    rw [drop_cons hlt]
    have hpk : prevT P.l (k + 1) = some P.l[k] := by
      unfold prevT
      rw [if_neg (by omega), Nat.add_sub_cancel, List.getElem?_eq_getElem hlt]
    have step : l1_image_Check (P, (P.l.length : Int), (k : Int), P, C, ()) = if (rightT P.l[k] && (match prevT P.l k with | none => true | some y => lessD y P.l[k])) = true then some (.inl (P, (P.l.length : Int), ((k + 1 : Nat) : Int), P, C, ())) else some (.inr (180, ())) := by
      unfold l1_image_Check
      simp only
      rw [cnd_lt, if_pos (by omega), at?_nat (List.getElem?_eq_getElem hlt), bnd_some_eq, im_right _ (hg _ (List.getElem_mem hlt)), bnd_some_eq, cnd_not]
      cases hr : rightT P.l[k] with
      | false => rfl
      | true =>
        rw [cnd_true, Bool.true_and, cnd_lt]
        by_cases h0 : k = 0
        · subst h0
          rw [if_neg (by omega), cnd_false]
          rfl
        · rw [if_pos (by omega)]
          have s1 : subI .i64 (k : Int) 1 = ((k - 1 : Nat) : Int) := by rw [subI_i64 (by omega) (by omega)]; omega
          have hl1 : k - 1 < P.l.length := by omega
          rw [s1, at?_nat (List.getElem?_eq_getElem hl1), bnd_some_eq, im_less, bnd_some_eq, cnd_not, add1 (by omega)]
          have : prevT P.l k = some P.l[k - 1] := by unfold prevT; rw [if_neg h0, List.getElem?_eq_getElem hl1]
          rw [this]
          show _ = if lessD P.l[k - 1] P.l[k] = true then _ else _
          cases lessD P.l[k - 1] P.l[k] <;> rfl
    show _ = some (if (rightT P.l[k] && (match prevT P.l k with | none => true | some y => lessD y P.l[k]) && chkP (some P.l[k]) (P.l.drop (k + 1))) = true then chkL C.l else 180, ())
    cases hb : (rightT P.l[k] && (match prevT P.l k with | none => true | some y => lessD y P.l[k])) with
    | true =>
      rw [hb, if_pos rfl] at step
      rw [loopR_inl step, ih (k + 1) (by omega), hpk, Bool.true_and]
    | false =>
      rw [hb, if_neg Bool.false_ne_true] at step
      rw [loopR_inr step, Bool.false_and, if_neg Bool.false_ne_true]

theorem im_check (M : Img) (hP : M.1.l.length ≤ 1000000) (hC : M.2.l.length ≤ 1000000) (hg : ∀ x, x ∈ M.1.l → gT x) : f_image_Check (M, ()) = some (chkM M, ()) := by
  obtain ⟨P, C⟩ := M
  have hP : P.l.length ≤ 1000000 := hP
  rw [u_image_Check, cnd_lt]
  unfold chkM
  show (if 4000 < (P.l.length : Int) then _ else loopR l1_image_Check (P, (P.l.length : Int), ((0 : Nat) : Int), P, C, ())) = some (if 4000 < P.l.length ∨ chkP none P.l = false then 180 else chkL C.l, ())
  by_cases hl : 4000 < P.l.length
  · rw [if_pos (by omega), if_pos (.inl hl)]
  · rw [if_neg (by omega), check_loop P C hP hC hg P.l.length 0 (by omega)]
    show some (if chkP none P.l = true then chkL C.l else 180, ()) = _
    cases hc : chkP none P.l with
    | true => rw [if_pos rfl, if_neg (by simp [hl])]
    | false => rw [if_neg Bool.false_ne_true, if_pos (.inr rfl)]
end Fn
end Ev
namespace Ev
open Go
namespace Fn

/-! The document's pool: one by one. -/
def insF (c : Thing) : List Thing → List Thing
  | [] => [c]
  | x :: r => if lessD x c = true then x :: insF c r else if x = c then x :: r else c :: x :: r

theorem insF_mem (c : Thing) : ∀ (l : List Thing) (x : Thing), x ∈ insF c l ↔ x = c ∨ x ∈ l
  | [], x => by simp [insF]
  | y :: r, x => by
    unfold insF
    by_cases h : lessD y c = true
    · rw [if_pos h, List.mem_cons, insF_mem c r x, List.mem_cons]
      constructor
      · rintro (h | h | h)
        · exact .inr (.inl h)
        · exact .inl h
        · exact .inr (.inr h)
      · rintro (h | h | h)
        · exact .inr (.inl h)
        · exact .inl h
        · exact .inr (.inr h)
    · rw [if_neg h]
      by_cases he : y = c
      · rw [if_pos he]
        subst he
        simp
      · rw [if_neg he]
        simp

theorem insF_len (c : Thing) : ∀ l : List Thing, (insF c l).length ≤ l.length + 1
  | [] => Nat.le_refl _
  | y :: r => by
    unfold insF
    have := insF_len c r
    split
    · simp; omega
    · split <;> simp

theorem insF_strict (c : Thing) (hc : goodT c = true) : ∀ (l : List Thing), (∀ x, x ∈ l → goodT x = true) → strictL l → strictL (insF c l)
  | [], _, _ => List.pairwise_singleton ..
  | y :: r, hg, hs => by
    obtain ⟨h1, h2⟩ := List.pairwise_cons.1 hs
    unfold insF
    by_cases h : lessD y c = true
    · rw [if_pos h]
      refine List.pairwise_cons.2 ⟨fun z hz => ?_, insF_strict c hc r (fun x hx => hg x (List.mem_cons_of_mem _ hx)) h2⟩
      rcases (insF_mem c r z).1 hz with rfl | hz
      · exact h
      · exact h1 z hz
    · rw [if_neg h]
      by_cases he : y = c
      · rw [if_pos he]; exact hs
      · rw [if_neg he]
        have hcy : lessD c y = true := by
          cases hl : lessD c y with
          | true => rfl
          | false =>
            have h' : lessD y c = false := by simpa using h
            exact absurd (lessD_total y c (hg y (List.mem_cons_self ..)) hc h' hl) he
        refine List.pairwise_cons.2 ⟨fun z hz => ?_, hs⟩
        rcases List.mem_cons.1 hz with rfl | hz
        · exact hcy
        · exact lessD_trans c y z hcy (h1 z hz)

theorem rpool_step (L O : Sl Thing) (i k : Nat) (c : Thing) (hi : L.l[i]? = some c) (hO : O.l.length ≤ 1000000) (hk : k ≤ O.l.length) : ∃ n,
    l1_ref18_Pool (L, (i : Int), (k : Int), O, ()) = match O.l[k]? with
      | some y => if lessD y c = true then some (.inl (L, (i : Int), ((k + 1 : Nat) : Int), O, ())) else if y = c then some (.inr (.inl (L, (i : Int), O, ()))) else some (.inr (.inl (L, (i : Int), ⟨n, O.l.take k ++ [c] ++ O.l.drop k⟩, ())))
      | none => some (.inr (.inl (L, (i : Int), ⟨n, O.l.take k ++ [c] ++ O.l.drop k⟩, ()))) := by
  have c1 : cutN (lenI O.l) (k : Int) = some k := by
    unfold cutN lenI
    rw [if_pos (by omega)]
    simp
  have d1 : dropL O.l (k : Int) = O.l.drop k := by unfold dropL; simp
  have f1 : ∀ a b : List Thing, a.length ≤ 2000000 → b.length ≤ 2000000 → fit (sumI (lenI a) (lenI b)) = some () := fun a b ha hb => fit_ok (by unfold sumI lenI; omega)
  have t1 : (takeL O.l k).length ≤ 1000000 := by unfold takeL; rw [List.length_take]; omega
  have t2 : (app ([] : List Thing) (takeL O.l k)).length ≤ 1000000 := t1
  have t3 : ∀ x : Thing, (app (app ([] : List Thing) (takeL O.l k)) [x]).length ≤ 1000001 := fun x => by
    show (takeL O.l k ++ [x]).length ≤ _
    rw [List.length_append]; simp; omega
  have t4 : (dropL O.l (k : Int)).length ≤ 1000000 := by rw [d1, List.length_drop]; omega
  have aok : addI .i64 (k : Int) 1 = ((k + 1 : Nat) : Int) := add1 (by omega)
  cases hy : O.l[k]? with
  | some y =>
    have hlt := get_lt hy
    have ok : okAt O.l (k : Int) = some k := okAt_nat hlt
    have ny : nth O.l k = some y := hy
    have lt1 : ltI (k : Int) (lenI O.l) = true := decide_eq_true (by unfold lenI; omega)
    refine ⟨false, ?_⟩
    unfold l1_ref18_Pool
    simp only
    rw [lt1, cnd_true, ok, bnd_some_eq, ny, bnd_some_eq, at?_nat hi, bnd_some_eq, rf_less, bnd_some_eq]
    cases hl : lessD y c with
    | true => rw [aok]; rfl
    | false =>
      simp only [ny, cnd_false, cnd_true, bnd_some_eq, eqT_spec, cnd_dec, c1, f1 _ _ (by show 0 ≤ _; omega : ([] : List Thing).length ≤ 2000000) (Nat.le_trans t1 (by omega)),
        f1 _ [c] (Nat.le_trans t2 (by omega)) (by simp), f1 _ _ (Nat.le_trans (t3 c) (by omega)) (Nat.le_trans t4 (by omega)), Bool.false_eq_true, if_false]
      by_cases he : y = c
      · rw [if_pos he, if_pos he]
      · rw [if_neg he, if_neg he]
        simp only [app, takeL, d1, List.nil_append]
        rfl
  | none =>
    have hge : O.l.length ≤ k := List.getElem?_eq_none_iff.1 hy
    have lt1 : ltI (k : Int) (lenI O.l) = false := decide_eq_false (by unfold lenI; omega)
    refine ⟨false, ?_⟩
    unfold l1_ref18_Pool
    simp only
    rw [lt1]
    simp only [cnd_false, at?_nat hi, bnd_some_eq, c1, f1 _ _ (by show 0 ≤ _; omega : ([] : List Thing).length ≤ 2000000) (Nat.le_trans t1 (by omega)),
        f1 _ [c] (Nat.le_trans t2 (by omega)) (by simp), f1 _ _ (Nat.le_trans (t3 c) (by omega)) (Nat.le_trans t4 (by omega))]
    simp only [app, takeL, d1, List.nil_append]
    rfl

theorem rpool_loop (L O : Sl Thing) (i : Nat) (c : Thing) (hi : L.l[i]? = some c) (hO : O.l.length ≤ 1000000) : ∀ (m k : Nat), k + m = O.l.length → ∃ n,
    loopR l1_ref18_Pool (L, (i : Int), (k : Int), O, ()) = some (.inl (L, (i : Int), ⟨n, O.l.take k ++ insF c (O.l.drop k)⟩, ())) := by
  intro m
  induction m with
  | zero =>
    intro k hk
    obtain ⟨n, hs⟩ := rpool_step L O i k c hi hO (by omega)
    rw [List.getElem?_eq_none (by omega)] at hs
    refine ⟨n, loopR_inr ?_⟩
    rw [hs, List.drop_eq_nil_of_le (by omega), List.append_nil]
    rfl
  | succ m ih =>
    intro k hk
    have hlt : k < O.l.length := by omega
    obtain ⟨n, hs⟩ := rpool_step L O i k c hi hO (by omega)
    rw [List.getElem?_eq_getElem hlt] at hs
    simp only at hs
    rw [drop_cons hlt] at hs ⊢
    unfold insF
    by_cases h : lessD O.l[k] c = true
    · rw [if_pos h] at hs ⊢
      obtain ⟨n', hn⟩ := ih (k + 1) (by omega)
      refine ⟨n', ?_⟩
      rw [loopR_inl hs, hn, List.take_add_one, List.getElem?_eq_getElem hlt, Option.toList_some, List.append_assoc, List.singleton_append]
    · rw [if_neg h] at hs ⊢
      by_cases he : O.l[k] = c
      · rw [if_pos he] at hs ⊢
        refine ⟨O.nil, loopR_inr ?_⟩
        rw [hs, ← drop_cons hlt, List.take_append_drop]
      · rw [if_neg he] at hs ⊢
        refine ⟨n, loopR_inr ?_⟩
        rw [hs, List.append_assoc, List.singleton_append]

theorem rpool2_loop (L : Sl Thing) (hL : L.l.length ≤ 1000) (hg : ∀ x, x ∈ L.l → gT x) : ∀ (m i : Nat) (O : Sl Thing), i + m = L.l.length → O.l.length ≤ i → ∃ n,
    loopR l2_ref18_Pool (L, (i : Int), O, ()) = some (if (L.l.drop i).any (fun x => !rightT x) = true then (⟨true, []⟩, false, ()) else (⟨n, (L.l.drop i).foldl (fun o c => insF c o) O.l⟩, true, ())) := by
  intro m
  induction m with
  | zero =>
    intro i O hk hO
    refine ⟨O.nil, loopR_inr ?_⟩
    unfold l2_ref18_Pool
    simp only
    rw [cnd_lt, if_neg (by show ¬ (i : Int) < (L.l.length : Int); omega), List.drop_eq_nil_of_le (by omega)]
    have : leI (lenI O.l) 4000 = true := decide_eq_true (by unfold lenI; omega)
    rw [this]
    rfl
  | succ m ih =>
    intro i O hk hO
    have hlt : i < L.l.length := by omega
    have hi : L.l[i]? = some L.l[i] := List.getElem?_eq_getElem hlt
    rw [drop_cons hlt, List.any_cons, List.foldl_cons]
    cases hr : rightT L.l[i] with
    | false =>
      refine ⟨true, loopR_inr ?_⟩
      unfold l2_ref18_Pool
      simp only
      rw [cnd_lt, if_pos (by show (i : Int) < (L.l.length : Int); omega), at?_nat hi, bnd_some_eq, rf_right _ (hg _ (List.getElem_mem hlt)), bnd_some_eq, hr]
      rfl
    | true =>
      obtain ⟨n, hn⟩ := rpool_loop L O i L.l[i] hi (by omega) O.l.length 0 (by omega)
      rw [List.take_zero, List.nil_append, List.drop_zero] at hn
      have step : l2_ref18_Pool (L, (i : Int), O, ()) = some (.inl (L, ((i + 1 : Nat) : Int), ⟨n, insF L.l[i] O.l⟩, ())) := by
        unfold l2_ref18_Pool
        simp only
        rw [cnd_lt, if_pos (by show (i : Int) < (L.l.length : Int); omega), at?_nat hi, bnd_some_eq, rf_right _ (hg _ (List.getElem_mem hlt)), bnd_some_eq, hr]
        show bnd (loopR l1_ref18_Pool (L, (i : Int), ((0 : Nat) : Int), O, ())) _ = _
        rw [hn, bnd_some_eq]
        show some (Sum.inl (L, addI .i64 (i : Int) 1, _, ())) = _
        rw [add1 (by omega)]
      obtain ⟨n', hn'⟩ := ih (i + 1) ⟨n, insF L.l[i] O.l⟩ (by omega) (by have := insF_len L.l[i] O.l; show (insF L.l[i] O.l).length ≤ _; omega)
      refine ⟨n', ?_⟩
      rw [loopR_inl step, hn']
      rfl

theorem fold_mem : ∀ (l o : List Thing) (x : Thing), x ∈ l.foldl (fun o c => insF c o) o ↔ x ∈ l ∨ x ∈ o
  | [], o, x => by simp
  | c :: l, o, x => by
    rw [List.foldl_cons, fold_mem l (insF c o) x, insF_mem, List.mem_cons]
    constructor
    · rintro (h | h | h)
      · exact .inl (.inr h)
      · exact .inl (.inl h)
      · exact .inr h
    · rintro ((h | h) | h)
      · exact .inr (.inl h)
      · exact .inl h
      · exact .inr (.inr h)

theorem fold_strict : ∀ (l o : List Thing), (∀ x, x ∈ l → goodT x = true) → (∀ x, x ∈ o → goodT x = true) → strictL o → strictL (l.foldl (fun o c => insF c o) o)
  | [], o, _, _, h => h
  | c :: l, o, hl, ho, h => by
    rw [List.foldl_cons]
    refine fold_strict l (insF c o) (fun x hx => hl x (List.mem_cons_of_mem _ hx)) (fun x hx => ?_) (insF_strict c (hl c (List.mem_cons_self ..)) o ho h)
    rcases (insF_mem c o x).1 hx with rfl | hx
    · exact hl x (List.mem_cons_self ..)
    · exact ho x hx

theorem rf_pool (L : Sl Thing) (hL : L.l.length ≤ 1000) (hg : ∀ x, x ∈ L.l → gT x) :
    ∃ n, f_ref18_Pool (L, ()) = some (if L.l.any (fun x => !rightT x) = true then (⟨true, []⟩, false, ()) else (⟨n, poolL L.l⟩, true, ())) := by
  obtain ⟨n, hn⟩ := rpool2_loop L hL hg L.l.length 0 ⟨false, []⟩ (by omega) (Nat.le_refl _)
  refine ⟨n, ?_⟩
  rw [u_ref18_Pool]
  show loopR l2_ref18_Pool (L, ((0 : Nat) : Int), ⟨false, []⟩, ()) = _
  rw [hn, List.drop_zero]
  cases hb : L.l.any (fun x => !rightT x) with
  | true => rfl
  | false =>
    have hgood : ∀ x, x ∈ L.l → goodT x = true := fun x hx => im_good (hg x hx) (by
      have := List.any_eq_false.1 hb x hx
      simpa using this)
    have : L.l.foldl (fun o c => insF c o) [] = poolL L.l := by
      refine strict_unique _ _ (fold_strict L.l [] hgood (fun x hx => by cases hx) List.Pairwise.nil) (poolL_strict hgood) fun x => ?_
      rw [fold_mem, poolL_mem]
      simp
    show some ((⟨n, L.l.foldl (fun o c => insF c o) []⟩ : Sl Thing), true, ()) = some ((⟨n, poolL L.l⟩ : Sl Thing), true, ())
    rw [this]
end Fn
end Ev
namespace Ev
open Go
namespace Fn

theorem own_eq (L : Sl Thing) (h : L.l.length ≤ 1000000) : f_law18_own (L, ()) = some (⟨false, L.l⟩, ()) := by
  rw [u_law18_own, fit_ok (by simp only [sumI, lenI, List.length_nil]; omega), bnd_some_eq]
  rfl

theorem good_gT {x : Thing} (h : good (.st (.pair .bool (.pair (.int .i64) .str))) x) : gT x := by
  obtain ⟨_, h1, h2, h3⟩ := h
  have h1 := inK_i64.1 h1
  exact ⟨h1, fun b hb => by have := h3 b hb; omega, h2⟩

theorem law_pools (hA : f_law18_awake () = some (true, ())) (L : Sl Thing) (c : Thing) (s : List Int) (hL : ∀ x, x ∈ L.l → gT x) : f_law18_ImagePools (L, c, s, ()) = some (true, ()) := by
  obtain ⟨cb, cn, cs⟩ := c
  rw [u_law18_ImagePools]
  simp only [hA, bnd_some_eq, im_few, notB, Bool.not_true, cnd_false]
  cases hf : fewB L.l with
  | false => simp only [Bool.not_false, cnd_true, bnd_some_eq]
  | true =>
    simp only [Bool.not_true, cnd_false, bnd_some_eq]
    cases h1 : ltI 300 (lenI cs) with
    | true => simp only [cnd_true, bnd_some_eq]
    | false =>
      simp only [cnd_false, bnd_some_eq]
      cases h2 : ltI 300 (lenI s) with
      | true => simp only [cnd_true]
      | false =>
        simp only [cnd_false]
        have hl := (fewB_len hf).1
        have hs : s.length ≤ 300 := by have := of_decide_eq_false h2; unfold lenI at this; omega
        obtain ⟨n1, e1⟩ := im_pool ⟨false, L.l⟩ (by show L.l.length ≤ _; omega) (fun h => by cases h) hL
        obtain ⟨n2, e2⟩ := rf_pool L (by omega) hL
        have e3 := im_index ⟨false, L.l⟩ (cb, cn, cs) (by show L.l.length ≤ _; omega)
        have e4 := rf_index L (cb, cn, cs) (by omega)
        rw [own_eq L (by omega)]
        simp only [bnd_some_eq]
        cases hb : L.l.any (fun x => !rightT x) with
        | true =>
          simp only [hb, if_true] at e1 e2
          simp only [e1, e2, e3, e4, bnd_some_eq, eqI_self, Bool.not_true, cnd_false, im_sum s (by omega), rf_sum s (by omega)]
          rw [cnd_lt]
          by_cases h0 : 0 < lenI L.l
          · rw [if_pos h0]
            have hlt : 0 < L.l.length := by unfold lenI at h0; omega
            have : at? L.l 0 = some L.l[0] := at?_nat (i := 0) (List.getElem?_eq_getElem hlt)
            simp only [this, bnd_some_eq, im_less, rf_less, eqB_self, Bool.not_true, cnd_false]
            rfl
          · rw [if_neg h0]; rfl
        | false =>
          simp only [hb, Bool.false_eq_true, if_false] at e1 e2
          have sm := im_same (⟨n1, poolL L.l⟩, ⟨true, []⟩) (⟨n2, poolL L.l⟩, ⟨true, []⟩) (by show (poolL L.l).length ≤ _; have := poolL_len L.l; omega) (Nat.zero_le _)
          simp only [e1, e2, e3, e4, bnd_some_eq, eqI_self, Bool.not_true, cnd_false, im_sum s (by omega), rf_sum s (by omega), sm, cnd_true]
          rw [cnd_lt]
          by_cases h0 : 0 < lenI L.l
          · rw [if_pos h0]
            have hlt : 0 < L.l.length := by unfold lenI at h0; omega
            have : at? L.l 0 = some L.l[0] := at?_nat (i := 0) (List.getElem?_eq_getElem hlt)
            simp only [this, bnd_some_eq, im_less, rf_less, eqB_self, Bool.not_true, cnd_false]
            simp
          · rw [if_neg h0]
            simp

theorem pool_pool {l : List Thing} (hg : ∀ x, x ∈ l → goodT x = true) (hs : strictL l) : poolL l = l :=
  strict_unique _ _ (poolL_strict hg) hs fun x => poolL_mem l x

theorem strict_idx {l : List Thing} (hs : strictL l) {i : Nat} {x : Thing} (h : l[i]? = some x) : idxT l x = (i : Int) := by
  obtain ⟨j, h1, h2, h3⟩ := idxF_some x l 0 (List.mem_of_getElem? h)
  unfold idxT
  rw [h1, Nat.zero_add]
  congr 1
  rcases Nat.lt_trichotomy j i with hj | hj | hj
  · exfalso
    have hi := get_lt h
    have := List.pairwise_iff_getElem.1 hs j i (by omega) hi hj
    rw [List.getElem?_eq_getElem (by omega)] at h2
    rw [List.getElem?_eq_getElem hi] at h
    injection h2 with h2
    injection h with h
    rw [h2, h, lessD_irrefl] at this
    cases this
  · exact hj
  · exact absurd h (h3 i hj)

theorem order1_loop (L P : Sl Thing) (hl : L.l.length ≤ 100) (hg : ∀ x, x ∈ L.l → gT x) (hr : ∀ x, x ∈ L.l → rightT x = true) (hP : P.l = poolL L.l) : ∀ (m k : Nat), k + m = P.l.length →
    loopR l1_law18_ImageOrder (L, P, (k : Int), ()) = some (.inr (true, ())) := by
  have hgood : ∀ x, x ∈ L.l → goodT x = true := fun x hx => im_good (hg x hx) (hr x hx)
  have hstr : strictL P.l := by rw [hP]; exact poolL_strict hgood
  have hmem : ∀ x, x ∈ P.l ↔ x ∈ L.l := fun x => by rw [hP]; exact poolL_mem _ x
  have hlen : P.l.length ≤ 100 := by rw [hP]; have := poolL_len L.l; omega
  intro m
  induction m with
  | zero =>
    intro k hk
    refine loopR_inr ?_
    unfold l1_law18_ImageOrder
    simp only
    rw [cnd_lt, if_neg (by show ¬ (k : Int) < (P.l.length : Int); omega), own_eq P (by omega)]
    obtain ⟨n1, e1⟩ := im_pool ⟨false, P.l⟩ (by show P.l.length ≤ _; omega) (fun h => by cases h) (fun x hx => hg x ((hmem x).1 hx))
    have hb : P.l.any (fun x => !rightT x) = false := List.any_eq_false.2 fun x hx => by simp [hr x ((hmem x).1 hx)]
    simp only [hb, Bool.false_eq_true, if_false] at e1
    have hc := im_check (⟨false, P.l⟩, ⟨true, []⟩) (by show P.l.length ≤ _; omega) (Nat.zero_le _) (fun x hx => hg x ((hmem x).1 hx))
    have hc0 : chkM (⟨false, P.l⟩, ⟨true, []⟩) = 0 := by
      unfold chkM
      have : chkP none P.l = true := (chkP_none P.l).2 ⟨fun x hx => hr x ((hmem x).1 hx), hstr⟩
      rw [if_neg]
      · rfl
      · show ¬ (4000 < P.l.length ∨ chkP none P.l = false)
        rw [this]; simp; omega
    rw [hc0] at hc
    have pp : poolL P.l = P.l := pool_pool (fun x hx => hgood x ((hmem x).1 hx)) hstr
    rw [pp] at e1
    have sm := im_same (P, ⟨true, []⟩) (⟨n1, P.l⟩, ⟨true, []⟩) (by show P.l.length ≤ _; omega) (Nat.zero_le _)
    simp only [bnd_some_eq, e1, hc, eqI_self, cnd_true, sm]
    simp
  | succ m ih =>
    intro k hk
    have hlt : k < P.l.length := by omega
    have hx := List.getElem?_eq_getElem hlt
    have i1 := im_index ⟨false, L.l⟩ P.l[k] (by show L.l.length ≤ _; omega)
    have i2 := im_index ⟨false, P.l⟩ P.l[k] (by show P.l.length ≤ _; omega)
    have i3 : idxT P.l P.l[k] = (k : Int) := strict_idx hstr hx
    obtain ⟨j, j1, _⟩ := idxF_some P.l[k] L.l 0 ((hmem _).1 (List.getElem_mem hlt))
    have i4 : ltI (idxT L.l P.l[k]) 0 = false := by unfold idxT; rw [j1]; exact decide_eq_false (by omega)
    have step : l1_law18_ImageOrder (L, P, (k : Int), ()) = some (.inl (L, P, ((k + 1 : Nat) : Int), ())) := by
      unfold l1_law18_ImageOrder
      simp only
      rw [cnd_lt, if_pos (by show (k : Int) < (P.l.length : Int); omega), own_eq L (by omega), own_eq P (by omega)]
      simp only [bnd_some_eq, at?_nat hx, i1, i2, i3, i4, cnd_false, eqI_self, notB, Bool.not_true, add1 (k := k) (by omega)]
    rw [loopR_inl step, ih (k + 1) (by omega)]

theorem order2_loop (L P : Sl Thing) (hl : L.l.length ≤ 100) (hg : ∀ x, x ∈ L.l → gT x) (hr : ∀ x, x ∈ L.l → rightT x = true) (hP : P.l = poolL L.l) : ∀ (m k : Nat), k + m = L.l.length →
    loopR l2_law18_ImageOrder (L, P, (k : Int), ()) = some (true, ()) := by
  have hmem : ∀ x, x ∈ P.l ↔ x ∈ L.l := fun x => by rw [hP]; exact poolL_mem _ x
  have hlen : P.l.length ≤ 100 := by rw [hP]; have := poolL_len L.l; omega
  intro m
  induction m with
  | zero =>
    intro k hk
    refine loopR_inr ?_
    unfold l2_law18_ImageOrder
    simp only
    rw [cnd_lt, if_neg (by show ¬ (k : Int) < (L.l.length : Int); omega)]
    exact order1_loop L P hl hg hr hP P.l.length 0 (by omega)
  | succ m ih =>
    intro k hk
    have hlt : k < L.l.length := by omega
    have hx := List.getElem?_eq_getElem hlt
    have i1 := im_index ⟨false, P.l⟩ L.l[k] (by show P.l.length ≤ _; omega)
    obtain ⟨j, j1, _⟩ := idxF_some L.l[k] P.l 0 ((hmem _).2 (List.getElem_mem hlt))
    have i4 : ltI (idxT P.l L.l[k]) 0 = false := by unfold idxT; rw [j1]; exact decide_eq_false (by omega)
    have step : l2_law18_ImageOrder (L, P, (k : Int), ()) = some (.inl (L, P, ((k + 1 : Nat) : Int), ())) := by
      unfold l2_law18_ImageOrder
      simp only
      rw [cnd_lt, if_pos (by show (k : Int) < (L.l.length : Int); omega), own_eq P (by omega)]
      simp only [bnd_some_eq, at?_nat hx, i1, i4, cnd_false, add1 (k := k) (by omega)]
    rw [loopR_inl step, ih (k + 1) (by omega)]

theorem law_order (hA : f_law18_awake () = some (true, ())) (L : Sl Thing) (hL : ∀ x, x ∈ L.l → gT x) : f_law18_ImageOrder (L, ()) = some (true, ()) := by
  rw [u_law18_ImageOrder]
  simp only [hA, bnd_some_eq, im_few, notB, Bool.not_true, cnd_false]
  cases hf : fewB L.l with
  | false => simp only [Bool.not_false, cnd_true]
  | true =>
    simp only [Bool.not_true, cnd_false]
    have hl := (fewB_len hf).1
    obtain ⟨n1, e1⟩ := im_pool ⟨false, L.l⟩ (by show L.l.length ≤ _; omega) (fun h => by cases h) hL
    rw [own_eq L (by omega), bnd_some_eq, e1, bnd_some_eq]
    cases hb : L.l.any (fun x => !rightT x) with
    | true => rfl
    | false =>
      simp only [Bool.false_eq_true, if_false, eqI_self, Bool.not_true, cnd_false]
      have hr : ∀ x, x ∈ L.l → rightT x = true := fun x hx => by
        have := List.any_eq_false.1 hb x hx
        simpa using this
      exact order2_loop L ⟨n1, poolL L.l⟩ hl hL hr rfl L.l.length 0 (by omega)
end Fn
end Ev
