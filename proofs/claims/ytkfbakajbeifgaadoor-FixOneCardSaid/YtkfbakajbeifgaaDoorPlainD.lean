/- Layer 4 in plain words: the laws of what binds closer, of one operator over and over. No statement of its own about the program. -/
import Derived.Test.YtkfbakajbeifgaaDoorPlainC
namespace Ev
open Go
namespace Fn

/-! Each operator's parts bind closer. -/
abbrev HoldT := ((Sl ((List Int) × Int × Int)) × (Sl (List Int)) × (Sl Int) × Int × Unit) → Option (Int × Unit)

theorem drop_head {c y post : List Int} {at_ : Nat} {h : Int} (hd : c.drop at_ = h :: y ++ post) : at_ < c.length ∧ c[at_]? = some h := by
  have h1 : c[at_]? = some h := by
    have := congrArg (fun z : List Int => z[0]?) hd
    simpa [List.getElem?_drop] using this
  refine ⟨?_, h1⟩
  rcases Nat.lt_or_ge at_ c.length with h | h
  · exact h
  · rw [List.getElem?_eq_none h] at h1; cases h1

theorem side_step (self : HoldT) (n1 n2 q : Bool) {l : List Fix1} (hl : l.length ≤ 1000000) {ops : List (List Int)} {fs : List Fix1} (hn : ops.length = fs.length) (hf : ∀ i, ∀ h : i < ops.length, findF l ops[i] = fs[i]?)
    (c : List Int) (hc : c.length ≤ 1000000) (f : Fix1) (s : Int) (hs : s = -1 ∨ s = 1) (at_ : Nat) (h : Int) (t post : List Int) (hd : c.drop at_ = h :: t ++ post)
    (hself : self (⟨n1, l⟩, ⟨n2, ops⟩, ⟨q, c⟩, (at_ : Int), ()) = some (((at_ + (t.length + 1) : Nat) : Int), ()))
    (hh : h < 0 ∨ ∃ r : Nat, h = (r : Int) ∧ r < fs.length ∧ f.2.1 ≤ lvF fs r ∧ (lvF fs r = f.2.1 → f.2.2 = s ∧ sdF fs r = s)) :
    l1_law04_holds self (⟨n1, l⟩, ⟨n2, ops⟩, ⟨q, c⟩, (at_ : Int), s, f.1, f.2.1, f.2.2, ()) = some (.inl (⟨n1, l⟩, ⟨n2, ops⟩, ⟨q, c⟩, ((at_ + (t.length + 1) : Nat) : Int), s + 2, f.1, f.2.1, f.2.2, ())) := by
  obtain ⟨hlt, hx⟩ := drop_head hd
  have c0 : leI s 1 = true := decide_eq_true (by omega)
  have c1 : leI (lenI c) (at_ : Int) = false := decide_eq_false (by unfold lenI; omega)
  have a2 : addI .i64 s 2 = s + 2 := addI_i64 (by omega) (by omega)
  have c2 : ltI ((at_ + (t.length + 1) : Nat) : Int) 0 = false := decide_eq_false (by omega)
  unfold l1_law04_holds
  simp only [c0, c1, cnd_true, cnd_false, at?_nat hx, bnd_some_eq]
  rcases hh with hneg | ⟨r, rfl, hr, hlv, hsd⟩
  · have c3 : leI 0 h = false := decide_eq_false (by omega)
    simp only [c3, cnd_false, bnd_some_eq, sumE_inl, hself, c2, a2]
  · have c3 : leI 0 (r : Int) = true := decide_eq_true (by omega)
    have c4 : ltI (r : Int) (lenI ops) = true := decide_eq_true (by unfold lenI; omega)
    have hro : r < ops.length := by omega
    have hg := List.getElem?_eq_getElem hr
    have hff := hf r hro
    rw [hg] at hff
    have h4 := rfind_spec n1 l ops[r] hl
    rw [hff] at h4
    rw [lvF_of hg] at hlv hsd
    rw [sdF_of hg] at hsd
    have h4 : f_ref04_Find (⟨n1, l⟩, ops[r], ()) = some (fs[r], true, ()) := h4
    have c5 : ltI fs[r].2.1 f.2.1 = false := decide_eq_false (by omega)
    simp only [c3, c4, cnd_true, bnd_some_eq, at?_nat (List.getElem?_eq_getElem hro), h4, c5, cnd_false]
    by_cases he : fs[r].2.1 = f.2.1
    · obtain ⟨e1, e2⟩ := hsd he
      have c6 : eqI fs[r].2.1 f.2.1 = true := eqI_eq.2 he
      have c7 : eqI f.2.2 s = true := eqI_eq.2 e1
      have c8 : eqI fs[r].2.2 s = true := eqI_eq.2 e2
      simp only [c6, c7, c8, cnd_true, notB, Bool.not_true, cnd_false, bnd_some_eq, sumE_inl, hself, c2, a2]
    · have c6 : eqI fs[r].2.1 f.2.1 = false := eqI_ne he
      simp only [c6, cnd_false, bnd_some_eq, sumE_inl, hself, c2, a2]

theorem B_head {lv sd : Nat → Int} {a b : Nat} {x : List Int} (h : Fx.B lv sd a b x) : ∃ z t, x = z :: t ∧ (z < 0 ∨ ∃ r : Nat, z = (r : Int) ∧ a ≤ r ∧ r < b) := by
  cases h with
  | nil => exact ⟨_, [], rfl, .inl (by omega)⟩
  | node _ r _ x y h1 h2 => exact ⟨_, _, rfl, .inr ⟨r, rfl, h1, h2⟩⟩

theorem holds_N (n1 n2 q : Bool) {l : List Fix1} (hl : l.length ≤ 1000000) {ops : List (List Int)} {fs : List Fix1} (hn : ops.length = fs.length) (hf : ∀ i, ∀ h : i < ops.length, findF l ops[i] = fs[i]?)
    (hs : ∀ o, o < fs.length → sdF fs o = -1 ∨ sdF fs o = 0 ∨ sdF fs o = 1) (c : List Int) (hc : c.length ≤ 1000000) {a b : Nat} {y : List Int} (h : Fx.B (lvF fs) (sdF fs) a b y) : b ≤ fs.length → ∀ (at_ : Nat) (post : List Int), c.drop at_ = y ++ post → ∀ N, y.length ≤ N →
    recN g_law04_holds N (⟨n1, l⟩, ⟨n2, ops⟩, ⟨q, c⟩, (at_ : Int), ()) = some (((at_ + y.length : Nat) : Int), ()) := by
  induction h with
  | nil a =>
    intro hb at_ post hd N hN
    obtain ⟨N, rfl⟩ : ∃ M, N = M + 1 := ⟨N - 1, by simp only [List.length_singleton] at hN; omega⟩
    obtain ⟨hlt, hx⟩ := drop_head (y := []) hd
    show g_law04_holds (recN g_law04_holds N) _ = _
    have c1 : leI (lenI c) (at_ : Int) = false := decide_eq_false (by unfold lenI; omega)
    have c2 : ltI (-1 - (a : Int)) 0 = true := decide_eq_true (by omega)
    rw [u_law04_holds]
    simp only [c1, cnd_false, at?_nat hx, bnd_some_eq, c2, cnd_true]
    rw [add1 (by omega)]
    rfl
  | node a r b x y h1 h2 h3 h4 hx hy ih1 ih2 =>
    intro hb at_ post hd N hN
    obtain ⟨N, rfl⟩ : ∃ M, N = M + 1 := ⟨N - 1, by simp only [List.length_cons] at hN; omega⟩
    simp only [List.length_cons, List.length_append] at hN
    obtain ⟨hlt, hz⟩ := drop_head (y := x ++ y) hd
    have c1 : leI (lenI c) (at_ : Int) = false := decide_eq_false (by unfold lenI; omega)
    have c2 : ltI (r : Int) 0 = false := decide_eq_false (by omega)
    have c3 : leI (lenI ops) (r : Int) = false := decide_eq_false (by unfold lenI; omega)
    have hro : r < ops.length := by omega
    have hrf : r < fs.length := by omega
    have hg := List.getElem?_eq_getElem hrf
    have hff := hf r hro
    rw [hg] at hff
    have hfr := rfind_spec n1 l ops[r] hl
    rw [hff] at hfr
    have hfr : f_ref04_Find (⟨n1, l⟩, ops[r], ()) = some (fs[r], true, ()) := hfr
    have d1 : c.drop (at_ + 1) = x ++ (y ++ post) := by
      rw [← List.drop_drop, hd]
      simp
    have d2 : c.drop (at_ + 1 + x.length) = y ++ post := by
      rw [← List.drop_drop, d1]
      simp
    have lenle : at_ + 1 + x.length ≤ c.length := by
      have := congrArg List.length d1
      simp only [List.length_drop, List.length_append] at this
      have := hx.len
      omega
    have r1 := ih1 (by omega) (at_ + 1) _ d1 N (by omega)
    have r2 := ih2 hb (at_ + 1 + x.length) _ d2 N (by omega)
    have lv0 : lvF fs r = fs[r].2.1 := lvF_of hg
    have sd0 : sdF fs r = fs[r].2.2 := sdF_of hg
    have sr := hs r hrf
    obtain ⟨z1, t1, e1, q1⟩ := B_head hx
    obtain ⟨z2, t2, e2, q2⟩ := B_head hy
    have s1 := side_step (recN g_law04_holds N) n1 n2 q hl hn hf c hc fs[r] (-1) (.inl rfl) (at_ + 1) z1 t1 (y ++ post) (by rw [d1, e1]) (by rw [r1, e1]; rfl) (by
      rcases q1 with q1 | ⟨o, q1, q3, q4⟩
      · exact .inl q1
      · refine .inr ⟨o, q1, by omega, ?_⟩
        have k := h3 o q3 q4
        have so := hs o (by omega)
        unfold Fx.LB at k
        rw [lv0, sd0] at k
        rw [sd0] at sr
        exact ⟨by omega, fun e => by omega⟩)
    have s2 := side_step (recN g_law04_holds N) n1 n2 q hl hn hf c hc fs[r] 1 (.inr rfl) (at_ + 1 + x.length) z2 t2 post (by rw [d2, e2]) (by rw [r2, e2]; rfl) (by
      rcases q2 with q2 | ⟨o, q2, q3, q4⟩
      · exact .inl q2
      · refine .inr ⟨o, q2, by omega, ?_⟩
        have k := h4 o (by omega) q4
        have so := hs o (by omega)
        unfold Fx.RB at k
        rw [lv0, sd0] at k
        rw [sd0] at sr
        exact ⟨by omega, fun e => by omega⟩)
    have l1 : t1.length + 1 = x.length := by rw [e1]; rfl
    have l2 : t2.length + 1 = y.length := by rw [e2]; rfl
    rw [l1] at s1
    rw [l2] at s2
    show g_law04_holds (recN g_law04_holds N) _ = _
    rw [u_law04_holds]
    simp only [c1, cnd_false, at?_nat hz, bnd_some_eq, c2, c3, at?_nat (List.getElem?_eq_getElem hro), hfr]
    rw [add1 (by omega), loopR_inl s1]
    have s2 : l1_law04_holds (recN g_law04_holds N) (⟨n1, l⟩, ⟨n2, ops⟩, ⟨q, c⟩, ((at_ + 1 + x.length : Nat) : Int), -1 + 2, fs[r].1, fs[r].2.1, fs[r].2.2, ()) = _ := s2
    rw [loopR_inl s2]
    refine loopR_inr ?_
    unfold l1_law04_holds
    simp only
    have c4 : leI (1 + 2) 1 = false := rfl
    rw [c4, cnd_false]
    have : at_ + 1 + x.length + y.length = at_ + ((r : Int) :: (x ++ y)).length := by
      simp only [List.length_cons, List.length_append]; omega
    rw [this]

theorem findAll_get {l : List Fix1} : ∀ {ops : List (List Int)} {fs : List Fix1}, findAll l ops = some fs → ∀ i, ∀ h : i < ops.length, findF l ops[i] = fs[i]?
  | [], _, _, i, h => by cases h
  | op :: r, fs, e, i, h => by
    unfold findAll at e
    cases h1 : findF l op with
    | none => rw [h1] at e; cases e
    | some x =>
      rw [h1] at e
      simp only at e
      cases h2 : findAll l r with
      | none => rw [h2] at e; cases e
      | some y =>
        rw [h2] at e
        injection e with e
        subst e
        cases i with
        | zero => exact h1
        | succ i => exact findAll_get h2 i (by simpa using h)

theorem law_binds (n1 n2 : Bool) (l : List Fix1) (ops : List (List Int)) (hg : ∀ x, x ∈ l → gF x) : f_law04_FixBinds (⟨n1, l⟩, ⟨n2, ops⟩, ()) = some (true, ()) := by
  obtain ⟨r, h1, h2⟩ := few_spec n1 n2 l ops
  rw [u_law04_FixBinds, awake_spec, bnd_some_eq, h1]
  simp only [bnd_some_eq]
  rw [guard]
  cases r with
  | false => rfl
  | true =>
    obtain ⟨k1, k2, k3, k4⟩ := h2 rfl
    have hl := gL_of hg k1 k3
    simp only [Bool.not_true, cnd_false, bnd_some_eq]
    by_cases h6 : 40 < ops.length
    · have : ltI 40 (lenI ops) = true := decide_eq_true (by unfold lenI; omega)
      rw [this]
      simp only [cnd_true]
    · have c1 : ltI 40 (lenI ops) = false := decide_eq_false (by unfold lenI; omega)
      rw [c1, cnd_false]
      obtain ⟨q1, s1⟩ := climb_spec false (andB false (isE ops)) hl ops
      have s1 : f_fix_Climb (⟨false, l⟩, ⟨andB false (isE ops), app ([] : List (List Int)) ops⟩, ()) = _ := s1
      rw [own_spec n1 hl.2.2, bnd_some_eq, fit_ok (by simp only [sumI, lenI, List.length_nil]; omega), bnd_some_eq, s1, bnd_some_eq]
      rcases resC_cases l ops with ⟨c, hc0, hc⟩ | ⟨fs, x, hck, _, h3, h4, hc⟩
      · rw [hc]
        have : notB (eqI c 0) = true := by rw [eqI_ne hc0]; rfl
        simp only [this, cnd_true]
      · have e1 := (findAll_spec h3).1
        have e2 := h4.len
        have hm := (findAll_spec h3).2
        have hh := holds_N n1 n2 q1 hl.2.2 e1.symm (findAll_get h3) (sides_ok (check_ok hck).2.1 hm) x (by omega) h4 (Nat.le_refl _) 0 [] (by simp) 
        have hr : f_law04_holds (⟨n1, l⟩, ⟨n2, ops⟩, ⟨q1, x⟩, ((0 : Nat) : Int), ()) = some (((0 + x.length : Nat) : Int), ()) := by
          unfold f_law04_holds
          exact recR_eq x.length hh
        have hr : f_law04_holds (⟨n1, l⟩, ⟨n2, ops⟩, ⟨q1, x⟩, 0, ()) = _ := hr
        rw [hc]
        simp only [eqI_self, notB, Bool.not_true, cnd_false]
        rw [hr]
        simp only [bnd_some_eq]
        have : eqI ((0 + x.length : Nat) : Int) (lenI x) = true := eqI_eq.2 (by unfold lenI; omega)
        rw [this]

/-! One operator, over and over. -/
theorem B_congr {lv sd lv' sd' : Nat → Int} {a b : Nat} {x : List Int} (h : Fx.B lv sd a b x) : (∀ i, a ≤ i → i < b → lv i = lv' i ∧ sd i = sd' i) → Fx.B lv' sd' a b x := by
  induction h with
  | nil a => exact fun _ => .nil a
  | node a r b x y h1 h2 h3 h4 hx hy ih1 ih2 =>
    intro he
    obtain ⟨e1, e2⟩ := he r h1 h2
    refine .node a r b x y h1 h2 (fun i i1 i2 => ?_) (fun i i1 i2 => ?_) (ih1 fun i i1 i2 => he i i1 (by omega)) (ih2 fun i i1 i2 => he i (by omega) i2)
    · obtain ⟨e3, e4⟩ := he i i1 (by omega)
      have := h3 i i1 i2
      unfold Fx.LB at this ⊢
      rw [← e1, ← e2, ← e3, ← e4]
      exact this
    · obtain ⟨e3, e4⟩ := he i (by omega) i2
      have := h4 i i1 i2
      unfold Fx.RB at this ⊢
      rw [← e1, ← e2, ← e3, ← e4]
      exact this

theorem findAll_rep (f : Fix1) : ∀ n, findAll [f] (List.replicate n f.1) = some (List.replicate n f)
  | 0 => rfl
  | n + 1 => by
    have h1 : findF [f] f.1 = some f := by
      unfold findF
      rw [List.find?_cons]
      simp
    rw [List.replicate_succ, List.replicate_succ]
    unfold findAll
    simp only [h1, findAll_rep f n]
end Fn
end Ev
namespace Ev
open Go
namespace Fn

theorem lv_rep (f : Fix1) {n i : Nat} (h : i < n) : lvF (List.replicate n f) i = f.2.1 ∧ sdF (List.replicate n f) i = f.2.2 := by
  have : (List.replicate n f)[i]? = some f := by rw [List.getElem?_replicate, if_pos h]
  exact ⟨lvF_of this, sdF_of this⟩

theorem B_rep (f : Fix1) {n : Nat} {x : List Int} (h : Fx.B (fun _ => f.2.1) (fun _ => f.2.2) 0 n x) : Fx.B (lvF (List.replicate n f)) (sdF (List.replicate n f)) 0 (List.replicate n f).length x := by
  rw [List.length_replicate]
  exact B_congr h fun i _ h2 => ⟨(lv_rep f h2).1.symm, (lv_rep f h2).2.symm⟩
theorem rep_B (f : Fix1) {n : Nat} {x : List Int} (h : Fx.B (lvF (List.replicate n f)) (sdF (List.replicate n f)) 0 (List.replicate n f).length x) : Fx.B (fun _ => f.2.1) (fun _ => f.2.2) 0 n x := by
  rw [List.length_replicate] at h
  exact B_congr h fun i _ h2 => ⟨(lv_rep f h2).1, (lv_rep f h2).2⟩

theorem one_loop (q : Bool) (f : Fix1) (n : Nat) (x : List Int) (hn : n ≤ 40) (h1 : f.2.2 < 0 → ∀ k, k < n → x[k]? = some ((n - 1 - k : Nat) : Int)) (h2 : 0 < f.2.2 → ∀ k, k < n → x[2 * k]? = some (k : Int) ∧ x[2 * k + 1]? = some (-1 - (k : Int))) : ∀ (m k : Nat), k + m = n →
    loopR l1_law04_FixOne ((n : Int), ⟨q, x⟩, (k : Int), f.1, f.2.1, f.2.2, ()) = some (.inr (true, ())) := by
  intro m
  induction m with
  | zero =>
    intro k hk
    refine loopR_inr ?_
    unfold l1_law04_FixOne
    simp only
    rw [cnd_lt, if_neg (by omega)]
  | succ m ih =>
    intro k hk
    have step : l1_law04_FixOne ((n : Int), ⟨q, x⟩, (k : Int), f.1, f.2.1, f.2.2, ()) = some (.inl ((n : Int), ⟨q, x⟩, ((k + 1 : Nat) : Int), f.1, f.2.1, f.2.2, ())) := by
      unfold l1_law04_FixOne
      simp only
      rw [cnd_lt, if_pos (by omega), add1 (by omega)]
      rcases Int.lt_trichotomy f.2.2 0 with h | h | h
      · have c1 : ltI f.2.2 0 = true := decide_eq_true h
        have c2 : ltI 0 f.2.2 = false := decide_eq_false (by omega)
        have e : subI .i64 (subI .i64 (n : Int) 1) (k : Int) = ((n - 1 - k : Nat) : Int) := by
          have := sub_nat (a := n) (b := 1) (by omega) (by omega)
          have this : subI .i64 (n : Int) 1 = _ := this
          rw [this, sub_nat (by omega) (by omega)]
        rw [c1, c2, cnd_true, at?_nat (h1 h k (by omega)), bnd_some_eq, e, eqI_self]
        rfl
      · have c1 : ltI f.2.2 0 = false := decide_eq_false (by omega)
        have c2 : ltI 0 f.2.2 = false := decide_eq_false (by omega)
        rw [c1, c2]
        rfl
      · have c1 : ltI f.2.2 0 = false := decide_eq_false (by omega)
        have c2 : ltI 0 f.2.2 = true := decide_eq_true h
        have m2 : mulI .i64 2 (k : Int) = ((2 * k : Nat) : Int) := by
          rw [mulI_i64 (by omega) (by omega)]; omega
        have a2 : addI .i64 ((2 * k : Nat) : Int) 1 = ((2 * k + 1 : Nat) : Int) := add1 (by omega)
        obtain ⟨g1, g2⟩ := h2 h k (by omega)
        rw [c1, c2, m2, a2]
        simp only [cnd_false, bnd_some_eq, cnd_true, at?_nat g1, at?_nat g2, eqI_self, notB, Bool.not_true, neg1 (by omega : k ≤ 1000000)]
    rw [loopR_inl step, ih (k + 1) (by omega)]

theorem one_end (f : Fix1) (hf : gF f) (hl : f.1.length ≤ 1000000) (hr : rightF f = true) (n : Nat) (hn : n ≤ 40) :
    l2_law04_FixOne ((n : Int), (n : Int), f.1, f.2.1, f.2.2, ⟨false, List.replicate n f.1⟩, ()) = some (.inr (true, ())) := by
  have hg : gL [f] := ⟨(fun x hx => by rw [List.mem_singleton.1 hx]; exact hf), (fun x hx => by rw [List.mem_singleton.1 hx]; exact hl), by rw [List.length_singleton]; omega⟩
  obtain ⟨q, h1⟩ := climb_spec false false hg (List.replicate n f.1)
  have h1 : f_fix_Climb (⟨false, [(f.1, f.2.1, f.2.2)]⟩, ⟨false, List.replicate n f.1⟩, ()) = _ := h1
  have hc : checkF [f] = 0 := check_of (by rw [List.length_singleton]; omega) (fun x hx => by rw [List.mem_singleton.1 hx]; exact hr) (List.pairwise_singleton ..)
  have hfa := findAll_rep f n
  have ho : (List.replicate n f.1).length ≤ 400 := by rw [List.length_replicate]; omega
  have hs : f.2.2 = -1 ∨ f.2.2 = 0 ∨ f.2.2 = 1 := by
    unfold rightF at hr
    simp only [Bool.and_eq_true, decide_eq_true_eq] at hr
    omega
  unfold l2_law04_FixOne
  simp only
  rw [cnd_lt, if_neg (by omega), h1, bnd_some_eq]
  have done : ∀ x : List Int, Fx.B (fun _ => f.2.1) (fun _ => f.2.2) 0 n x → (1 < n → f.2.2 ≠ 0) →
      (f.2.2 < 0 → ∀ k, k < n → x[k]? = some ((n - 1 - k : Nat) : Int)) → (0 < f.2.2 → ∀ k, k < n → x[2 * k]? = some (k : Int) ∧ x[2 * k + 1]? = some (-1 - (k : Int))) →
      bnd (cnd (ltI 1 (n : Int)) (some (eqI f.2.2 0)) (some false)) (fun x10 => cnd x10 (bnd (cnd (eqI (lenI (resC q [f] (List.replicate n f.1)).1.l) 0) (some (eqI (resC q [f] (List.replicate n f.1)).2.1 43)) (some false)) (fun x11 => some (Sum.inr (x11, ())))) (bnd (cnd (notB (eqI (resC q [f] (List.replicate n f.1)).2.1 0)) (some true) (some (notB (eqI (lenI (resC q [f] (List.replicate n f.1)).1.l) (addI IntKind.i64 (mulI IntKind.i64 2 (n : Int)) 1))))) (fun x12 => cnd x12 (some (Sum.inr (false, ()))) (loopR l1_law04_FixOne ((n : Int), (resC q [f] (List.replicate n f.1)).1, 0, f.1, f.2.1, f.2.2, ()))))) = some (.inr (true, ())) := by
    intro x hB h3 h4 h5
    have e := resC_of hc ho hfa (B_rep f hB) q
    have hlen := hB.len
    have c1 : bnd (cnd (ltI 1 (n : Int)) (some (eqI f.2.2 0)) (some false)) = fun g : Bool → Option (((Int × Int × (List Int) × Int × Int × (Sl (List Int)) × Unit) ⊕ (Bool × Unit))) => g false := by
      funext g
      by_cases h : 1 < n
      · rw [cnd_lt, if_pos (by omega), eqI_ne (h3 h)]; rfl
      · rw [cnd_lt, if_neg (by omega)]; rfl
    have m2 : addI .i64 (mulI .i64 2 (n : Int)) 1 = 2 * (n : Int) + 1 := by
      rw [mulI_i64 (by omega) (by omega), addI_i64 (by omega) (by omega)]
    have c3 : eqI (lenI x) (2 * (n : Int) + 1) = true := eqI_eq.2 (by unfold lenI; omega)
    rw [c1, e, m2]
    simp only [cnd_false, eqI_self, notB, Bool.not_true, c3, bnd_some_eq]
    exact one_loop q f n x hn h4 h5 n 0 (by omega)
  by_cases h0 : f.2.2 = 0
  · by_cases h2 : 1 < n
    · have hno : ∀ x, ¬ Fx.B (lvF (List.replicate n f)) (sdF (List.replicate n f)) 0 (List.replicate n f).length x := fun x hB =>
        (rep_B f hB).clash (o := 0) (k := 1) (Nat.zero_le _) (by omega) h2 rfl (fun i h1 h2 => Int.le_refl _) (by omega) (by omega)
      rw [resC_no hc ho hfa hno q, cnd_lt, if_pos (by omega), h0]
      rfl
    · rcases (by omega : n = 0 ∨ n = 1) with rfl | rfl
      · exact done [-1] (.nil 0) (by omega) (by omega) (by omega)
      · exact done [0, -1, -2] (.node 0 0 1 [-1] [-2] (Nat.le_refl _) (by omega) (fun i h1 h2 => by omega) (fun i h1 h2 => by omega) (.nil 0) (.nil 1)) (by omega) (by omega) (by omega)
  · rcases (by omega : f.2.2 < 0 ∨ 0 < f.2.2) with h | h
    · obtain ⟨x, h3, h4⟩ := Fx.B.lefts (lv := fun _ => f.2.1) (sd := fun _ => f.2.2) h (fun _ _ => rfl) (fun _ => rfl) 0 n
      rw [Nat.zero_add] at h3
      exact done x h3 (fun _ => h0) (fun _ k hk => by have := h4 k hk; rw [Nat.zero_add] at this; exact this) (fun hh => by omega)
    · obtain ⟨x, h3, h4⟩ := Fx.B.rights (lv := fun _ => f.2.1) (sd := fun _ => f.2.2) h (fun _ _ => rfl) (fun _ => rfl) n 0
      rw [Nat.zero_add] at h3
      exact done x h3 (fun _ => h0) (fun hh => by omega) (fun _ k hk => by have := h4 k hk; rw [Nat.zero_add] at this; exact this)

theorem one2_loop (f : Fix1) (hf : gF f) (hl : f.1.length ≤ 1000000) (hr : rightF f = true) (n : Nat) (hn : n ≤ 40) : ∀ (m k : Nat), k + m = n →
    loopR l2_law04_FixOne ((n : Int), (k : Int), f.1, f.2.1, f.2.2, ⟨false, List.replicate k f.1⟩, ()) = some (true, ()) := by
  intro m
  induction m with
  | zero =>
    intro k hk
    obtain rfl : k = n := by omega
    exact loopR_inr (one_end f hf hl hr k hn)
  | succ m ih =>
    intro k hk
    have step : l2_law04_FixOne ((n : Int), (k : Int), f.1, f.2.1, f.2.2, ⟨false, List.replicate k f.1⟩, ()) = some (.inl ((n : Int), ((k + 1 : Nat) : Int), f.1, f.2.1, f.2.2, ⟨false, List.replicate (k + 1) f.1⟩, ())) := by
      unfold l2_law04_FixOne
      simp only
      rw [cnd_lt, if_pos (by omega), fit_ok (by unfold sumI lenI; simp only [List.length_singleton, List.length_replicate]; omega), bnd_some_eq, add1 (by omega), List.replicate_succ']
      rfl
    rw [loopR_inl step, ih (k + 1) (by omega)]

theorem law_one (f : Fix1) (n : Int) (hf : gF f) : f_law04_FixOne (f, n, ()) = some (true, ()) := by
  have e : f_law04_FixOne (f, n, ()) = _ := u_law04_FixOne f.1 f.2.1 f.2.2 n
  have hr : f_fix_Right ((f.1, f.2.1, f.2.2), ()) = _ := right_any f hf
  have htrue : ∀ k : Option (Bool × Unit), cnd true (bnd (some (true, ())) (fun x : Bool × Unit => some (x.1, ()))) k = some (true, ()) := fun k => rfl
  have c0 : notB true = false := rfl
  rw [e, awake_spec, bnd_some_eq, hr]
  simp only [bnd_some_eq, c0, cnd_false]
  by_cases h1 : n < 0
  · have c1 : ltI n 0 = true := decide_eq_true h1
    simp only [c1, cnd_true, bnd_some_eq]
  · have c1 : ltI n 0 = false := decide_eq_false h1
    simp only [c1, cnd_false, bnd_some_eq]
    by_cases h2 : 40 < n
    · have c2 : ltI 40 n = true := decide_eq_true h2
      simp only [c2, cnd_true, bnd_some_eq]
    · have c2 : ltI 40 n = false := decide_eq_false h2
      simp only [c2, cnd_false, bnd_some_eq]
      cases h3 : rightF f with
      | false =>
        have c3 : notB false = true := rfl
        simp only [c3, cnd_true, bnd_some_eq]
      | true =>
        simp only [c0, cnd_false, bnd_some_eq]
        by_cases h4 : 100 < f.1.length
        · have c4 : ltI 100 (lenI f.1) = true := decide_eq_true (by unfold lenI; omega)
          simp only [c4, cnd_true]
        · have c4 : ltI 100 (lenI f.1) = false := decide_eq_false (by unfold lenI; omega)
          simp only [c4, cnd_false]
          obtain ⟨m, rfl⟩ : ∃ m : Nat, n = (m : Int) := ⟨n.toNat, by omega⟩
          exact one2_loop f hf (by omega) h3 m (by omega) m 0 (by omega)
end Fn
end Ev
namespace Ev
open Go
namespace Fn
theorem good_gF {x : Fix1} (h : good (.st (.pair .str (.pair (.int .i64) (.int .i64)))) x) : gF x := by
  obtain ⟨⟨h2, h3⟩, h1, h4⟩ := h
  exact ⟨fun b hb => by have := h3 b hb; omega, h2, inK_i64.1 h1, inK_i64.1 h4⟩
end Fn
end Ev
