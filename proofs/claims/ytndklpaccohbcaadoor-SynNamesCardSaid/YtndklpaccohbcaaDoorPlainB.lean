/- Layer 6 in plain words: kids, depth; what is wrong with a node, with nodes. No statement of its own about the program. -/
import Derived.Test.YtndklpaccohbcaaDoorPlainA
namespace Ev
open Go
namespace Fn

/-- Trees stand at a place. -/
def Sits (l : List ND) (k : Nat) (f : F) : Prop := ∃ post, l.drop k = f.flat ++ post

theorem Sits.node {l : List ND} {k : Nat} {x : Int} {t : List Int} {n : Int} {ks r : F} (h : Sits l k (.cons x t n ks r)) :
    l[k]? = some (x, t, n, (ks.cnt : Int)) ∧ Sits l (k + 1) ks ∧ Sits l (k + 1 + ks.size) r ∧ k + 1 + ks.size + r.size ≤ l.length := by
  obtain ⟨post, h⟩ := h
  have h : l.drop k = (x, t, n, (ks.cnt : Int)) :: ((ks.flat ++ r.flat) ++ post) := h
  have h1 : l[k]? = some (x, t, n, (ks.cnt : Int)) := by
    rw [← List.head?_drop, h]; rfl
  have h2 : l.drop (k + 1) = (ks.flat ++ r.flat) ++ post := by
    rw [← List.drop_drop, h]; rfl
  refine ⟨h1, ⟨r.flat ++ post, by rw [h2, List.append_assoc]⟩, ⟨post, ?_⟩, ?_⟩
  · rw [← List.drop_drop, h2, ← ks.len, List.append_assoc, List.drop_left']
    rfl
  · have := congrArg List.length h2
    rw [List.length_drop, List.length_append, List.length_append, ks.len, r.len] at this
    have hlt : k < l.length := (List.getElem?_eq_some_iff.1 h1).1
    omega

theorem Sits.le {l : List ND} {k : Nat} {f : F} (h : Sits l k f) (hk : k ≤ l.length) : k + f.size ≤ l.length := by
  cases f with
  | nil => exact hk
  | cons x t n ks r => have := h.node.2.2.2; show k + (ks.size + r.size + 1) ≤ _; omega

theorem Sits.first {l : List ND} {k : Nat} {x : Int} {t : List Int} {n : Int} {ks r : F} (h : Sits l k (.cons x t n ks r)) : Sits l k (tr x t n ks) := by
  obtain ⟨post, h⟩ := h
  refine ⟨r.flat ++ post, ?_⟩
  rw [h, tr_flat]
  show _ :: (ks.flat ++ r.flat) ++ post = _
  rw [List.cons_append, List.cons_append, List.append_assoc]

theorem Sits.ends {l : List ND} {k : Nat} {x : Int} {t : List Int} {n : Int} {ks r : F} (h : Sits l k (.cons x t n ks r)) : endZ l k 1 = ((k + 1 + ks.size : Nat) : Int) := by
  obtain ⟨g1, g2, g3, g4⟩ := h.node
  obtain ⟨post, h⟩ := h.first
  unfold endZ
  have e : (tr x t n ks).cnt + 0 = 1 := rfl
  have hs := skip_flat l.length (tr x t n ks) 0 post (by rw [tr_size]; omega)
  rw [e, skip_zero] at hs
  rw [h, hs]
  show (l.length : Int) - (post.length : Int) = _
  have := congrArg List.length h
  rw [List.length_drop, List.length_append, (tr x t n ks).len, tr_size] at this
  omega

/-- Where each begins. -/
def F.pos : Nat → F → List Int
  | _, .nil => []
  | k, .cons _ _ _ ks r => (k : Int) :: r.pos (k + 1 + ks.size)
theorem F.pos_len : ∀ (f : F) (k : Nat), (f.pos k).length = f.cnt
  | .nil, _ => rfl
  | .cons _ _ _ ks r, k => by
    show (_ :: r.pos _).length = r.cnt + 1
    rw [List.length_cons, r.pos_len]

/-- Of each tree, where it stands. -/
def F.Each (P : Nat → Int → List Int → Int → F → Prop) : Nat → F → Prop
  | _, .nil => True
  | k, .cons x t n ks r => P k x t n ks ∧ r.Each P (k + 1 + ks.size)
theorem F.each_of {l : List ND} {P : Nat → Int → List Int → Int → F → Prop}
    (h : ∀ k x t n ks, Sits l k (tr x t n ks) → ks.Each P (k + 1) → P k x t n ks) : ∀ (f : F) (k : Nat), Sits l k f → f.Each P k
  | .nil, _, _ => trivial
  | .cons x t n ks r, k, hs => ⟨h k x t n ks hs.first (F.each_of h ks (k + 1) hs.node.2.1), F.each_of h r _ hs.node.2.2.1⟩
theorem F.each_one {l : List ND} {P : Nat → Int → List Int → Int → F → Prop}
    (h : ∀ k x t n ks, Sits l k (tr x t n ks) → ks.Each P (k + 1) → P k x t n ks) {k : Nat} {x : Int} {t : List Int} {n : Int} {ks : F} (hs : Sits l k (tr x t n ks)) : P k x t n ks :=
  (F.each_of h (tr x t n ks) k hs).1

theorem fit_small {a b : Nat} (h : a + b ≤ 2000000) : fit (sumI (a : Int) (b : Int)) = some () := fit_ok (by show (a : Int) + (b : Int) ≤ _; omega)
theorem andB_false (x : Bool) : andB false x = false := id (Eq.refl false)
theorem andB_one {α : Type} (b : Bool) (x : α) : andB b (isE [x]) = false := by cases b <;> rfl
theorem lenI_one {α : Type} (x : α) : lenI [x] = ((1 : Nat) : Int) := rfl

/-- The reference's Kids. -/
theorem rkids_spec (b : Bool) (l : List ND) (hl : l.length ≤ 10000) {k : Nat} {x : Int} {t : List Int} {n : Int} {ks r : F} (h : Sits l k (.cons x t n ks r)) :
    f_ref02_Kids (⟨b, l⟩, (k : Int), ()) = some (⟨false, ks.pos (k + 1)⟩, ()) := by
  obtain ⟨g1, g2, g3, g4⟩ := h.node
  have hat := at?_nat g1
  rw [u_ref02_Kids, rend_spec b l hl, h.ends]
  simp only [bnd_some_eq]
  rw [cnd_lt, if_neg (by omega), add1 (by omega)]
  have loop : ∀ (g : F) (q i : Nat) (out : List Int), Sits l q g → out.length = i → i + g.cnt = ks.cnt → q ≤ l.length →
      loopR l1_ref02_Kids (⟨b, l⟩, (k : Int), (q : Int), (i : Int), ⟨false, out⟩, ()) = some (⟨false, out ++ g.pos q⟩, ()) := by
    intro g
    induction g with
    | nil =>
      intro q i out hs ho hi hq
      have hi : i + 0 = ks.cnt := hi
      refine loopR_inr ?_
      unfold l1_ref02_Kids
      simp only [hat, bnd_some_eq]
      rw [cnd_lt, if_neg (by omega)]
      show _ = some (Sum.inr ((⟨false, out ++ []⟩ : Sl Int), ()))
      rw [List.append_nil]
    | cons x' t' n' ks' r' _ ih =>
      intro q i out hs ho hi hq
      have hi : i + (r'.cnt + 1) = ks.cnt := hi
      have hc := ks.cnt_le
      have s4 := hs.node
      have step : l1_ref02_Kids (⟨b, l⟩, (k : Int), (q : Int), (i : Int), ⟨false, out⟩, ()) = some (.inl (⟨b, l⟩, (k : Int), ((q + 1 + ks'.size : Nat) : Int), ((i + 1 : Nat) : Int), ⟨false, out ++ [(q : Int)]⟩, ())) := by
        unfold l1_ref02_Kids
        simp only [hat, bnd_some_eq]
        rw [cnd_lt, if_pos (by omega)]
        have hf : fit (sumI (lenI out) (lenI [(q : Int)])) = some () := fit_small (by show out.length + 1 ≤ _; omega)
        rw [hf, bnd_some_eq, rend_spec b l hl, bnd_some_eq, hs.ends, add1 (by omega), andB_one]
        rfl
      rw [loopR_inl step, ih _ _ _ s4.2.2.1 (by rw [List.length_append, ho]; rfl) (by omega) (by omega), List.append_assoc]
      rfl
  have := loop ks (k + 1) 0 [] g2 rfl (by omega) (by omega)
  exact this

/-- The program's Kids. -/
theorem kids_spec (b : Bool) (l : List ND) (hl : l.length ≤ 10000) {k : Nat} {x : Int} {t : List Int} {n : Int} {ks r : F} (h : Sits l k (.cons x t n ks r)) :
    ∃ nb, f_tree_Kids (⟨b, l⟩, (k : Int), ()) = some (⟨nb, ks.pos (k + 1)⟩, ()) := by
  obtain ⟨g1, g2, g3, g4⟩ := h.node
  have hat := at?_nat g1
  rw [u_tree_Kids, end_spec b l hl, h.ends]
  simp only [bnd_some_eq, hat]
  rw [cnd_lt, if_neg (by omega), add1 (by omega)]
  have hc := ks.cnt_le
  have loop : ∀ (g : F) (q i : Nat) (nb : Bool) (out : List Int), Sits l q g → out.length = i → i + g.cnt = ks.cnt → q ≤ l.length →
      ∃ nb', loopR l1_tree_Kids (⟨b, l⟩, (q : Int), (ks.cnt : Int), ⟨nb, out⟩, ()) = some (⟨nb', out ++ g.pos q⟩, ()) := by
    intro g
    induction g with
    | nil =>
      intro q i nb out hs ho hi hq
      have hi : i + 0 = ks.cnt := hi
      refine ⟨nb, loopR_inr ?_⟩
      unfold l1_tree_Kids
      simp only
      rw [cnd_lt, if_neg (by unfold lenI; omega)]
      show _ = some (Sum.inr ((⟨nb, out ++ []⟩ : Sl Int), ()))
      rw [List.append_nil]
    | cons x' t' n' ks' r' _ ih =>
      intro q i nb out hs ho hi hq
      have hi : i + (r'.cnt + 1) = ks.cnt := hi
      have s4 := hs.node
      have step : l1_tree_Kids (⟨b, l⟩, (q : Int), (ks.cnt : Int), ⟨nb, out⟩, ()) = some (.inl (⟨b, l⟩, ((q + 1 + ks'.size : Nat) : Int), (ks.cnt : Int), ⟨false, out ++ [(q : Int)]⟩, ())) := by
        unfold l1_tree_Kids
        simp only
        rw [cnd_lt, if_pos (by unfold lenI; omega)]
        have hf : fit (sumI (lenI out) (lenI [(q : Int)])) = some () := fit_small (by show out.length + 1 ≤ _; omega)
        rw [hf, bnd_some_eq, end_spec b l hl, bnd_some_eq, hs.ends, andB_one]
        rfl
      obtain ⟨nb', h'⟩ := ih (q + 1 + ks'.size) (i + 1) false (out ++ [(q : Int)]) s4.2.2.1 (by rw [List.length_append, ho]; rfl) (by omega) (by omega)
      refine ⟨nb', ?_⟩
      rw [loopR_inl step, h', List.append_assoc]
      rfl
  exact loop ks (k + 1) 0 true [] g2 rfl (by omega) (by omega)

theorem maxI_nat (a b : Nat) : maxI (a : Int) (b : Int) = ((max a b : Nat) : Int) := by
  unfold maxI
  split <;> omega

/-- The reference's Deep. -/
theorem rdeep_spec (b : Bool) (l : List ND) (hl : l.length ≤ 10000) {k : Nat} {x : Int} {t : List Int} {n : Int} {ks : F} (h : Sits l k (tr x t n ks)) :
    f_ref02_Deep (⟨b, l⟩, (k : Int), ()) = some (((ks.dep + 1 : Nat) : Int), ()) := by
  refine recR_eq (ks.size + 1) ?_
  refine F.each_one (l := l) (P := fun k x t n ks => ∀ N, ks.size + 1 ≤ N → recN g_ref02_Deep N (⟨b, l⟩, (k : Int), ()) = some (((ks.dep + 1 : Nat) : Int), ())) ?_ h
  intro k x t n ks hs he N hN
  obtain ⟨N, rfl⟩ : ∃ m, N = m + 1 := ⟨N - 1, by omega⟩
  show g_ref02_Deep (recN g_ref02_Deep N) _ = _
  rw [u_ref02_Deep, rkids_spec b l hl hs, bnd_some_eq]
  have hsz := hs.node.2.2.2
  have hdl := ks.dep_le
  have loop : ∀ (g : F) (q : Nat) (pre : List Int) (most : Nat), g.Each (fun k x t n ks => ∀ N, ks.size + 1 ≤ N → recN g_ref02_Deep N (⟨b, l⟩, (k : Int), ()) = some (((ks.dep + 1 : Nat) : Int), ())) q →
      g.size ≤ N → g.size ≤ 10000 → pre ++ g.pos q = ks.pos (k + 1) → most ≤ 100000 →
      loopR (l1_ref02_Deep (recN g_ref02_Deep N)) (⟨b, l⟩, (most : Int), ⟨false, ks.pos (k + 1)⟩, (pre.length : Int), ()) = some (((max most g.dep + 1 : Nat) : Int), ()) := by
    intro g
    induction g with
    | nil =>
      intro q pre most hE hz _ hp hm
      have hp : pre ++ [] = ks.pos (k + 1) := hp
      rw [List.append_nil] at hp
      refine loopR_inr ?_
      unfold l1_ref02_Deep
      simp only
      rw [cnd_lt, if_neg (by rw [hp]; unfold lenI; omega), add1 (by omega)]
      show _ = some (Sum.inr (((max most 0 + 1 : Nat) : Int), ()))
      rw [Nat.max_zero]
    | cons x' t' n' ks' r' _ ih =>
      intro q pre most hE hz hz2 hp hm
      have hz2 : ks'.size + r'.size + 1 ≤ 10000 := hz2
      have hz : ks'.size + r'.size + 1 ≤ N := hz
      have hp : pre ++ (q : Int) :: r'.pos (q + 1 + ks'.size) = ks.pos (k + 1) := hp
      have hlen : (ks.pos (k + 1)).length = ks.cnt := ks.pos_len _
      have hpl := congrArg List.length hp
      rw [List.length_append, List.length_cons, hlen] at hpl
      have hc := ks.cnt_le
      have hget : (ks.pos (k + 1))[pre.length]? = some (q : Int) := by rw [← hp]; simp
      have hd' := ks'.dep_le
      have step : l1_ref02_Deep (recN g_ref02_Deep N) (⟨b, l⟩, (most : Int), ⟨false, ks.pos (k + 1)⟩, (pre.length : Int), ()) = some (.inl (⟨b, l⟩, ((max most (ks'.dep + 1) : Nat) : Int), ⟨false, ks.pos (k + 1)⟩, ((pre.length + 1 : Nat) : Int), ())) := by
        unfold l1_ref02_Deep
        simp only
        rw [cnd_lt, if_pos (by unfold lenI; rw [hlen]; omega), at?_nat hget, bnd_some_eq, hE.1 N (by omega), bnd_some_eq, cnd_lt]
        have ea := add1 (show pre.length ≤ 1000000000 by omega)
        by_cases hlt : (most : Int) < ((ks'.dep + 1 : Nat) : Int)
        · rw [if_pos hlt, bnd_some_eq, ea]
          have : max most (ks'.dep + 1) = ks'.dep + 1 := by omega
          rw [this]
        · rw [if_neg hlt, bnd_some_eq, ea]
          have : max most (ks'.dep + 1) = most := by omega
          rw [this]
      have hi := ih (q + 1 + ks'.size) (pre ++ [(q : Int)]) (max most (ks'.dep + 1)) hE.2 (by omega) (by omega) (by rw [List.append_assoc]; exact hp) (by omega)
      rw [List.length_append] at hi
      have hi : loopR (l1_ref02_Deep (recN g_ref02_Deep N)) (⟨b, l⟩, ((max most (ks'.dep + 1) : Nat) : Int), ⟨false, ks.pos (k + 1)⟩, ((pre.length + 1 : Nat) : Int), ()) = _ := hi
      rw [loopR_inl step, hi]
      show some (((max (max most (ks'.dep + 1)) r'.dep + 1 : Nat) : Int), ()) = some (((max most (max (ks'.dep + 1) r'.dep) + 1 : Nat) : Int), ())
      rw [Nat.max_assoc]
  have := loop ks (k + 1) [] 0 he (by omega) (by omega) rfl (by omega)
  rw [Nat.zero_max] at this
  exact this

/-! The program's Deep: how many kids are to come, of each that is open. -/
def normT : Nat → List Nat → List Nat
  | c + 1, s => (c + 1) :: s
  | 0, [] => []
  | 0, c :: s => normT (c - 1) s
def toI (s : List Nat) : List Int := s.reverse.map fun (c : Nat) => (c : Int)
theorem toI_len (s : List Nat) : (toI s).length = s.length := by unfold toI; rw [List.length_map, List.length_reverse]
theorem toI_cons (c : Nat) (s : List Nat) : toI (c :: s) = toI s ++ [(c : Int)] := by unfold toI; rw [List.reverse_cons, List.map_append]; rfl
theorem normT_pos (c : Nat) (s : List Nat) : normT (c + 1) s = (c + 1) :: s := by cases s <;> rfl

theorem okAt_nat' {α : Type} {l : List α} {i : Nat} {z : Int} (e : z = (i : Int)) (h : i < l.length) : okAt l z = some i := by rw [e]; exact okAt_nat h

theorem pops (b : Bool) (l : List ND) (most ln k : Int) (hk : 0 ≤ k ∧ k ≤ 1000000) (nb : Bool) : ∀ (s : List Nat) (c : Nat), (∀ x, x ∈ s → 1 ≤ x ∧ x ≤ 1000000) → c ≤ 1000000 → s.length ≤ 1000000 →
    loopR l1_tree_Deep (most, ⟨b, l⟩, ln, k, ⟨nb, toI (c :: s)⟩, ()) = some (.inl (most, ⟨b, l⟩, ln, k + 1, ⟨nb, toI (normT c s)⟩, ())) := by
  have hk1 : addI .i64 k 1 = k + 1 := addI_i64 (by omega) (by omega)
  have done : ∀ (s : List Nat) (c : Nat), c + 1 ≤ 1000000 → s.length ≤ 1000000 → loopR l1_tree_Deep (most, ⟨b, l⟩, ln, k, ⟨nb, toI ((c + 1) :: s)⟩, ()) = some (.inl (most, ⟨b, l⟩, ln, k + 1, ⟨nb, toI ((c + 1) :: s)⟩, ())) := by
    intro s c hc hs
    refine loopR_inr ?_
    have e1 : subI .i64 (lenI (toI ((c + 1) :: s))) 1 = (s.length : Int) := by unfold lenI; rw [toI_len, List.length_cons, subI_i64 (by omega) (by omega)]; omega
    have hg : nth (toI ((c + 1) :: s)) s.length = some ((c + 1 : Nat) : Int) := by
      rw [toI_cons]; unfold nth; rw [List.getElem?_append_right (by rw [toI_len]; exact Nat.le_refl _), toI_len, Nat.sub_self]; rfl
    have c0 : ltI 0 (lenI (toI ((c + 1) :: s))) = true := decide_eq_true (by unfold lenI; rw [toI_len, List.length_cons]; omega)
    have c1 : eqI ((c + 1 : Nat) : Int) 0 = false := by cases h : eqI ((c + 1 : Nat) : Int) 0 with
      | false => rfl
      | true => have := eqI_eq.1 h; omega
    unfold l1_tree_Deep
    simp only [c0, cnd_true, e1, okAt_nat (show s.length < (toI ((c + 1) :: s)).length by rw [toI_len, List.length_cons]; omega), bnd_some_eq, hg, c1, cnd_false, hk1]
  have nils : loopR l1_tree_Deep (most, ⟨b, l⟩, ln, k, ⟨nb, toI []⟩, ()) = some (.inl (most, ⟨b, l⟩, ln, k + 1, ⟨nb, toI []⟩, ())) := by
    refine loopR_inr ?_
    have c0 : ltI 0 (lenI (toI [])) = false := rfl
    unfold l1_tree_Deep
    simp only [c0, cnd_false, bnd_some_eq, hk1]
  have step : ∀ (s : List Nat) (X : List Int) , s.length ≤ 1000000 → (s = [] ∧ X = [] ∨ ∃ c r, s = c :: r ∧ 1 ≤ c ∧ c ≤ 1000000 ∧ X = toI ((c - 1) :: r)) →
      l1_tree_Deep (most, ⟨b, l⟩, ln, k, ⟨nb, toI (0 :: s)⟩, ()) = some (.inl (most, ⟨b, l⟩, ln, k, ⟨nb, X⟩, ())) := by
    intro s X hs hX
    have e1 : subI .i64 (lenI (toI (0 :: s))) 1 = (s.length : Int) := by unfold lenI; rw [toI_len, List.length_cons, subI_i64 (by omega) (by omega)]; omega
    have hg : nth (toI (0 :: s)) s.length = some 0 := by
      rw [toI_cons]; unfold nth; rw [List.getElem?_append_right (by rw [toI_len]; exact Nat.le_refl _), toI_len, Nat.sub_self]; rfl
    have c0 : ltI 0 (lenI (toI (0 :: s))) = true := decide_eq_true (by unfold lenI; rw [toI_len, List.length_cons]; omega)
    have c1 : eqI 0 0 = true := rfl
    have hcut : cutN (lenI (toI (0 :: s))) (s.length : Int) = some s.length := by
      unfold cutN lenI
      rw [if_pos (by rw [toI_len, List.length_cons]; omega), Int.toNat_natCast]
    have htk : takeL (toI (0 :: s)) s.length = toI s := by
      unfold takeL
      rw [toI_cons, List.take_left' (toI_len s)]
    unfold l1_tree_Deep
    simp only [c0, cnd_true, e1, okAt_nat (show s.length < (toI (0 :: s)).length by rw [toI_len, List.length_cons]; omega), bnd_some_eq, hg, c1, hcut, htk]
    rcases hX with ⟨rfl, rfl⟩ | ⟨c, r, rfl, h1, h2, rfl⟩
    · have c2 : ltI 0 (lenI (toI [])) = false := rfl
      simp only [c2, cnd_false, bnd_some_eq]
      rfl
    · have hs : r.length + 1 ≤ 1000000 := hs
      have c2 : ltI 0 (lenI (toI (c :: r))) = true := decide_eq_true (by unfold lenI; rw [toI_len, List.length_cons]; omega)
      have e2 : subI .i64 (lenI (toI (c :: r))) 1 = (r.length : Int) := by unfold lenI; rw [toI_len, List.length_cons, subI_i64 (by omega) (by omega)]; omega
      have hg2 : nth (toI (0 :: c :: r)) r.length = some (c : Int) := by
        rw [toI_cons, toI_cons]; unfold nth
        rw [List.append_assoc, List.getElem?_append_right (by rw [toI_len]; exact Nat.le_refl _), toI_len, Nat.sub_self]; rfl
      have hset : takeL (setL (toI (0 :: c :: r)) r.length ((c : Int) - 1)) (c :: r).length = toI ((c - 1) :: r) := by
        unfold takeL setL
        rw [toI_cons, toI_cons, toI_cons, List.append_assoc, List.set_append_right _ _ (by rw [toI_len]; exact Nat.le_refl _), toI_len, Nat.sub_self]
        show List.take (r.length + 1) (toI r ++ ([(c : Int) - 1] ++ [((0 : Nat) : Int)])) = _
        rw [← List.append_assoc, List.take_left' (by rw [List.length_append, toI_len]; rfl)]
        congr 2
        omega
      have e3 : subI .i64 (c : Int) 1 = (c : Int) - 1 := subI_i64 (by omega) (by omega)
      simp only [c2, cnd_true, e2, okAt_nat (show r.length < (toI (c :: r)).length by rw [toI_len, List.length_cons]; omega), bnd_some_eq, hg2, e3, hset]
  intro s
  induction s with
  | nil =>
    intro c _ hc _
    cases c with
    | zero => rw [loopR_inl (step [] [] (by decide) (.inl ⟨rfl, rfl⟩))]; exact nils
    | succ c => rw [normT_pos]; exact done [] c hc (by decide)
  | cons d s ih =>
    intro c hx hc hs
    have hd := hx d (List.mem_cons_self ..)
    have hs : s.length + 1 ≤ 1000000 := hs
    cases c with
    | zero =>
      rw [loopR_inl (step (d :: s) (toI ((d - 1) :: s)) hs (.inr ⟨d, s, rfl, hd.1, hd.2, rfl⟩))]
      exact ih (d - 1) (fun x h => hx x (List.mem_cons_of_mem _ h)) (by omega) (by omega)
    | succ c => rw [normT_pos]; exact done (d :: s) c hc hs

theorem deep_run (b : Bool) (l : List ND) (hl : l.length ≤ 10000) : ∀ (f : F) (q : Nat) (s : List Nat) (most : Nat) (nb : Bool), Sits l q f → q ≤ l.length → (∀ x, x ∈ s → 1 ≤ x ∧ x ≤ 1000000) → s.length ≤ q → most ≤ 100000 →
    ∃ nb', loopR l2_tree_Deep ((most : Int), ⟨b, l⟩, (l.length : Int), (q : Int), ⟨nb, toI (normT f.cnt s)⟩, ()) =
      loopR l2_tree_Deep (((max most (if f.cnt = 0 then 0 else s.length + 1 + f.dep) : Nat) : Int), ⟨b, l⟩, (l.length : Int), ((q + f.size : Nat) : Int), ⟨nb', toI (normT 0 s)⟩, ()) := by
  intro f
  induction f with
  | nil =>
    intro q s most nb _ _ _ _ _
    refine ⟨nb, ?_⟩
    show _ = loopR l2_tree_Deep (((max most 0 : Nat) : Int), _, _, ((q + 0 : Nat) : Int), _, ())
    rw [Nat.max_zero, Nat.add_zero]
    rfl
  | cons x t n ks r ih1 ih2 =>
    intro q s most nb hs hq hx hsl hm
    obtain ⟨g1, g2, g3, g4⟩ := hs.node
    have hc := ks.cnt_le
    have hrc := r.cnt_le
    have hdk := ks.dep_le
    have hdr := r.dep_le
    have e0 : normT (F.cons x t n ks r).cnt s = (r.cnt + 1) :: s := normT_pos r.cnt s
    rw [e0]
    have hf : fit (sumI (lenI (toI ((r.cnt + 1) :: s))) (lenI [(ks.cnt : Int)])) = some () := fit_small (by rw [toI_len, List.length_cons, List.length_singleton]; omega)
    have hx1 : ∀ y, y ∈ (r.cnt + 1) :: s → 1 ≤ y ∧ y ≤ 1000000 := by
      intro y hy
      rcases List.mem_cons.1 hy with rfl | hy
      · omega
      · exact hx y hy
    have hp := pops b l ((max most (s.length + 2) : Nat) : Int) (l.length : Int) (q : Int) (by omega) false ((r.cnt + 1) :: s) ks.cnt hx1 (by omega) (by rw [List.length_cons]; omega)
    have step : l2_tree_Deep ((most : Int), ⟨b, l⟩, (l.length : Int), (q : Int), ⟨nb, toI ((r.cnt + 1) :: s)⟩, ()) =
        some (.inl (((max most (s.length + 2) : Nat) : Int), ⟨b, l⟩, (l.length : Int), ((q + 1 : Nat) : Int), ⟨false, toI (normT ks.cnt ((r.cnt + 1) :: s))⟩, ())) := by
      unfold l2_tree_Deep
      simp only
      rw [cnd_lt, if_pos (by omega), at?_nat g1, bnd_some_eq]
      simp only [hf, bnd_some_eq, andB_one]
      have e1 : maxI (most : Int) (addI .i64 (lenI (toI ((r.cnt + 1) :: s))) 1) = ((max most (s.length + 2) : Nat) : Int) := by
        unfold lenI
        rw [toI_len, List.length_cons, add1 (by omega), maxI_nat]
      have e2 : app (toI ((r.cnt + 1) :: s)) [(ks.cnt : Int)] = toI (ks.cnt :: (r.cnt + 1) :: s) := (toI_cons _ _).symm
      rw [e1, e2, hp]
      rfl
    rw [loopR_inl step]
    obtain ⟨nb1, h1⟩ := ih1 (q + 1) ((r.cnt + 1) :: s) (max most (s.length + 2)) false g2 (by omega) hx1 (by rw [List.length_cons]; omega) (by omega)
    rw [h1]
    have e3 : normT 0 ((r.cnt + 1) :: s) = normT r.cnt s := rfl
    rw [e3]
    have hmid : max (max most (s.length + 2)) (if ks.cnt = 0 then 0 else ((r.cnt + 1) :: s).length + 1 + ks.dep) = max most (s.length + 1 + (ks.dep + 1)) := by
      rw [List.length_cons]
      by_cases h0 : ks.cnt = 0
      · rw [if_pos h0]
        have : ks.dep = 0 := by
          cases ks with
          | nil => rfl
          | cons _ _ _ _ r => exact absurd h0 (Nat.succ_ne_zero _)
        omega
      · rw [if_neg h0]; omega
    rw [hmid]
    obtain ⟨nb2, h2⟩ := ih2 (q + 1 + ks.size) s (max most (s.length + 1 + (ks.dep + 1))) nb1 g3 (by omega) hx (by omega) (by omega)
    refine ⟨nb2, ?_⟩
    rw [h2]
    have e4 : q + 1 + ks.size + r.size = q + (F.cons x t n ks r).size := by show _ = q + (ks.size + r.size + 1); omega
    rw [e4]
    have e5 : max (max most (s.length + 1 + (ks.dep + 1))) (if r.cnt = 0 then 0 else s.length + 1 + r.dep) = max most (if (F.cons x t n ks r).cnt = 0 then 0 else s.length + 1 + (F.cons x t n ks r).dep) := by
      have h9 : (F.cons x t n ks r).cnt ≠ 0 := Nat.succ_ne_zero _
      rw [if_neg h9]
      show _ = max most (s.length + 1 + max (ks.dep + 1) r.dep)
      by_cases h0 : r.cnt = 0
      · rw [if_pos h0]
        have : r.dep = 0 := by
          cases r with
          | nil => rfl
          | cons _ _ _ _ r => exact absurd h0 (Nat.succ_ne_zero _)
        omega
      · rw [if_neg h0]; omega
    rw [e5]

theorem sits_tree (x : Int) (t : List Int) (n : Int) (ks : F) : Sits (tr x t n ks).flat 0 (tr x t n ks) := ⟨[], by rw [List.append_nil]; rfl⟩

theorem deep_spec (b : Bool) (x : Int) (t : List Int) (n : Int) (ks : F) (hl : ks.size + 1 ≤ 10000) : f_tree_Deep (⟨b, (tr x t n ks).flat⟩, ()) = some (((ks.dep + 1 : Nat) : Int), ()) := by
  have hlen : (tr x t n ks).flat.length = ks.size + 1 := (tr x t n ks).len
  have hs := sits_tree x t n ks
  obtain ⟨g1, g2, g3, g4⟩ := hs.node
  have hdk := ks.dep_le
  have hc := ks.cnt_le
  rw [u_tree_Deep, whole_spec b _ (by omega), (isTree_iff _).2 ⟨x, t, n, ks, rfl⟩]
  have hn : notB true = false := rfl
  simp only [bnd_some_eq, hn, cnd_false]
  generalize hL : (tr x t n ks).flat = L at *
  have hf : fit (sumI (lenI ([] : List Int)) (lenI [(ks.cnt : Int)])) = some () := fit_small (by show 0 + 1 ≤ _; omega)
  have hp := pops b L ((1 : Nat) : Int) (L.length : Int) ((0 : Nat) : Int) (by omega) false [] ks.cnt (fun _ h => by cases h) (by omega) (by decide)
  have step : l2_tree_Deep (((0 : Nat) : Int), ⟨b, L⟩, (L.length : Int), ((0 : Nat) : Int), ⟨true, []⟩, ()) =
      some (.inl (((1 : Nat) : Int), ⟨b, L⟩, (L.length : Int), ((0 + 1 : Nat) : Int), ⟨false, toI (normT ks.cnt [])⟩, ())) := by
    unfold l2_tree_Deep
    simp only
    rw [cnd_lt, if_pos (by omega), at?_nat g1, bnd_some_eq]
    simp only [hf, bnd_some_eq, andB_one]
    have e1 : maxI ((0 : Nat) : Int) (addI .i64 (lenI ([] : List Int)) 1) = ((1 : Nat) : Int) := rfl
    have e2 : app ([] : List Int) [(ks.cnt : Int)] = toI (ks.cnt :: []) := rfl
    rw [e1, e2, hp]
    rfl
  obtain ⟨nb1, h1⟩ := deep_run b L (by omega) ks 1 [] 1 false g2 (by omega) (fun _ h => by cases h) (by decide) (by decide)
  have goal1 : loopR l2_tree_Deep (0, ⟨b, L⟩, lenI L, 0, ⟨true, []⟩, ()) = _ := loopR_inl step
  rw [goal1, h1]
  have e6 : max 1 (if ks.cnt = 0 then 0 else ([] : List Nat).length + 1 + ks.dep) = ks.dep + 1 := by
    by_cases h0 : ks.cnt = 0
    · rw [if_pos h0]
      have : ks.dep = 0 := by
        cases ks with
        | nil => rfl
        | cons _ _ _ _ r => exact absurd h0 (Nat.succ_ne_zero _)
      omega
    · rw [if_neg h0, List.length_nil]; omega
  rw [e6]
  refine loopR_inr ?_
  unfold l2_tree_Deep
  simp only
  rw [cnd_lt, if_neg (by omega)]
end Fn
end Ev
namespace Ev
open Go
namespace Fn

/-! What is wrong with one node. -/
def wrapOk (n : Int) : Bool := decide (-4611686018427387904 ≤ n ∧ n ≤ 4611686018427387903)
def rng (n : Int) : Prop := -9223372036854775808 ≤ n ∧ n ≤ 9223372036854775807
theorem wrap_any_i64 (n : Int) : IntKind.i64.wrap n = if n % 18446744073709551616 < 9223372036854775808 then n % 18446744073709551616 else n % 18446744073709551616 - 18446744073709551616 := by
  unfold IntKind.wrap
  show (if (true && decide (n % 18446744073709551616 ≥ 9223372036854775808)) = true then _ else _) = _
  rw [Bool.true_and]
  by_cases h : n % 18446744073709551616 < 9223372036854775808
  · rw [if_pos h, if_neg (by simp; omega)]; rfl
  · rw [if_neg h, if_pos (by simp; omega)]; rfl
theorem wrap_any_u64 (n : Int) : IntKind.u64.wrap n = n % 18446744073709551616 := by
  unfold IntKind.wrap
  show (if (false && _) = true then _ else _) = _
  rw [Bool.false_and, if_neg (by decide)]
  rfl
theorem wwrap_spec (n : Int) (h : rng n) : ∃ v, f_word_Wrap (n, ()) = some (v, ()) ∧ eqI v n = wrapOk n := by
  obtain ⟨h1, h2⟩ := h
  rw [u_word_Wrap]
  have e1 : shlI .u64 (cvI .u64 n) 1 = some (IntKind.u64.wrap (cvI .u64 n * 2)) := by
    unfold shlI; rw [if_neg (by decide)]; rfl
  simp only [e1, bnd_some_eq]
  have e2 := shrI_i64 (a := cvI .i64 (IntKind.u64.wrap (cvI .u64 n * 2))) 1 (by decide)
  have e3 : ((1 : Nat) : Int) = 1 := rfl
  rw [e3] at e2
  rw [e2]
  refine ⟨_, rfl, ?_⟩
  unfold cvI
  rw [wrap_any_i64, wrap_any_u64, wrap_any_u64]
  rw [Bool.eq_iff_iff, eqI_eq]
  unfold wrapOk
  rw [decide_eq_true_eq]
  show (ite _ _ _) / 2 = n ↔ _
  split <;> omega
theorem rwrap_spec (n : Int) (h : rng n) : ∃ v, f_ref01_Wrap (n, ()) = some (v, ()) ∧ eqI v n = wrapOk n := by
  obtain ⟨h1, h2⟩ := h
  have e0 : cvI .u64 n = n % 18446744073709551616 := wrap_any_u64 n
  rw [u_ref01_Wrap, u_ref01_back, e0, remI_pos (by omega) (by decide)]
  simp only [bnd_some_eq]
  rw [cnd_le]
  by_cases hb : 4611686018427387904 ≤ n % 18446744073709551616 % 9223372036854775808
  · rw [if_pos hb]
    refine ⟨_, rfl, ?_⟩
    have e1 : subI .u64 (n % 18446744073709551616 % 9223372036854775808) 4611686018427387904 = n % 18446744073709551616 % 9223372036854775808 - 4611686018427387904 := by
      unfold subI; rw [wrap_any_u64]; omega
    rw [e1, cvI_i64 (by omega) (by omega), subI_i64 (by omega) (by omega), Bool.eq_iff_iff, eqI_eq]
    unfold wrapOk
    rw [decide_eq_true_eq]
    omega
  · rw [if_neg hb]
    refine ⟨_, rfl, ?_⟩
    rw [cvI_i64 (by omega) (by omega), Bool.eq_iff_iff, eqI_eq]
    unfold wrapOk
    rw [decide_eq_true_eq]
    omega

def sortK (k : Int) : Int := bif eqI k 1 || eqI k 6 || eqI k 9 || eqI k 10 || eqI k 11 || eqI k 21 || eqI k 23 then 0 else bif eqI k 3 || eqI k 5 || eqI k 7 || eqI k 8 || eqI k 12 || eqI k 22 then 1 else bif eqI k 4 || eqI k 24 then 2 else bif eqI k 2 then 3 else -1
def kidsK (k c : Int) : Bool := bif eqI k 5 || eqI k 11 then eqI c 1 else bif eqI k 6 || eqI k 7 || eqI k 8 || eqI k 12 then eqI c 2 else bif eqI k 9 then eqI c 3 else bif eqI k 10 then leI 3 c && eqI (c % 2) 1 else bif eqI k 24 then true else eqI c 0
def isPat (k : Int) : Bool := leI 21 k && leI k 24
def nodeY (k : Int) (t : List Int) (hk : Int) : Int := bif eqI k 8 && notB (eqI hk 5) then 61 else bif eqI (sortK k) 1 && notB (nameOk t) then 62 else bif eqI (sortK k) 2 && notB (conOk t) then 62 else 0
def nodeX (k : Int) (t : List Int) (hk : Int) : Int := bif eqI (sortK k) 0 then (bif eqS t [] then nodeY k t hk else 61) else bif eqI (sortK k) 3 then (bif ltI 200 (lenI t) then 61 else nodeY k t hk) else nodeY k t hk
/-- What is wrong with one node. (hk: the kind of the one behind it.) -/
def nodeE (k : Int) (t : List Int) (n c hk : Int) (pat : Bool) : Int :=
  bif ltI (sortK k) 0 then 61 else bif notB (eqB (isPat k) pat) then 61 else bif notB (kidsK k c) then 61 else
  bif eqI k 1 || eqI k 23 then (bif wrapOk n then nodeX k t hk else 61) else (bif eqI n 0 then nodeX k t hk else 61)

def kindsL : List Int := [1, 2, 3, 4, 5, 6, 7, 8, 9, 10, 11, 12, 21, 22, 23, 24]
theorem kind_cases {P : Int → Prop} (h1 : P 1) (h2 : P 2) (h3 : P 3) (h4 : P 4) (h5 : P 5) (h6 : P 6) (h7 : P 7) (h8 : P 8) (h9 : P 9) (h10 : P 10) (h11 : P 11) (h12 : P 12) (h21 : P 21) (h22 : P 22) (h23 : P 23) (h24 : P 24) (ho : ∀ a, (∀ c, c ∈ kindsL → eqI a c = false) → P a) : ∀ a, P a := by
  intro a
  by_cases e1 : a = 1
  · rw [e1]; exact h1
  by_cases e2 : a = 2
  · rw [e2]; exact h2
  by_cases e3 : a = 3
  · rw [e3]; exact h3
  by_cases e4 : a = 4
  · rw [e4]; exact h4
  by_cases e5 : a = 5
  · rw [e5]; exact h5
  by_cases e6 : a = 6
  · rw [e6]; exact h6
  by_cases e7 : a = 7
  · rw [e7]; exact h7
  by_cases e8 : a = 8
  · rw [e8]; exact h8
  by_cases e9 : a = 9
  · rw [e9]; exact h9
  by_cases e10 : a = 10
  · rw [e10]; exact h10
  by_cases e11 : a = 11
  · rw [e11]; exact h11
  by_cases e12 : a = 12
  · rw [e12]; exact h12
  by_cases e21 : a = 21
  · rw [e21]; exact h21
  by_cases e22 : a = 22
  · rw [e22]; exact h22
  by_cases e23 : a = 23
  · rw [e23]; exact h23
  by_cases e24 : a = 24
  · rw [e24]; exact h24
  refine ho a fun c hc => eqI_ne ?_
  rintro rfl
  simp only [kindsL, List.mem_cons, List.not_mem_nil, or_false] at hc
  omega
theorem sort_spec : ∀ a : Int, f_ref06_sort (a, ()) = some (sortK a, ()) := by
  refine kind_cases (by kernel_rfl) (by kernel_rfl) (by kernel_rfl) (by kernel_rfl) (by kernel_rfl) (by kernel_rfl) (by kernel_rfl) (by kernel_rfl) (by kernel_rfl) (by kernel_rfl) (by kernel_rfl) (by kernel_rfl) (by kernel_rfl) (by kernel_rfl) (by kernel_rfl) (by kernel_rfl) (fun a h => ?_)
  have i1 : eqI a 1 = false := h 1 (by decide)
  have i2 : eqI a 2 = false := h 2 (by decide)
  have i3 : eqI a 3 = false := h 3 (by decide)
  have i4 : eqI a 4 = false := h 4 (by decide)
  have i5 : eqI a 5 = false := h 5 (by decide)
  have i6 : eqI a 6 = false := h 6 (by decide)
  have i7 : eqI a 7 = false := h 7 (by decide)
  have i8 : eqI a 8 = false := h 8 (by decide)
  have i9 : eqI a 9 = false := h 9 (by decide)
  have i10 : eqI a 10 = false := h 10 (by decide)
  have i11 : eqI a 11 = false := h 11 (by decide)
  have i12 : eqI a 12 = false := h 12 (by decide)
  have i21 : eqI a 21 = false := h 21 (by decide)
  have i22 : eqI a 22 = false := h 22 (by decide)
  have i23 : eqI a 23 = false := h 23 (by decide)
  have i24 : eqI a 24 = false := h 24 (by decide)
  rw [u_ref06_sort]
  unfold sortK
  simp only [i1, i2, i3, i4, i5, i6, i7, i8, i9, i10, i11, i12, i21, i22, i23, i24, cnd_false, bnd_some_eq]
  rfl
theorem rkids_ok (c : Int) (hc : 0 ≤ c) : ∀ a : Int, f_ref06_kids (a, c, ()) = some (kidsK a c, ()) := by
  have h10 : f_ref06_kids (10, c, ()) = some (kidsK 10 c, ()) := by
    rw [u_ref06_kids]
    show bnd (cnd (leI 3 c) (bnd (remI c 2) fun x4 => some (eqI x4 1)) (some false)) (fun x5 => some (x5, ())) = some (leI 3 c && eqI (c % 2) 1, ())
    rw [remI_pos hc (by decide)]
    cases leI 3 c <;> rfl
  refine kind_cases (by rw [u_ref06_kids]; rfl) (by rw [u_ref06_kids]; rfl) (by rw [u_ref06_kids]; rfl) (by rw [u_ref06_kids]; rfl) (by rw [u_ref06_kids]; rfl) (by rw [u_ref06_kids]; rfl) (by rw [u_ref06_kids]; rfl) (by rw [u_ref06_kids]; rfl) (by rw [u_ref06_kids]; rfl) h10 (by rw [u_ref06_kids]; rfl) (by rw [u_ref06_kids]; rfl) (by rw [u_ref06_kids]; rfl) (by rw [u_ref06_kids]; rfl) (by rw [u_ref06_kids]; rfl) (by rw [u_ref06_kids]; rfl) (fun a h => ?_)
  have i1 : eqI a 1 = false := h 1 (by decide)
  have i2 : eqI a 2 = false := h 2 (by decide)
  have i3 : eqI a 3 = false := h 3 (by decide)
  have i4 : eqI a 4 = false := h 4 (by decide)
  have i5 : eqI a 5 = false := h 5 (by decide)
  have i6 : eqI a 6 = false := h 6 (by decide)
  have i7 : eqI a 7 = false := h 7 (by decide)
  have i8 : eqI a 8 = false := h 8 (by decide)
  have i9 : eqI a 9 = false := h 9 (by decide)
  have i10 : eqI a 10 = false := h 10 (by decide)
  have i11 : eqI a 11 = false := h 11 (by decide)
  have i12 : eqI a 12 = false := h 12 (by decide)
  have i21 : eqI a 21 = false := h 21 (by decide)
  have i22 : eqI a 22 = false := h 22 (by decide)
  have i23 : eqI a 23 = false := h 23 (by decide)
  have i24 : eqI a 24 = false := h 24 (by decide)
  rw [u_ref06_kids]
  unfold kidsK
  simp only [i5, i11, i6, i7, i8, i12, i9, i10, i24, cnd_false, bnd_some_eq]
  rfl
theorem ispat_spec (a : Int) : f_ref06_IsPat (a, ()) = some (isPat a, ()) := by rw [u_ref06_IsPat, two_and]; rfl
theorem pattern_spec (a : Int) : f_syn_pattern (a, ()) = some (isPat a, ()) := by rw [u_syn_pattern, two_and]; rfl

/-- The kind of the first. -/
def F.head : F → Int
  | .nil => 0
  | .cons k _ _ _ _ => k

theorem behind {l : List ND} {k : Nat} {ks : F} {kd : Int} (hk : k ≤ 1000000) (hs : Sits l (k + 1) ks) (hn : kd = 8 → ks.cnt ≠ 0) :
    (cnd (eqI kd 8) (bnd (at? l (addI .i64 (k : Int) 1)) fun x => some (notB (eqI x.1 5))) (some false) : Option Bool) = some (eqI kd 8 && notB (eqI ks.head 5)) := by
  cases h : eqI kd 8 with
  | false => rfl
  | true =>
    have h8 := eqI_eq.1 h
    cases ks with
    | nil => exact absurd rfl (hn h8)
    | cons x t n ks r =>
      rw [cnd_true, add1 (by omega), at?_nat hs.node.1]
      rfl

/-- The reference's. -/
theorem rnode_spec (b : Bool) (l : List ND) (hl : l.length ≤ 10000) {k : Nat} {kd : Int} {t : List Int} {n : Int} {ks r : F} (pat : Bool) (h : Sits l k (.cons kd t n ks r)) (ht : t.length ≤ 1000000) (hr : rng n) :
    f_ref06_node (⟨b, l⟩, (k : Int), pat, ()) = some (nodeE kd t n (ks.cnt : Int) ks.head pat, ()) := by
  obtain ⟨g1, g2, g3, g4⟩ := h.node
  obtain ⟨v, w1, w2⟩ := rwrap_spec n hr
  rw [u_ref06_node, at?_nat g1]
  simp only [bnd_some_eq, sort_spec, two_or, ispat_spec, rkids_ok (ks.cnt : Int) (Int.natCast_nonneg _), w1, w2, rname_spec ht, rcon_spec ht]
  by_cases h8 : kd = 8 ∧ ks.cnt = 0
  · obtain ⟨rfl, h0⟩ := h8
    rw [h0]
    have e1 : ltI (sortK 8) 0 = false := rfl
    have e2 : kidsK 8 ((0 : Nat) : Int) = false := rfl
    unfold nodeE
    rw [e1, e2]
    simp only [cnd_true, cnd_false, notB, Bool.not_false, cond_true, cond_false]
    cases !eqB (isPat 8) pat <;> rfl
  · have e8 := behind (kd := kd) (l := l) (k := k) (ks := ks) (by omega) g2 (fun e h => h8 ⟨e, h⟩)
    simp only [e8, bnd_some_eq, cnd_true, cnd_false]
    unfold nodeE nodeX
    unfold nodeY
    generalize hT : (eqI kd 8 && notB (eqI ks.head 5)) = T
    cases ltI (sortK kd) 0 with
    | true => rfl
    | false =>
      cases notB (eqB (isPat kd) pat) with
      | true => rfl
      | false =>
        cases notB (kidsK kd (ks.cnt : Int)) with
        | true => rfl
        | false =>
          simp only [cnd_false, cond_false]
          have fin : (bnd (cnd (eqI (sortK kd) 1) (some (notB (nameOk t))) (some false)) (fun x6 => bnd (cnd x6 (some true) (cnd (eqI (sortK kd) 2) (some (notB (conOk t))) (some false))) (fun x8 => cnd x8 (some ((62 : Int), ())) (some (0, ())))) : Option (Int × Unit)) =
              some (bif eqI (sortK kd) 1 && notB (nameOk t) then 62 else bif eqI (sortK kd) 2 && notB (conOk t) then 62 else 0, ()) := by
            cases eqI (sortK kd) 1 <;> cases nameOk t <;> cases eqI (sortK kd) 2 <;> cases conOk t <;> rfl
          simp only [fin]
          cases (eqI kd 1 || eqI kd 23) with
          | true =>
            simp only [cnd_true, cnd_false, cond_true, notB, Bool.not_true]
            cases wrapOk n with
            | false => rfl
            | true =>
              simp only [cnd_false, Bool.not_true, cond_true]
              cases h0 : eqI (sortK kd) 0 with
              | true =>
                have h3 : eqI (sortK kd) 3 = false := by rw [eqI_eq.1 h0]; rfl
                simp only [h3, cnd_false, cond_false]
                cases eqS t [] <;> cases T <;> rfl
              | false =>
                cases eqI (sortK kd) 3 <;> cases ltI 200 (lenI t) <;> cases T <;> rfl
          | false =>
            simp only [cnd_true, cnd_false, cond_false, notB, Bool.not_false]
            cases eqI n 0 with
            | false => rfl
            | true =>
              simp only [cnd_false, Bool.not_true, cond_true]
              cases h0 : eqI (sortK kd) 0 with
              | true =>
                have h3 : eqI (sortK kd) 3 = false := by rw [eqI_eq.1 h0]; rfl
                simp only [h3, cnd_false, cond_false]
                cases eqS t [] <;> cases T <;> rfl
              | false =>
                cases eqI (sortK kd) 3 <;> cases ltI 200 (lenI t) <;> cases T <;> rfl
end Fn
end Ev
namespace Ev
open Go
namespace Fn

theorem just_spec (a : Int) : f_syn_just (a, ()) = some (a, ()) := u_syn_just a
theorem just1_spec (a c : Int) : f_syn_just_1 (a, c, ()) = some (eqI a c, ()) := u_syn_just_1 a c
theorem all_ok (a : Int) : f_syn_formOf_2 (a, ()) = some (true, ()) := u_syn_formOf_2 a
theorem odd_ok (a : Int) (h : 0 ≤ a) : f_syn_formOf_1 (a, ()) = some (leI 3 a && eqI (a % 2) 1, ()) := by
  rw [u_syn_formOf_1, remI_pos h (by decide)]
  cases leI 3 a <;> rfl
theorem form_1 : f_syn_formOf (1, ()) = some (true, false, 2, 0, 0, 0, true, ()) := by kernel_rfl
theorem form_2 : f_syn_formOf (2, ()) = some (false, true, 2, 0, 0, 0, true, ()) := by kernel_rfl
theorem form_3 : f_syn_formOf (3, ()) = some (false, false, 0, 0, 0, 0, true, ()) := by kernel_rfl
theorem form_4 : f_syn_formOf (4, ()) = some (false, false, 1, 0, 0, 0, true, ()) := by kernel_rfl
theorem form_5 : f_syn_formOf (5, ()) = some (false, false, 0, 0, 0, 1, true, ()) := by kernel_rfl
theorem form_6 : f_syn_formOf (6, ()) = some (false, false, 2, 0, 0, 2, true, ()) := by kernel_rfl
theorem form_7 : f_syn_formOf (7, ()) = some (false, false, 0, 0, 0, 2, true, ()) := by kernel_rfl
theorem form_8 : f_syn_formOf (8, ()) = some (false, false, 0, 0, 0, 2, true, ()) := by kernel_rfl
theorem form_9 : f_syn_formOf (9, ()) = some (false, false, 2, 0, 0, 3, true, ()) := by kernel_rfl
theorem form_10 : f_syn_formOf (10, ()) = some (false, false, 2, 0, 1, 0, true, ()) := by kernel_rfl
theorem form_11 : f_syn_formOf (11, ()) = some (false, false, 2, 0, 0, 1, true, ()) := by kernel_rfl
theorem form_12 : f_syn_formOf (12, ()) = some (false, false, 0, 0, 0, 2, true, ()) := by kernel_rfl
theorem form_21 : f_syn_formOf (21, ()) = some (false, false, 2, 0, 0, 0, true, ()) := by kernel_rfl
theorem form_22 : f_syn_formOf (22, ()) = some (false, false, 0, 0, 0, 0, true, ()) := by kernel_rfl
theorem form_23 : f_syn_formOf (23, ()) = some (true, false, 2, 0, 0, 0, true, ()) := by kernel_rfl
theorem form_24 : f_syn_formOf (24, ()) = some (false, false, 1, 0, 2, 0, true, ()) := by kernel_rfl
theorem form_other (a : Int) (h : ∀ c, c ∈ kindsL → eqI a c = false) : f_syn_formOf (a, ()) = some (false, false, 2, 0, 3, 0, false, ()) := by
  have i1 : eqI a 1 = false := h 1 (by decide)
  have i2 : eqI a 2 = false := h 2 (by decide)
  have i3 : eqI a 3 = false := h 3 (by decide)
  have i4 : eqI a 4 = false := h 4 (by decide)
  have i5 : eqI a 5 = false := h 5 (by decide)
  have i6 : eqI a 6 = false := h 6 (by decide)
  have i7 : eqI a 7 = false := h 7 (by decide)
  have i8 : eqI a 8 = false := h 8 (by decide)
  have i9 : eqI a 9 = false := h 9 (by decide)
  have i10 : eqI a 10 = false := h 10 (by decide)
  have i11 : eqI a 11 = false := h 11 (by decide)
  have i12 : eqI a 12 = false := h 12 (by decide)
  have i21 : eqI a 21 = false := h 21 (by decide)
  have i22 : eqI a 22 = false := h 22 (by decide)
  have i23 : eqI a 23 = false := h 23 (by decide)
  have i24 : eqI a 24 = false := h 24 (by decide)
  rw [u_syn_formOf]
  simp only [i1, i2, i3, i4, i5, i6, i7, i8, i9, i10, i11, i12, i21, i22, i23, i24, cnd_false, bnd_some_eq]
theorem e00 : eqI 0 0 = true := id (Eq.refl true)
theorem e01 : eqI 0 1 = false := id (Eq.refl false)
theorem e02 : eqI 0 2 = false := id (Eq.refl false)
theorem e10 : eqI 1 0 = false := id (Eq.refl false)
theorem e11 : eqI 1 1 = true := id (Eq.refl true)
theorem e12 : eqI 1 2 = false := id (Eq.refl false)
theorem e20 : eqI 2 0 = false := id (Eq.refl false)
theorem e21 : eqI 2 1 = false := id (Eq.refl false)
theorem e22 : eqI 2 2 = true := id (Eq.refl true)
theorem nT : notB true = false := id (Eq.refl false)
theorem nF : notB false = true := id (Eq.refl true)

/-- The program's. -/
theorem node_spec (b : Bool) (l : List ND) (hl : l.length ≤ 10000) {k : Nat} {t : List Int} {n : Int} {ks : F} (pat : Bool) (ht : ∀ b, b ∈ t → 0 ≤ b ∧ b ≤ 255) (hr : rng n) :
    ∀ kd : Int, Sits l k (tr kd t n ks) → f_syn_node (⟨b, l⟩, (k : Int), pat, ()) = some (nodeE kd t n (ks.cnt : Int) ks.head pat, ()) := by
  obtain ⟨v, w1, w2⟩ := wwrap_spec n hr
  have hname := name_spec ht
  have hcon := con_spec ht
  have hodd := odd_ok (ks.cnt : Int) (Int.natCast_nonneg _)
  refine kind_cases ?k1 ?k2 ?k3 ?k4 ?k5 ?k6 ?k7 ?k8 ?k9 ?k10 ?k11 ?k12 ?k21 ?k22 ?k23 ?k24 (fun a h hs => ?_)
  case k1 =>
    intro h
    obtain ⟨g1, g2, g3, g4⟩ := h.node
    rw [u_syn_node, at?_nat g1, bnd_some_eq, form_1, bnd_some_eq]
    have e8 : eqI 1 8 = false := rfl
    have ep : isPat 1 = false := rfl
    simp only [pattern_spec, ep, nT, nF, cnd_true, cnd_false, bnd_some_eq, e00, e01, e02, e20, e21, e22, just1_spec, all_ok, hodd, w1, w2, hname, hcon, e8]
    have hE : nodeE 1 t n (ks.cnt : Int) ks.head pat = bif notB (eqB false pat) then 61 else bif notB (eqI (ks.cnt : Int) 0) then 61 else bif wrapOk n then (bif eqS t [] then 0 else 61) else 61 := by
      have kk : kidsK 1 (ks.cnt : Int) = eqI (ks.cnt : Int) 0 := rfl
      unfold nodeE nodeX nodeY
      rw [kk]
      cases pat <;> cases eqI (ks.cnt : Int) 0 <;> cases wrapOk n <;> cases eqS t [] <;> rfl
    rw [hE]
    cases pat <;> cases a1 : eqI (ks.cnt : Int) 0 <;> cases a2 : wrapOk n <;> cases a3 : eqS t [] <;> simp only [nT, nF, cnd_true, cnd_false, bnd_some_eq, e20, e21, e22, hname, hcon, eqB, e8, BEq.rfl, Bool.false_beq, Bool.not_true, cond_true, cond_false, a3] <;> rfl
  case k2 =>
    intro h
    obtain ⟨g1, g2, g3, g4⟩ := h.node
    rw [u_syn_node, at?_nat g1, bnd_some_eq, form_2, bnd_some_eq]
    have e8 : eqI 2 8 = false := rfl
    have ep : isPat 2 = false := rfl
    simp only [pattern_spec, ep, nT, nF, cnd_true, cnd_false, bnd_some_eq, e00, e01, e02, e22, just1_spec, all_ok, hodd, w1, w2]
    have hE : nodeE 2 t n (ks.cnt : Int) ks.head pat = bif notB (eqB false pat) then 61 else bif notB (eqI (ks.cnt : Int) 0) then 61 else bif eqI n 0 then (bif ltI 200 (lenI t) then 61 else 0) else 61 := by
      have kk : kidsK 2 (ks.cnt : Int) = eqI (ks.cnt : Int) 0 := rfl
      unfold nodeE nodeX nodeY
      rw [kk]
      cases pat <;> cases eqI (ks.cnt : Int) 0 <;> cases eqI n 0 <;> cases ltI 200 (lenI t) <;> rfl
    rw [hE]
    cases pat <;> cases a1 : eqI (ks.cnt : Int) 0 <;> cases a2 : eqI n 0 <;> cases a3 : ltI 200 (lenI t) <;> simp only [nT, nF, cnd_true, cnd_false, bnd_some_eq, e20, e21, e22, hname, hcon, eqB, e8, BEq.rfl, Bool.false_beq, Bool.not_true, cond_true, cond_false] <;> rfl
  case k3 =>
    intro h
    obtain ⟨g1, g2, g3, g4⟩ := h.node
    rw [u_syn_node, at?_nat g1, bnd_some_eq, form_3, bnd_some_eq]
    have e8 : eqI 3 8 = false := rfl
    have ep : isPat 3 = false := rfl
    simp only [pattern_spec, ep, nT, nF, cnd_true, cnd_false, bnd_some_eq, e00, e01, e02, just1_spec, all_ok, hodd, w1, w2, hname, hcon, e8]
    have hE : nodeE 3 t n (ks.cnt : Int) ks.head pat = bif notB (eqB false pat) then 61 else bif notB (eqI (ks.cnt : Int) 0) then 61 else bif eqI n 0 then (bif nameOk t then 0 else 62) else 61 := by
      have kk : kidsK 3 (ks.cnt : Int) = eqI (ks.cnt : Int) 0 := rfl
      unfold nodeE nodeX nodeY
      rw [kk]
      cases pat <;> cases eqI (ks.cnt : Int) 0 <;> cases eqI n 0 <;> cases nameOk t <;> rfl
    rw [hE]
    cases pat <;> cases a1 : eqI (ks.cnt : Int) 0 <;> cases a2 : eqI n 0 <;> cases a3 : nameOk t <;> simp only [nT, nF, cnd_true, cnd_false, bnd_some_eq, eqB, BEq.rfl, Bool.false_beq, Bool.not_true, cond_true, cond_false] <;> rfl
  case k4 =>
    intro h
    obtain ⟨g1, g2, g3, g4⟩ := h.node
    rw [u_syn_node, at?_nat g1, bnd_some_eq, form_4, bnd_some_eq]
    have e8 : eqI 4 8 = false := rfl
    have ep : isPat 4 = false := rfl
    simp only [pattern_spec, ep, nT, nF, cnd_true, cnd_false, bnd_some_eq, e00, e01, e02, e10, e11, e12, just1_spec, all_ok, hodd, w1, w2, hname, hcon, e8]
    have hE : nodeE 4 t n (ks.cnt : Int) ks.head pat = bif notB (eqB false pat) then 61 else bif notB (eqI (ks.cnt : Int) 0) then 61 else bif eqI n 0 then (bif conOk t then 0 else 62) else 61 := by
      have kk : kidsK 4 (ks.cnt : Int) = eqI (ks.cnt : Int) 0 := rfl
      unfold nodeE nodeX nodeY
      rw [kk]
      cases pat <;> cases eqI (ks.cnt : Int) 0 <;> cases eqI n 0 <;> cases conOk t <;> rfl
    rw [hE]
    cases pat <;> cases a1 : eqI (ks.cnt : Int) 0 <;> cases a2 : eqI n 0 <;> cases a3 : conOk t <;> simp only [nT, nF, cnd_true, cnd_false, bnd_some_eq, eqB, BEq.rfl, Bool.false_beq, Bool.not_true, cond_true, cond_false] <;> rfl
  case k5 =>
    intro h
    obtain ⟨g1, g2, g3, g4⟩ := h.node
    rw [u_syn_node, at?_nat g1, bnd_some_eq, form_5, bnd_some_eq]
    have e8 : eqI 5 8 = false := rfl
    have ep : isPat 5 = false := rfl
    simp only [pattern_spec, ep, nT, nF, cnd_true, cnd_false, bnd_some_eq, e00, e01, e02, just1_spec, all_ok, hodd, w1, w2, hname, hcon, e8]
    have hE : nodeE 5 t n (ks.cnt : Int) ks.head pat = bif notB (eqB false pat) then 61 else bif notB (eqI (ks.cnt : Int) 1) then 61 else bif eqI n 0 then (bif nameOk t then 0 else 62) else 61 := by
      have kk : kidsK 5 (ks.cnt : Int) = eqI (ks.cnt : Int) 1 := rfl
      unfold nodeE nodeX nodeY
      rw [kk]
      cases pat <;> cases eqI (ks.cnt : Int) 1 <;> cases eqI n 0 <;> cases nameOk t <;> rfl
    rw [hE]
    cases pat <;> cases a1 : eqI (ks.cnt : Int) 1 <;> cases a2 : eqI n 0 <;> cases a3 : nameOk t <;> simp only [nT, nF, cnd_true, cnd_false, bnd_some_eq, eqB, BEq.rfl, Bool.false_beq, Bool.not_true, cond_true, cond_false] <;> rfl
  case k6 =>
    intro h
    obtain ⟨g1, g2, g3, g4⟩ := h.node
    rw [u_syn_node, at?_nat g1, bnd_some_eq, form_6, bnd_some_eq]
    have e8 : eqI 6 8 = false := rfl
    have ep : isPat 6 = false := rfl
    simp only [pattern_spec, ep, nT, nF, cnd_true, cnd_false, bnd_some_eq, e00, e01, e02, e20, e21, e22, just1_spec, all_ok, hodd, w1, w2, hname, hcon, e8]
    have hE : nodeE 6 t n (ks.cnt : Int) ks.head pat = bif notB (eqB false pat) then 61 else bif notB (eqI (ks.cnt : Int) 2) then 61 else bif eqI n 0 then (bif eqS t [] then 0 else 61) else 61 := by
      have kk : kidsK 6 (ks.cnt : Int) = eqI (ks.cnt : Int) 2 := rfl
      unfold nodeE nodeX nodeY
      rw [kk]
      cases pat <;> cases eqI (ks.cnt : Int) 2 <;> cases eqI n 0 <;> cases eqS t [] <;> rfl
    rw [hE]
    cases pat <;> cases a1 : eqI (ks.cnt : Int) 2 <;> cases a2 : eqI n 0 <;> cases a3 : eqS t [] <;> simp only [nT, nF, cnd_true, cnd_false, bnd_some_eq, eqB, BEq.rfl, Bool.false_beq, Bool.not_true, cond_true, cond_false] <;> rfl
  case k7 =>
    intro h
    obtain ⟨g1, g2, g3, g4⟩ := h.node
    rw [u_syn_node, at?_nat g1, bnd_some_eq, form_7, bnd_some_eq]
    have e8 : eqI 7 8 = false := rfl
    have ep : isPat 7 = false := rfl
    simp only [pattern_spec, ep, nT, nF, cnd_true, cnd_false, bnd_some_eq, e00, e01, e02, just1_spec, all_ok, hodd, w1, w2, hname, hcon, e8]
    have hE : nodeE 7 t n (ks.cnt : Int) ks.head pat = bif notB (eqB false pat) then 61 else bif notB (eqI (ks.cnt : Int) 2) then 61 else bif eqI n 0 then (bif nameOk t then 0 else 62) else 61 := by
      have kk : kidsK 7 (ks.cnt : Int) = eqI (ks.cnt : Int) 2 := rfl
      unfold nodeE nodeX nodeY
      rw [kk]
      cases pat <;> cases eqI (ks.cnt : Int) 2 <;> cases eqI n 0 <;> cases nameOk t <;> rfl
    rw [hE]
    cases pat <;> cases a1 : eqI (ks.cnt : Int) 2 <;> cases a2 : eqI n 0 <;> cases a3 : nameOk t <;> simp only [nT, nF, cnd_true, cnd_false, bnd_some_eq, eqB, BEq.rfl, Bool.false_beq, Bool.not_true, cond_true, cond_false] <;> rfl
  case k8 =>
    intro h
    obtain ⟨g1, g2, g3, g4⟩ := h.node
    rw [u_syn_node, at?_nat g1, bnd_some_eq, form_8, bnd_some_eq]
    have e8 : eqI 8 8 = true := rfl
    have ep : isPat 8 = false := rfl
    simp only [pattern_spec, ep, nT, nF, cnd_true, cnd_false, bnd_some_eq, e00, e01, e02, just1_spec, all_ok, hodd, w1, w2, hname, hcon]
    have hE : nodeE 8 t n (ks.cnt : Int) ks.head pat = bif notB (eqB false pat) then 61 else bif notB (eqI (ks.cnt : Int) 2) then 61 else bif eqI n 0 then (bif eqI ks.head 5 then (bif nameOk t then 0 else 62) else 61) else 61 := by
      have kk : kidsK 8 (ks.cnt : Int) = eqI (ks.cnt : Int) 2 := rfl
      unfold nodeE nodeX nodeY
      rw [kk]
      cases pat <;> cases eqI (ks.cnt : Int) 2 <;> cases eqI n 0 <;> cases nameOk t <;> cases eqI ks.head 5 <;> rfl
    rw [hE]
    cases h2 : eqI (ks.cnt : Int) 2 with
    | false => cases pat <;> rfl
    | true =>
      have hb := behind (kd := 8) (l := l) (k := k) (ks := ks) (by omega) g2 (fun _ h0 => by have := eqI_eq.1 h2; omega)
      rw [show eqI 8 8 = true from rfl, cnd_true] at hb
      have hb' : bnd (at? l (addI .i64 (k : Int) 1)) (fun x => some (notB (eqI x.1 5))) = some (notB (eqI ks.head 5)) := hb
      cases pat <;> cases a1 : eqI n 0 <;> cases a2 : eqI ks.head 5 <;> cases a3 : nameOk t <;> simp only [nT, nF, cnd_true, cnd_false, bnd_some_eq, e8, hb', eqB, Bool.false_beq, beq_self_eq_true, Bool.not_true, a2] <;> rfl
  case k9 =>
    intro h
    obtain ⟨g1, g2, g3, g4⟩ := h.node
    rw [u_syn_node, at?_nat g1, bnd_some_eq, form_9, bnd_some_eq]
    have e8 : eqI 9 8 = false := rfl
    have ep : isPat 9 = false := rfl
    simp only [pattern_spec, ep, nT, nF, cnd_true, cnd_false, bnd_some_eq, e00, e01, e02, e20, e21, e22, just1_spec, all_ok, hodd, w1, w2, hname, hcon, e8]
    have hE : nodeE 9 t n (ks.cnt : Int) ks.head pat = bif notB (eqB false pat) then 61 else bif notB (eqI (ks.cnt : Int) 3) then 61 else bif eqI n 0 then (bif eqS t [] then 0 else 61) else 61 := by
      have kk : kidsK 9 (ks.cnt : Int) = eqI (ks.cnt : Int) 3 := rfl
      unfold nodeE nodeX nodeY
      rw [kk]
      cases pat <;> cases eqI (ks.cnt : Int) 3 <;> cases eqI n 0 <;> cases eqS t [] <;> rfl
    rw [hE]
    cases pat <;> cases a1 : eqI (ks.cnt : Int) 3 <;> cases a2 : eqI n 0 <;> cases a3 : eqS t [] <;> simp only [nT, nF, cnd_true, cnd_false, bnd_some_eq, eqB, BEq.rfl, Bool.false_beq, Bool.not_true, cond_true, cond_false] <;> rfl
  case k10 =>
    intro h
    obtain ⟨g1, g2, g3, g4⟩ := h.node
    rw [u_syn_node, at?_nat g1, bnd_some_eq, form_10, bnd_some_eq]
    have e8 : eqI 10 8 = false := rfl
    have ep : isPat 10 = false := rfl
    simp only [pattern_spec, ep, nT, nF, cnd_true, cnd_false, bnd_some_eq, e10, e11, e12, e20, e21, e22, just1_spec, all_ok, hodd, w1, w2, hname, hcon, e8]
    have hE : nodeE 10 t n (ks.cnt : Int) ks.head pat = bif notB (eqB false pat) then 61 else bif notB ((leI 3 (ks.cnt : Int) && eqI ((ks.cnt : Int) % 2) 1)) then 61 else bif eqI n 0 then (bif eqS t [] then 0 else 61) else 61 := by
      have kk : kidsK 10 (ks.cnt : Int) = (leI 3 (ks.cnt : Int) && eqI ((ks.cnt : Int) % 2) 1) := rfl
      unfold nodeE nodeX nodeY
      rw [kk]
      cases pat <;> cases leI 3 (ks.cnt : Int) <;> cases eqI ((ks.cnt : Int) % 2) 1 <;> cases eqI n 0 <;> cases eqS t [] <;> rfl
    rw [hE]
    cases pat <;> cases a1 : leI 3 (ks.cnt : Int) <;> cases a2 : eqI ((ks.cnt : Int) % 2) 1 <;> cases a3 : eqI n 0 <;> cases a4 : eqS t [] <;> simp only [nT, nF, cnd_true, cnd_false, bnd_some_eq, eqB, BEq.rfl, Bool.false_beq, Bool.not_true, Bool.true_and, Bool.false_and, cond_true, cond_false] <;> rfl
  case k11 =>
    intro h
    obtain ⟨g1, g2, g3, g4⟩ := h.node
    rw [u_syn_node, at?_nat g1, bnd_some_eq, form_11, bnd_some_eq]
    have e8 : eqI 11 8 = false := rfl
    have ep : isPat 11 = false := rfl
    simp only [pattern_spec, ep, nT, nF, cnd_true, cnd_false, bnd_some_eq, e00, e01, e02, e20, e21, e22, just1_spec, all_ok, hodd, w1, w2, hname, hcon, e8]
    have hE : nodeE 11 t n (ks.cnt : Int) ks.head pat = bif notB (eqB false pat) then 61 else bif notB (eqI (ks.cnt : Int) 1) then 61 else bif eqI n 0 then (bif eqS t [] then 0 else 61) else 61 := by
      have kk : kidsK 11 (ks.cnt : Int) = eqI (ks.cnt : Int) 1 := rfl
      unfold nodeE nodeX nodeY
      rw [kk]
      cases pat <;> cases eqI (ks.cnt : Int) 1 <;> cases eqI n 0 <;> cases eqS t [] <;> rfl
    rw [hE]
    cases pat <;> cases a1 : eqI (ks.cnt : Int) 1 <;> cases a2 : eqI n 0 <;> cases a3 : eqS t [] <;> simp only [nT, nF, cnd_true, cnd_false, bnd_some_eq, eqB, BEq.rfl, Bool.false_beq, Bool.not_true, cond_true, cond_false] <;> rfl
  case k12 =>
    intro h
    obtain ⟨g1, g2, g3, g4⟩ := h.node
    rw [u_syn_node, at?_nat g1, bnd_some_eq, form_12, bnd_some_eq]
    have e8 : eqI 12 8 = false := rfl
    have ep : isPat 12 = false := rfl
    simp only [pattern_spec, ep, nT, nF, cnd_true, cnd_false, bnd_some_eq, e00, e01, e02, just1_spec, all_ok, hodd, w1, w2, hname, hcon, e8]
    have hE : nodeE 12 t n (ks.cnt : Int) ks.head pat = bif notB (eqB false pat) then 61 else bif notB (eqI (ks.cnt : Int) 2) then 61 else bif eqI n 0 then (bif nameOk t then 0 else 62) else 61 := by
      have kk : kidsK 12 (ks.cnt : Int) = eqI (ks.cnt : Int) 2 := rfl
      unfold nodeE nodeX nodeY
      rw [kk]
      cases pat <;> cases eqI (ks.cnt : Int) 2 <;> cases eqI n 0 <;> cases nameOk t <;> rfl
    rw [hE]
    cases pat <;> cases a1 : eqI (ks.cnt : Int) 2 <;> cases a2 : eqI n 0 <;> cases a3 : nameOk t <;> simp only [nT, nF, cnd_true, cnd_false, bnd_some_eq, eqB, BEq.rfl, Bool.false_beq, Bool.not_true, cond_true, cond_false] <;> rfl
  case k21 =>
    intro h
    obtain ⟨g1, g2, g3, g4⟩ := h.node
    rw [u_syn_node, at?_nat g1, bnd_some_eq, form_21, bnd_some_eq]
    have e8 : eqI 21 8 = false := rfl
    have ep : isPat 21 = true := rfl
    simp only [pattern_spec, ep, nT, nF, cnd_true, cnd_false, bnd_some_eq, e00, e01, e02, e20, e21, e22, just1_spec, all_ok, hodd, w1, w2, hname, hcon, e8]
    have hE : nodeE 21 t n (ks.cnt : Int) ks.head pat = bif notB (eqB true pat) then 61 else bif notB (eqI (ks.cnt : Int) 0) then 61 else bif eqI n 0 then (bif eqS t [] then 0 else 61) else 61 := by
      have kk : kidsK 21 (ks.cnt : Int) = eqI (ks.cnt : Int) 0 := rfl
      unfold nodeE nodeX nodeY
      rw [kk]
      cases pat <;> cases eqI (ks.cnt : Int) 0 <;> cases eqI n 0 <;> cases eqS t [] <;> rfl
    rw [hE]
    cases pat <;> cases a1 : eqI (ks.cnt : Int) 0 <;> cases a2 : eqI n 0 <;> cases a3 : eqS t [] <;> simp only [nT, nF, cnd_true, cnd_false, bnd_some_eq, eqB, BEq.rfl, cond_true, cond_false] <;> rfl
  case k22 =>
    intro h
    obtain ⟨g1, g2, g3, g4⟩ := h.node
    rw [u_syn_node, at?_nat g1, bnd_some_eq, form_22, bnd_some_eq]
    have e8 : eqI 22 8 = false := rfl
    have ep : isPat 22 = true := rfl
    simp only [pattern_spec, ep, nT, nF, cnd_true, cnd_false, bnd_some_eq, e00, e01, e02, just1_spec, all_ok, hodd, w1, w2, hname, hcon, e8]
    have hE : nodeE 22 t n (ks.cnt : Int) ks.head pat = bif notB (eqB true pat) then 61 else bif notB (eqI (ks.cnt : Int) 0) then 61 else bif eqI n 0 then (bif nameOk t then 0 else 62) else 61 := by
      have kk : kidsK 22 (ks.cnt : Int) = eqI (ks.cnt : Int) 0 := rfl
      unfold nodeE nodeX nodeY
      rw [kk]
      cases pat <;> cases eqI (ks.cnt : Int) 0 <;> cases eqI n 0 <;> cases nameOk t <;> rfl
    rw [hE]
    cases pat <;> cases a1 : eqI (ks.cnt : Int) 0 <;> cases a2 : eqI n 0 <;> cases a3 : nameOk t <;> simp only [nT, nF, cnd_true, cnd_false, bnd_some_eq, eqB, BEq.rfl, cond_true, cond_false] <;> rfl
  case k23 =>
    intro h
    obtain ⟨g1, g2, g3, g4⟩ := h.node
    rw [u_syn_node, at?_nat g1, bnd_some_eq, form_23, bnd_some_eq]
    have e8 : eqI 23 8 = false := rfl
    have ep : isPat 23 = true := rfl
    simp only [pattern_spec, ep, nT, nF, cnd_true, cnd_false, bnd_some_eq, e00, e01, e02, e20, e21, e22, just1_spec, all_ok, hodd, w1, w2, hname, hcon, e8]
    have hE : nodeE 23 t n (ks.cnt : Int) ks.head pat = bif notB (eqB true pat) then 61 else bif notB (eqI (ks.cnt : Int) 0) then 61 else bif wrapOk n then (bif eqS t [] then 0 else 61) else 61 := by
      have kk : kidsK 23 (ks.cnt : Int) = eqI (ks.cnt : Int) 0 := rfl
      unfold nodeE nodeX nodeY
      rw [kk]
      cases pat <;> cases eqI (ks.cnt : Int) 0 <;> cases wrapOk n <;> cases eqS t [] <;> rfl
    rw [hE]
    cases pat <;> cases a1 : eqI (ks.cnt : Int) 0 <;> cases a2 : wrapOk n <;> cases a3 : eqS t [] <;> simp only [nT, nF, cnd_true, cnd_false, bnd_some_eq, e20, e21, e22, hname, hcon, eqB, e8, BEq.rfl, cond_true, cond_false, a3] <;> rfl
  case k24 =>
    intro h
    obtain ⟨g1, g2, g3, g4⟩ := h.node
    rw [u_syn_node, at?_nat g1, bnd_some_eq, form_24, bnd_some_eq]
    have e8 : eqI 24 8 = false := rfl
    have ep : isPat 24 = true := rfl
    simp only [pattern_spec, ep, nT, nF, cnd_true, cnd_false, bnd_some_eq, e10, e11, e12, e20, e21, e22, just1_spec, all_ok, hodd, w1, w2, hname, hcon, e8]
    have hE : nodeE 24 t n (ks.cnt : Int) ks.head pat = bif notB (eqB true pat) then 61 else bif notB (true) then 61 else bif eqI n 0 then (bif conOk t then 0 else 62) else 61 := by
      have kk : kidsK 24 (ks.cnt : Int) = true := rfl
      unfold nodeE nodeX nodeY
      rw [kk]
      cases pat <;> cases eqI n 0 <;> cases conOk t <;> rfl
    rw [hE]
    cases pat <;> cases a1 : eqI n 0 <;> cases a2 : conOk t <;> simp only [nT, nF, cnd_true, cnd_false, bnd_some_eq, eqB, BEq.rfl, cond_true, cond_false] <;> rfl
  obtain ⟨g1, g2, g3, g4⟩ := hs.node
  rw [u_syn_node, at?_nat g1, bnd_some_eq, form_other a h, bnd_some_eq]
  have hE : nodeE a t n (ks.cnt : Int) ks.head pat = 61 := by
    have hs : sortK a = -1 := by
      unfold sortK
      rw [h 1 (by decide), h 6 (by decide), h 9 (by decide), h 10 (by decide), h 11 (by decide), h 21 (by decide), h 23 (by decide), h 3 (by decide), h 5 (by decide), h 7 (by decide), h 8 (by decide), h 12 (by decide), h 22 (by decide), h 4 (by decide), h 24 (by decide), h 2 (by decide)]
      rfl
    unfold nodeE
    rw [hs]
    rfl
  rw [hE]
  rfl
end Fn
end Ev
namespace Ev
open Go
namespace Fn

/-! What is wrong first. -/
def goodND (x : ND) : Prop := (∀ b, b ∈ x.2.1 → 0 ≤ b ∧ b ≤ 255) ∧ x.2.1.length ≤ 1000000 ∧ rng x.2.2.1
def GL (l : List ND) : Prop := ∀ x, x ∈ l → goodND x
theorem GL.at {l : List ND} (h : GL l) {k : Nat} {x : ND} (e : l[k]? = some x) : goodND x := h x (List.mem_of_getElem? e)

def errF : Bool → Bool → Bool → F → Int
  | _, _, _, .nil => 0
  | m, pat, odd, .cons kd t n ks r =>
    bif notB (eqI (nodeE kd t n (ks.cnt : Int) ks.head (pat || (m && odd))) 0) then nodeE kd t n (ks.cnt : Int) ks.head (pat || (m && odd)) else
    bif notB (eqI (errF (eqI kd 10) (pat || (m && odd)) false ks) 0) then errF (eqI kd 10) (pat || (m && odd)) false ks else errF m pat (!odd) r
/-- Of a tree. -/
def errT (kd : Int) (t : List Int) (n : Int) (ks : F) (pat : Bool) : Int :=
  bif notB (eqI (nodeE kd t n (ks.cnt : Int) ks.head pat) 0) then nodeE kd t n (ks.cnt : Int) ks.head pat else errF (eqI kd 10) pat false ks
theorem errF_nil (m pat odd : Bool) : errF m pat odd .nil = 0 := id (Eq.refl _)
theorem errF_cons (m pat odd : Bool) (kd : Int) (t : List Int) (n : Int) (ks r : F) :
    errF m pat odd (.cons kd t n ks r) = bif notB (eqI (errT kd t n ks (pat || (m && odd))) 0) then errT kd t n ks (pat || (m && odd)) else errF m pat (!odd) r := by
  conv => lhs; unfold errF
  unfold errT
  cases h : notB (eqI (nodeE kd t n (ks.cnt : Int) ks.head (pat || (m && odd))) 0) with
  | true => rw [cond_true, cond_true, h]; rfl
  | false => rw [cond_false, cond_false]

theorem oddNext (i : Nat) : eqI (((i + 1 : Nat) : Int) % 2) 1 = !eqI ((i : Int) % 2) 1 := by
  by_cases h : (i : Int) % 2 = 1
  · have h2 : ((i + 1 : Nat) : Int) % 2 = 0 := by omega
    rw [h, h2]; rfl
  · have h1 : (i : Int) % 2 = 0 := by omega
    have h2 : ((i + 1 : Nat) : Int) % 2 = 1 := by omega
    rw [h1, h2]; rfl

/-- What a walk comes to. -/
def walkV (to : Nat) (e : Int) : Int × Int × Unit := bif eqI e 0 then ((to : Int), 0, ()) else (0, e, ())

theorem walk_all (b b2 : Bool) (l : List ND) (hl : l.length ≤ 10000) (hg : GL l) {k : Nat} {kd : Int} {t : List Int} {n : Int} {ks : F} (h : Sits l k (tr kd t n ks)) :
    ∀ pat N, ks.size + 1 ≤ N → recN g_syn_walk N (⟨b, l⟩, (k : Int), pat, ⟨b2, l⟩, ()) = some (walkV (k + 1 + ks.size) (errT kd t n ks pat)) := by
  refine F.each_one (l := l) (P := fun k kd t n ks => ∀ pat N, ks.size + 1 ≤ N → recN g_syn_walk N (⟨b, l⟩, (k : Int), pat, ⟨b2, l⟩, ()) = some (walkV (k + 1 + ks.size) (errT kd t n ks pat))) ?_ h
  clear h k kd t n ks
  intro k kd t n ks hs he pat N hN
  obtain ⟨N, rfl⟩ : ∃ m, N = m + 1 := ⟨N - 1, by omega⟩
  show g_syn_walk (recN g_syn_walk N) _ = _
  obtain ⟨g1, g2, g3, g4⟩ := hs.node
  obtain ⟨q1, q2, q3⟩ := hg.at g1
  rw [u_syn_walk, u_syn_check_1, node_spec b2 l hl pat q1 q3 kd hs]
  simp only [bnd_some_eq]
  unfold errT
  cases hE : notB (eqI (nodeE kd t n (ks.cnt : Int) ks.head pat) 0) with
  | true =>
    rw [cnd_true, cond_true]
    unfold walkV
    have : eqI (nodeE kd t n (ks.cnt : Int) ks.head pat) 0 = false := by
      unfold notB at hE
      simpa using hE
    rw [this, cond_false]
  | false =>
    rw [cnd_false, cond_false, at?_nat g1, bnd_some_eq, add1 (by omega)]
    have loop : ∀ (g : F) (q i : Nat), g.Each (fun k kd t n ks => ∀ pat N, ks.size + 1 ≤ N → recN g_syn_walk N (⟨b, l⟩, (k : Int), pat, ⟨b2, l⟩, ()) = some (walkV (k + 1 + ks.size) (errT kd t n ks pat))) q →
        g.size ≤ N → i + g.cnt = ks.cnt → i ≤ 1000000 →
        loopR (l1_syn_walk (recN g_syn_walk N)) (⟨b, l⟩, (k : Int), pat, ⟨b2, l⟩, (q : Int), (ks.cnt : Int), (i : Int), ()) = some (walkV (q + g.size) (errF (eqI kd 10) pat (eqI ((i : Int) % 2) 1) g)) := by
      intro g
      induction g with
      | nil =>
        intro q i _ _ hi _
        have hi : i + 0 = ks.cnt := hi
        refine loopR_inr ?_
        unfold l1_syn_walk
        simp only
        rw [cnd_lt, if_neg (by omega), errF_nil]
        rfl
      | cons kd' t' n' ks' r' _ ih =>
        intro q i hE hz hi hi2
        have hi : i + (r'.cnt + 1) = ks.cnt := hi
        have hz : ks'.size + r'.size + 1 ≤ N := hz
        have hc := ks.cnt_le
        have hp' : cnd pat (some true) (bnd (at? l (k : Int)) (fun x3 => cnd (eqI x3.1 10) (bnd (remI (i : Int) 2) (fun x4 => some (eqI x4 1))) (some false))) = some (pat || (eqI kd 10 && eqI ((i : Int) % 2) 1)) := by
          rw [at?_nat g1, remI_pos (by omega) (by decide)]
          simp only [bnd_some_eq]
          cases pat <;> cases eqI kd 10 <;> rfl
        rw [errF_cons]
        have hw := hE.1 (pat || (eqI kd 10 && eqI ((i : Int) % 2) 1)) N (by omega)
        generalize hv : errT kd' t' n' ks' (pat || (eqI kd 10 && eqI ((i : Int) % 2) 1)) = v at *
        have step : l1_syn_walk (recN g_syn_walk N) (⟨b, l⟩, (k : Int), pat, ⟨b2, l⟩, (q : Int), (ks.cnt : Int), (i : Int), ()) =
            bif eqI v 0 then some (.inl (⟨b, l⟩, (k : Int), pat, ⟨b2, l⟩, ((q + 1 + ks'.size : Nat) : Int), (ks.cnt : Int), ((i + 1 : Nat) : Int), ())) else some (.inr (0, v, ())) := by
          unfold l1_syn_walk
          simp only [hp', bnd_some_eq, hw]
          rw [cnd_lt, if_pos (by omega), add1 (by omega)]
          unfold walkV
          cases hv0 : eqI v 0 with
          | true =>
            rfl
          | false =>
            show cnd (notB (eqI v 0)) _ _ = _
            rw [hv0]; rfl
        cases hv0 : eqI v 0 with
        | true =>
          rw [hv0, cond_true] at step
          rw [loopR_inl step, ih _ (i + 1) hE.2 (by omega) (by omega) (by omega), oddNext]
          have e : q + 1 + ks'.size + r'.size = q + (F.cons kd' t' n' ks' r').size := by show _ = q + (ks'.size + r'.size + 1); omega
          rw [e]
          rfl
        | false =>
          rw [hv0, cond_false] at step
          rw [loopR_inr step]
          show _ = some (walkV _ v)
          unfold walkV
          rw [hv0]
          rfl
    have hc := ks.cnt_le
    exact loop ks (k + 1) 0 he (by omega) (by omega) (by omega)

theorem nodes_all (b : Bool) (l : List ND) (hl : l.length ≤ 10000) (hg : GL l) {k : Nat} {kd : Int} {t : List Int} {n : Int} {ks : F} (h : Sits l k (tr kd t n ks)) :
    ∀ pat N, ks.size + 1 ≤ N → recN g_ref06_nodes N (⟨b, l⟩, (k : Int), pat, ()) = some (errT kd t n ks pat, ()) := by
  refine F.each_one (l := l) (P := fun k kd t n ks => ∀ pat N, ks.size + 1 ≤ N → recN g_ref06_nodes N (⟨b, l⟩, (k : Int), pat, ()) = some (errT kd t n ks pat, ())) ?_ h
  clear h k kd t n ks
  intro k kd t n ks hs he pat N hN
  obtain ⟨N, rfl⟩ : ∃ m, N = m + 1 := ⟨N - 1, by omega⟩
  show g_ref06_nodes (recN g_ref06_nodes N) _ = _
  obtain ⟨g1, g2, g3, g4⟩ := hs.node
  obtain ⟨q1, q2, q3⟩ := hg.at g1
  rw [u_ref06_nodes, rnode_spec b l hl pat hs q2 q3, rkids_spec b l hl hs]
  simp only [bnd_some_eq]
  unfold errT
  cases hE : notB (eqI (nodeE kd t n (ks.cnt : Int) ks.head pat) 0) with
  | true => rw [cnd_true, cond_true]
  | false =>
    rw [cnd_false, cond_false]
    have loop : ∀ (g : F) (q : Nat) (pre : List Int), g.Each (fun k kd t n ks => ∀ pat N, ks.size + 1 ≤ N → recN g_ref06_nodes N (⟨b, l⟩, (k : Int), pat, ()) = some (errT kd t n ks pat, ())) q →
        g.size ≤ N → pre ++ g.pos q = ks.pos (k + 1) →
        loopR (l1_ref06_nodes (recN g_ref06_nodes N)) (⟨b, l⟩, (k : Int), pat, ⟨false, ks.pos (k + 1)⟩, (pre.length : Int), ()) = some (errF (eqI kd 10) pat (eqI ((pre.length : Int) % 2) 1) g, ()) := by
      intro g
      induction g with
      | nil =>
        intro q pre _ _ hp
        have hp : pre ++ [] = ks.pos (k + 1) := hp
        rw [List.append_nil] at hp
        refine loopR_inr ?_
        unfold l1_ref06_nodes
        simp only
        rw [cnd_lt, if_neg (by rw [hp]; unfold lenI; omega), errF_nil]
      | cons kd' t' n' ks' r' _ ih =>
        intro q pre hE hz hp
        have hz : ks'.size + r'.size + 1 ≤ N := hz
        have hp : pre ++ (q : Int) :: r'.pos (q + 1 + ks'.size) = ks.pos (k + 1) := hp
        have hlen : (ks.pos (k + 1)).length = ks.cnt := ks.pos_len _
        have hpl := congrArg List.length hp
        rw [List.length_append, List.length_cons, hlen] at hpl
        have hc := ks.cnt_le
        have hget : (ks.pos (k + 1))[pre.length]? = some (q : Int) := by rw [← hp]; simp
        rw [errF_cons]
        have hw := hE.1 (pat || (eqI kd 10 && eqI ((pre.length : Int) % 2) 1)) N (by omega)
        have step : l1_ref06_nodes (recN g_ref06_nodes N) (⟨b, l⟩, (k : Int), pat, ⟨false, ks.pos (k + 1)⟩, (pre.length : Int), ()) =
            bif notB (eqI (errT kd' t' n' ks' (pat || (eqI kd 10 && eqI ((pre.length : Int) % 2) 1))) 0) then some (.inr (errT kd' t' n' ks' (pat || (eqI kd 10 && eqI ((pre.length : Int) % 2) 1)), ())) else some (.inl (⟨b, l⟩, (k : Int), pat, ⟨false, ks.pos (k + 1)⟩, ((pre.length + 1 : Nat) : Int), ())) := by
          unfold l1_ref06_nodes
          simp only
          rw [cnd_lt, if_pos (by unfold lenI; rw [hlen]; omega), at?_nat hget, bnd_some_eq, at?_nat g1, remI_pos (by omega) (by decide), add1 (by omega)]
          cases pat with
          | true =>
            rw [Bool.true_or] at hw
            simp only [cnd_true, Bool.true_or, hw, bnd_some_eq]
            cases notB (eqI (errT kd' t' n' ks' true) 0) <;> rfl
          | false =>
            cases h10 : eqI kd 10 with
            | true =>
              rw [h10, Bool.false_or, Bool.true_and] at hw
              simp only [cnd_false, Bool.false_or, Bool.true_and, h10, cnd_true, hw, bnd_some_eq]
              cases notB (eqI (errT kd' t' n' ks' (eqI ((pre.length : Int) % 2) 1)) 0) <;> rfl
            | false =>
              rw [h10, Bool.false_or, Bool.false_and] at hw
              simp only [cnd_false, Bool.false_or, Bool.false_and, h10, hw, bnd_some_eq]
              cases notB (eqI (errT kd' t' n' ks' false) 0) <;> rfl
        cases hv0 : notB (eqI (errT kd' t' n' ks' (pat || (eqI kd 10 && eqI ((pre.length : Int) % 2) 1))) 0) with
        | true =>
          rw [hv0, cond_true] at step
          rw [loopR_inr step]
          rfl
        | false =>
          rw [hv0, cond_false] at step
          have hi := ih (q + 1 + ks'.size) (pre ++ [(q : Int)]) hE.2 (by omega) (by rw [List.append_assoc]; exact hp)
          rw [List.length_append] at hi
          have hi : loopR (l1_ref06_nodes (recN g_ref06_nodes N)) (⟨b, l⟩, (k : Int), pat, ⟨false, ks.pos (k + 1)⟩, ((pre.length + 1 : Nat) : Int), ()) = some (errF (eqI kd 10) pat (eqI (((pre.length + 1 : Nat) : Int) % 2) 1) r', ()) := hi
          rw [loopR_inl step, hi, oddNext]
          rfl
    exact loop ks (k + 1) [] he (by omega) rfl

theorem walk_spec (b b2 : Bool) (l : List ND) (hl : l.length ≤ 10000) (hg : GL l) {k : Nat} {kd : Int} {t : List Int} {n : Int} {ks : F} (pat : Bool) (h : Sits l k (tr kd t n ks)) :
    f_syn_walk (⟨b, l⟩, (k : Int), pat, ⟨b2, l⟩, ()) = some (walkV (k + 1 + ks.size) (errT kd t n ks pat)) :=
  recR_eq (ks.size + 1) fun N hN => walk_all b b2 l hl hg h pat N hN
theorem nodes_spec (b : Bool) (l : List ND) (hl : l.length ≤ 10000) (hg : GL l) {k : Nat} {kd : Int} {t : List Int} {n : Int} {ks : F} (pat : Bool) (h : Sits l k (tr kd t n ks)) :
    f_ref06_nodes (⟨b, l⟩, (k : Int), pat, ()) = some (errT kd t n ks pat, ()) :=
  recR_eq (ks.size + 1) fun N hN => nodes_all b l hl hg h pat N hN
end Fn
end Ev
