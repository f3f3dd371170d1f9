/- Layer 6 in plain words: the program's search for free names; two laws. No statement of its own about the program. -/
import Derived.Test.YtndklpaccohbcaaDoorPlainC
namespace Ev
open Go
namespace Fn

/-! How often each is bound. -/
abbrev Bm := List (Tx × Int)
def eqF : Tx → Tx → Bool := fun a c => eqS a c
theorem eqS_eq {a c : Tx} : eqS a c = true ↔ a = c := by simp [eqS]
theorem eqF_true {a c : Tx} (h : a = c) : eqF a c = true := eqS_eq.2 h
theorem eqF_false {a c : Tx} (h : a ≠ c) : eqF a c = false := by
  cases e : eqF a c with
  | false => rfl
  | true => exact absurd (eqS_eq.1 e) h
def getM (m : Bm) (x : Tx) : Int := mgetD eqF x m 0
def wfM : Bm → Prop
  | [] => True
  | (k, _) :: m => mget eqF k m = none ∧ wfM m

theorem mget_set (k : Tx) (v : Int) (x : Tx) : ∀ m : Bm, mget eqF x (mset eqF k v m) = if x = k then some v else mget eqF x m
  | [] => by
    show (bif eqF x k then some v else none) = _
    by_cases h : x = k
    · rw [eqF_true h, if_pos h]; rfl
    · rw [eqF_false h, if_neg h]; rfl
  | (k', v') :: m => by
    have ih := mget_set k v x m
    by_cases h1 : k = k'
    · subst h1
      have e : mset eqF k v ((k, v') :: m) = (k, v) :: m := by show (bif eqF k k then _ else _) = _; rw [eqF_true rfl]; rfl
      rw [e]
      show (bif eqF x k then some v else mget eqF x m) = if x = k then some v else (bif eqF x k then some v' else mget eqF x m)
      by_cases h : x = k
      · rw [eqF_true h, if_pos h]; rfl
      · rw [eqF_false h, if_neg h]; rfl
    · have e : mset eqF k v ((k', v') :: m) = (k', v') :: mset eqF k v m := by show (bif eqF k k' then _ else _) = _; rw [eqF_false h1]; rfl
      rw [e]
      show (bif eqF x k' then some v' else mget eqF x (mset eqF k v m)) = if x = k then some v else (bif eqF x k' then some v' else mget eqF x m)
      rw [ih]
      by_cases h : x = k'
      · have : x ≠ k := fun e => h1 (e.symm.trans h)
        rw [eqF_true h, if_neg this, if_neg this]
      · rw [eqF_false h]; rfl
theorem mget_del (k : Tx) (x : Tx) : ∀ m : Bm, wfM m → mget eqF x (mdel eqF k m) = if x = k then none else mget eqF x m
  | [], _ => by
    show none = _
    by_cases h : x = k
    · rw [if_pos h]
    · rw [if_neg h]; rfl
  | (k', v') :: m, hw => by
    have ih := mget_del k x m hw.2
    by_cases h1 : k = k'
    · subst h1
      have e : mdel eqF k ((k, v') :: m) = m := by show (bif eqF k k then _ else _) = _; rw [eqF_true rfl]; rfl
      rw [e]
      show _ = if x = k then none else (bif eqF x k then some v' else mget eqF x m)
      by_cases h : x = k
      · rw [if_pos h, h]; exact hw.1
      · rw [eqF_false h, if_neg h]; rfl
    · have e : mdel eqF k ((k', v') :: m) = (k', v') :: mdel eqF k m := by show (bif eqF k k' then _ else _) = _; rw [eqF_false h1]; rfl
      rw [e]
      show (bif eqF x k' then some v' else mget eqF x (mdel eqF k m)) = if x = k then none else (bif eqF x k' then some v' else mget eqF x m)
      rw [ih]
      by_cases h : x = k'
      · have : x ≠ k := fun e => h1 (e.symm.trans h)
        rw [eqF_true h, if_neg this, if_neg this]
      · rw [eqF_false h]; rfl
theorem wf_set (k : Tx) (v : Int) : ∀ m : Bm, wfM m → wfM (mset eqF k v m)
  | [], _ => ⟨rfl, trivial⟩
  | (k', v') :: m, hw => by
    by_cases h1 : k = k'
    · subst h1
      have e : mset eqF k v ((k, v') :: m) = (k, v) :: m := by show (bif eqF k k then _ else _) = _; rw [eqF_true rfl]; rfl
      rw [e]
      exact hw
    · have e : mset eqF k v ((k', v') :: m) = (k', v') :: mset eqF k v m := by show (bif eqF k k' then _ else _) = _; rw [eqF_false h1]; rfl
      rw [e]
      refine ⟨?_, wf_set k v m hw.2⟩
      rw [mget_set, if_neg (fun e => h1 e.symm)]
      exact hw.1
theorem wf_del (k : Tx) : ∀ m : Bm, wfM m → wfM (mdel eqF k m)
  | [], _ => trivial
  | (k', v') :: m, hw => by
    by_cases h1 : k = k'
    · subst h1
      have e : mdel eqF k ((k, v') :: m) = m := by show (bif eqF k k then _ else _) = _; rw [eqF_true rfl]; rfl
      rw [e]
      exact hw.2
    · have e : mdel eqF k ((k', v') :: m) = (k', v') :: mdel eqF k m := by show (bif eqF k k' then _ else _) = _; rw [eqF_false h1]; rfl
      rw [e]
      refine ⟨?_, wf_del k m hw.2⟩
      rw [mget_del k k' m hw.2, if_neg (fun e => h1 e.symm)]
      exact hw.1

/-- What a map tells. -/
def Bd (m : Bm) (f : Tx → Int) : Prop := wfM m ∧ ∀ x, getM m x = f x
theorem Bd.set {m : Bm} {f : Tx → Int} (h : Bd m f) (k : Tx) (v : Int) : Bd (mset eqF k v m) (fun x => if x = k then v else f x) := by
  refine ⟨wf_set k v m h.1, fun x => ?_⟩
  unfold getM mgetD
  rw [mget_set]
  show _ = if x = k then v else f x
  by_cases hx : x = k
  · rw [if_pos hx, if_pos hx]; rfl
  · rw [if_neg hx, if_neg hx]; exact h.2 x
theorem Bd.del {m : Bm} {f : Tx → Int} (h : Bd m f) (k : Tx) (h0 : f k = 0) : Bd (mdel eqF k m) f := by
  refine ⟨wf_del k m h.1, fun x => ?_⟩
  unfold getM mgetD
  rw [mget_del k x m h.1]
  by_cases hx : x = k
  · rw [if_pos hx, hx, h0]; rfl
  · rw [if_neg hx]; exact h.2 x
theorem Bd.ext {m : Bm} {f g : Tx → Int} (h : Bd m f) (e : ∀ x, f x = g x) : Bd m g := ⟨h.1, fun x => (h.2 x).trans (e x)⟩

def incF (f : Tx → Int) (names : List Tx) : Tx → Int := fun x => f x + (names.count x : Int)
theorem incF_nil (f : Tx → Int) (x : Tx) : incF f [] x = f x := by unfold incF; simp
theorem incF_cons (f : Tx → Int) (s : Tx) (r : List Tx) (x : Tx) : incF (fun y => if y = s then f s + 1 else f y) r x = incF f (s :: r) x := by
  unfold incF
  simp only [List.count_cons]
  by_cases h : x = s
  · subst h; simp; omega
  · have : ¬ (s == x) = true := by simpa using fun e : s = x => h e.symm
    rw [if_neg h, if_neg this]; simp

abbrev SelfT := (Int × (Sl ND) × Bm × (Sl Tx) × Unit) → Option (Int × (Sl ND) × Bm × (Sl Tx) × Unit)
theorem cnt_drop (names : List Tx) (k : Nat) (h : k < names.length) (x : Tx) : ((names.drop k).count x : Int) = (if names[k] = x then 1 else 0) + ((names.drop (k + 1)).count x : Int) := by
  rw [drop_cons h, List.count_cons]
  by_cases e : names[k] = x
  · have : (names[k] == x) = true := by simpa using e
    rw [if_pos e, if_pos this]; omega
  · have : ¬ (names[k] == x) = true := by simpa using e
    rw [if_neg e, if_neg this]; omega

theorem dec_loop (to_ : Int) (nn : Bool) (names : List Tx) (hn : names.length ≤ 1000000) (S : Sl ND) (out : Sl Tx) (f : Tx → Int) : ∀ (m k : Nat) (bd : Bm), k + m = names.length → Bd bd (incF f (names.drop k)) → (∀ x, 0 ≤ f x ∧ f x ≤ 1000000) →
    ∃ bd', loopR l1_syn_finder_with (to_, ⟨nn, names⟩, (names.length : Int), (k : Int), S, bd, out, ()) = some (.inr (to_, S, bd', out, ())) ∧ Bd bd' f := by
  intro m
  induction m with
  | zero =>
    intro k bd hk hb _
    refine ⟨bd, loopR_inr ?_, ?_⟩
    · unfold l1_syn_finder_with
      simp only
      rw [cnd_lt, if_neg (by omega)]
    · rw [List.drop_eq_nil_of_le (by omega)] at hb
      exact hb.ext (incF_nil f)
  | succ m ih =>
    intro k bd hk hb hf
    have hlt : k < names.length := by omega
    have hat := at?_nat (List.getElem?_eq_getElem hlt)
    have hval := hb.2 names[k]
    have hcl : ((names.drop k).count names[k] : Int) ≤ 1000000 := by
      have := List.count_le_length (a := names[k]) (l := names.drop k)
      rw [List.length_drop] at this
      omega
    have hfk := hf names[k]
    have hge : getM bd names[k] = f names[k] + ((names.drop k).count names[k] : Int) := hval
    have hs : subI .i64 (getM bd names[k]) 1 = getM bd names[k] - 1 := subI_i64 (by omega) (by omega)
    have hset := hb.set names[k] (getM bd names[k] - 1)
    have hset' : Bd (mset eqF names[k] (getM bd names[k] - 1) bd) (incF f (names.drop (k + 1))) := hset.ext fun x => by
      by_cases hx : x = names[k]
      · subst hx
        rw [if_pos rfl, hge]
        have := cnt_drop names k hlt names[k]
        rw [if_pos rfl] at this
        unfold incF
        omega
      · rw [if_neg hx]
        have := cnt_drop names k hlt x
        rw [if_neg (fun e => hx e.symm)] at this
        unfold incF
        omega
    have hg2 := hset'.2 names[k]
    have key : ∃ bd2, l1_syn_finder_with (to_, ⟨nn, names⟩, (names.length : Int), (k : Int), S, bd, out, ()) = some (.inl (to_, ⟨nn, names⟩, (names.length : Int), ((k + 1 : Nat) : Int), S, bd2, out, ())) ∧ Bd bd2 (incF f (names.drop (k + 1))) := by
      have hm : (fun x => fun y => eqS x y) = eqF := rfl
      unfold l1_syn_finder_with
      simp only
      rw [cnd_lt, if_pos (by omega), hat, bnd_some_eq, hm]
      show ∃ bd2, bnd (cnd (eqI (getM (mset eqF names[k] (subI .i64 (getM bd names[k]) 1) bd) names[k]) 0) _ _) _ = _ ∧ _
      rw [hs]
      cases h0 : eqI (getM (mset eqF names[k] (getM bd names[k] - 1) bd) names[k]) 0 with
      | true =>
        refine ⟨mdel eqF names[k] (mset eqF names[k] (getM bd names[k] - 1) bd), ?_, ?_⟩
        · rw [cnd_true, bnd_some_eq, add1 (by omega)]
          show some (Sum.inl (_, _, _, _, _, mdel eqF names[k] (mset eqF names[k] (subI .i64 (getM bd names[k]) 1) bd), _, ())) = _
          rw [hs]
        · exact hset'.del _ (by rw [← hg2]; exact eqI_eq.1 h0)
      | false =>
        refine ⟨mset eqF names[k] (getM bd names[k] - 1) bd, ?_, hset'⟩
        rw [cnd_false, bnd_some_eq, add1 (by omega)]
        show some (Sum.inl (_, _, _, _, _, mset eqF names[k] (subI .i64 (getM bd names[k]) 1) bd, _, ())) = _
        rw [hs]
    obtain ⟨bd2, s1, s2⟩ := key
    obtain ⟨bd', r1, r2⟩ := ih (k + 1) bd2 (by omega) s2 hf
    exact ⟨bd', by rw [loopR_inl s1, r1], r2⟩

theorem with_spec (self : Nat → SelfT) (n0 : Nat) (at_ to_ : Int) (nn : Bool) (names : List Tx) (S : Sl ND) (out : Sl Tx) (out2 : List Tx) (f : Tx → Int) (bd : Bm) (hb : Bd bd f) (hf : ∀ x, 0 ≤ f x ∧ f x ≤ 1000000) (hn : names.length ≤ 1000000)
    (hself : ∀ bd1, Bd bd1 (incF f names) → ∃ bd2 nb2, (∀ N, n0 ≤ N → self N (at_, S, bd1, out, ()) = some (to_, S, bd2, ⟨nb2, out2⟩, ())) ∧ Bd bd2 (incF f names)) :
    ∃ bd' nb', (∀ N, n0 ≤ N → h_syn_finder_with (self N) (at_, ⟨nn, names⟩, S, bd, out, ()) = some (to_, S, bd', ⟨nb', out2⟩, ())) ∧ Bd bd' f := by
  have loop : ∀ (m k : Nat) (bd : Bm), k + m = names.length → Bd bd (incF f (names.take k)) →
      ∃ bd' nb', (∀ N, n0 ≤ N → loopR (l2_syn_finder_with (self N)) (at_, ⟨nn, names⟩, ⟨nn, names⟩, (names.length : Int), (k : Int), S, bd, out, ()) = some (to_, S, bd', ⟨nb', out2⟩, ())) ∧ Bd bd' f := by
    intro m
    induction m with
    | zero =>
      intro k bd hk hb
      rw [List.take_of_length_le (by omega)] at hb
      obtain ⟨bd2, nb2, s1, s2⟩ := hself bd hb
      obtain ⟨bd3, s3, s4⟩ := dec_loop to_ nn names hn S ⟨nb2, out2⟩ f names.length 0 bd2 (by omega) s2 hf
      refine ⟨bd3, nb2, fun N hN => loopR_inr ?_, s4⟩
      unfold l2_syn_finder_with
      simp only
      rw [cnd_lt, if_neg (by omega), s1 N hN, bnd_some_eq]
      exact s3
    | succ m ih =>
      intro k bd hk hb
      have hlt : k < names.length := by omega
      have hat := at?_nat (List.getElem?_eq_getElem hlt)
      have hval := hb.2 names[k]
      have hfk := hf names[k]
      have hcl : ((names.take k).count names[k] : Int) ≤ 1000000 := by
        have := List.count_le_length (a := names[k]) (l := names.take k)
        rw [List.length_take] at this
        omega
      have hge : getM bd names[k] = f names[k] + ((names.take k).count names[k] : Int) := hval
      have hs : addI .i64 (getM bd names[k]) 1 = getM bd names[k] + 1 := addI_i64 (by omega) (by omega)
      have step : ∀ N, l2_syn_finder_with (self N) (at_, ⟨nn, names⟩, ⟨nn, names⟩, (names.length : Int), (k : Int), S, bd, out, ()) = some (.inl (at_, ⟨nn, names⟩, ⟨nn, names⟩, (names.length : Int), ((k + 1 : Nat) : Int), S, mset eqF names[k] (getM bd names[k] + 1) bd, out, ())) := by
        intro N
        unfold l2_syn_finder_with
        simp only
        rw [cnd_lt, if_pos (by omega), hat, bnd_some_eq, add1 (by omega)]
        show some (Sum.inl (_, _, _, _, _, _, mset eqF names[k] (addI .i64 (getM bd names[k]) 1) bd, _, ())) = _
        rw [hs]
      have hset := (hb.set names[k] (getM bd names[k] + 1)).ext (g := incF f (names.take (k + 1))) fun x => by
        rw [hge]
        unfold incF
        rw [List.take_succ_eq_append_getElem hlt, List.count_append, List.count_singleton]
        by_cases hx : x = names[k]
        · subst hx
          rw [if_pos rfl, if_pos (by simp)]; omega
        · rw [if_neg hx, if_neg (by simpa using fun e : names[k] = x => hx e.symm)]; omega
      obtain ⟨bd', nb', r1, r2⟩ := ih (k + 1) _ (by omega) hset
      exact ⟨bd', nb', fun N hN => by rw [loopR_inl (step N), r1 N hN], r2⟩
  obtain ⟨bd', nb', r1, r2⟩ := loop names.length 0 bd (by omega) (hb.ext fun x => (incF_nil f x).symm)
  exact ⟨bd', nb', fun N hN => by rw [u_syn_finder_with]; exact r1 N hN, r2⟩

/-! What is free where some are bound. -/
def sel_ (f : Tx → Int) (xs : List Tx) : List Tx := xs.filter fun x => decide (f x = 0)
theorem sel_app (f : Tx → Int) (a c : List Tx) : sel_ f (a ++ c) = sel_ f a ++ sel_ f c := List.filter_append ..
theorem sel_len (f : Tx → Int) (a : List Tx) : (sel_ f a).length ≤ a.length := List.length_filter_le _ _
theorem sel_inc (f : Tx → Int) (hf : ∀ x, 0 ≤ f x) (names xs : List Tx) : sel_ (incF f names) xs = sel_ f (lessL xs names) := by
  unfold sel_ lessL
  rw [List.filter_filter]
  refine List.filter_congr fun x _ => ?_
  have := hf x
  unfold incF
  rw [Bool.eq_iff_iff, Bool.and_eq_true, decide_eq_true_eq, decide_eq_true_eq, Bool.not_eq_true', decide_eq_false_iff_not, ← List.count_eq_zero]
  omega
theorem addU_sel (f : Tx → Int) (a c o : List Tx) : addU o (sel_ f (a ++ c)) = addU (addU o (sel_ f a)) (sel_ f c) := by rw [sel_app, addU_app]

theorem contains_spec (n : Bool) (v : List Tx) (s : Tx) (hv : v.length ≤ 1000000) : f_slices_Contains_v2 (⟨n, v⟩, s, ()) = some (decide (s ∈ v), ()) := by
  obtain ⟨r, h1, h2⟩ := index_loop s n v hv v.length 0 (by omega)
  rw [u_slices_Contains_v2, u_slices_Index_v2]
  have h1 : loopR l1_slices_Index_v2 (⟨n, v⟩, s, lenI v, 0, ()) = some (r, ()) := h1
  rw [h1, bnd_some_eq]
  have : leI 0 r = decide (s ∈ v) := decide_eq_decide.2 (by rw [h2]; rfl)
  rw [this]

/-- That the search is right at a tree. -/
def PD (b : Bool) (l : List ND) (q : Nat) (kd : Int) (t : Tx) (n : Int) (ks : F) : Prop :=
  errT kd t n ks false = 0 → ∀ (f : Tx → Int) (bd : Bm) (nb : Bool) (out : List Tx) (M : Int), Bd bd f → (∀ x, 0 ≤ f x ∧ f x ≤ M) → M + (ks.size + 1 : Nat) ≤ 1000000 → out.length + (ks.size + 1) ≤ 1000000 →
    ∃ bd' nb', (∀ N, ks.size + 1 ≤ N → recN g_syn_finder_find N ((q : Int), ⟨b, l⟩, bd, ⟨nb, out⟩, ()) = some (((q + 1 + ks.size : Nat) : Int), ⟨b, l⟩, bd', ⟨nb', addU out (sel_ f (freeT kd t ks))⟩, ())) ∧ Bd bd' f

/-- Names being bound. -/
theorem with_at {b : Bool} {l : List ND} {q : Nat} {kd : Int} {t : Tx} {n : Int} {ks : F} (hP : PD b l q kd t n ks) (he : errT kd t n ks false = 0) (f : Tx → Int) (bd : Bm) (nb nn : Bool) (names out : List Tx) (M : Int)
    (hb : Bd bd f) (hf : ∀ x, 0 ≤ f x ∧ f x ≤ M) (hM : M + (names.length : Int) + (ks.size + 1 : Nat) ≤ 1000000) (ho : out.length + (ks.size + 1) ≤ 1000000) :
    ∃ bd' nb', (∀ N, ks.size + 1 ≤ N → h_syn_finder_with (recN g_syn_finder_find N) ((q : Int), ⟨nn, names⟩, ⟨b, l⟩, bd, ⟨nb, out⟩, ()) = some (((q + 1 + ks.size : Nat) : Int), ⟨b, l⟩, bd', ⟨nb', addU out (sel_ f (lessL (freeT kd t ks) names))⟩, ())) ∧ Bd bd' f := by
  have hfi : ∀ x, 0 ≤ incF f names x ∧ incF f names x ≤ M + (names.length : Int) := by
    intro x
    have h1 := hf x
    have h2 := List.count_le_length (a := x) (l := names)
    unfold incF
    omega
  have hf0 := hf []
  refine with_spec (recN g_syn_finder_find) (ks.size + 1) (q : Int) ((q + 1 + ks.size : Nat) : Int) nn names ⟨b, l⟩ ⟨nb, out⟩ (addU out (sel_ f (lessL (freeT kd t ks) names))) f bd hb (fun x => ⟨(hf x).1, by have := (hf x).2; omega⟩) (by omega) ?_
  intro bd1 hb1
  rw [← sel_inc f (fun x => (hf x).1) names (freeT kd t ks)]
  exact hP he (incF f names) bd1 nb out (M + (names.length : Int)) hb1 hfi (by omega) ho
end Fn
end Ev
namespace Ev
open Go
namespace Fn

/-! Free names: the program's search. -/
theorem sumE_inl {α β : Type} (f : α → Option β) (a : α) : sumE f (.inl a) = f a := Eq.trans (Eq.refl _) (Eq.refl _)
theorem sumE_inr {α β : Type} (f : α → Option β) (b : β) : sumE f (.inr b) = some b := Eq.trans (Eq.refl _) (Eq.refl _)
theorem orT (a : Bool) : (a || true) = true := by cases a <;> rfl
theorem q1_3 : eqI 1 3 = false := id (Eq.refl false)
theorem q1_5 : eqI 1 5 = false := id (Eq.refl false)
theorem q1_7 : eqI 1 7 = false := id (Eq.refl false)
theorem q1_12 : eqI 1 12 = false := id (Eq.refl false)
theorem q1_8 : eqI 1 8 = false := id (Eq.refl false)
theorem q1_10 : eqI 1 10 = false := id (Eq.refl false)
theorem q1_6 : eqI 1 6 = false := id (Eq.refl false)
theorem q1_9 : eqI 1 9 = false := id (Eq.refl false)
theorem q1_11 : eqI 1 11 = false := id (Eq.refl false)
theorem q2_3 : eqI 2 3 = false := id (Eq.refl false)
theorem q2_5 : eqI 2 5 = false := id (Eq.refl false)
theorem q2_7 : eqI 2 7 = false := id (Eq.refl false)
theorem q2_12 : eqI 2 12 = false := id (Eq.refl false)
theorem q2_8 : eqI 2 8 = false := id (Eq.refl false)
theorem q2_10 : eqI 2 10 = false := id (Eq.refl false)
theorem q2_6 : eqI 2 6 = false := id (Eq.refl false)
theorem q2_9 : eqI 2 9 = false := id (Eq.refl false)
theorem q2_11 : eqI 2 11 = false := id (Eq.refl false)
theorem q3_3 : eqI 3 3 = true := id (Eq.refl true)
theorem q3_5 : eqI 3 5 = false := id (Eq.refl false)
theorem q3_7 : eqI 3 7 = false := id (Eq.refl false)
theorem q3_12 : eqI 3 12 = false := id (Eq.refl false)
theorem q3_8 : eqI 3 8 = false := id (Eq.refl false)
theorem q3_10 : eqI 3 10 = false := id (Eq.refl false)
theorem q3_6 : eqI 3 6 = false := id (Eq.refl false)
theorem q3_9 : eqI 3 9 = false := id (Eq.refl false)
theorem q3_11 : eqI 3 11 = false := id (Eq.refl false)
theorem q4_3 : eqI 4 3 = false := id (Eq.refl false)
theorem q4_5 : eqI 4 5 = false := id (Eq.refl false)
theorem q4_7 : eqI 4 7 = false := id (Eq.refl false)
theorem q4_12 : eqI 4 12 = false := id (Eq.refl false)
theorem q4_8 : eqI 4 8 = false := id (Eq.refl false)
theorem q4_10 : eqI 4 10 = false := id (Eq.refl false)
theorem q4_6 : eqI 4 6 = false := id (Eq.refl false)
theorem q4_9 : eqI 4 9 = false := id (Eq.refl false)
theorem q4_11 : eqI 4 11 = false := id (Eq.refl false)
theorem q5_3 : eqI 5 3 = false := id (Eq.refl false)
theorem q5_5 : eqI 5 5 = true := id (Eq.refl true)
theorem q5_7 : eqI 5 7 = false := id (Eq.refl false)
theorem q5_12 : eqI 5 12 = false := id (Eq.refl false)
theorem q5_8 : eqI 5 8 = false := id (Eq.refl false)
theorem q5_10 : eqI 5 10 = false := id (Eq.refl false)
theorem q5_6 : eqI 5 6 = false := id (Eq.refl false)
theorem q5_9 : eqI 5 9 = false := id (Eq.refl false)
theorem q5_11 : eqI 5 11 = false := id (Eq.refl false)
theorem q6_3 : eqI 6 3 = false := id (Eq.refl false)
theorem q6_5 : eqI 6 5 = false := id (Eq.refl false)
theorem q6_7 : eqI 6 7 = false := id (Eq.refl false)
theorem q6_12 : eqI 6 12 = false := id (Eq.refl false)
theorem q6_8 : eqI 6 8 = false := id (Eq.refl false)
theorem q6_10 : eqI 6 10 = false := id (Eq.refl false)
theorem q6_6 : eqI 6 6 = true := id (Eq.refl true)
theorem q6_9 : eqI 6 9 = false := id (Eq.refl false)
theorem q6_11 : eqI 6 11 = false := id (Eq.refl false)
theorem q7_3 : eqI 7 3 = false := id (Eq.refl false)
theorem q7_5 : eqI 7 5 = false := id (Eq.refl false)
theorem q7_7 : eqI 7 7 = true := id (Eq.refl true)
theorem q7_12 : eqI 7 12 = false := id (Eq.refl false)
theorem q7_8 : eqI 7 8 = false := id (Eq.refl false)
theorem q7_10 : eqI 7 10 = false := id (Eq.refl false)
theorem q7_6 : eqI 7 6 = false := id (Eq.refl false)
theorem q7_9 : eqI 7 9 = false := id (Eq.refl false)
theorem q7_11 : eqI 7 11 = false := id (Eq.refl false)
theorem q8_3 : eqI 8 3 = false := id (Eq.refl false)
theorem q8_5 : eqI 8 5 = false := id (Eq.refl false)
theorem q8_7 : eqI 8 7 = false := id (Eq.refl false)
theorem q8_12 : eqI 8 12 = false := id (Eq.refl false)
theorem q8_8 : eqI 8 8 = true := id (Eq.refl true)
theorem q8_10 : eqI 8 10 = false := id (Eq.refl false)
theorem q8_6 : eqI 8 6 = false := id (Eq.refl false)
theorem q8_9 : eqI 8 9 = false := id (Eq.refl false)
theorem q8_11 : eqI 8 11 = false := id (Eq.refl false)
theorem q9_3 : eqI 9 3 = false := id (Eq.refl false)
theorem q9_5 : eqI 9 5 = false := id (Eq.refl false)
theorem q9_7 : eqI 9 7 = false := id (Eq.refl false)
theorem q9_12 : eqI 9 12 = false := id (Eq.refl false)
theorem q9_8 : eqI 9 8 = false := id (Eq.refl false)
theorem q9_10 : eqI 9 10 = false := id (Eq.refl false)
theorem q9_6 : eqI 9 6 = false := id (Eq.refl false)
theorem q9_9 : eqI 9 9 = true := id (Eq.refl true)
theorem q9_11 : eqI 9 11 = false := id (Eq.refl false)
theorem q10_3 : eqI 10 3 = false := id (Eq.refl false)
theorem q10_5 : eqI 10 5 = false := id (Eq.refl false)
theorem q10_7 : eqI 10 7 = false := id (Eq.refl false)
theorem q10_12 : eqI 10 12 = false := id (Eq.refl false)
theorem q10_8 : eqI 10 8 = false := id (Eq.refl false)
theorem q10_10 : eqI 10 10 = true := id (Eq.refl true)
theorem q10_6 : eqI 10 6 = false := id (Eq.refl false)
theorem q10_9 : eqI 10 9 = false := id (Eq.refl false)
theorem q10_11 : eqI 10 11 = false := id (Eq.refl false)
theorem q11_3 : eqI 11 3 = false := id (Eq.refl false)
theorem q11_5 : eqI 11 5 = false := id (Eq.refl false)
theorem q11_7 : eqI 11 7 = false := id (Eq.refl false)
theorem q11_12 : eqI 11 12 = false := id (Eq.refl false)
theorem q11_8 : eqI 11 8 = false := id (Eq.refl false)
theorem q11_10 : eqI 11 10 = false := id (Eq.refl false)
theorem q11_6 : eqI 11 6 = false := id (Eq.refl false)
theorem q11_9 : eqI 11 9 = false := id (Eq.refl false)
theorem q11_11 : eqI 11 11 = true := id (Eq.refl true)
theorem q12_3 : eqI 12 3 = false := id (Eq.refl false)
theorem q12_5 : eqI 12 5 = false := id (Eq.refl false)
theorem q12_7 : eqI 12 7 = false := id (Eq.refl false)
theorem q12_12 : eqI 12 12 = true := id (Eq.refl true)
theorem q12_8 : eqI 12 8 = false := id (Eq.refl false)
theorem q12_10 : eqI 12 10 = false := id (Eq.refl false)
theorem q12_6 : eqI 12 6 = false := id (Eq.refl false)
theorem q12_9 : eqI 12 9 = false := id (Eq.refl false)
theorem q12_11 : eqI 12 11 = false := id (Eq.refl false)

theorem kind_in' : ∀ kd : Int, ltI (sortK kd) 0 = false → isPat kd = false → kd = 1 ∨ kd = 2 ∨ kd = 3 ∨ kd = 4 ∨ kd = 5 ∨ kd = 6 ∨ kd = 7 ∨ kd = 8 ∨ kd = 9 ∨ kd = 10 ∨ kd = 11 ∨ kd = 12 := by
  refine kind_cases ?_ ?_ ?_ ?_ ?_ ?_ ?_ ?_ ?_ ?_ ?_ ?_ ?_ ?_ ?_ ?_ ?_
  all_goals first | (intro a ha h1 h2) | (intro h1 h2)
  all_goals first | omega | (exact absurd h2 (by decide)) | skip
  exfalso
  have hs : sortK a = -1 := by
    unfold sortK
    simp only [ha 1 (by decide), ha 2 (by decide), ha 3 (by decide), ha 4 (by decide), ha 5 (by decide), ha 6 (by decide), ha 7 (by decide), ha 8 (by decide), ha 9 (by decide), ha 10 (by decide), ha 11 (by decide), ha 12 (by decide), ha 21 (by decide), ha 22 (by decide), ha 23 (by decide), ha 24 (by decide), Bool.or_false, cond_false]
  rw [hs] at h1
  exact absurd h1 (by decide)
theorem kind_in {kd : Int} {t : Tx} {n c hk : Int} (h : nodeE kd t n c hk false = 0) : kd = 1 ∨ kd = 2 ∨ kd = 3 ∨ kd = 4 ∨ kd = 5 ∨ kd = 6 ∨ kd = 7 ∨ kd = 8 ∨ kd = 9 ∨ kd = 10 ∨ kd = 11 ∨ kd = 12 :=
  kind_in' kd (nodeE_zero.1 h).1 (nodeE_zero.1 h).2.1
theorem sel_one (f : Tx → Int) (t : Tx) : sel_ f [t] = if f t = 0 then [t] else [] := by
  unfold sel_
  rw [List.filter_cons]
  by_cases h : f t = 0
  · rw [if_pos (decide_eq_true h), if_pos h]; rfl
  · rw [decide_eq_false h, if_neg h]; rfl

theorem sel_nil (f : Tx → Int) : sel_ f [] = [] := id (Eq.refl _)

theorem find_row {b : Bool} {l : List ND} (f : Tx → Int) (M : Int) (hf : ∀ x, 0 ≤ f x ∧ f x ≤ M) : ∀ (g : F) (q j : Nat) (m odd : Bool) (bd : Bm) (nb : Bool) (out : List Tx), g.Each (PD b l) q → m = false → errF m false odd g = 0 → Bd bd f →
    M + (g.size : Nat) ≤ 1000000 → out.length + g.size ≤ 1000000 → j + g.cnt ≤ 1000000 →
    ∃ bd' nb', (∀ N, g.size ≤ N → loopR (l2_syn_finder_find (recN g_syn_finder_find N)) ((q : Int), ((j + g.cnt : Nat) : Int), (j : Int), ⟨b, l⟩, bd, ⟨nb, out⟩, ()) = some (.inl (((q + g.size : Nat) : Int), ⟨b, l⟩, bd', ⟨nb', addU out (sel_ f (freesF g).flatten)⟩, ()))) ∧ Bd bd' f
  | .nil => by
    intro q j m odd bd nb out _ _ _ hb _ _ _
    refine ⟨bd, nb, fun N _ => loopR_inr ?_, hb⟩
    unfold l2_syn_finder_find
    simp only
    rw [cnd_lt, if_neg (by show ¬ (j : Int) < ((j + 0 : Nat) : Int); omega)]
    rfl
  | .cons kd t n ks r => by
    intro q j m odd bd nb out hE hm he hb hM ho hj
    subst hm
    obtain ⟨e1, e2⟩ := errF_ok.1 he
    have e1 : errT kd t n ks false = 0 := by rw [Bool.false_and, Bool.or_false] at e1; exact e1
    have hM : M + ((ks.size + r.size + 1 : Nat) : Int) ≤ 1000000 := hM
    have ho : out.length + (ks.size + r.size + 1) ≤ 1000000 := ho
    have hj : j + (r.cnt + 1) ≤ 1000000 := hj
    obtain ⟨bd1, nb1, r1, hb1⟩ := hE.1 e1 f bd nb out M hb hf (by omega) (by omega)
    have hl1 := addU_len (sel_ f (freeT kd t ks)) out
    have hl2 := sel_len f (freeT kd t ks)
    have hl3 := freeT_len kd t ks
    obtain ⟨bd2, nb2, r2, hb2⟩ := find_row f M hf r (q + 1 + ks.size) (j + 1) false (!odd) bd1 nb1 _ hE.2 rfl e2 hb1 (by omega) (show (addU out (sel_ f (freeT kd t ks))).length + r.size ≤ 1000000 by omega) (by omega)
    refine ⟨bd2, nb2, fun N hN => ?_, hb2⟩
    have hN : ks.size + r.size + 1 ≤ N := hN
    have step : l2_syn_finder_find (recN g_syn_finder_find N) ((q : Int), ((j + (r.cnt + 1) : Nat) : Int), (j : Int), ⟨b, l⟩, bd, ⟨nb, out⟩, ()) = some (.inl (((q + 1 + ks.size : Nat) : Int), ((j + (r.cnt + 1) : Nat) : Int), ((j + 1 : Nat) : Int), ⟨b, l⟩, bd1, ⟨nb1, addU out (sel_ f (freeT kd t ks))⟩, ())) := by
      unfold l2_syn_finder_find
      simp only
      rw [cnd_lt, if_pos (by omega), r1 N (by omega), bnd_some_eq, add1 (by omega)]
    have hc : ((j + 1 + r.cnt : Nat) : Int) = ((j + (r.cnt + 1) : Nat) : Int) := by omega
    have r2 := r2 N (by omega)
    rw [hc] at r2
    show loopR _ ((q : Int), ((j + (r.cnt + 1) : Nat) : Int), _) = _
    rw [loopR_inl step, r2, freesF_cons, List.flatten_cons, addU_sel]
    have hq : ((q + 1 + ks.size + r.size : Nat) : Int) = ((q + (F.cons kd t n ks r).size : Nat) : Int) := by show _ = ((q + (ks.size + r.size + 1) : Nat) : Int); omega
    rw [hq]

theorem find_pairs {b : Bool} {l : List ND} (hl : l.length ≤ 10000) (f : Tx → Int) (M : Int) (hf : ∀ x, 0 ≤ f x ∧ f x ≤ M) : ∀ (g : F) (q j : Nat) (bd : Bm) (nb : Bool) (out : List Tx), Sits l q g → g.Each (PD b l) q → errF true false true g = 0 → g.cnt % 2 = 0 → Bd bd f →
    M + (g.size : Nat) ≤ 1000000 → out.length + g.size ≤ 1000000 → j + g.cnt ≤ 1000000 →
    ∃ bd' nb', (∀ N, g.size ≤ N → loopR (l1_syn_finder_find (recN g_syn_finder_find N)) ((q : Int), ((j + g.cnt / 2 : Nat) : Int), (j : Int), ⟨b, l⟩, bd, ⟨nb, out⟩, ()) = some (.inr (((q + g.size : Nat) : Int), ⟨b, l⟩, bd', ⟨nb', addU out (sel_ f (pairsL (freesF g) (varssF g)))⟩, ()))) ∧ Bd bd' f
  | .nil => by
    intro q j bd nb out _ _ _ _ hb _ _ _
    refine ⟨bd, nb, fun N _ => loopR_inr ?_, hb⟩
    unfold l1_syn_finder_find
    simp only
    rw [cnd_lt, if_neg (by show ¬ (j : Int) < ((j + 0 : Nat) : Int); omega)]
    rfl
  | .cons _ _ _ _ .nil => by
    intro q j bd nb out _ _ _ hc
    have hc : (0 + 1) % 2 = 0 := hc
    omega
  | .cons xp tp np ksp (.cons xe te ne kse r) => by
    intro q j bd nb out hs hE he hc hb hM ho hj
    obtain ⟨g1, _, s3, g4⟩ := hs.node
    obtain ⟨g5, _, s4, s5⟩ := s3.node
    obtain ⟨e1, e2⟩ := errF_ok.1 he
    obtain ⟨e3, e4⟩ := errF_ok.1 e2
    have hM : M + ((ksp.size + (kse.size + r.size + 1) + 1 : Nat) : Int) ≤ 1000000 := hM
    have ho : out.length + (ksp.size + (kse.size + r.size + 1) + 1) ≤ 1000000 := ho
    have hj : j + (r.cnt + 1 + 1) ≤ 1000000 := hj
    have hc : (r.cnt + 1 + 1) % 2 = 0 := hc
    have hlp : (tr xp tp np ksp).flat.length ≤ 10000 := by rw [(tr xp tp np ksp).len, tr_size]; omega
    obtain ⟨nn, hn⟩ := names_spec b (tr xp tp np ksp).flat hlp
    rw [valid_namesT e1] at hn
    have hv := varsT_len xp tp ksp
    have hfl := freeT_len xe te kse
    have hll := lessL_len (freeT xe te kse) (varsT xp tp ksp)
    obtain ⟨bd1, nb1, r1, hb1⟩ := with_at hE.2.1 e3 f bd nb nn (varsT xp tp ksp) out M hb hf (by omega) (by omega)
    have hl1 := addU_len (sel_ f (lessL (freeT xe te kse) (varsT xp tp ksp))) out
    have hl2 := sel_len f (lessL (freeT xe te kse) (varsT xp tp ksp))
    obtain ⟨bd2, nb2, r2, hb2⟩ := find_pairs hl f M hf r (q + 1 + ksp.size + 1 + kse.size) (j + 1) bd1 nb1 _ s4 hE.2.2 e4 (by omega) hb1 (by omega) (show (addU out (sel_ f (lessL (freeT xe te kse) (varsT xp tp ksp)))).length + r.size ≤ 1000000 by omega) (by omega)
    refine ⟨bd2, nb2, fun N hN => ?_, hb2⟩
    have hN : ksp.size + (kse.size + r.size + 1) + 1 ≤ N := hN
    have hcut : cutL l (q : Int) ((q + 1 + ksp.size : Nat) : Int) = some (tr xp tp np ksp).flat := by
      unfold cutL
      rw [if_pos (by omega), Int.toNat_natCast, Int.toNat_natCast, List.drop_take, show q + 1 + ksp.size - q = (tr xp tp np ksp).size by rw [tr_size]; omega, hs.first.flat_eq]
    have hq : (r.cnt + 1 + 1) / 2 = r.cnt / 2 + 1 := by omega
    have step : l1_syn_finder_find (recN g_syn_finder_find N) ((q : Int), ((j + (r.cnt + 1 + 1) / 2 : Nat) : Int), (j : Int), ⟨b, l⟩, bd, ⟨nb, out⟩, ()) = some (.inl (((q + 1 + ksp.size + 1 + kse.size : Nat) : Int), ((j + (r.cnt + 1 + 1) / 2 : Nat) : Int), ((j + 1 : Nat) : Int), ⟨b, l⟩, bd1, ⟨nb1, addU out (sel_ f (lessL (freeT xe te kse) (varsT xp tp ksp)))⟩, ())) := by
      unfold l1_syn_finder_find
      simp only
      rw [cnd_lt, if_pos (by omega), end_spec b l hl, hs.ends]
      simp only [bnd_some_eq, hcut, hn, r1 N (by omega), add1 (show j ≤ 1000000000 by omega)]
    have hc2 : ((j + 1 + r.cnt / 2 : Nat) : Int) = ((j + (r.cnt + 1 + 1) / 2 : Nat) : Int) := by omega
    have r2 := r2 N (by omega)
    rw [hc2] at r2
    show loopR _ ((q : Int), ((j + (r.cnt + 1 + 1) / 2 : Nat) : Int), _) = _
    have hp : pairsL (freesF (.cons xp tp np ksp (.cons xe te ne kse r))) (varssF (.cons xp tp np ksp (.cons xe te ne kse r))) = lessL (freeT xe te kse) (varsT xp tp ksp) ++ pairsL (freesF r) (varssF r) := id (Eq.refl _)
    rw [loopR_inl step, r2, hp, addU_sel]
    have hq : ((q + 1 + ksp.size + 1 + kse.size + r.size : Nat) : Int) = ((q + (F.cons xp tp np ksp (.cons xe te ne kse r)).size : Nat) : Int) := by show _ = ((q + (ksp.size + (kse.size + r.size + 1) + 1) : Nat) : Int); omega
    rw [hq]

theorem find_1 (b : Bool) (l : List ND) (hl : l.length ≤ 10000) (k : Nat) (t : Tx) (n : Int) (ks : F) (hs : Sits l k (tr 1 t n ks)) (hE : ks.Each (PD b l) (k + 1)) : PD b l k 1 t n ks := by
  intro herr f bd nb out M hb hf hM ho
  have herr' := herr
  obtain ⟨h1, h2⟩ := errT_ok.1 herr
  obtain ⟨k1, k2, k3, k4, k5⟩ := kids_of (nodeE_zero.1 h1).2.2.1
  obtain ⟨g1, g2, g3, g4⟩ := hs.node
  have a1 : addI .i64 (k : Int) 1 = ((k + 1 : Nat) : Int) := add1 (by omega)
  have hk := cnt_zero (k5 (by omega))
  subst hk
  refine ⟨bd, nb, fun N hN => ?_, hb⟩
  obtain ⟨N, rfl⟩ : ∃ m, N = m + 1 := ⟨N - 1, by omega⟩
  show g_syn_finder_find (recN g_syn_finder_find N) _ = _
  rw [u_syn_finder_find, at?_nat g1]
  simp only [bnd_some_eq, q1_3, q1_5, q1_7, q1_12, q1_8, q1_10, q1_6, q1_9, q1_11, cnd_false, sumE_inl, a1]
  rfl

theorem find_2 (b : Bool) (l : List ND) (hl : l.length ≤ 10000) (k : Nat) (t : Tx) (n : Int) (ks : F) (hs : Sits l k (tr 2 t n ks)) (hE : ks.Each (PD b l) (k + 1)) : PD b l k 2 t n ks := by
  intro herr f bd nb out M hb hf hM ho
  have herr' := herr
  obtain ⟨h1, h2⟩ := errT_ok.1 herr
  obtain ⟨k1, k2, k3, k4, k5⟩ := kids_of (nodeE_zero.1 h1).2.2.1
  obtain ⟨g1, g2, g3, g4⟩ := hs.node
  have a1 : addI .i64 (k : Int) 1 = ((k + 1 : Nat) : Int) := add1 (by omega)
  have hk := cnt_zero (k5 (by omega))
  subst hk
  refine ⟨bd, nb, fun N hN => ?_, hb⟩
  obtain ⟨N, rfl⟩ : ∃ m, N = m + 1 := ⟨N - 1, by omega⟩
  show g_syn_finder_find (recN g_syn_finder_find N) _ = _
  rw [u_syn_finder_find, at?_nat g1]
  simp only [bnd_some_eq, q2_3, q2_5, q2_7, q2_12, q2_8, q2_10, q2_6, q2_9, q2_11, cnd_false, sumE_inl, a1]
  rfl

theorem find_3 (b : Bool) (l : List ND) (hl : l.length ≤ 10000) (k : Nat) (t : Tx) (n : Int) (ks : F) (hs : Sits l k (tr 3 t n ks)) (hE : ks.Each (PD b l) (k + 1)) : PD b l k 3 t n ks := by
  intro herr f bd nb out M hb hf hM ho
  have herr' := herr
  obtain ⟨h1, h2⟩ := errT_ok.1 herr
  obtain ⟨k1, k2, k3, k4, k5⟩ := kids_of (nodeE_zero.1 h1).2.2.1
  obtain ⟨g1, g2, g3, g4⟩ := hs.node
  have a1 : addI .i64 (k : Int) 1 = ((k + 1 : Nat) : Int) := add1 (by omega)
  have hk := cnt_zero (k5 (by omega))
  subst hk
  have ho : out.length + 1 ≤ 1000000 := by have : F.nil.size = 0 := rfl; omega
  have hm : mgetD (fun x1 => fun x2 => eqS x1 x2) t bd 0 = f t := hb.2 t
  by_cases h0 : f t = 0
  · have hsel : sel_ f (freeT 3 t .nil) = [t] := by
      have : freeT 3 t .nil = [t] := id (Eq.refl _)
      rw [this, sel_one, if_pos h0]
    have hz : eqI (f t) 0 = true := eqI_eq.2 h0
    rw [hsel]
    by_cases hin : t ∈ out
    · have e : addU out [t] = out := by rw [addU_cons, if_pos hin, addU_nil]
      rw [e]
      refine ⟨bd, nb, fun N hN => ?_, hb⟩
      obtain ⟨N, rfl⟩ : ∃ m, N = m + 1 := ⟨N - 1, by omega⟩
      show g_syn_finder_find (recN g_syn_finder_find N) _ = _
      rw [u_syn_finder_find, at?_nat g1]
      simp only [bnd_some_eq, q3_3, q3_5, q3_7, q3_12, q3_8, q3_10, q3_6, q3_9, q3_11, cnd_true, cnd_false, sumE_inl, a1, hm, hz, contains_spec nb out t (by omega), decide_eq_true hin, nT]
      rfl
    · have e : addU out [t] = out ++ [t] := by rw [addU_cons, if_neg hin, addU_nil]
      have hft : fit (sumI (lenI out) (lenI [t])) = some () := fit_small (by show out.length + 1 ≤ _; omega)
      rw [e]
      refine ⟨bd, andB nb (isE [t]), fun N hN => ?_, hb⟩
      obtain ⟨N, rfl⟩ : ∃ m, N = m + 1 := ⟨N - 1, by omega⟩
      show g_syn_finder_find (recN g_syn_finder_find N) _ = _
      rw [u_syn_finder_find, at?_nat g1]
      simp only [bnd_some_eq, q3_3, q3_5, q3_7, q3_12, q3_8, q3_10, q3_6, q3_9, q3_11, cnd_true, cnd_false, sumE_inl, a1, hm, hz, contains_spec nb out t (by omega), decide_eq_false hin, nF, hft]
      rfl
  · have hsel : sel_ f (freeT 3 t .nil) = [] := by
      have : freeT 3 t .nil = [t] := id (Eq.refl _)
      rw [this, sel_one, if_neg h0]
    have hz : eqI (f t) 0 = false := by
      cases hc : eqI (f t) 0 with
      | false => rfl
      | true => exact absurd (eqI_eq.1 hc) h0
    rw [hsel, addU_nil]
    refine ⟨bd, nb, fun N hN => ?_, hb⟩
    obtain ⟨N, rfl⟩ : ∃ m, N = m + 1 := ⟨N - 1, by omega⟩
    show g_syn_finder_find (recN g_syn_finder_find N) _ = _
    rw [u_syn_finder_find, at?_nat g1]
    simp only [bnd_some_eq, q3_3, q3_5, q3_7, q3_12, q3_8, q3_10, q3_6, q3_9, q3_11, cnd_true, cnd_false, sumE_inl, a1, hm, hz]
    rfl

theorem find_4 (b : Bool) (l : List ND) (hl : l.length ≤ 10000) (k : Nat) (t : Tx) (n : Int) (ks : F) (hs : Sits l k (tr 4 t n ks)) (hE : ks.Each (PD b l) (k + 1)) : PD b l k 4 t n ks := by
  intro herr f bd nb out M hb hf hM ho
  have herr' := herr
  obtain ⟨h1, h2⟩ := errT_ok.1 herr
  obtain ⟨k1, k2, k3, k4, k5⟩ := kids_of (nodeE_zero.1 h1).2.2.1
  obtain ⟨g1, g2, g3, g4⟩ := hs.node
  have a1 : addI .i64 (k : Int) 1 = ((k + 1 : Nat) : Int) := add1 (by omega)
  have hk := cnt_zero (k5 (by omega))
  subst hk
  refine ⟨bd, nb, fun N hN => ?_, hb⟩
  obtain ⟨N, rfl⟩ : ∃ m, N = m + 1 := ⟨N - 1, by omega⟩
  show g_syn_finder_find (recN g_syn_finder_find N) _ = _
  rw [u_syn_finder_find, at?_nat g1]
  simp only [bnd_some_eq, q4_3, q4_5, q4_7, q4_12, q4_8, q4_10, q4_6, q4_9, q4_11, cnd_false, sumE_inl, a1]
  rfl

theorem find_5 (b : Bool) (l : List ND) (hl : l.length ≤ 10000) (k : Nat) (t : Tx) (n : Int) (ks : F) (hs : Sits l k (tr 5 t n ks)) (hE : ks.Each (PD b l) (k + 1)) : PD b l k 5 t n ks := by
  intro herr f bd nb out M hb hf hM ho
  have herr' := herr
  obtain ⟨h1, h2⟩ := errT_ok.1 herr
  obtain ⟨k1, k2, k3, k4, k5⟩ := kids_of (nodeE_zero.1 h1).2.2.1
  obtain ⟨g1, g2, g3, g4⟩ := hs.node
  have a1 : addI .i64 (k : Int) 1 = ((k + 1 : Nat) : Int) := add1 (by omega)
  obtain ⟨x', t', n', ks', rfl⟩ := cnt_one (k1 (by omega))
  obtain ⟨i1, _⟩ := errF_ok.1 h2
  have i1 : errT x' t' n' ks' false = 0 := i1
  rw [tr_size] at hM ho
  obtain ⟨bd1, nb1, r1, hb1⟩ := with_at hE.1 i1 f bd nb false [t] out M hb hf (by rw [List.length_singleton]; omega) (by omega)
  refine ⟨bd1, nb1, fun N hN => ?_, hb1⟩
  rw [tr_size] at hN
  obtain ⟨N, rfl⟩ : ∃ m, N = m + 1 := ⟨N - 1, by omega⟩
  show g_syn_finder_find (recN g_syn_finder_find N) _ = _
  rw [u_syn_finder_find, at?_nat g1]
  simp only [bnd_some_eq, q5_3, q5_5, q5_7, q5_12, q5_8, q5_10, cnd_true, cnd_false, sumE_inr, a1, r1 N (by omega)]
  rw [tr_size, show k + 1 + (ks'.size + 1) = k + 1 + 1 + ks'.size by omega]
  rfl

theorem find_6 (b : Bool) (l : List ND) (hl : l.length ≤ 10000) (k : Nat) (t : Tx) (n : Int) (ks : F) (hs : Sits l k (tr 6 t n ks)) (hE : ks.Each (PD b l) (k + 1)) : PD b l k 6 t n ks := by
  intro herr f bd nb out M hb hf hM ho
  have herr' := herr
  obtain ⟨h1, h2⟩ := errT_ok.1 herr
  obtain ⟨k1, k2, k3, k4, k5⟩ := kids_of (nodeE_zero.1 h1).2.2.1
  obtain ⟨g1, g2, g3, g4⟩ := hs.node
  have a1 : addI .i64 (k : Int) 1 = ((k + 1 : Nat) : Int) := add1 (by omega)
  obtain ⟨bd1, nb1, r1, hb1⟩ := find_row f M hf ks (k + 1) 0 false false bd nb out hE rfl h2 hb (by omega) (by omega) (by have := ks.cnt_le; omega)
  refine ⟨bd1, nb1, fun N hN => ?_, hb1⟩
  obtain ⟨N, rfl⟩ : ∃ m, N = m + 1 := ⟨N - 1, by omega⟩
  show g_syn_finder_find (recN g_syn_finder_find N) _ = _
  rw [u_syn_finder_find, at?_nat g1]
  have r1 := r1 N (by omega)
  have h0 : ((0 : Nat) : Int) = 0 := rfl
  rw [Nat.zero_add, h0] at r1
  simp only [bnd_some_eq, q6_3, q6_5, q6_7, q6_12, q6_8, q6_10, q6_6, q6_9, q6_11, cnd_true, cnd_false, sumE_inl, a1, r1]
  rfl

theorem find_7 (b : Bool) (l : List ND) (hl : l.length ≤ 10000) (k : Nat) (t : Tx) (n : Int) (ks : F) (hs : Sits l k (tr 7 t n ks)) (hE : ks.Each (PD b l) (k + 1)) : PD b l k 7 t n ks := by
  intro herr f bd nb out M hb hf hM ho
  have herr' := herr
  obtain ⟨h1, h2⟩ := errT_ok.1 herr
  obtain ⟨k1, k2, k3, k4, k5⟩ := kids_of (nodeE_zero.1 h1).2.2.1
  obtain ⟨g1, g2, g3, g4⟩ := hs.node
  have a1 : addI .i64 (k : Int) 1 = ((k + 1 : Nat) : Int) := add1 (by omega)
  obtain ⟨xa, ta, na, ka, xb, tb, nb_, kb, rfl⟩ := cnt_two (k2 (by omega))
  obtain ⟨i1, i2⟩ := errF_ok.1 h2
  obtain ⟨i3, _⟩ := errF_ok.1 i2
  have i1 : errT xa ta na ka false = 0 := i1
  have i3 : errT xb tb nb_ kb false = 0 := i3
  have hsz : (F.cons xa ta na ka (tr xb tb nb_ kb)).size = ka.size + (kb.size + 1) + 1 := rfl
  have hfa := freeT_len xa ta ka
  have hfb := freeT_len xb tb kb
  obtain ⟨bd1, nb1, r1, hb1⟩ := hE.1 i1 f bd nb out M hb hf (by omega) (by omega)
  have hl1 := addU_len (sel_ f (freeT xa ta ka)) out
  have hl2 := sel_len f (freeT xa ta ka)
  obtain ⟨bd2, nb2, r2, hb2⟩ := with_at hE.2.1 i3 f bd1 nb1 false [t] (addU out (sel_ f (freeT xa ta ka))) M hb1 hf (by rw [List.length_singleton]; omega) (by omega)
  refine ⟨bd2, nb2, fun N hN => ?_, hb2⟩
  rw [hsz] at hN
  obtain ⟨N, rfl⟩ : ∃ m, N = m + 1 := ⟨N - 1, by omega⟩
  show g_syn_finder_find (recN g_syn_finder_find N) _ = _
  rw [u_syn_finder_find, at?_nat g1]
  simp only [bnd_some_eq, q7_3, q7_5, q7_7, q7_12, q7_8, q7_10, cnd_true, cnd_false, sumE_inr, a1, r1 N (by omega), r2 N (by omega)]
  have hfr : freeT 7 t (F.cons xa ta na ka (tr xb tb nb_ kb)) = freeT xa ta ka ++ lessL (freeT xb tb kb) [t] := id (Eq.refl _)
  rw [hfr, addU_sel, hsz, show k + 1 + (ka.size + (kb.size + 1) + 1) = k + 1 + 1 + ka.size + 1 + kb.size by omega]

theorem find_8 (b : Bool) (l : List ND) (hl : l.length ≤ 10000) (k : Nat) (t : Tx) (n : Int) (ks : F) (hs : Sits l k (tr 8 t n ks)) (hE : ks.Each (PD b l) (k + 1)) : PD b l k 8 t n ks := by
  intro herr f bd nb out M hb hf hM ho
  have herr' := herr
  obtain ⟨h1, h2⟩ := errT_ok.1 herr
  obtain ⟨k1, k2, k3, k4, k5⟩ := kids_of (nodeE_zero.1 h1).2.2.1
  obtain ⟨g1, g2, g3, g4⟩ := hs.node
  have a1 : addI .i64 (k : Int) 1 = ((k + 1 : Nat) : Int) := add1 (by omega)
  obtain ⟨xa, ta, na, ka, xb, tb, nb_, kb, rfl⟩ := cnt_two (k2 (by omega))
  obtain ⟨i1, i2⟩ := errF_ok.1 h2
  obtain ⟨i3, _⟩ := errF_ok.1 i2
  have i1 : errT xa ta na ka false = 0 := i1
  have i3 : errT xb tb nb_ kb false = 0 := i3
  have hsz : (F.cons xa ta na ka (tr xb tb nb_ kb)).size = ka.size + (kb.size + 1) + 1 := rfl
  have hfa := freeT_len xa ta ka
  have hfb := freeT_len xb tb kb
  have hla := lessL_len (freeT xa ta ka) [t]
  obtain ⟨bd1, nb1, r1, hb1⟩ := with_at hE.1 i1 f bd nb false [t] out M hb hf (by rw [List.length_singleton]; omega) (by omega)
  have hl1 := addU_len (sel_ f (lessL (freeT xa ta ka) [t])) out
  have hl2 := sel_len f (lessL (freeT xa ta ka) [t])
  obtain ⟨bd2, nb2, r2, hb2⟩ := with_at hE.2.1 i3 f bd1 nb1 false [t] (addU out (sel_ f (lessL (freeT xa ta ka) [t]))) M hb1 hf (by rw [List.length_singleton]; omega) (by omega)
  refine ⟨bd2, nb2, fun N hN => ?_, hb2⟩
  rw [hsz] at hN
  obtain ⟨N, rfl⟩ : ∃ m, N = m + 1 := ⟨N - 1, by omega⟩
  show g_syn_finder_find (recN g_syn_finder_find N) _ = _
  rw [u_syn_finder_find, at?_nat g1]
  simp only [bnd_some_eq, q8_3, q8_5, q8_7, q8_12, q8_8, q8_10, cnd_true, cnd_false, sumE_inr, a1, r1 N (by omega), r2 N (by omega)]
  have hfr : freeT 8 t (F.cons xa ta na ka (tr xb tb nb_ kb)) = lessL (freeT xa ta ka) [t] ++ lessL (freeT xb tb kb) [t] := List.filter_append ..
  rw [hfr, addU_sel, hsz, show k + 1 + (ka.size + (kb.size + 1) + 1) = k + 1 + 1 + ka.size + 1 + kb.size by omega]

theorem find_9 (b : Bool) (l : List ND) (hl : l.length ≤ 10000) (k : Nat) (t : Tx) (n : Int) (ks : F) (hs : Sits l k (tr 9 t n ks)) (hE : ks.Each (PD b l) (k + 1)) : PD b l k 9 t n ks := by
  intro herr f bd nb out M hb hf hM ho
  have herr' := herr
  obtain ⟨h1, h2⟩ := errT_ok.1 herr
  obtain ⟨k1, k2, k3, k4, k5⟩ := kids_of (nodeE_zero.1 h1).2.2.1
  obtain ⟨g1, g2, g3, g4⟩ := hs.node
  have a1 : addI .i64 (k : Int) 1 = ((k + 1 : Nat) : Int) := add1 (by omega)
  obtain ⟨bd1, nb1, r1, hb1⟩ := find_row f M hf ks (k + 1) 0 false false bd nb out hE rfl h2 hb (by omega) (by omega) (by have := ks.cnt_le; omega)
  refine ⟨bd1, nb1, fun N hN => ?_, hb1⟩
  obtain ⟨N, rfl⟩ : ∃ m, N = m + 1 := ⟨N - 1, by omega⟩
  show g_syn_finder_find (recN g_syn_finder_find N) _ = _
  rw [u_syn_finder_find, at?_nat g1]
  have r1 := r1 N (by omega)
  have h0 : ((0 : Nat) : Int) = 0 := rfl
  rw [Nat.zero_add, h0] at r1
  simp only [bnd_some_eq, q9_3, q9_5, q9_7, q9_12, q9_8, q9_10, q9_6, q9_9, q9_11, cnd_true, cnd_false, sumE_inl, a1, r1]
  rfl

theorem find_10 (b : Bool) (l : List ND) (hl : l.length ≤ 10000) (k : Nat) (t : Tx) (n : Int) (ks : F) (hs : Sits l k (tr 10 t n ks)) (hE : ks.Each (PD b l) (k + 1)) : PD b l k 10 t n ks := by
  intro herr f bd nb out M hb hf hM ho
  have herr' := herr
  obtain ⟨h1, h2⟩ := errT_ok.1 herr
  obtain ⟨k1, k2, k3, k4, k5⟩ := kids_of (nodeE_zero.1 h1).2.2.1
  obtain ⟨g1, g2, g3, g4⟩ := hs.node
  have a1 : addI .i64 (k : Int) 1 = ((k + 1 : Nat) : Int) := add1 (by omega)
  cases ks with
  | nil => have := (k4 rfl).1; exact absurd this (by decide)
  | cons xa ta na ka r =>
    obtain ⟨i1, i2⟩ := errF_ok.1 h2
    have i1 : errT xa ta na ka false = 0 := i1
    have i2 : errF true false true r = 0 := i2
    have hsz : (F.cons xa ta na ka r).size = ka.size + r.size + 1 := rfl
    have hct : (F.cons xa ta na ka r).cnt = r.cnt + 1 := rfl
    have hcl := r.cnt_le
    have k4 := k4 rfl
    rw [hct] at k4
    have hfa := freeT_len xa ta ka
    obtain ⟨bd1, nb1, r1, hb1⟩ := hE.1 i1 f bd nb out M hb hf (by omega) (by omega)
    have hl1 := addU_len (sel_ f (freeT xa ta ka)) out
    have hl2 := sel_len f (freeT xa ta ka)
    obtain ⟨bd2, nb2, r2, hb2⟩ := find_pairs hl f M hf r (k + 1 + 1 + ka.size) 0 bd1 nb1 (addU out (sel_ f (freeT xa ta ka))) g2.node.2.2.1 hE.2 i2 (by omega) hb1 (by omega) (by omega) (by omega)
    refine ⟨bd2, nb2, fun N hN => ?_, hb2⟩
    rw [hsz] at hN
    obtain ⟨N, rfl⟩ : ∃ m, N = m + 1 := ⟨N - 1, by omega⟩
    show g_syn_finder_find (recN g_syn_finder_find N) _ = _
    rw [u_syn_finder_find, at?_nat g1]
    have r2 := r2 N (by omega)
    have h0 : ((0 : Nat) : Int) = 0 := rfl
    rw [Nat.zero_add, h0] at r2
    have hqu : quoI .i64 ((r.cnt + 1 : Nat) : Int) 2 = some ((r.cnt / 2 : Nat) : Int) := by
      rw [quoI_pos (by omega) (by decide) (inK_i64.2 (by omega)) (by decide)]
      congr 2
      omega
    simp only [bnd_some_eq, q10_3, q10_5, q10_7, q10_12, q10_8, q10_10, cnd_true, cnd_false, sumE_inr, a1, r1 N (by omega), hct, hqu, r2]
    have hfr : freeT 10 t (F.cons xa ta na ka r) = freeT xa ta ka ++ pairsL (freesF r) (varssF r) := id (Eq.refl _)
    rw [hfr, addU_sel, hsz, show k + 1 + (ka.size + r.size + 1) = k + 1 + 1 + ka.size + r.size by omega]

theorem find_11 (b : Bool) (l : List ND) (hl : l.length ≤ 10000) (k : Nat) (t : Tx) (n : Int) (ks : F) (hs : Sits l k (tr 11 t n ks)) (hE : ks.Each (PD b l) (k + 1)) : PD b l k 11 t n ks := by
  intro herr f bd nb out M hb hf hM ho
  have herr' := herr
  obtain ⟨h1, h2⟩ := errT_ok.1 herr
  obtain ⟨k1, k2, k3, k4, k5⟩ := kids_of (nodeE_zero.1 h1).2.2.1
  obtain ⟨g1, g2, g3, g4⟩ := hs.node
  have a1 : addI .i64 (k : Int) 1 = ((k + 1 : Nat) : Int) := add1 (by omega)
  obtain ⟨bd1, nb1, r1, hb1⟩ := find_row f M hf ks (k + 1) 0 false false bd nb out hE rfl h2 hb (by omega) (by omega) (by have := ks.cnt_le; omega)
  refine ⟨bd1, nb1, fun N hN => ?_, hb1⟩
  obtain ⟨N, rfl⟩ : ∃ m, N = m + 1 := ⟨N - 1, by omega⟩
  show g_syn_finder_find (recN g_syn_finder_find N) _ = _
  rw [u_syn_finder_find, at?_nat g1]
  have r1 := r1 N (by omega)
  have h0 : ((0 : Nat) : Int) = 0 := rfl
  rw [Nat.zero_add, h0] at r1
  simp only [bnd_some_eq, q11_3, q11_5, q11_7, q11_12, q11_8, q11_10, q11_6, q11_9, q11_11, cnd_true, cnd_false, sumE_inl, a1, r1]
  rfl

theorem find_12 (b : Bool) (l : List ND) (hl : l.length ≤ 10000) (k : Nat) (t : Tx) (n : Int) (ks : F) (hs : Sits l k (tr 12 t n ks)) (hE : ks.Each (PD b l) (k + 1)) : PD b l k 12 t n ks := by
  intro herr f bd nb out M hb hf hM ho
  have herr' := herr
  obtain ⟨h1, h2⟩ := errT_ok.1 herr
  obtain ⟨k1, k2, k3, k4, k5⟩ := kids_of (nodeE_zero.1 h1).2.2.1
  obtain ⟨g1, g2, g3, g4⟩ := hs.node
  have a1 : addI .i64 (k : Int) 1 = ((k + 1 : Nat) : Int) := add1 (by omega)
  obtain ⟨xa, ta, na, ka, xb, tb, nb_, kb, rfl⟩ := cnt_two (k2 (by omega))
  obtain ⟨i1, i2⟩ := errF_ok.1 h2
  obtain ⟨i3, _⟩ := errF_ok.1 i2
  have i1 : errT xa ta na ka false = 0 := i1
  have i3 : errT xb tb nb_ kb false = 0 := i3
  have hsz : (F.cons xa ta na ka (tr xb tb nb_ kb)).size = ka.size + (kb.size + 1) + 1 := rfl
  have hfa := freeT_len xa ta ka
  have hfb := freeT_len xb tb kb
  obtain ⟨bd1, nb1, r1, hb1⟩ := hE.1 i1 f bd nb out M hb hf (by omega) (by omega)
  have hl1 := addU_len (sel_ f (freeT xa ta ka)) out
  have hl2 := sel_len f (freeT xa ta ka)
  obtain ⟨bd2, nb2, r2, hb2⟩ := with_at hE.2.1 i3 f bd1 nb1 false [t] (addU out (sel_ f (freeT xa ta ka))) M hb1 hf (by rw [List.length_singleton]; omega) (by omega)
  refine ⟨bd2, nb2, fun N hN => ?_, hb2⟩
  rw [hsz] at hN
  obtain ⟨N, rfl⟩ : ∃ m, N = m + 1 := ⟨N - 1, by omega⟩
  show g_syn_finder_find (recN g_syn_finder_find N) _ = _
  rw [u_syn_finder_find, at?_nat g1]
  simp only [bnd_some_eq, q12_3, q12_5, q12_7, q12_12, q12_8, q12_10, cnd_true, cnd_false, sumE_inr, a1, r1 N (by omega), r2 N (by omega)]
  have hfr : freeT 12 t (F.cons xa ta na ka (tr xb tb nb_ kb)) = freeT xa ta ka ++ lessL (freeT xb tb kb) [t] := id (Eq.refl _)
  rw [hfr, addU_sel, hsz, show k + 1 + (ka.size + (kb.size + 1) + 1) = k + 1 + 1 + ka.size + 1 + kb.size by omega]


theorem find_all (b : Bool) (l : List ND) (hl : l.length ≤ 10000) {k : Nat} {kd : Int} {t : List Int} {n : Int} {ks : F} (h : Sits l k (tr kd t n ks)) : PD b l k kd t n ks := by
  refine F.each_one (l := l) (P := PD b l) ?_ h
  clear h k kd t n ks
  intro k kd t n ks hs hE herr
  rcases kind_in (errT_ok.1 herr).1 with rfl | rfl | rfl | rfl | rfl | rfl | rfl | rfl | rfl | rfl | rfl | rfl
  · exact find_1 b l hl k t n ks hs hE herr
  · exact find_2 b l hl k t n ks hs hE herr
  · exact find_3 b l hl k t n ks hs hE herr
  · exact find_4 b l hl k t n ks hs hE herr
  · exact find_5 b l hl k t n ks hs hE herr
  · exact find_6 b l hl k t n ks hs hE herr
  · exact find_7 b l hl k t n ks hs hE herr
  · exact find_8 b l hl k t n ks hs hE herr
  · exact find_9 b l hl k t n ks hs hE herr
  · exact find_10 b l hl k t n ks hs hE herr
  · exact find_11 b l hl k t n ks hs hE herr
  · exact find_12 b l hl k t n ks hs hE herr

theorem Free_spec (b : Bool) {kd : Int} {t : List Int} {n : Int} {ks : F} (hl : ks.size + 1 ≤ 4000) (hg : GL (tr kd t n ks).flat) (he : chkT kd t n ks false = 0) :
    ∃ nb, f_syn_Free (⟨b, (tr kd t n ks).flat⟩, ()) = some (⟨nb, addU [] (freeT kd t ks)⟩, ()) := by
  have hlen : (tr kd t n ks).flat.length = ks.size + 1 := (tr kd t n ks).len
  have hb0 : Bd [] (fun _ => 0) := ⟨trivial, fun _ => rfl⟩
  obtain ⟨bd1, nb1, r1, _⟩ := find_all b _ (by omega) (sits_tree kd t n ks) (chkT_ok.1 he).2.1 (fun _ => 0) [] true [] 0 hb0 (fun _ => ⟨Int.le_refl _, Int.le_refl _⟩) (by omega) (by show 0 + _ ≤ _; omega)
  refine ⟨nb1, ?_⟩
  have hf : f_syn_finder_find (0, ⟨b, (tr kd t n ks).flat⟩, [], ⟨true, []⟩, ()) = _ := recR_eq (ks.size + 1) fun N hN => r1 N hN
  have hsel : sel_ (fun _ => 0) (freeT kd t ks) = freeT kd t ks := List.filter_eq_self.2 fun _ _ => rfl
  rw [hsel] at hf
  rw [u_syn_Free, Check_tree b kd t n ks hl hg, he]
  simp only [bnd_some_eq, e00, nT, cnd_false, hf]
theorem Free_none (b : Bool) (l : List ND) {e : Int} (h : f_syn_Check (⟨b, l⟩, ()) = some (e, ())) (he : e ≠ 0) : f_syn_Free (⟨b, l⟩, ()) = some (⟨true, []⟩, ()) := by
  rw [u_syn_Free, h]
  simp only [bnd_some_eq, eqI_ne he, nF, cnd_true]
end Fn
end Ev
namespace Ev
open Go
namespace Fn

/-! What the laws ask; the chapter's example. -/
def gND (x : ND) : Prop := (∀ b, b ∈ x.2.1 → 0 ≤ b ∧ b ≤ 255) ∧ rng x.2.2.1
def gL (l : List ND) : Prop := ∀ x, x ∈ l → gND x
def fewB (l : List ND) : Bool := decide (l.length ≤ 120) && l.all fun x => decide (x.2.1.length ≤ 300)
theorem fewB_ok {l : List ND} (h : fewB l = true) : l.length ≤ 120 ∧ ∀ x, x ∈ l → x.2.1.length ≤ 300 := by
  unfold fewB at h
  rw [Bool.and_eq_true, decide_eq_true_eq, List.all_eq_true] at h
  exact ⟨h.1, fun x hx => of_decide_eq_true (h.2 x hx)⟩
theorem GL_few {l : List ND} (hg : gL l) (h : fewB l = true) : GL l := fun x hx =>
  ⟨(hg x hx).1, by have := (fewB_ok h).2 x hx; omega, (hg x hx).2⟩

theorem few_loop (n : Bool) (l : List ND) : ∀ (m k : Nat), m + k = 130 → loopR l1_ref06_Few (⟨n, l⟩, (k : Int), ()) = some (decide (l.length ≤ 120) && (l.drop k).all (fun x => decide (x.2.1.length ≤ 300)), ()) := by
  intro m
  induction m with
  | zero =>
    intro k hk
    refine loopR_inr ?_
    unfold l1_ref06_Few
    simp only
    have c1 : ltI (k : Int) 130 = false := decide_eq_false (by omega)
    have c2 : cnd (ltI (k : Int) (lenI l)) (some (ltI (k : Int) 130)) (some false) = some false := by rw [c1]; cases ltI (k : Int) (lenI l) <;> rfl
    rw [c2, bnd_some_eq, cnd_false]
    have c3 : leI (lenI l) 120 = decide (l.length ≤ 120) := decide_eq_decide.2 (by unfold lenI; omega)
    rw [c3]
    by_cases h : l.length ≤ 120
    · rw [List.drop_eq_nil_of_le (by omega)]; show _ = some (Sum.inr (_ && true, ())); rw [Bool.and_true]
    · rw [decide_eq_false h]; rfl
  | succ m ih =>
    intro k hk
    have c1 : ltI (k : Int) 130 = true := decide_eq_true (by omega)
    by_cases hlt : k < l.length
    · have c0 : ltI (k : Int) (lenI l) = true := decide_eq_true (by unfold lenI; omega)
      rw [drop_cons hlt, List.all_cons]
      have hat := at?_nat (List.getElem?_eq_getElem hlt)
      cases h3 : decide (l[k].2.1.length ≤ 300) with
      | true =>
        have c3 : ltI 300 (lenI l[k].2.1) = false := decide_eq_false (by have := of_decide_eq_true h3; unfold lenI; omega)
        have step : l1_ref06_Few (⟨n, l⟩, (k : Int), ()) = some (.inl (⟨n, l⟩, ((k + 1 : Nat) : Int), ())) := by
          unfold l1_ref06_Few
          simp only [c0, c1, cnd_true, bnd_some_eq, hat, c3, cnd_false, add1 (show k ≤ 1000000000 by omega)]
        rw [loopR_inl step, ih (k + 1) (by omega), Bool.true_and]
      | false =>
        have c3 : ltI 300 (lenI l[k].2.1) = true := decide_eq_true (by have := of_decide_eq_false h3; unfold lenI; omega)
        have step : l1_ref06_Few (⟨n, l⟩, (k : Int), ()) = some (.inr (false, ())) := by
          unfold l1_ref06_Few
          simp only [c0, c1, cnd_true, bnd_some_eq, hat, c3]
        rw [loopR_inr step, Bool.false_and, Bool.and_false]
    · have c0 : ltI (k : Int) (lenI l) = false := decide_eq_false (by unfold lenI; omega)
      have c3 : leI (lenI l) 120 = decide (l.length ≤ 120) := decide_eq_decide.2 (by unfold lenI; omega)
      refine loopR_inr ?_
      unfold l1_ref06_Few
      simp only [c0, cnd_false, bnd_some_eq, c3]
      rw [List.drop_eq_nil_of_le (by omega)]
      show _ = some (Sum.inr (_ && true, ()))
      rw [Bool.and_true]
theorem few_spec (n : Bool) (l : List ND) : f_ref06_Few (⟨n, l⟩, ()) = some (fewB l, ()) := by
  rw [u_ref06_Few]
  exact few_loop n l 130 0 rfl

theorem own_spec (n : Bool) (l : List ND) (hl : l.length ≤ 1000000) : f_law06_Own (⟨n, l⟩, ()) = some (⟨false, l⟩, ()) := by
  have hf : fit (sumI (lenI ([] : List ND)) (lenI l)) = some () := fit_small (by show 0 + l.length ≤ _; omega)
  rw [u_law06_Own, hf, bnd_some_eq, andB_false]
  rfl

theorem same_loop (n m : Bool) (a c : List Tx) (he : a.length = c.length) (ha : a.length ≤ 1000000) : ∀ (d k : Nat), d + k = a.length →
    loopR l1_ref06_Same (⟨n, a⟩, ⟨m, c⟩, (k : Int), ()) = some (decide (a.drop k = c.drop k), ()) := by
  intro d
  induction d with
  | zero =>
    intro k hk
    refine loopR_inr ?_
    unfold l1_ref06_Same
    simp only
    rw [cnd_lt, if_neg (by unfold lenI; omega), List.drop_eq_nil_of_le (by omega), List.drop_eq_nil_of_le (by omega)]
    rfl
  | succ d ih =>
    intro k hk
    have hlt : k < a.length := by omega
    have hlc : k < c.length := by omega
    rw [drop_cons hlt, drop_cons hlc]
    have h1 := at?_nat (List.getElem?_eq_getElem hlt)
    have h2 := at?_nat (List.getElem?_eq_getElem hlc)
    have c0 : ltI (k : Int) (lenI a) = true := decide_eq_true (by unfold lenI; omega)
    by_cases h : a[k] = c[k]
    · have step : l1_ref06_Same (⟨n, a⟩, ⟨m, c⟩, (k : Int), ()) = some (.inl (⟨n, a⟩, ⟨m, c⟩, ((k + 1 : Nat) : Int), ())) := by
        unfold l1_ref06_Same
        simp only [c0, cnd_true, h1, h2, bnd_some_eq, eqS_eq.2 h, nT, cnd_false, add1 (show k ≤ 1000000000 by omega)]
      rw [loopR_inl step, ih (k + 1) (by omega)]
      congr 2
      exact decide_eq_decide.2 (by rw [List.cons.injEq]; exact ⟨fun e => ⟨h, e⟩, fun e => e.2⟩)
    · have hn : eqS a[k] c[k] = false := by
        cases e : eqS a[k] c[k] with
        | false => rfl
        | true => exact absurd (eqS_eq.1 e) h
      have step : l1_ref06_Same (⟨n, a⟩, ⟨m, c⟩, (k : Int), ()) = some (.inr (false, ())) := by
        unfold l1_ref06_Same
        simp only [c0, cnd_true, h1, h2, bnd_some_eq, hn, nF]
      rw [loopR_inr step]
      congr 2
      exact (decide_eq_false (by rw [List.cons.injEq]; exact fun e => h e.1)).symm
theorem same_spec (n m : Bool) (a c : List Tx) (ha : a.length ≤ 1000000) : f_ref06_Same (⟨n, a⟩, ⟨m, c⟩, ()) = some (decide (a = c), ()) := by
  rw [u_ref06_Same]
  by_cases he : a.length = c.length
  · have c1 : eqI (lenI a) (lenI c) = true := eqI_eq.2 (by unfold lenI; omega)
    rw [c1, nT, cnd_false]
    exact same_loop n m a c he ha a.length 0 rfl
  · have c1 : eqI (lenI a) (lenI c) = false := by
      cases e : eqI (lenI a) (lenI c) with
      | false => rfl
      | true => have := eqI_eq.1 e; unfold lenI at this; omega
    rw [c1, nF, cnd_true, decide_eq_false fun e => he (congrArg _ e)]

theorem Names_spec (b : Bool) {kd : Int} {t : List Int} {n : Int} {ks : F} (hl : ks.size + 1 ≤ 4000) (hg : GL (tr kd t n ks).flat) (he : chkT kd t n ks true = 0) :
    ∃ nb, f_syn_Names (⟨b, (tr kd t n ks).flat⟩, ()) = some (⟨nb, varsT kd t ks⟩, ()) := by
  have hlen : (tr kd t n ks).flat.length = ks.size + 1 := (tr kd t n ks).len
  obtain ⟨nb, h⟩ := names_spec b (tr kd t n ks).flat (by omega)
  rw [valid_namesT (chkT_ok.1 he).2.1] at h
  refine ⟨nb, ?_⟩
  rw [u_syn_Names, Pat_tree b kd t n ks hl hg, he]
  simp only [bnd_some_eq, e00, nT, cnd_false, h]
theorem Names_none (b : Bool) (l : List ND) {e : Int} (h : f_syn_Pat (⟨b, l⟩, ()) = some (e, ())) (he : e ≠ 0) : f_syn_Names (⟨b, l⟩, ()) = some (⟨true, []⟩, ()) := by
  rw [u_syn_Names, h]
  simp only [bnd_some_eq, eqI_ne he, nF, cnd_true]

/-- The example. -/
def exL : F := tr 5 [120] 0 (tr 6 [] 0 (.cons 6 [] 0 (.cons 3 [43] 0 .nil (tr 3 [120] 0 .nil)) (tr 3 [121] 0 .nil)))
def exP : F := tr 24 [65] 0 (.cons 22 [98] 0 .nil (tr 21 [] 0 .nil))
theorem gb_of {l : List ND} (h : (l.all fun x => (x.2.1.all fun b => decide (0 ≤ b ∧ b ≤ 255)) && decide (x.2.1.length ≤ 300) && decide (-9223372036854775808 ≤ x.2.2.1 ∧ x.2.2.1 ≤ 9223372036854775807)) = true) : GL l := by
  intro x hx
  have := List.all_eq_true.1 h x hx
  rw [Bool.and_eq_true, Bool.and_eq_true, List.all_eq_true, decide_eq_true_eq, decide_eq_true_eq] at this
  exact ⟨fun b hb => of_decide_eq_true (this.1.1 b hb), by omega, this.2⟩
theorem gExL : GL exL.flat := gb_of (by kernel_rfl)
theorem gExP : GL exP.flat := gb_of (by kernel_rfl)
theorem awake_ok : f_law06_awake () = some (true, ()) := by
  have a1 := Check_tree false 5 [120] 0 (tr 6 [] 0 (.cons 6 [] 0 (.cons 3 [43] 0 .nil (tr 3 [120] 0 .nil)) (tr 3 [121] 0 .nil))) (by decide) gExL
  have k1 : chkT 5 [120] 0 (tr 6 [] 0 (.cons 6 [] 0 (.cons 3 [43] 0 .nil (tr 3 [120] 0 .nil)) (tr 3 [121] 0 .nil))) false = 0 := by kernel_rfl
  obtain ⟨n1, a2⟩ := Free_spec false (by decide) gExL k1
  have k2 : addU [] (freeT 5 [120] (tr 6 [] 0 (.cons 6 [] 0 (.cons 3 [43] 0 .nil (tr 3 [120] 0 .nil)) (tr 3 [121] 0 .nil)))) = [[43], [121]] := by kernel_rfl
  have a3 := Pat_tree false 24 [65] 0 (.cons 22 [98] 0 .nil (tr 21 [] 0 .nil)) (by decide) gExP
  have k3 : chkT 24 [65] 0 (.cons 22 [98] 0 .nil (tr 21 [] 0 .nil)) true = 0 := by kernel_rfl
  obtain ⟨n2, a4⟩ := Names_spec false (by decide) gExP k3
  have k4 : varsT 24 [65] (.cons 22 [98] 0 .nil (tr 21 [] 0 .nil)) = [[98]] := by kernel_rfl
  have a5 := Check_tree false 24 [65] 0 (.cons 22 [98] 0 .nil (tr 21 [] 0 .nil)) (by decide) gExP
  have k5 : chkT 24 [65] 0 (.cons 22 [98] 0 .nil (tr 21 [] 0 .nil)) false = 61 := by kernel_rfl
  have a6 := name_spec (s := [120]) (by decide)
  have k6 : nameOk [120] = true := by kernel_rfl
  have a7 := con_spec (s := [65]) (by decide)
  have k7 : conOk [65] = true := by kernel_rfl
  have a8 := con_spec (s := [120]) (by decide)
  have k8 : conOk [120] = false := by kernel_rfl
  rw [k1] at a1
  rw [k2] at a2
  rw [k3] at a3
  rw [k4] at a4
  rw [k5] at a5
  rw [k6] at a6
  rw [k7] at a7
  rw [k8] at a8
  have f1 : (tr 5 [120] 0 (tr 6 [] 0 (.cons 6 [] 0 (.cons 3 [43] 0 .nil (tr 3 [120] 0 .nil)) (tr 3 [121] 0 .nil)))).flat = [(5, [120], 0, 1), (6, [], 0, 2), (6, [], 0, 2), (3, [43], 0, 0), (3, [120], 0, 0), (3, [121], 0, 0)] := id (Eq.refl _)
  have f2 : (tr 24 [65] 0 (.cons 22 [98] 0 .nil (tr 21 [] 0 .nil))).flat = [(24, [65], 0, 2), (22, [98], 0, 0), (21, [], 0, 0)] := id (Eq.refl _)
  rw [f1] at a1 a2
  rw [f2] at a3 a4 a5
  have s1 := same_spec n1 false [[43], [121]] [[43], [121]] (by decide)
  have s2 := same_spec n2 false [[98]] [[98]] (by decide)
  rw [decide_eq_true rfl] at s1 s2
  have e61 : eqI 61 61 = true := id (Eq.refl _)
  rw [u_law06_awake, a1]
  simp only [bnd_some_eq, e00, cnd_true, a2, s1, a3, a4, s2, a6, a7, a8, a5, nF, e61]
end Fn
end Ev
namespace Ev
open Go
namespace Fn

/-! SynChecks, SynFrees. -/
theorem eqIs (a : Int) : eqI a a = true := eqI_eq.2 rfl
theorem eqBs (a : Bool) : eqB a a = true := by cases a <;> rfl

theorem law_Checks (n : Bool) (l : List ND) (s : Tx) (hg : gL l) (hs : ∀ b, b ∈ s → 0 ≤ b ∧ b ≤ 255) : f_law06_SynChecks (⟨n, l⟩, s, ()) = some (true, ()) := by
  rw [u_law06_SynChecks, awake_ok, few_spec]
  cases hf : fewB l with
  | false => simp only [bnd_some_eq, nT, nF, cnd_false, cnd_true]
  | true =>
    obtain ⟨hl, _⟩ := fewB_ok hf
    have hG := GL_few hg hf
    cases h3 : ltI 300 (lenI s) with
    | true => simp only [bnd_some_eq, nT, cnd_false, cnd_true]
    | false =>
      have h3 := of_decide_eq_false h3
      unfold lenI at h3
      have b1 := name_spec hs
      have b2 := rname_spec (s := s) (by omega)
      have b3 := con_spec hs
      have b4 := rcon_spec (s := s) (by omega)
      have b5 := own_spec n l (by omega)
      rcases tree_or l with h | ⟨kd, t, nn, ks, rfl⟩
      · have c1 := Check_none false l (by omega) h
        have c2 := rcheck_none n l (by omega) false h
        have c3 := Pat_none false l (by omega) h
        have c4 := rcheck_none n l (by omega) true h
        simp only [bnd_some_eq, nT, cnd_false, cnd_true, b1, b2, b3, b4, b5, c1, c2, c3, c4, eqIs, eqBs]
      · have hlen : (tr kd t nn ks).flat.length = ks.size + 1 := (tr kd t nn ks).len
        have c1 := Check_tree false kd t nn ks (by omega) hG
        have c2 := rcheck_tree n kd t nn ks false (by omega) hG
        have c3 := Pat_tree false kd t nn ks (by omega) hG
        have c4 := rcheck_tree n kd t nn ks true (by omega) hG
        simp only [bnd_some_eq, nT, cnd_false, cnd_true, b1, b2, b3, b4, b5, c1, c2, c3, c4, eqIs, eqBs]

theorem nil_len {α : Type} : ([] : List α).length ≤ 1000000 := Nat.zero_le _
theorem law_Frees (n : Bool) (l : List ND) (hg : gL l) : f_law06_SynFrees (⟨n, l⟩, ()) = some (true, ()) := by
  rw [u_law06_SynFrees, awake_ok, few_spec]
  cases hf : fewB l with
  | false => simp only [bnd_some_eq, nT, nF, cnd_false, cnd_true]
  | true =>
    obtain ⟨hl, _⟩ := fewB_ok hf
    have hG := GL_few hg hf
    have b5 := own_spec n l (by omega)
    have e60 : eqI 60 0 = false := id (Eq.refl _)
    have s0 : ∀ a c, f_ref06_Same (⟨a, []⟩, ⟨c, []⟩, ()) = some (true, ()) := fun a c => same_spec a c [] [] nil_len
    rcases tree_or l with h | ⟨kd, t, nn, ks, rfl⟩
    · have c1 := Check_none false l (by omega) h
      have c2 := rcheck_none n l (by omega) false h
      have c3 := Pat_none false l (by omega) h
      have c4 := rcheck_none n l (by omega) true h
      simp only [bnd_some_eq, nT, cnd_false, cnd_true, b5, Free_none false l c1 (by decide), Names_none false l c3 (by decide), c2, c4, e60, s0]
    · have hlen : (tr kd t nn ks).flat.length = ks.size + 1 := (tr kd t nn ks).len
      have c1 := Check_tree false kd t nn ks (by omega) hG
      have c2 := rcheck_tree n kd t nn ks false (by omega) hG
      have c3 := Pat_tree false kd t nn ks (by omega) hG
      have c4 := rcheck_tree n kd t nn ks true (by omega) hG
      have A : ∃ na, f_syn_Free (⟨false, (tr kd t nn ks).flat⟩, ()) = some (⟨na, if chkT kd t nn ks false = 0 then addU [] (freeT kd t ks) else []⟩, ()) := by
        by_cases h : chkT kd t nn ks false = 0
        · obtain ⟨na, h2⟩ := Free_spec false (by omega) hG h
          exact ⟨na, by rw [h2, if_pos h]⟩
        · exact ⟨true, by rw [Free_none false _ c1 h, if_neg h]⟩
      have B : ∃ nb, f_syn_Names (⟨false, (tr kd t nn ks).flat⟩, ()) = some (⟨nb, if chkT kd t nn ks true = 0 then varsT kd t ks else []⟩, ()) := by
        by_cases h : chkT kd t nn ks true = 0
        · obtain ⟨na, h2⟩ := Names_spec false (by omega) hG h
          exact ⟨na, by rw [h2, if_pos h]⟩
        · exact ⟨true, by rw [Names_none false _ c3 h, if_neg h]⟩
      obtain ⟨na, hA⟩ := A
      obtain ⟨nb, hB⟩ := B
      have hv : f_ref06_Vars (⟨n, (tr kd t nn ks).flat⟩, 0, ()) = some (⟨false, varsT kd t ks⟩, ()) := vars_spec n (tr kd t nn ks).flat (by omega) (sits_tree kd t nn ks)
      have X : cnd (eqI (chkT kd t nn ks false) 0) (bnd (f_ref06_Free (⟨n, (tr kd t nn ks).flat⟩, ())) (fun x9 => some ((⟨n, (tr kd t nn ks).flat⟩ : Sl ND), (⟨na, if chkT kd t nn ks false = 0 then addU [] (freeT kd t ks) else []⟩ : Sl Tx), (⟨nb, if chkT kd t nn ks true = 0 then varsT kd t ks else []⟩ : Sl Tx), x9.1, (⟨false, []⟩ : Sl Tx), ()))) (some (⟨n, (tr kd t nn ks).flat⟩, ⟨na, if chkT kd t nn ks false = 0 then addU [] (freeT kd t ks) else []⟩, ⟨nb, if chkT kd t nn ks true = 0 then varsT kd t ks else []⟩, ⟨false, []⟩, ⟨false, []⟩, ()))
          = some (⟨n, (tr kd t nn ks).flat⟩, ⟨na, if chkT kd t nn ks false = 0 then addU [] (freeT kd t ks) else []⟩, ⟨nb, if chkT kd t nn ks true = 0 then varsT kd t ks else []⟩, ⟨false, if chkT kd t nn ks false = 0 then addU [] (freeT kd t ks) else []⟩, ⟨false, []⟩, ()) := by
        by_cases h : chkT kd t nn ks false = 0
        · rw [h, e00, cnd_true, rFree_spec n (by omega) (chkT_ok.1 h).2.1, bnd_some_eq, if_pos rfl]
        · rw [eqI_ne h, cnd_false, if_neg h]
      have Y : ∀ (u v w : Sl Tx), cnd (eqI (chkT kd t nn ks true) 0) (bnd (f_ref06_Vars (⟨n, (tr kd t nn ks).flat⟩, 0, ())) (fun x12 => some (u, v, w, x12.1, ()))) (some (u, v, w, ⟨false, []⟩, ()))
          = some (u, v, w, ⟨false, if chkT kd t nn ks true = 0 then varsT kd t ks else []⟩, ()) := by
        intro u v w
        by_cases h : chkT kd t nn ks true = 0
        · rw [h, e00, cnd_true, hv, bnd_some_eq, if_pos rfl]
        · rw [eqI_ne h, cnd_false, if_neg h]
      have l1 : (if chkT kd t nn ks false = 0 then addU [] (freeT kd t ks) else []).length ≤ 1000000 := by
        by_cases h : chkT kd t nn ks false = 0
        · rw [if_pos h]
          have := addU_len (freeT kd t ks) []
          have := freeT_len kd t ks
          have : ([] : List Tx).length = 0 := rfl
          omega
        · rw [if_neg h]; exact nil_len
      have l2 : (if chkT kd t nn ks true = 0 then varsT kd t ks else []).length ≤ 1000000 := by
        by_cases h : chkT kd t nn ks true = 0
        · rw [if_pos h]
          have := varsT_len kd t ks
          omega
        · rw [if_neg h]; exact nil_len
      simp only [bnd_some_eq, nT, cnd_false, cnd_true, b5, hA, hB, c2, X, c4, Y, same_spec _ _ _ _ l1, same_spec _ _ _ _ l2, decide_true]
end Fn
end Ev
