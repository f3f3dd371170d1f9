/- Layer 16 in plain words: where each begins, what has to be long, bytes. No statement of its own about the program. -/
import Derived.Test.YtdekfefcpdejkaaGreatDoorPlainC
namespace Ev
open Go
namespace Fn
abbrev Ins := Int × Int × Int
def okI (i : Ins) : Bool := checkB i.1 i.2.1 i.2.2
def farI (n : Nat) (i : Ins) : Bool := goesB i.1 && decide ((n : Int) ≤ i.2.1)

theorem ck1_spec (i : Ins) : f_asm_Check_1 (i, ()) = some (!okI i, ()) := by
  obtain ⟨o, a, b⟩ := i
  rw [u_asm_Check_1, check_spec]
  simp only [bnd_some_eq]
  unfold okI
  cases checkB o a b <;> rfl

theorem ck2_spec (i : Ins) (L : Sl Ins) : f_asm_Check_2 (i, L, ()) = some (farI L.l.length i, ()) := by
  obtain ⟨o, a, b⟩ := i
  rw [u_asm_Check_2, goes_spec]
  simp only [bnd_some_eq]
  unfold farI
  cases goesB o <;> rfl

theorem index_loop (L : Sl Ins) (hL : L.l.length ≤ 1000000) : ∀ (k i : Nat), i + k = L.l.length → ∃ r, loopR l1_slices_IndexFunc (L, (L.l.length : Int), (i : Int), ()) = some (r, ()) ∧ leI 0 r = (L.l.drop i).any fun x => !okI x := by
  intro k
  induction k with
  | zero =>
    intro i hi
    refine ⟨-1, loopR_inr ?_, ?_⟩
    · unfold l1_slices_IndexFunc
      simp only
      rw [cnd_lt, if_neg (by omega)]
    · rw [List.drop_eq_nil_of_le (by omega)]; rfl
  | succ k ih =>
    intro i hi
    have hlt : i < L.l.length := by omega
    rw [List.drop_eq_getElem_cons hlt, List.any_cons]
    cases hb : okI L.l[i] with
    | false =>
      refine ⟨i, loopR_inr ?_, ?_⟩
      · unfold l1_slices_IndexFunc
        simp only
        rw [cnd_lt, if_pos (by omega), at?_nat (List.getElem?_eq_getElem hlt), bnd_some_eq, ck1_spec, bnd_some_eq, hb]
        rfl
      · simp [leI]
    | true =>
      obtain ⟨r, h1, h2⟩ := ih (i + 1) (by omega)
      refine ⟨r, ?_, by simpa using h2⟩
      have : l1_slices_IndexFunc (L, (L.l.length : Int), (i : Int), ()) = some (.inl (L, (L.l.length : Int), ((i + 1 : Nat) : Int), ())) := by
        unfold l1_slices_IndexFunc
        simp only
        rw [cnd_lt, if_pos (by omega), at?_nat (List.getElem?_eq_getElem hlt), bnd_some_eq, ck1_spec, bnd_some_eq, hb, addI_i64 (by omega) (by omega)]
        rfl
      rw [loopR_inl this, h1]

theorem index2_loop (L M : Sl Ins) (hL : L.l.length ≤ 1000000) : ∀ (k i : Nat), i + k = L.l.length → ∃ r, loopR l1_slices_IndexFunc_v2 (L, M, (L.l.length : Int), (i : Int), ()) = some (r, ()) ∧ leI 0 r = (L.l.drop i).any fun x => farI M.l.length x := by
  intro k
  induction k with
  | zero =>
    intro i hi
    refine ⟨-1, loopR_inr ?_, ?_⟩
    · unfold l1_slices_IndexFunc_v2
      simp only
      rw [cnd_lt, if_neg (by omega)]
    · rw [List.drop_eq_nil_of_le (by omega)]; rfl
  | succ k ih =>
    intro i hi
    have hlt : i < L.l.length := by omega
    rw [List.drop_eq_getElem_cons hlt, List.any_cons]
    cases hb : farI M.l.length L.l[i] with
    | true =>
      refine ⟨i, loopR_inr ?_, ?_⟩
      · unfold l1_slices_IndexFunc_v2
        simp only
        rw [cnd_lt, if_pos (by omega), at?_nat (List.getElem?_eq_getElem hlt), bnd_some_eq, ck2_spec, bnd_some_eq, hb]
        rfl
      · simp [leI]
    | false =>
      obtain ⟨r, h1, h2⟩ := ih (i + 1) (by omega)
      refine ⟨r, ?_, by simpa using h2⟩
      have : l1_slices_IndexFunc_v2 (L, M, (L.l.length : Int), (i : Int), ()) = some (.inl (L, M, (L.l.length : Int), ((i + 1 : Nat) : Int), ())) := by
        unfold l1_slices_IndexFunc_v2
        simp only
        rw [cnd_lt, if_pos (by omega), at?_nat (List.getElem?_eq_getElem hlt), bnd_some_eq, ck2_spec, bnd_some_eq, hb, addI_i64 (by omega) (by omega)]
        rfl
      rw [loopR_inl this, h1]

/-- What is wrong with a row of instructions. -/
def chkL (l : List Ins) : Int := if 20000 < l.length ∨ (l.any fun x => !okI x) = true then 150 else if (l.any fun x => farI l.length x) = true then 160 else 0

theorem acheck_spec (L : Sl Ins) (hL : L.l.length ≤ 1000000) : f_asm_Check (L, ()) = some (chkL L.l, ()) := by
  obtain ⟨r, h1, h2⟩ := index_loop L hL L.l.length 0 (by omega)
  obtain ⟨r', h3, h4⟩ := index2_loop L L hL L.l.length 0 (by omega)
  have c1 : f_slices_ContainsFunc (L, ()) = some ((L.l.any fun x => !okI x), ()) := by
    rw [u_slices_ContainsFunc, u_slices_IndexFunc]
    show bnd (loopR l1_slices_IndexFunc (L, (L.l.length : Int), ((0 : Nat) : Int), ())) _ = _
    rw [h1, bnd_some_eq]
    simp only [h2, List.drop_zero]
  have c2 : f_slices_ContainsFunc_v2 (L, L, ()) = some ((L.l.any fun x => farI L.l.length x), ()) := by
    rw [u_slices_ContainsFunc_v2, u_slices_IndexFunc_v2]
    show bnd (loopR l1_slices_IndexFunc_v2 (L, L, (L.l.length : Int), ((0 : Nat) : Int), ())) _ = _
    rw [h3, bnd_some_eq]
    simp only [h4, List.drop_zero]
  rw [u_asm_Check, c1, c2]
  simp only [bnd_some_eq]
  unfold chkL
  by_cases hl : 20000 < L.l.length
  · have : ltI 20000 (lenI L.l) = true := by show decide ((20000 : Int) < (L.l.length : Int)) = true; exact decide_eq_true (by omega)
    simp [this, hl, cnd_true, bnd_some_eq]
  · have : ltI 20000 (lenI L.l) = false := by show decide ((20000 : Int) < (L.l.length : Int)) = false; exact decide_eq_false (by omega)
    simp only [this, hl, false_or, cnd_false, bnd_some_eq]
    cases (L.l.any fun x => !okI x) <;> cases (L.l.any fun x => farI L.l.length x) <;> rfl
end Fn
end Ev
namespace Ev
open Go
namespace Fn

/-! Where instructions begin, which of them have to be long: plain. -/
def szN (i : Ins) (b : Bool) : Nat := (headB i.1 i.2.1 i.2.2 b).length + (if goesB i.1 = true then (if b = true then 4 else 1) else 0)

theorem headB_len2 (o a b : Int) (x y : Bool) : (headB o a b x).length = (headB o a b y).length := by
  unfold headB
  simp only [List.length_cons]

theorem szN_pos (i : Ins) (b : Bool) : 1 ≤ szN i b ∧ szN i b ≤ 11 := by
  have := head_len i.1 i.2.1 i.2.2 b
  unfold szN
  split
  · split <;> omega
  · omega

theorem szN_mono (i : Ins) {b c : Bool} (h : b = true → c = true) : szN i b ≤ szN i c := by
  unfold szN
  rw [headB_len2 i.1 i.2.1 i.2.2 b c]
  cases b
  · cases c
    · exact Nat.le_refl _
    · simp only [Bool.false_eq_true, if_false, if_true]; split <;> omega
  · rw [h rfl]; exact Nat.le_refl _

def szs (l : List Ins) (lg : List Bool) : List Nat := List.zipWith szN l lg
def pos (l : List Ins) (lg : List Bool) (k : Nat) : Nat := ((szs l lg).take k).sum

theorem pos_zero (l : List Ins) (lg : List Bool) : pos l lg 0 = 0 := rfl

theorem sum_snoc (l : List Nat) (x : Nat) : (l ++ [x]).sum = l.sum + x := by
  induction l with
  | nil => simp
  | cons a l ih => simp only [List.cons_append, List.sum_cons, ih]; omega

theorem pos_succ {l : List Ins} {lg : List Bool} {k : Nat} {i : Ins} {b : Bool} (hi : l[k]? = some i) (hb : lg[k]? = some b) : pos l lg (k + 1) = pos l lg k + szN i b := by
  unfold pos szs
  rw [List.take_add_one, List.getElem?_zipWith, hi, hb]
  exact sum_snoc _ _

theorem get_lt {α : Type} {l : List α} {k : Nat} {x : α} (h : l[k]? = some x) : k < l.length := by
  rcases Nat.lt_or_ge k l.length with h1 | h1
  · exact h1
  · rw [List.getElem?_eq_none h1] at h; cases h

/-- Later ones begin later, and less so with fewer long ones. -/
theorem pos_step {l : List Ins} {lg : List Bool} (hn : lg.length = l.length) {k : Nat} (hk : k < l.length) : pos l lg k + 1 ≤ pos l lg (k + 1) ∧ pos l lg (k + 1) ≤ pos l lg k + 11 := by
  rw [pos_succ (List.getElem?_eq_getElem hk) (List.getElem?_eq_getElem (by omega : k < lg.length))]
  have := szN_pos l[k] (lg[k]'(by omega))
  omega

theorem pos_le {l : List Ins} {lg : List Bool} (hn : lg.length = l.length) : ∀ (d j : Nat), j + d ≤ l.length → pos l lg j + d ≤ pos l lg (j + d) ∧ pos l lg (j + d) ≤ pos l lg j + 11 * d
  | 0, j, _ => by simp
  | d + 1, j, h => by
    have h1 := pos_le hn d j (by omega)
    have h2 := pos_step hn (k := j + d) (by omega)
    have e : j + (d + 1) = j + d + 1 := by omega
    rw [e]
    omega

theorem pos_bound {l : List Ins} {lg : List Bool} (hn : lg.length = l.length) {k : Nat} (h : k ≤ l.length) : k ≤ pos l lg k ∧ pos l lg k ≤ 11 * k := by
  have := pos_le hn k 0 (by omega)
  rw [pos_zero, Nat.zero_add] at this
  omega

theorem pos_inj {l : List Ins} {lg : List Bool} (hn : lg.length = l.length) {j k : Nat} (hj : j ≤ l.length) (hk : k ≤ l.length) (h : pos l lg j = pos l lg k) : j = k := by
  rcases Nat.lt_trichotomy j k with h1 | h1 | h1
  · have := pos_le hn (k - j) j (by omega)
    rw [Nat.add_sub_cancel' (by omega)] at this
    omega
  · exact h1
  · have := pos_le hn (j - k) k (by omega)
    rw [Nat.add_sub_cancel' (by omega)] at this
    omega

def sub (S T : List Bool) : Prop := ∀ k : Nat, S[k]? = some true → T[k]? = some true

theorem pos_sub {l : List Ins} {S T : List Bool} (hS : S.length = l.length) (hT : T.length = l.length) (h : sub S T) : ∀ (d j : Nat), j + d ≤ l.length → pos l S (j + d) + pos l T j ≤ pos l T (j + d) + pos l S j
  | 0, j, _ => by simp; omega
  | d + 1, j, hj => by
    have ih := pos_sub hS hT h d j (by omega)
    have hk : j + d < l.length := by omega
    have e1 := pos_succ (List.getElem?_eq_getElem hk) (List.getElem?_eq_getElem (by omega : j + d < S.length))
    have e2 := pos_succ (List.getElem?_eq_getElem hk) (List.getElem?_eq_getElem (by omega : j + d < T.length))
    have hm : szN l[j + d] (S[j + d]'(by omega)) ≤ szN l[j + d] (T[j + d]'(by omega)) := by
      refine szN_mono _ fun hs => ?_
      have h1 := h (j + d) (by rw [List.getElem?_eq_getElem (by omega), hs])
      rw [List.getElem?_eq_getElem (by omega)] at h1
      exact Option.some.inj h1
    rw [← Nat.add_assoc, e1, e2]
    omega

/-- How far one goes. -/
def farP (l : List Ins) (lg : List Bool) (k : Nat) (i : Ins) : Int := (pos l lg i.2.1.toNat : Int) - (pos l lg (k + 1) : Int)

/-- One that isn't long, and doesn't fit. -/
def badI (l : List Ins) (lg : List Bool) (k : Nat) (i : Ins) (b : Bool) : Bool := goesB i.1 && !b && !fitsB (farP l lg k i) false
def badB (l : List Ins) (lg : List Bool) (k : Nat) : Bool := match l[k]?, lg[k]? with
  | some i, some b => badI l lg k i b
  | _, _ => false

def inT (l : List Ins) : Prop := ∀ (k : Nat) (i : Ins), l[k]? = some i → goesB i.1 = true → 0 ≤ i.2.1 ∧ i.2.1 < l.length
def fitL (l : List Ins) (lg : List Bool) : Prop := ∀ k, badB l lg k = false

theorem fitsB_short (far : Int) : fitsB far false = decide (-128 ≤ far ∧ far ≤ 127) := rfl

theorem far_mono {l : List Ins} {S T : List Bool} (hS : S.length = l.length) (hT : T.length = l.length) (h : sub S T) {k : Nat} {i : Ins} (hk : k < l.length) (hi : 0 ≤ i.2.1 ∧ i.2.1 < l.length) :
    (0 ≤ farP l S k i ∧ farP l S k i ≤ farP l T k i) ∨ (farP l S k i ≤ 0 ∧ farP l T k i ≤ farP l S k i) := by
  unfold farP
  rcases Nat.le_total (k + 1) i.2.1.toNat with h1 | h1
  · have a1 := pos_sub hS hT h (i.2.1.toNat - (k + 1)) (k + 1) (by omega)
    have a2 := pos_le hS (i.2.1.toNat - (k + 1)) (k + 1) (by omega)
    rw [Nat.add_sub_cancel' h1] at a1 a2
    exact .inl (by omega)
  · have a1 := pos_sub hS hT h (k + 1 - i.2.1.toNat) i.2.1.toNat (by omega)
    have a2 := pos_le hS (k + 1 - i.2.1.toNat) i.2.1.toNat (by omega)
    rw [Nat.add_sub_cancel' h1] at a1 a2
    exact .inr (by omega)

theorem bad_mono {l : List Ins} {S T : List Bool} (ht : inT l) (hS : S.length = l.length) (hT : T.length = l.length) (h : sub S T) (hf : fitL l T) {k : Nat} (hb : badB l S k = true) : T[k]? = some true := by
  unfold badB at hb
  split at hb
  · rename_i i b hi hsb
    have hk := get_lt hi
    unfold badI at hb
    rw [Bool.and_eq_true, Bool.and_eq_true] at hb
    obtain ⟨⟨hg, hb1⟩, hb2⟩ := hb
    have hTk : T[k]? = some (T[k]'(by omega)) := List.getElem?_eq_getElem (by omega)
    have hfk := hf k
    unfold badB at hfk
    rw [hi, hTk] at hfk
    simp only at hfk
    unfold badI at hfk
    rw [hg, Bool.true_and] at hfk
    rw [hTk]
    cases hx : T[k]'(by omega) with
    | true => rfl
    | false =>
      rw [hx, Bool.not_false, Bool.true_and, Bool.not_eq_false'] at hfk
      rw [Bool.not_eq_true'] at hb2
      have m := far_mono hS hT h (i := i) hk (ht k i hi hg)
      rw [fitsB_short] at hfk hb2
      have f1 := of_decide_eq_true hfk
      have f2 := of_decide_eq_false hb2
      omega
  · cases hb

/-- As little as can be, and enough. -/
def leastL (l : List Ins) (R : List Bool) : Prop := R.length = l.length ∧ fitL l R ∧ ∀ T, T.length = l.length → fitL l T → sub R T

theorem sub_antisymm {S T : List Bool} (hl : S.length = T.length) (h1 : sub S T) (h2 : sub T S) : S = T := by
  apply List.ext_getElem? 
  intro k
  rcases Nat.lt_or_ge k S.length with hk | hk
  · have e1 : S[k]? = some S[k] := List.getElem?_eq_getElem hk
    have e2 : T[k]? = some (T[k]'(by omega)) := List.getElem?_eq_getElem (by omega)
    cases hs : S[k] with
    | true => rw [hs] at e1; rw [e1, h1 k e1]
    | false =>
      cases ht : T[k]'(by omega) with
      | true => rw [ht] at e2; rw [e2, h2 k e2]
      | false => rw [e1, e2, hs, ht]
  · rw [List.getElem?_eq_none hk, List.getElem?_eq_none (by omega)]

theorem least_eq {l : List Ins} {R T : List Bool} (h1 : leastL l R) (h2 : leastL l T) : R = T :=
  sub_antisymm (by rw [h1.1, h2.1]) (h1.2.2 T h2.1 h2.2.1) (h2.2.2 R h1.1 h1.2.1)

theorem count_lt : ∀ (S T : List Bool), S.length = T.length → sub S T → T.count false ≤ S.count false ∧ ((∃ k : Nat, S[k]? = some false ∧ T[k]? = some true) → T.count false < S.count false)
  | [], [], _, _ => ⟨Nat.le_refl _, fun ⟨k, h, _⟩ => by simp at h⟩
  | [], _ :: _, h, _ => by simp at h
  | _ :: _, [], h, _ => by simp at h
  | a :: S, b :: T, hl, hs => by
    have ih := count_lt S T (by simpa using hl) fun k hk => by
      have := hs (k + 1) (by simpa using hk)
      simpa using this
    have h0 : a = true → b = true := fun h => by
      have := hs 0 (by simp [h])
      simpa using this
    refine ⟨?_, fun ⟨k, h1, h2⟩ => ?_⟩
    · cases a <;> cases b <;> simp at h0 ⊢ <;> omega
    · cases k with
      | zero =>
        simp at h1 h2
        subst h1 h2
        simp; omega
      | succ k =>
        have := ih.2 ⟨k, by simpa using h1, by simpa using h2⟩
        cases a <;> cases b <;> simp at h0 ⊢ <;> omega

/-- All that don't fit, at once. -/
def stepL (l : List Ins) (S : List Bool) : List Bool := (List.range l.length).map fun k => S.getD k false || badB l S k
def rlxN : Nat → List Ins → List Bool → List Bool
  | 0, _, S => S
  | n + 1, l, S => if (List.range l.length).any (badB l S) = true then rlxN n l (stepL l S) else S
def rlx (l : List Ins) : List Bool := rlxN l.length l (List.replicate l.length false)

theorem stepL_len (l : List Ins) (S : List Bool) : (stepL l S).length = l.length := by simp [stepL]
theorem stepL_get {l : List Ins} {S : List Bool} {k : Nat} (hk : k < l.length) : (stepL l S)[k]? = some (S.getD k false || badB l S k) := by
  unfold stepL
  rw [List.getElem?_map, List.getElem?_range hk]; rfl

theorem stepL_sub {l : List Ins} {S : List Bool} (hS : S.length = l.length) : sub S (stepL l S) := by
  intro k hk
  have h1 := get_lt hk
  rw [stepL_get (by omega), List.getD_eq_getElem?_getD, hk]
  rfl

theorem stepL_below {l : List Ins} {S T : List Bool} (ht : inT l) (hS : S.length = l.length) (hT : T.length = l.length) (h : sub S T) (hf : fitL l T) : sub (stepL l S) T := by
  intro k hk
  have hl := get_lt hk
  rw [stepL_len] at hl
  rw [stepL_get hl] at hk
  cases hb : badB l S k with
  | true => exact bad_mono ht hS hT h hf hb
  | false =>
    rw [hb, Bool.or_false, List.getD_eq_getElem?_getD] at hk
    refine h k ?_
    rw [List.getElem?_eq_getElem (by omega)] at hk ⊢
    exact hk

theorem badB_lt {l : List Ins} {S : List Bool} {k : Nat} (h : badB l S k = true) : k < l.length ∧ S[k]? = some false := by
  unfold badB at h
  split at h
  · rename_i i b hi hb
    refine ⟨get_lt hi, ?_⟩
    rw [hb]
    unfold badI at h
    cases b
    · rfl
    · simp at h
  · cases h

theorem fit_of_any {l : List Ins} {S : List Bool} (h : ¬ (List.range l.length).any (badB l S) = true) : fitL l S := by
  intro k
  cases hb : badB l S k with
  | false => rfl
  | true => exact absurd (List.any_eq_true.2 ⟨k, List.mem_range.2 (badB_lt hb).1, hb⟩) h

theorem rlxN_spec {l : List Ins} (ht : inT l) : ∀ (n : Nat) (S : List Bool), S.length = l.length → S.count false ≤ n → (rlxN n l S).length = l.length ∧ fitL l (rlxN n l S) ∧ ∀ T, T.length = l.length → fitL l T → sub S T → sub (rlxN n l S) T
  | 0, S, hS, hc => by
    refine ⟨hS, fun k => ?_, fun T _ _ h => h⟩
    cases hb : badB l S k with
    | false => exact hb
    | true =>
      have := (badB_lt hb).2
      have h2 : false ∈ S := List.mem_of_getElem? this
      have := List.count_pos_iff.2 h2
      omega
  | n + 1, S, hS, hc => by
    unfold rlxN
    split
    · rename_i h
      obtain ⟨k, hk, hb⟩ := List.any_eq_true.1 h
      obtain ⟨hk1, hk2⟩ := badB_lt hb
      have hlt := (count_lt S (stepL l S) (by rw [hS, stepL_len]) (stepL_sub hS)).2 ⟨k, hk2, by rw [stepL_get hk1, hb, Bool.or_true]⟩
      obtain ⟨r1, r2, r3⟩ := rlxN_spec ht n (stepL l S) (stepL_len l S) (by omega)
      exact ⟨r1, r2, fun T hT hf hs => r3 T hT hf (stepL_below ht hS hT hs hf)⟩
    · rename_i h
      exact ⟨hS, fit_of_any h, fun T _ _ hs => hs⟩

theorem rlx_least {l : List Ins} (ht : inT l) : leastL l (rlx l) := by
  have hl : (List.replicate l.length false).length = l.length := List.length_replicate
  obtain ⟨r1, r2, r3⟩ := rlxN_spec ht l.length (List.replicate l.length false) hl (by simp)
  refine ⟨r1, r2, fun T hT hf => r3 T hT hf fun k hk => ?_⟩
  rw [List.getElem?_replicate] at hk
  split at hk <;> simp at hk

/-- Only what goes is long. -/
def onlyG (l : List Ins) (lg : List Bool) : Prop := ∀ (k : Nat) (i : Ins), l[k]? = some i → lg[k]? = some true → goesB i.1 = true

theorem least_only {l : List Ins} (ht : inT l) : onlyG l (rlx l) := by
  have hall : (fun i : Ins => goesB i.1) = fun i => goesB i.1 := rfl
  intro k i hi hk
  obtain ⟨h1, h2, h3⟩ := rlx_least ht
  have hT : (l.map fun i => goesB i.1).length = l.length := by simp
  have hf : fitL l (l.map fun i => goesB i.1) := by
    intro j
    cases hb : badB l (l.map fun i => goesB i.1) j with
    | false => rfl
    | true =>
      unfold badB at hb
      split at hb
      · rename_i i b hi hb2
        rw [List.getElem?_map, hi] at hb2
        have : goesB i.1 = b := Option.some.inj hb2
        unfold badI at hb
        rw [this] at hb
        cases b <;> simp at hb
      · cases hb
  have := h3 _ hT hf k hk
  rw [List.getElem?_map, hi] at this
  exact Option.some.inj this
end Fn
end Ev
namespace Ev
open Go
namespace Fn

/-! Bytes of instructions, and what bytes are: plain. -/
theorem chkL_ok {l : List Ins} (h : chkL l = 0) : l.length ≤ 20000 ∧ (∀ (k : Nat) (i : Ins), l[k]? = some i → okI i = true) ∧ inT l := by
  unfold chkL at h
  split at h
  · exact absurd h (by decide)
  · rename_i h1
    split at h
    · exact absurd h (by decide)
    · rename_i h2
      have hok : ∀ k i, l[k]? = some i → okI i = true := fun k i hi => by
        cases hx : okI i with
        | true => rfl
        | false => exact absurd (Or.inr (List.any_eq_true.2 ⟨i, List.mem_of_getElem? hi, by simp [hx]⟩)) h1
      refine ⟨by omega, hok, fun k i hi hg => ?_⟩
      have hc := hok k i hi
      unfold okI at hc
      obtain ⟨_, h3, _⟩ := check_in hc
      refine ⟨h3.1, ?_⟩
      rcases Int.lt_or_le i.2.1 (l.length : Int) with h4 | h4
      · exact h4
      · exact absurd (List.any_eq_true.2 ⟨i, List.mem_of_getElem? hi, by unfold farI; rw [hg, decide_eq_true h4]; rfl⟩) h2

theorem chkL_of {l : List Ins} (h0 : l.length ≤ 20000) (h1 : ∀ (k : Nat) (i : Ins), l[k]? = some i → okI i = true) (h2 : inT l) : chkL l = 0 := by
  unfold chkL
  rw [if_neg, if_neg]
  · intro h
    obtain ⟨i, hi, hf⟩ := List.any_eq_true.1 h
    obtain ⟨k, hk⟩ := List.mem_iff_getElem?.1 hi
    unfold farI at hf
    rw [Bool.and_eq_true] at hf
    have := h2 k i hk hf.1
    have := of_decide_eq_true hf.2
    omega
  · rintro (h | h)
    · omega
    · obtain ⟨i, hi, hf⟩ := List.any_eq_true.1 h
      obtain ⟨k, hk⟩ := List.mem_iff_getElem?.1 hi
      rw [h1 k i hk] at hf
      simp at hf

def outI (l : List Ins) (lg : List Bool) (k : Nat) (i : Ins) : Int := if goesB i.1 = true then farP l lg k i else 0
def putK (l : List Ins) (lg : List Bool) (k : Nat) : List Int := match l[k]?, lg[k]? with
  | some i, some b => (putB i.1 i.2.1 i.2.2 (outI l lg k i) b).1
  | _, _ => []
def asmF (l : List Ins) (lg : List Bool) : Nat → Nat → List Int
  | 0, _ => []
  | m + 1, k => putK l lg k ++ asmF l lg m (k + 1)
def asmB (l : List Ins) (lg : List Bool) : List Int := asmF l lg l.length 0

/-- The bytes of one. -/
def oneB (i : Ins) (far : Int) (b : Bool) : List Int := headB i.1 i.2.1 i.2.2 b ++ (if goesB i.1 = true then lowB (if b = true then 4 else 1) far else [])

theorem oneB_len (i : Ins) (far : Int) (b : Bool) : (oneB i far b).length = szN i b := by
  unfold oneB szN
  rw [List.length_append]
  congr 1
  split
  · rw [low_len]
  · rfl

structure Good (l : List Ins) (lg : List Bool) : Prop where
  chk : chkL l = 0
  len : lg.length = l.length
  fit : fitL l lg
  only : onlyG l lg

theorem good_rlx {l : List Ins} (h : chkL l = 0) : Good l (rlx l) :=
  ⟨h, (rlx_least (chkL_ok h).2.2).1, (rlx_least (chkL_ok h).2.2).2.1, least_only (chkL_ok h).2.2⟩

theorem far_bound {l : List Ins} {lg : List Bool} (hn : lg.length = l.length) (h2 : l.length ≤ 20000) {k : Nat} (hk : k < l.length) {i : Ins} (hi : 0 ≤ i.2.1 ∧ i.2.1 < l.length) : -220000 ≤ farP l lg k i ∧ farP l lg k i ≤ 220000 := by
  have h3 := pos_bound hn (k := k + 1) (by omega)
  have h4 := pos_bound hn (k := i.2.1.toNat) (by omega)
  unfold farP
  omega

theorem put_good {l : List Ins} {lg : List Bool} (h : Good l lg) {k : Nat} {i : Ins} {b : Bool} (hi : l[k]? = some i) (hb : lg[k]? = some b) :
    rightB i.1 i.2.1 i.2.2 b = true ∧ (goesB i.1 = true ∨ outI l lg k i = 0) ∧ (goesB i.1 = true → fitsB (outI l lg k i) b = true) := by
  obtain ⟨h1, h2, h3⟩ := chkL_ok h.chk
  have hk := get_lt hi
  refine ⟨?_, ?_, ?_⟩
  · unfold rightB
    have := h2 k i hi
    unfold okI at this
    rw [this, Bool.true_and]
    cases b with
    | false => rfl
    | true => rw [h.only k i hi hb]; rfl
  · unfold outI
    cases goesB i.1 <;> simp
  · intro hg
    unfold outI
    rw [if_pos hg]
    cases b with
    | true =>
      have := far_bound h.len h1 hk (h3 k i hi hg)
      exact decide_eq_true (by omega)
    | false =>
      have := h.fit k
      unfold badB at this
      rw [hi, hb] at this
      simp only at this
      unfold badI at this
      rw [hg, Bool.not_false, Bool.true_and, Bool.true_and, Bool.not_eq_false'] at this
      exact this

theorem put_one {l : List Ins} {lg : List Bool} (h : Good l lg) {k : Nat} {i : Ins} {b : Bool} (hi : l[k]? = some i) (hb : lg[k]? = some b) : putB i.1 i.2.1 i.2.2 (outI l lg k i) b = (oneB i (outI l lg k i) b, 0) := by
  obtain ⟨h1, h2, h3⟩ := put_good h hi hb
  unfold putB oneB
  rw [if_pos ⟨h1, h2⟩]
  cases hg : goesB i.1 with
  | false => simp
  | true => rw [h3 hg]; simp

theorem putK_one {l : List Ins} {lg : List Bool} (h : Good l lg) {k : Nat} {i : Ins} {b : Bool} (hi : l[k]? = some i) (hb : lg[k]? = some b) : putK l lg k = oneB i (outI l lg k i) b := by
  unfold putK
  rw [hi, hb]
  simp only
  rw [put_one h hi hb]

theorem asmF_len {l : List Ins} {lg : List Bool} (h : Good l lg) : ∀ (m k : Nat), k + m = l.length → pos l lg k + (asmF l lg m k).length = pos l lg l.length
  | 0, k, hk => by simp [asmF, ← hk]
  | m + 1, k, hk => by
    have h1 := List.getElem?_eq_getElem (by omega : k < l.length)
    have h2 := List.getElem?_eq_getElem (by have := h.len; omega : k < lg.length)
    have ih := asmF_len h m (k + 1) (by omega)
    rw [pos_succ h1 h2] at ih
    simp only [asmF, List.length_append]
    rw [putK_one h h1 h2, oneB_len]
    omega

theorem asmB_len {l : List Ins} {lg : List Bool} (h : Good l lg) : (asmB l lg).length = pos l lg l.length := by
  have := asmF_len h l.length 0 (by omega)
  rw [pos_zero] at this
  unfold asmB
  omega

theorem asmF_drop {l : List Ins} {lg : List Bool} (h : Good l lg) : ∀ (k m : Nat), k + m = l.length → (asmB l lg).drop (pos l lg k) = asmF l lg m k
  | 0, m, hk => by
    have : m = l.length := by omega
    subst this; rfl
  | k + 1, m, hk => by
    have h1 := List.getElem?_eq_getElem (by omega : k < l.length)
    have h2 := List.getElem?_eq_getElem (by have := h.len; omega : k < lg.length)
    rw [pos_succ h1 h2, ← List.drop_drop, asmF_drop h k (m + 1) (by omega)]
    simp only [asmF]
    rw [putK_one h h1 h2, ← oneB_len l[k] (outI l lg k l[k]) (lg[k]'(by have := h.len; omega)), List.drop_left]

theorem oneB_bytes {l : List Ins} {lg : List Bool} (h : Good l lg) {k : Nat} {i : Ins} {b : Bool} (hi : l[k]? = some i) (hb : lg[k]? = some b) : ∀ x, x ∈ oneB i (outI l lg k i) b → 0 ≤ x ∧ x < 256 :=
  put_bytes (put_good h hi hb).1

theorem asmF_bytes {l : List Ins} {lg : List Bool} (h : Good l lg) : ∀ (m k : Nat), k + m = l.length → ∀ x, x ∈ asmF l lg m k → 0 ≤ x ∧ x < 256
  | 0, k, _ => fun x hx => by cases hx
  | m + 1, k, hk => fun x hx => by
    have h1 := List.getElem?_eq_getElem (by omega : k < l.length)
    have h2 := List.getElem?_eq_getElem (by have := h.len; omega : k < lg.length)
    simp only [asmF] at hx
    rcases List.mem_append.1 hx with hx | hx
    · rw [putK_one h h1 h2] at hx
      exact oneB_bytes h h1 h2 x hx
    · exact asmF_bytes h m (k + 1) (by omega) x hx

theorem asmB_ok {l : List Ins} {lg : List Bool} (h : Good l lg) : bytesOk (asmB l lg) := by
  refine ⟨?_, asmF_bytes h l.length 0 (by omega)⟩
  rw [asmB_len h]
  have := (chkL_ok h.chk).1
  have := pos_bound h.len (Nat.le_refl l.length)
  omega

/-! What is got out of them. -/
/-- What one is got as: how far stands beside. -/
def zeroA (i : Ins) : Ins := (i.1, (if goesB i.1 = true then 0 else i.2.1), i.2.2)

theorem get_one {l : List Ins} {lg : List Bool} (h : Good l lg) {k m : Nat} {i : Ins} {b : Bool} (hi : l[k]? = some i) (hb : lg[k]? = some b) :
    getB (asmF l lg (m + 1) k) = (zeroA i, outI l lg k i, b, (szN i b : Int), 0) := by
  obtain ⟨h1, h2, h3⟩ := put_good h hi hb
  simp only [asmF]
  rw [putK_one h hi hb]
  have := get_put h1 h2 h3 (asmF l lg m (k + 1))
  unfold oneB
  rw [this]
  have e := oneB_len i (outI l lg k i) b
  unfold oneB at e
  rw [e]
  rfl

/-- What is got of bytes: an instruction, how far, how many bytes. -/
abbrev It := Ins × Int × Nat
def parse : Nat → List Int → Int ⊕ List It
  | 0, _ => .inr []
  | f + 1, s => match s with
    | [] => .inr []
    | c :: r =>
      if (getB (c :: r)).2.2.2.2 ≠ 0 then .inl (getB (c :: r)).2.2.2.2 else
      match parse f ((c :: r).drop (getB (c :: r)).2.2.2.1.toNat) with
      | .inl e => .inl e
      | .inr t => .inr (((getB (c :: r)).1, (getB (c :: r)).2.1, (getB (c :: r)).2.2.2.1.toNat) :: t)

/-- Where each of these begins. -/
def posI (its : List It) (k : Nat) : Nat := ((its.map fun x => x.2.2).take k).sum
/-- Which one begins there; -1. -/
def placeF (its : List It) (t : Int) : Nat → Nat → Int
  | 0, _ => -1
  | m + 1, k => if (posI its k : Int) = t then (k : Int) else placeF its t m (k + 1)
def placeI (its : List It) (t : Int) : Int := placeF its t its.length 0
def goI (its : List It) (k : Nat) (x : It) : Int := placeI its ((posI its (k + 1) : Int) + x.2.1)
def fixI (its : List It) (k : Nat) (x : It) : Ins := if goesB x.1.1 = true then (x.1.1, goI its k x, x.1.2.2) else x.1
def offI (its : List It) (k : Nat) : Bool := match its[k]? with
  | some x => goesB x.1.1 && decide (goI its k x < 0)
  | none => false
def fixL (its : List It) : List Ins := its.mapIdx (fixI its)
def endB (s : List Int) (its : List It) : List Ins × Int :=
  if 20000 < its.length then ([], 150) else
  if (List.range its.length).any (offI its) = true then ([], 160) else
  if chkL (fixL its) = 0 ∧ asmB (fixL its) (rlx (fixL its)) = s then (fixL its, 0) else ([], 161)
def disB (s : List Int) : List Ins × Int := match parse s.length s with
  | .inl e => ([], e)
  | .inr its => endB s its

/-- What instructions are got as. -/
def itK (l : List Ins) (lg : List Bool) (k : Nat) : It := match l[k]?, lg[k]? with
  | some i, some b => (zeroA i, outI l lg k i, szN i b)
  | _, _ => ((0, 0, 0), 0, 0)
def itsF (l : List Ins) (lg : List Bool) : Nat → Nat → List It
  | 0, _ => []
  | m + 1, k => itK l lg k :: itsF l lg m (k + 1)

theorem asmF_cons {l : List Ins} {lg : List Bool} (h : Good l lg) {m k : Nat} (hk : k < l.length) : ∃ c r, asmF l lg (m + 1) k = c :: r := by
  have h1 := List.getElem?_eq_getElem hk
  have h2 := List.getElem?_eq_getElem (by have := h.len; omega : k < lg.length)
  cases hx : asmF l lg (m + 1) k with
  | cons c r => exact ⟨c, r, rfl⟩
  | nil =>
    have : (asmF l lg (m + 1) k).length = 0 := by rw [hx]; rfl
    simp only [asmF, List.length_append] at this
    rw [putK_one h h1 h2, oneB_len] at this
    have := szN_pos l[k] (lg[k]'(by have := h.len; omega))
    omega

theorem parse_back {l : List Ins} {lg : List Bool} (h : Good l lg) : ∀ (m k f : Nat), k + m = l.length → m ≤ f → parse f (asmF l lg m k) = .inr (itsF l lg m k)
  | 0, k, f, _, _ => by cases f <;> rfl
  | m + 1, k, 0, _, hf => by omega
  | m + 1, k, f + 1, hk, hf => by
    have h1 := List.getElem?_eq_getElem (by omega : k < l.length)
    have h2 := List.getElem?_eq_getElem (by have := h.len; omega : k < lg.length)
    have hg := get_one h (m := m) h1 h2
    obtain ⟨c, r, hc⟩ := asmF_cons h (m := m) (k := k) (by omega)
    have ih := parse_back h m (k + 1) f (by omega) (by omega)
    have hd : (asmF l lg (m + 1) k).drop (szN l[k] (lg[k]'(by have := h.len; omega))) = asmF l lg m (k + 1) := by
      simp only [asmF]
      rw [putK_one h h1 h2, ← oneB_len l[k] (outI l lg k l[k]) (lg[k]'(by have := h.len; omega)), List.drop_left]
    rw [hc] at hg hd ⊢
    simp only [parse]
    rw [hg]
    simp only [ne_eq, not_true_eq_false, if_false, Int.toNat_natCast]
    rw [hd, ih]
    simp only [itsF]
    congr 2
    unfold itK
    rw [h1, h2]

theorem itsF_get (l : List Ins) (lg : List Bool) : ∀ (m k j : Nat), j < m → (itsF l lg m k)[j]? = some (itK l lg (k + j))
  | m + 1, k, 0, _ => rfl
  | m + 1, k, j + 1, hj => by
    simp only [itsF, List.getElem?_cons_succ]
    rw [itsF_get l lg m (k + 1) j (by omega), Nat.add_right_comm, Nat.add_assoc]

theorem itsF_len (l : List Ins) (lg : List Bool) : ∀ (m k : Nat), (itsF l lg m k).length = m
  | 0, _ => rfl
  | m + 1, k => by simp only [itsF, List.length_cons, itsF_len l lg m (k + 1)]

theorem posI_succ {its : List It} {k : Nat} {x : It} (h : its[k]? = some x) : posI its (k + 1) = posI its k + x.2.2 := by
  unfold posI
  rw [List.take_add_one, List.getElem?_map, h]
  exact sum_snoc _ _

theorem posI_its {l : List Ins} {lg : List Bool} (h : lg.length = l.length) : ∀ k, k ≤ l.length → posI (itsF l lg l.length 0) k = pos l lg k
  | 0, _ => rfl
  | k + 1, hk => by
    have h1 := List.getElem?_eq_getElem (by omega : k < l.length)
    have h2 := List.getElem?_eq_getElem (by omega : k < lg.length)
    rw [posI_succ (itsF_get l lg l.length 0 k (by omega)), posI_its h k (by omega), pos_succ h1 h2]
    congr 1
    unfold itK
    rw [Nat.zero_add, h1, h2]

theorem placeF_at {its : List It} {t : Int} {j : Nat} (ht : (posI its j : Int) = t) : ∀ (m k : Nat), k ≤ j → j < k + m → (∀ q, q < j → (posI its q : Int) ≠ t) → placeF its t m k = j
  | 0, k, h1, h2, _ => by omega
  | m + 1, k, h1, h2, h3 => by
    unfold placeF
    by_cases hk : k = j
    · subst hk; rw [if_pos ht]
    · rw [if_neg (h3 k (by omega)), placeF_at ht m (k + 1) (by omega) (by omega) h3]

theorem dis_back {l : List Ins} (h : chkL l = 0) : disB (asmB l (rlx l)) = (l, 0) := by
  have hG := good_rlx h
  have hb := (chkL_ok h)
  have hp := parse_back hG l.length 0 (asmB l (rlx l)).length (by omega) (by
    rw [asmB_len hG]; exact (pos_bound hG.len (Nat.le_refl _)).1)
  unfold disB
  rw [show parse (asmB l (rlx l)).length (asmB l (rlx l)) = .inr (itsF l (rlx l) l.length 0) from hp]
  simp only
  have hlen := itsF_len l (rlx l) l.length 0
  have hgo : ∀ k i, l[k]? = some i → goesB i.1 = true → goI (itsF l (rlx l) l.length 0) k (itK l (rlx l) k) = i.2.1 := by
    intro k i hi hg
    have hk := get_lt hi
    obtain ⟨t1, t2⟩ := hb.2.2 k i hi hg
    unfold goI placeI
    rw [posI_its hG.len (k + 1) (by omega), hlen]
    have e : ((pos l (rlx l) (k + 1) : Nat) : Int) + (itK l (rlx l) k).2.1 = (pos l (rlx l) i.2.1.toNat : Int) := by
      unfold itK
      rw [hi, List.getElem?_eq_getElem (by have := hG.len; omega : k < (rlx l).length)]
      simp only
      unfold outI farP
      rw [if_pos hg]
      omega
    rw [e, placeF_at (j := i.2.1.toNat) (by rw [posI_its hG.len _ (by omega)]) l.length 0 (by omega) (by omega)]
    · omega
    · intro q hq hx
      rw [posI_its hG.len q (by omega)] at hx
      have := pos_inj hG.len (by omega) (by omega) (Int.ofNat_inj.1 hx)
      omega
  have hfix : fixL (itsF l (rlx l) l.length 0) = l := by
    apply List.ext_getElem?
    intro k
    unfold fixL
    rw [List.getElem?_mapIdx]
    rcases Nat.lt_or_ge k l.length with hk | hk
    · rw [itsF_get l (rlx l) l.length 0 k hk, Nat.zero_add]
      have h1 := List.getElem?_eq_getElem hk
      have h2 := List.getElem?_eq_getElem (by have := hG.len; omega : k < (rlx l).length)
      have hz : (itK l (rlx l) k).1 = zeroA l[k] := by
        unfold itK
        rw [h1, h2]
      simp only [Option.map_some]
      rw [h1]
      congr 1
      unfold fixI
      rw [hz]
      show (if goesB l[k].1 = true then (l[k].1, goI (itsF l (rlx l) l.length 0) k (itK l (rlx l) k), l[k].2.2) else zeroA l[k]) = l[k]
      cases hg : goesB l[k].1 with
      | true =>
        rw [hgo k l[k] h1 hg]
        rfl
      | false =>
        unfold zeroA
        rw [hg]
        rfl
    · rw [List.getElem?_eq_none (by omega : (itsF l (rlx l) l.length 0).length ≤ k), List.getElem?_eq_none hk]; rfl
  unfold endB
  rw [if_neg (by omega), if_neg, hfix, if_pos ⟨h, rfl⟩]
  intro hx
  obtain ⟨k, hk, ho⟩ := List.any_eq_true.1 hx
  rw [List.mem_range, hlen] at hk
  unfold offI at ho
  rw [itsF_get l (rlx l) l.length 0 k hk, Nat.zero_add] at ho
  simp only [Bool.and_eq_true] at ho
  have h1 := List.getElem?_eq_getElem hk
  have hz : (itK l (rlx l) k).1.1 = l[k].1 := by
    unfold itK
    rw [h1, List.getElem?_eq_getElem (by have := hG.len; omega : k < (rlx l).length)]
    rfl
  rw [hz] at ho
  have hg := hgo k l[k] h1 ho.1
  rw [hg] at ho
  have := (hb.2.2 k l[k] h1 ho.1).1
  have := of_decide_eq_true ho.2
  omega

theorem dis_only {s : List Int} {l : List Ins} (h : disB s = (l, 0)) : chkL l = 0 ∧ asmB l (rlx l) = s := by
  unfold disB at h
  split at h
  · rename_i e he
    exfalso
    injection h with h1 h2
    subst h2
    exact parse_err he
  · rename_i its hi
    unfold endB at h
    split at h
    · cases h
    · split at h
      · cases h
      · split at h
        · rename_i hx
          injection h with h1 h2
          rw [← h1]; exact hx
        · cases h
where
  parse_err : ∀ {f : Nat} {s : List Int}, parse f s = .inl 0 → False := by
    intro f
    induction f with
    | zero => intro s h; cases h
    | succ f ih =>
      intro s h
      match s with
      | [] => cases h
      | c :: r =>
        simp only [parse] at h
        split at h
        · rename_i hx; injection h with h; exact hx h
        · split at h
          · rename_i e he
            injection h with h
            subst h
            exact ih he
          · cases h
end Fn
end Ev
namespace Ev
open Go
namespace Fn

/-! One behind another: plain. -/
def shiftI (n : Nat) (i : Ins) : Ins := if goesB i.1 = true then (i.1, i.2.1 + n, i.2.2) else i

theorem headB_goes {o : Int} (hg : goesB o = true) (a a' b : Int) (long : Bool) : headB o a b long = headB o a' b long := by
  unfold headB toldL
  rw [if_pos hg, if_pos hg]

theorem shift_op (n : Nat) (i : Ins) : (shiftI n i).1 = i.1 := by
  unfold shiftI; split <;> rfl

theorem shift_head (n : Nat) (i : Ins) (b : Bool) : headB (shiftI n i).1 (shiftI n i).2.1 (shiftI n i).2.2 b = headB i.1 i.2.1 i.2.2 b := by
  unfold shiftI
  split
  · rename_i hg; exact headB_goes hg _ _ _ _
  · rfl

theorem shift_sz (n : Nat) (i : Ins) (b : Bool) : szN (shiftI n i) b = szN i b := by
  unfold szN
  rw [shift_head, shift_op]

theorem shift_one (n : Nat) (i : Ins) (far : Int) (b : Bool) : oneB (shiftI n i) far b = oneB i far b := by
  unfold oneB
  rw [shift_head, shift_op]

theorem shift_ok {n : Nat} {i : Ins} (h : okI i = true) (hn : goesB i.1 = true → i.2.1 + n ≤ 1048576) : okI (shiftI n i) = true := by
  unfold shiftI
  split
  · rename_i hg
    unfold okI at h ⊢
    obtain ⟨h1, h2, h3, h4, h5⟩ := check_in h
    have := hn hg
    unfold checkB
    simp only
    rw [decide_eq_true h1, decide_eq_true h3, decide_eq_true (show 0 ≤ i.2.1 + (n : Int) ∧ i.2.1 + (n : Int) ≤ 1048576 by omega), hg]
    simp only [Bool.true_and, Bool.or_true, Bool.true_or, Bool.and_true]
    rcases h5 with h5 | h5 | h5
    · simp [h5]
    · simp [h5.1]
    · simp [h5]
  · exact h

variable {a b : List Ins} {S T : List Bool}

theorem szs_join (hS : S.length = a.length) (n : Nat) : szs (a ++ b.map (shiftI n)) (S ++ T) = szs a S ++ szs b T := by
  unfold szs
  rw [List.zipWith_append hS.symm, List.zipWith_map_left]
  congr 1
  congr 1
  funext i c
  exact shift_sz n i c

theorem szs_len (hS : S.length = a.length) : (szs a S).length = a.length := by
  unfold szs; rw [List.length_zipWith, hS, Nat.min_self]

theorem sum_append2 (l m : List Nat) : (l ++ m).sum = l.sum + m.sum := by
  induction l with
  | nil => simp
  | cons x l ih => simp only [List.cons_append, List.sum_cons, ih]; omega

theorem pos_join1 (hS : S.length = a.length) (n : Nat) {k : Nat} (hk : k ≤ a.length) : pos (a ++ b.map (shiftI n)) (S ++ T) k = pos a S k := by
  unfold pos
  rw [szs_join hS, List.take_append_of_le_length (by rw [szs_len hS]; exact hk)]

theorem pos_join2 (hS : S.length = a.length) (n k : Nat) : pos (a ++ b.map (shiftI n)) (S ++ T) (a.length + k) = pos a S a.length + pos b T k := by
  unfold pos
  rw [szs_join hS]
  have e := szs_len hS
  rw [show a.length + k = (szs a S).length + k by rw [e], List.take_length_add_append, sum_append2, ← e, List.take_length]

theorem get1 (n : Nat) {k : Nat} (hk : k < a.length) : (a ++ b.map (shiftI n))[k]? = a[k]? := List.getElem?_append_left hk
theorem get2 (n k : Nat) : (a ++ b.map (shiftI n))[a.length + k]? = b[k]?.map (shiftI n) := by
  rw [List.getElem?_append_right (by omega), Nat.add_sub_cancel_left, List.getElem?_map]
theorem getS1 (hS : S.length = a.length) {k : Nat} (hk : k < a.length) : (S ++ T)[k]? = S[k]? := List.getElem?_append_left (by omega)
theorem getS2 (hS : S.length = a.length) (k : Nat) : (S ++ T)[a.length + k]? = T[k]? := by
  rw [List.getElem?_append_right (by omega), hS, Nat.add_sub_cancel_left]

theorem far_join1 (hS : S.length = a.length) {k : Nat} (hk : k < a.length) {i : Ins} (hi : 0 ≤ i.2.1 ∧ i.2.1 < a.length) : farP (a ++ b.map (shiftI a.length)) (S ++ T) k i = farP a S k i := by
  unfold farP
  rw [pos_join1 hS _ (by omega), pos_join1 hS _ (by omega)]

theorem far_join2 (hS : S.length = a.length) {k : Nat} {i : Ins} (hg : goesB i.1 = true) (hi : 0 ≤ i.2.1) : farP (a ++ b.map (shiftI a.length)) (S ++ T) (a.length + k) (shiftI a.length i) = farP b T k i := by
  unfold farP
  have e : (shiftI a.length i).2.1.toNat = a.length + i.2.1.toNat := by
    unfold shiftI
    rw [if_pos hg]
    show (i.2.1 + (a.length : Int)).toNat = _
    omega
  rw [e, Nat.add_assoc, pos_join2 hS, pos_join2 hS]
  omega

theorem bad_join1 (hS : S.length = a.length) (ha : inT a) {k : Nat} (hk : k < a.length) : badB (a ++ b.map (shiftI a.length)) (S ++ T) k = badB a S k := by
  unfold badB
  rw [get1 _ hk, getS1 hS hk, List.getElem?_eq_getElem hk, List.getElem?_eq_getElem (by omega : k < S.length)]
  simp only
  unfold badI
  cases hg : goesB a[k].1 with
  | false => rfl
  | true => rw [far_join1 hS hk (ha k _ (List.getElem?_eq_getElem hk) hg)]

theorem bad_join2 (hS : S.length = a.length) (hb : inT b) (k : Nat) : badB (a ++ b.map (shiftI a.length)) (S ++ T) (a.length + k) = badB b T k := by
  unfold badB
  rw [get2, getS2 hS]
  cases hi : b[k]? with
  | none => rfl
  | some i =>
    cases hc : T[k]? with
    | none => rfl
    | some c =>
      simp only [Option.map_some]
      unfold badI
      rw [shift_op]
      cases hg : goesB i.1 with
      | false => rfl
      | true => rw [far_join2 hS hg (hb k i hi hg).1]

theorem inT_join (ha : inT a) (hb : inT b) : inT (a ++ b.map (shiftI a.length)) := by
  intro k i hi hg
  rw [List.length_append, List.length_map]
  rcases Nat.lt_or_ge k a.length with hk | hk
  · rw [get1 _ hk] at hi
    have := ha k i hi hg
    omega
  · obtain ⟨j, rfl⟩ : ∃ j, k = a.length + j := ⟨k - a.length, by omega⟩
    rw [get2] at hi
    cases hj : b[j]? with
    | none => rw [hj] at hi; cases hi
    | some x =>
      rw [hj] at hi
      have hi : shiftI a.length x = i := Option.some.inj hi
      subst hi
      rw [shift_op] at hg
      have := hb j x hj hg
      unfold shiftI
      rw [if_pos hg]
      simp only
      omega

theorem rlx_join (ha : inT a) (hb : inT b) : rlx (a ++ b.map (shiftI a.length)) = rlx a ++ rlx b := by
  obtain ⟨a1, a2, a3⟩ := rlx_least ha
  obtain ⟨b1, b2, b3⟩ := rlx_least hb
  refine least_eq (rlx_least (inT_join ha hb)) ⟨by simp [a1, b1], fun k => ?_, fun U hU hf => ?_⟩
  · rcases Nat.lt_or_ge k a.length with hk | hk
    · rw [bad_join1 a1 ha hk]; exact a2 k
    · obtain ⟨j, rfl⟩ : ∃ j, k = a.length + j := ⟨k - a.length, by omega⟩
      rw [bad_join2 a1 hb]; exact b2 j
  · rw [List.length_append, List.length_map] at hU
    have h1 : (U.take a.length).length = a.length := by rw [List.length_take]; omega
    have h2 : (U.drop a.length).length = b.length := by rw [List.length_drop]; omega
    have hU2 : U.take a.length ++ U.drop a.length = U := List.take_append_drop ..
    have f1 : fitL a (U.take a.length) := fun k => by
      rcases Nat.lt_or_ge k a.length with hk | hk
      · rw [← bad_join1 (b := b) (T := U.drop a.length) h1 ha hk, hU2]; exact hf k
      · unfold badB; rw [List.getElem?_eq_none hk]
    have f2 : fitL b (U.drop a.length) := fun k => by
      rw [← bad_join2 (a := a) (S := U.take a.length) h1 hb k, hU2]; exact hf _
    have s1 := a3 _ h1 f1
    have s2 := b3 _ h2 f2
    intro k hk
    rw [← hU2]
    rcases Nat.lt_or_ge k a.length with hl | hl
    · rw [getS1 a1 hl] at hk
      rw [getS1 h1 hl]; exact s1 k hk
    · obtain ⟨j, rfl⟩ : ∃ j, k = a.length + j := ⟨k - a.length, by omega⟩
      rw [getS2 a1] at hk
      rw [getS2 h1]; exact s2 j hk

theorem chk_join (ha : chkL a = 0) (hb : chkL b = 0) (h1 : a.length ≤ 100) (h2 : b.length ≤ 100) : chkL (a ++ b.map (shiftI a.length)) = 0 := by
  obtain ⟨a1, a2, a3⟩ := chkL_ok ha
  obtain ⟨b1, b2, b3⟩ := chkL_ok hb
  refine chkL_of (by rw [List.length_append, List.length_map]; omega) (fun k i hi => ?_) (inT_join a3 b3)
  rcases Nat.lt_or_ge k a.length with hk | hk
  · rw [get1 _ hk] at hi
    exact a2 k i hi
  · obtain ⟨j, rfl⟩ : ∃ j, k = a.length + j := ⟨k - a.length, by omega⟩
    rw [get2] at hi
    cases hj : b[j]? with
    | none => rw [hj] at hi; cases hi
    | some x =>
      rw [hj] at hi
      have hi : shiftI a.length x = i := Option.some.inj hi
      subst hi
      refine shift_ok (b2 j x hj) fun hg => ?_
      have := b3 j x hj hg
      omega

theorem asmF_add (l : List Ins) (lg : List Bool) : ∀ (m n k : Nat), asmF l lg (m + n) k = asmF l lg m k ++ asmF l lg n (k + m)
  | 0, n, k => by rw [Nat.zero_add]; rfl
  | m + 1, n, k => by
    rw [Nat.add_right_comm]
    simp only [asmF, List.append_assoc]
    rw [asmF_add l lg m n (k + 1), Nat.add_right_comm k 1 m]
    rfl

theorem asmB_join (ha : chkL a = 0) (hb : chkL b = 0) (h1 : a.length ≤ 100) (h2 : b.length ≤ 100) :
    asmB (a ++ b.map (shiftI a.length)) (rlx (a ++ b.map (shiftI a.length))) = asmB a (rlx a) ++ asmB b (rlx b) := by
  have gA := good_rlx ha
  have gB := good_rlx hb
  have gC := good_rlx (chk_join ha hb h1 h2)
  have iA := (chkL_ok ha).2.2
  have iB := (chkL_ok hb).2.2
  have eR := rlx_join iA iB
  have p1 : ∀ k, k < a.length → putK (a ++ b.map (shiftI a.length)) (rlx (a ++ b.map (shiftI a.length))) k = putK a (rlx a) k := by
    intro k hk
    unfold putK
    rw [eR, get1 _ hk, getS1 gA.len hk, List.getElem?_eq_getElem hk, List.getElem?_eq_getElem (by have := gA.len; omega : k < (rlx a).length)]
    simp only
    unfold outI
    cases hg : goesB a[k].1 with
    | false => rfl
    | true => rw [if_pos rfl, if_pos rfl, far_join1 gA.len hk (iA k _ (List.getElem?_eq_getElem hk) hg)]
  have p2 : ∀ k, k < b.length → putK (a ++ b.map (shiftI a.length)) (rlx (a ++ b.map (shiftI a.length))) (a.length + k) = putK b (rlx b) k := by
    intro k hk
    have hi := List.getElem?_eq_getElem hk
    have hc := List.getElem?_eq_getElem (by have := gB.len; omega : k < (rlx b).length)
    rw [putK_one gC (i := shiftI a.length b[k]) (b := (rlx b)[k]'(by have := gB.len; omega)) (by rw [get2, hi]; rfl) (by rw [eR, getS2 gA.len, hc]), putK_one gB hi hc, shift_one]
    congr 1
    unfold outI
    rw [shift_op]
    cases hg : goesB b[k].1 with
    | false => rfl
    | true => rw [if_pos rfl, if_pos rfl, eR, far_join2 gA.len hg (iB k _ hi hg).1]
  have f1 : ∀ m k, k + m ≤ a.length → asmF (a ++ b.map (shiftI a.length)) (rlx (a ++ b.map (shiftI a.length))) m k = asmF a (rlx a) m k := by
    intro m
    induction m with
    | zero => intro k _; rfl
    | succ m ih => intro k hk; simp only [asmF]; rw [p1 k (by omega), ih (k + 1) (by omega)]
  have f2 : ∀ m k, k + m ≤ b.length → asmF (a ++ b.map (shiftI a.length)) (rlx (a ++ b.map (shiftI a.length))) m (a.length + k) = asmF b (rlx b) m k := by
    intro m
    induction m with
    | zero => intro k _; rfl
    | succ m ih => intro k hk; simp only [asmF]; rw [p2 k (by omega), Nat.add_assoc, ih (k + 1) (by omega)]
  show asmF _ _ (a ++ b.map (shiftI a.length)).length 0 = _
  rw [List.length_append, List.length_map, asmF_add, f1 a.length 0 (by omega), Nat.zero_add]
  congr 1
  exact f2 b.length 0 (by omega)
end Fn
end Ev
