/- Packing is sound.
   A part of a verified evaluator of the model: no statement of its own about the program. -/
import Derived.Test.YtndklpaccohbcaaDoorEvE
namespace Ev
open Go

/-- What was noted stays noted. -/
structure Mono (a b : PS) : Prop where
  ren : ∀ p, p ∈ a.ren → p ∈ b.ren
  cut : ∀ p, p ∈ a.cut → p ∈ b.cut
  lent : ∀ p, p ∈ a.lent → p ∈ b.lent
  full : ∀ p, p ∈ a.full → p ∈ b.full

theorem Mono.refl (a : PS) : Mono a a := ⟨fun _ h => h, fun _ h => h, fun _ h => h, fun _ h => h⟩
theorem Mono.trans {a b c : PS} (h : Mono a b) (h' : Mono b c) : Mono a c :=
  ⟨fun p hp => h'.ren p (h.ren p hp), fun p hp => h'.cut p (h.cut p hp), fun p hp => h'.lent p (h.lent p hp), fun p hp => h'.full p (h.full p hp)⟩

abbrev id0 : Nat → Nat := fun i => i
abbrev ka0 : Nat → Nat := fun _ => 0

section
variable {o : Nat → Obj}

/-- What is taken out of a value fills its shape, and no more. -/
def TakesS (o : Nat → Obj) (s : Sh) : Prop := ∀ v ps ps' f, paS lf o s v ps = some (ps', f) → Mono ps ps' ∧ ∀ (ρ κ : Nat → Nat) r c, (fillS ρ κ s r (f r c)).2 = c
def TakesL (o : Nat → Obj) (l : List Sh) : Prop := ∀ vs ps ps' f, paL lf o l vs ps = some (ps', f) → Mono ps ps' ∧ ∀ (ρ κ : Nat → Nat) r c, (fillL ρ κ l r (f r c)).2 = c

theorem takeIf_some {b : Bool} {ps ps' : PS} {f : ∀ r, denP r → denP r} (h : takeIf b ps = some (ps', f)) : b = true ∧ ps' = ps ∧ f = fun _ c => c := by
  cases b
  · cases h
  · injection h with h; injection h with h1 h2; exact ⟨rfl, h1.symm, h2.symm⟩

theorem Mono.tie {ps : PS} (i id : Nat) : Mono ps (tie i id ps) := ⟨fun _ h => List.mem_cons_of_mem _ h, fun _ h => h, fun _ h => h, fun _ h => h⟩

theorem paOwn_mono {i : Nat} {v : V} {ps ps' : PS} {f : ∀ r, denP r → denP r} (h : paOwn o i v ps = some (ps', f)) : Mono ps ps' ∧ f = fun _ c => c := by
  unfold paOwn at h
  split at h
  · split at h
    · obtain ⟨_, rfl, rfl⟩ := takeIf_some h
      exact ⟨⟨fun _ h => List.mem_cons_of_mem _ h, fun _ h => h, fun _ h => h, fun _ h => List.mem_cons_of_mem _ h⟩, rfl⟩
    · cases h
  · split at h
    · obtain ⟨_, rfl, rfl⟩ := takeIf_some h
      exact ⟨⟨fun _ h => List.mem_cons_of_mem _ h, fun _ h => List.mem_cons_of_mem _ h, fun _ h => h, fun _ h => h⟩, rfl⟩
    · cases h
  · cases h

theorem paPtr_mono {i off : Nat} {v : V} {ps ps' : PS} {f : ∀ r, denP r → denP r} (h : paPtr o i off v ps = some (ps', f)) : Mono ps ps' ∧ f = fun _ c => c := by
  unfold paPtr at h
  split at h
  · split at h
    · obtain ⟨_, rfl, rfl⟩ := takeIf_some h
      exact ⟨.tie _ _, rfl⟩
    · obtain ⟨_, rfl, rfl⟩ := takeIf_some h
      exact ⟨.tie _ _, rfl⟩
    · cases h
  · cases h

theorem paMp_mono {i : Nat} {v : V} {ps ps' : PS} {f : ∀ r, denP r → denP r} (h : paMp o i v ps = some (ps', f)) : Mono ps ps' ∧ f = fun _ c => c := by
  unfold paMp at h
  split at h
  · split at h
    · injection h with h; injection h with h1 h2; subst h1 h2
      exact ⟨.tie _ _, rfl⟩
    · cases h
  · cases h

theorem paIt_mono {i : Nat} {v : V} {ps ps' : PS} {f : ∀ r, denP r → denP r} (h : paIt o i v ps = some (ps', f)) : Mono ps ps' ∧ f = fun _ c => c := by
  unfold paIt at h
  split at h
  · split at h
    · injection h with h; injection h with h1 h2; subst h1 h2
      exact ⟨.tie _ _, rfl⟩
    · cases h
  · cases h

theorem paSlf_mono {i : Nat} {v : V} {ps ps' : PS} {f : ∀ r, denP r → den .bool × denP r} (h : paSlf o i v ps = some (ps', f)) : ∃ id b cs, v = .slf id b ∧ o id = .box cs ∧ ps' = tie i id ps ∧ f = fun _ c => (b, c) := by
  unfold paSlf at h
  split at h
  · rename_i id b
    split at h
    · rename_i cs e
      injection h with h; injection h with h1 h2; subst h1 h2
      exact ⟨id, b, cs, rfl, e, rfl, rfl⟩
    · cases h
  · cases h

theorem faB_eq : ∀ {b a : List (Nat × Bool)}, faB b a = true → b = a
  | [], [], _ => rfl
  | [], _ :: _, h => by cases h
  | _ :: _, [], h => by cases h
  | (f, c) :: b, (g, d) :: a, h => by
    unfold faB at h
    rw [Bool.and_eq_true, Bool.and_eq_true] at h
    obtain ⟨⟨h1, h2⟩, h3⟩ := h
    have h1 := Nat.eq_of_beq_eq_true h1
    have h2 : c = d := by cases c <;> cases d <;> first | rfl | cases h2
    rw [h1, h2, faB_eq h3]
theorem relFa_nil {imm : Nat → Prop} {w : World} {n : Int} : ∀ (a : List (Nat × Bool)), relFa imm w a ((a.length : Nat) : Int) n .nilFunc
  | [] => ⟨rfl, rfl⟩
  | (f, c) :: r => by
    refine .inr ⟨by rw [List.length_cons]; omega, ?_⟩
    have : (((f, c) :: r).length : Int) - 1 = ((r.length : Nat) : Int) := by rw [List.length_cons]; omega
    rw [this]
    exact relFa_nil r
theorem relFa_of {imm : Nat → Prop} {w : World} {n : Int} {v : Value} {f : Nat} {c : Bool} (hv : match c with | false => v = .func (.func f) #[] #[] | true => ∃ p, v = .func (.func f) #[] #[p] ∧ relRef imm w n p) :
    ∀ (a : List (Nat × Bool)) (i0 i : Nat), faIdx f c a i0 = some i → ∃ j : Nat, i = i0 + j ∧ relFa imm w a (j : Int) n v
  | [], _, _, h => by cases h
  | (g, d) :: r, i0, i, h => by
    unfold faIdx at h
    cases hb : (Nat.beq g f && (bif c then d else !d)) with
    | true =>
      rw [hb] at h
      injection h with h
      subst h
      rw [Bool.and_eq_true] at hb
      have h1 := Nat.eq_of_beq_eq_true hb.1
      have h2 : d = c := by
        have := hb.2
        cases c <;> cases d <;> first | rfl | cases this
      subst h1 h2
      exact ⟨0, rfl, .inl ⟨rfl, hv⟩⟩
    | false =>
      rw [hb] at h
      obtain ⟨j, h1, h2⟩ := relFa_of hv r (i0 + 1) i h
      refine ⟨j + 1, by omega, .inr ⟨by omega, ?_⟩⟩
      have : ((j + 1 : Nat) : Int) - 1 = (j : Int) := by omega
      rw [this]
      exact h2

theorem paFa_mono {a : List (Nat × Bool)} {v : V} {ps ps' : PS} {f : ∀ r, denP r → den (.int .i64) × den (.int .i64) × denP r} (h : paFa lf o a v ps = some (ps', f)) :
    (∃ k n, v = .fa a k n ∧ ps' = ps ∧ f = fun _ c => (k, n, c)) ∨ (v = .nilf ∧ ps' = ps ∧ f = fun _ c => (Int.ofNat a.length, (0 : Int), c)) ∨
    (∃ g i, v = .fn g [] ∧ faIdx g false a 0 = some i ∧ ps' = ps ∧ f = fun _ c => (Int.ofNat i, (0 : Int), c)) ∨
    (∃ g i w p, v = .fn g [w] ∧ faIdx g true a 0 = some i ∧ paRef lf o (.int .i64) w ps = some (ps', p) ∧ f = fun r c => (Int.ofNat i, p r c)) := by
  unfold paFa at h
  split at h
  · rename_i b k n
    cases hb : faB b a <;> rw [hb] at h
    · cases h
    · have := faB_eq hb
      subst this
      injection h with h; injection h with h1 h2; subst h1 h2
      exact .inl ⟨k, n, rfl, rfl, rfl⟩
  · injection h with h; injection h with h1 h2; subst h1 h2
    refine .inr (.inl ⟨rfl, rfl, ?_⟩)
    have : lenN a 0 = a.length := by rw [lenN_eq, Nat.zero_add]
    rw [this]
  · rename_i g
    split at h
    · rename_i i e
      injection h with h; injection h with h1 h2; subst h1 h2
      exact .inr (.inr (.inl ⟨g, i, rfl, e, rfl, rfl⟩))
    · cases h
  · rename_i g w
    split at h
    · rename_i i e
      split at h
      · rename_i ps2 p e2
        injection h with h; injection h with h1 h2; subst h1 h2
        exact .inr (.inr (.inr ⟨g, i, w, p, rfl, e, e2, rfl⟩))
      · cases h
    · cases h
  · cases h

theorem paSuf_mono {i : Nat} {v : V} {ps ps' : PS} {f : ∀ r, denP r → den (.int .i64) × denP r} (h : paSuf o i v ps = some (ps', f)) :
    ∃ id ver lo t s, v = .suf id ver lo ∧ o id = .vec t ver false s ∧ ps' = { tie i id ps with full := id :: ps.full } ∧ f = fun _ c => ((lo : den (.int .i64)), c) := by
  unfold paSuf at h
  split at h
  · rename_i id ver lo
    split at h
    · rename_i t ver' s e
      cases hb : Nat.beq ver ver' <;> rw [hb] at h
      · cases h
      · have := Nat.eq_of_beq_eq_true hb
        subst this
        injection h with h; injection h with h1 h2; subst h1 h2
        exact ⟨id, ver, lo, t, s, rfl, e, rfl, rfl⟩
    · cases h
  · cases h

theorem paD_mono {t : Ty} {v : V} {ps ps' : PS} {f : ∀ r, denP r → den t × denP r} (h : paD lf o t v ps = some (ps', f)) : Mono ps ps' ∧ ∃ x, asDs lf o t v = some x ∧ ps' = { ps with lent := lentV o v ++ ps.lent } ∧ f = fun _ c => (x, c) := by
  unfold paD at h
  split at h
  · rename_i x e
    injection h with h; injection h with h1 h2; subst h1 h2
    exact ⟨⟨fun _ h => h, fun _ h => h, fun _ h => List.mem_append_right _ h, fun _ h => h⟩, x, e, rfl, rfl⟩
  · cases h

theorem paRef_mono {t : Ty} {v : V} {ps ps' : PS} {f : ∀ r, denP r → den t × denP r} (h : paRef lf o t v ps = some (ps', f)) : Mono ps ps' ∧ ∃ x, f = (fun _ c => (x, c)) ∧
    ((v = .ref t x ∧ ps' = ps) ∨ (∃ id, v = .ptr id 0 ∧ boxD lf o t id = some x ∧ ps' = { ps with lent := id :: (lentB o id ++ ps.lent) })) := by
  unfold paRef at h
  split at h
  · split at h
    · rename_i x e
      injection h with h; injection h with h1 h2; subst h1 h2
      obtain ⟨rfl, rfl⟩ := asTy_some e
      exact ⟨.refl _, _, rfl, .inl ⟨rfl, rfl⟩⟩
    · cases h
  · rename_i id off
    cases hb : Nat.beq off 0 <;> rw [hb] at h
    · cases h
    · have := Nat.eq_of_beq_eq_true hb
      subst this
      simp only [cond_true] at h
      split at h
      · rename_i x e
        injection h with h; injection h with h1 h2; subst h1 h2
        exact ⟨⟨fun _ h => h, fun _ h => h, fun _ h => List.mem_cons_of_mem _ (List.mem_append_right _ h), fun _ h => h⟩, x, rfl, .inr ⟨id, rfl, e, rfl⟩⟩
      · cases h
  · cases h

theorem fnOf_some {f : Nat} {v : V} {l : List V} (h : fnOf f v = some l) : v = .fn f l := by
  unfold fnOf at h
  split at h
  · rename_i f' l'
    cases hb : Nat.beq f f' <;> rw [hb] at h
    · cases h
    · have := Nat.eq_of_beq_eq_true hb
      injection h with h
      subst this h; rfl
  · cases h
theorem tupOf_some {v : V} {l : List V} (h : tupOf v = some l) : v = .tup l := by
  unfold tupOf at h
  split at h
  · injection h with h; subst h; rfl
  · cases h
theorem aggL_some {v : V} {l : List V} (h : aggL v = some l) : v = .agg l := by
  unfold aggL at h
  split at h
  · injection h with h; subst h; rfl
  · cases h

theorem paL_nil {vs : List V} {ps ps' : PS} {f : ∀ r, denP r → denP (tyL [] r)} (h : paL lf o [] vs ps = some (ps', f)) : vs = [] ∧ ps' = ps ∧ f = fun _ c => c := by
  have h : takeIf vs.isEmpty ps = some (ps', f) := h
  obtain ⟨h1, h2, h3⟩ := takeIf_some h
  exact ⟨by simpa using h1, h2, h3⟩

theorem paL_cons {s : Sh} {l : List Sh} {vs : List V} {ps ps' : PS} {f : ∀ r, denP r → denP (tyL (s :: l) r)} (h : paL lf o (s :: l) vs ps = some (ps', f)) :
    ∃ v vs' ps1 f1 g1, vs = v :: vs' ∧ paS lf o s v ps = some (ps1, f1) ∧ paL lf o l vs' ps1 = some (ps', g1) ∧ f = fun r c => f1 _ (g1 r c) := by
  cases vs with
  | nil => cases h
  | cons v vs =>
    have h : (match paS lf o s v ps with
      | some (ps, f) => match paL lf o l vs ps with
        | some (ps, g) => some (ps, fun r c => f _ (g r c))
        | none => none
      | none => none) = some (ps', f) := h
    split at h
    · rename_i ps1 f1 h1
      split at h
      · rename_i ps2 f2 h2
        injection h with h; injection h with h3 h4; subst h3 h4
        exact ⟨v, vs, ps1, f1, f2, rfl, h1, h2, rfl⟩
      · cases h
    · cases h

theorem paS_fn {g : Nat} {l : List Sh} {v : V} {ps ps' : PS} {f : ∀ r, denP r → denP (tyS (.fn g l) r)} (h : paS lf o (.fn g l) v ps = some (ps', f)) : ∃ l', v = .fn g l' ∧ paL lf o l l' ps = some (ps', f) := by
  have h : (match fnOf g v with | some l' => paL lf o l l' ps | none => none) = some (ps', f) := h
  split at h
  · rename_i l' e; exact ⟨l', fnOf_some e, h⟩
  · cases h
theorem paS_tup {l : List Sh} {v : V} {ps ps' : PS} {f : ∀ r, denP r → denP (tyS (.tup l) r)} (h : paS lf o (.tup l) v ps = some (ps', f)) : ∃ l', v = .tup l' ∧ paL lf o l l' ps = some (ps', f) := by
  have h : (match tupOf v with | some l' => paL lf o l l' ps | none => none) = some (ps', f) := h
  split at h
  · rename_i l' e; exact ⟨l', tupOf_some e, h⟩
  · cases h
theorem paS_agg {l : List Sh} {v : V} {ps ps' : PS} {f : ∀ r, denP r → denP (tyS (.agg l) r)} (h : paS lf o (.agg l) v ps = some (ps', f)) : ∃ l', v = .agg l' ∧ paL lf o l l' ps = some (ps', f) := by
  have h : (match aggL v with | some l' => paL lf o l l' ps | none => none) = some (ps', f) := h
  split at h
  · rename_i l' e; exact ⟨l', aggL_some e, h⟩
  · cases h

theorem takes (s : Sh) : TakesS o s := by
  refine Sh.rec (motive_1 := TakesS o) (motive_2 := TakesL o) ?_ ?_ ?_ ?_ ?_ ?_ ?_ ?_ ?_ ?_ ?_ ?_ ?_ ?_ ?_ ?_ ?_ ?_ ?_ s
  · intro t v ps ps' f h
    obtain ⟨h1, x, _, _, rfl⟩ := paD_mono (o := o) h
    exact ⟨h1, fun _ _ _ _ => rfl⟩
  · intro i v ps ps' f h
    obtain ⟨h1, rfl⟩ := paOwn_mono (o := o) h
    exact ⟨h1, fun _ _ _ _ => rfl⟩
  · intro i off v ps ps' f h
    obtain ⟨h1, rfl⟩ := paPtr_mono (o := o) h
    exact ⟨h1, fun _ _ _ _ => rfl⟩
  · intro t v ps ps' f h
    obtain ⟨h1, x, rfl, _⟩ := paRef_mono (o := o) h
    exact ⟨h1, fun _ _ _ _ => rfl⟩
  · intro v ps ps' f h
    obtain ⟨_, rfl, rfl⟩ := takeIf_some h
    exact ⟨.refl _, fun _ _ _ _ => rfl⟩
  · intro g l ih v ps ps' f h
    obtain ⟨l', rfl, h'⟩ := paS_fn h
    obtain ⟨h1, h2⟩ := ih _ _ _ _ h'
    exact ⟨h1, h2⟩
  · intro v ps ps' f h
    obtain ⟨_, rfl, rfl⟩ := takeIf_some h
    exact ⟨.refl _, fun _ _ _ _ => rfl⟩
  · intro l ih v ps ps' f h
    obtain ⟨l', rfl, h'⟩ := paS_tup h
    obtain ⟨h1, h2⟩ := ih _ _ _ _ h'
    exact ⟨h1, h2⟩
  · intro l ih v ps ps' f h
    obtain ⟨l', rfl, h'⟩ := paS_agg h
    obtain ⟨h1, h2⟩ := ih _ _ _ _ h'
    exact ⟨h1, h2⟩
  · intro i v ps ps' f h
    obtain ⟨h1, rfl⟩ := paMp_mono (o := o) h
    exact ⟨h1, fun _ _ _ _ => rfl⟩
  · intro v ps ps' f h
    obtain ⟨_, rfl, rfl⟩ := takeIf_some h
    exact ⟨.refl _, fun _ _ _ _ => rfl⟩
  · intro v ps ps' f h
    obtain ⟨_, rfl, rfl⟩ := takeIf_some h
    exact ⟨.refl _, fun _ _ _ _ => rfl⟩
  · intro v ps ps' f h
    obtain ⟨_, rfl, rfl⟩ := takeIf_some (b := true) (ps := ps) h
    exact ⟨.refl _, fun _ _ _ _ => rfl⟩
  · intro i v ps ps' f h
    obtain ⟨id, b, cs, rfl, _, rfl, rfl⟩ := paSlf_mono (o := o) h
    exact ⟨.tie _ _, fun _ _ _ _ => rfl⟩
  · intro i v ps ps' f h
    obtain ⟨id, ver, lo, t, s, rfl, _, rfl, rfl⟩ := paSuf_mono (o := o) h
    exact ⟨⟨fun _ h => List.mem_cons_of_mem _ h, fun _ h => h, fun _ h => h, fun _ h => List.mem_cons_of_mem _ h⟩, fun _ _ _ _ => rfl⟩
  · intro i v ps ps' f h
    obtain ⟨h1, rfl⟩ := paIt_mono (o := o) h
    exact ⟨h1, fun _ _ _ _ => rfl⟩
  · intro a v ps ps' f h
    rcases paFa_mono (o := o) h with ⟨k, n, rfl, rfl, rfl⟩ | ⟨rfl, rfl, rfl⟩ | ⟨g, i, rfl, _, rfl, rfl⟩ | ⟨g, i, w, p, rfl, _, h2, rfl⟩
    · exact ⟨.refl _, fun _ _ _ _ => rfl⟩
    · exact ⟨.refl _, fun _ _ _ _ => rfl⟩
    · exact ⟨.refl _, fun _ _ _ _ => rfl⟩
    · obtain ⟨h1, x, rfl, _⟩ := paRef_mono (o := o) h2
      exact ⟨h1, fun _ _ _ _ => rfl⟩
  · intro vs ps ps' f h
    obtain ⟨rfl, rfl, rfl⟩ := paL_nil h
    exact ⟨.refl _, fun _ _ _ _ => rfl⟩
  · intro s l ih1 ih2 vs ps ps' f h
    obtain ⟨v, vs', ps1, f1, g1, rfl, h1, h2, rfl⟩ := paL_cons h
    obtain ⟨a1, a2⟩ := ih1 _ _ _ _ h1
    obtain ⟨b1, b2⟩ := ih2 _ _ _ _ h2
    refine ⟨a1.trans b1, fun ρ κ r c => ?_⟩
    show (fillL ρ κ l r (fillS ρ κ s (tyL l r) (f1 _ (g1 r c))).2).2 = c
    rw [a2, b2]

theorem takesL : ∀ l : List Sh, TakesL o l
  | [] => by
    intro vs ps ps' f h
    obtain ⟨rfl, rfl, rfl⟩ := paL_nil h
    exact ⟨.refl _, fun _ _ _ _ => rfl⟩
  | s :: l => by
    intro vs ps ps' f h
    obtain ⟨v, vs', ps1, f1, g1, rfl, h1, h2, rfl⟩ := paL_cons h
    obtain ⟨a1, a2⟩ := takes s _ _ _ _ h1
    obtain ⟨b1, b2⟩ := takesL l _ _ _ _ h2
    refine ⟨a1.trans b1, fun ρ κ r c => ?_⟩
    show (fillL ρ κ l r (fillS ρ κ s (tyL l r) (f1 _ (g1 r c))).2).2 = c
    rw [a2, b2]

theorem takesO {old : Nat} {s : OSh} {ps ps' : PS} {f : ∀ r, denP r → denP (tyO s r)} (h : paO lf o old s ps = some (ps', f)) : Mono ps ps' ∧ ∀ (ρ κ : Nat → Nat) i r c, (fillO ρ κ i s r (f r c)).2 = c := by
  cases s with
  | box l =>
    simp only [paO] at h
    cases e : o old <;> rw [e] at h <;> simp only at h <;> try (cases h; done)
    obtain ⟨h1, h2⟩ := takesL l _ _ _ _ h
    exact ⟨h1, fun ρ κ i r c => h2 ρ κ r c⟩
  | vec t =>
    simp only [paO] at h
    split at h
    · split at h
      · split at h
        · injection h with h; injection h with h1 h2; subst h1 h2
          exact ⟨.refl _, fun _ _ _ _ _ => rfl⟩
        · injection h with h; injection h with h1 h2; subst h1 h2
          exact ⟨⟨fun _ h => h, fun _ h => h, fun _ h => h, fun _ h => List.mem_cons_of_mem _ h⟩, fun _ _ _ _ _ => rfl⟩
      · cases h
    · cases h
  | map k v =>
    simp only [paO] at h
    split at h
    · split at h
      · injection h with h; injection h with h1 h2; subst h1 h2
        exact ⟨.refl _, fun _ _ _ _ _ => rfl⟩
      · cases h
    · cases h
  | gone =>
    simp only [paO] at h
    injection h with h; injection h with h1 h2; subst h1 h2
    exact ⟨.refl _, fun _ _ _ _ _ => rfl⟩
  | iter =>
    simp only [paO] at h
    split at h
    · injection h with h; injection h with h1 h2; subst h1 h2
      exact ⟨.refl _, fun _ _ _ _ _ => rfl⟩
    · cases h

/-- What is known of each object that was packed. -/
def ObOk (o : Nat → Obj) (psF : PS) (i : Nat) (sh : OSh) (ob : Obj) : Prop :=
  (sh = .gone ∧ ob = .dead) ∨ ∃ old psa psb f, (i, old) ∈ psF.ren ∧ paO lf o old sh psa = some (psb, f) ∧ Mono psb psF ∧ ∃ r c, ob = (fillO id0 ka0 i sh r (f r c)).1

def AllOb (o : Nat → Obj) (psF : PS) : Nat → List OSh → List (Nat × Obj) → Prop
  | _, [], os => os = []
  | i, s :: l, os => ∃ ob r, os = (i, ob) :: r ∧ ObOk o psF i s ob ∧ AllOb o psF (i + 1) l r

theorem assoc_mem : ∀ {l : List (Nat × Nat)} {i x : Nat}, assoc i l = some x → (i, x) ∈ l
  | (a, b) :: r, i, x, h => by
    simp only [assoc] at h
    cases hb : Nat.beq a i with
    | true =>
      rw [hb] at h
      have h1 := Nat.eq_of_beq_eq_true hb
      have h2 := Option.some.inj h
      subst h1 h2
      exact List.mem_cons_self ..
    | false => rw [hb] at h; exact List.mem_cons_of_mem _ (assoc_mem h)

theorem paOs_spec {psF : PS} : ∀ (l : List OSh) (i : Nat) (ps ps' : PS) (g : ∀ r, denP r → denP (tyOL l r)), paOs lf o i l ps = some (ps', g) → Mono ps ps' ∧ (Mono ps' psF → ∀ r c, AllOb o psF i l (fillOs id0 ka0 i l r (g r c)))
  | [], i, ps, ps', g, h => by
    simp only [paOs] at h
    injection h with h; injection h with h1 h2; subst h1 h2
    exact ⟨.refl _, fun _ _ _ => rfl⟩
  | .gone :: l, i, ps, ps', g, h => by
    simp only [paOs] at h
    split at h
    · rename_i ps1 g1 h1
      injection h with h; injection h with h2 h3; subst h2 h3
      obtain ⟨a1, a2⟩ := paOs_spec l (i + 1) _ _ _ h1
      exact ⟨a1, fun hm r c => ⟨.dead, _, rfl, .inl ⟨rfl, rfl⟩, a2 hm r c⟩⟩
    · cases h
  | .box q :: l, i, ps, ps', g, h => by
    simp only [paOs] at h
    split at h
    · rename_i old h0
      split at h
      · rename_i ps1 f1 h1
        split at h
        · rename_i ps2 g2 h2
          injection h with h; injection h with h3 h4; subst h3 h4
          obtain ⟨b1, b2⟩ := takesO h1
          obtain ⟨a1, a2⟩ := paOs_spec l (i + 1) _ _ _ h2
          refine ⟨b1.trans a1, fun hm r c => ⟨_, _, rfl, .inr ⟨old, ps, ps1, f1, hm.ren _ ((b1.trans a1).ren _ (assoc_mem h0)), h1, a1.trans hm, _, _, rfl⟩, ?_⟩⟩
          rw [b2]; exact a2 hm r c
        · cases h
      · cases h
    · cases h
  | .vec q :: l, i, ps, ps', g, h => by
    simp only [paOs] at h
    split at h
    · rename_i old h0
      split at h
      · rename_i ps1 f1 h1
        split at h
        · rename_i ps2 g2 h2
          injection h with h; injection h with h3 h4; subst h3 h4
          obtain ⟨b1, b2⟩ := takesO h1
          obtain ⟨a1, a2⟩ := paOs_spec l (i + 1) _ _ _ h2
          refine ⟨b1.trans a1, fun hm r c => ⟨_, _, rfl, .inr ⟨old, ps, ps1, f1, hm.ren _ ((b1.trans a1).ren _ (assoc_mem h0)), h1, a1.trans hm, _, _, rfl⟩, ?_⟩⟩
          rw [b2]; exact a2 hm r c
        · cases h
      · cases h
    · cases h
  | .map q q' :: l, i, ps, ps', g, h => by
    simp only [paOs] at h
    split at h
    · rename_i old h0
      split at h
      · rename_i ps1 f1 h1
        split at h
        · rename_i ps2 g2 h2
          injection h with h; injection h with h3 h4; subst h3 h4
          obtain ⟨b1, b2⟩ := takesO h1
          obtain ⟨a1, a2⟩ := paOs_spec l (i + 1) _ _ _ h2
          refine ⟨b1.trans a1, fun hm r c => ⟨_, _, rfl, .inr ⟨old, ps, ps1, f1, hm.ren _ ((b1.trans a1).ren _ (assoc_mem h0)), h1, a1.trans hm, _, _, rfl⟩, ?_⟩⟩
          rw [b2]; exact a2 hm r c
        · cases h
      · cases h
    · cases h
  | .iter :: l, i, ps, ps', g, h => by
    simp only [paOs] at h
    split at h
    · rename_i old h0
      split at h
      · rename_i ps1 f1 h1
        split at h
        · rename_i ps2 g2 h2
          injection h with h; injection h with h3 h4; subst h3 h4
          obtain ⟨b1, b2⟩ := takesO h1
          obtain ⟨a1, a2⟩ := paOs_spec l (i + 1) _ _ _ h2
          refine ⟨b1.trans a1, fun hm r c => ⟨_, _, rfl, .inr ⟨old, ps, ps1, f1, hm.ren _ ((b1.trans a1).ren _ (assoc_mem h0)), h1, a1.trans hm, _, _, rfl⟩, ?_⟩⟩
          rw [b2]; exact a2 hm r c
        · cases h
      · cases h
    · cases h
end
end Ev


namespace Ev
open Go

theorem isN_spec {n : Nat} {x : Option Nat} (h : isN n x = true) : x = some n := by
  cases x with
  | none => cases h
  | some m => exact congrArg some (Nat.eq_of_beq_eq_true h)
theorem noN_spec {x : Option Nat} (h : noN x = true) : x = none := by
  cases x with
  | none => rfl
  | some m => cases h

theorem renOk_spec {k : Nat} {all : List (Nat × Nat)} : ∀ {l : List (Nat × Nat)}, renOk k all l = true → ∀ p, p ∈ l → p.1 < k ∧ assoc p.1 all = some p.2 ∧ rassoc p.2 all = some p.1
  | (i, old) :: r, h, p, hp => by
    simp only [renOk, Bool.and_eq_true] at h
    obtain ⟨⟨⟨h1, h2⟩, h3⟩, h4⟩ := h
    rcases List.mem_cons.1 hp with rfl | hp
    · exact ⟨Nat.le_of_ble_eq_true h1, isN_spec h2, isN_spec h3⟩
    · exact renOk_spec h4 p hp
theorem assoc_some {id n : Nat} : ∀ {l : List (Nat × Nat)}, (id, n) ∈ l → ∃ m, assoc id l = some m
  | (i, m) :: r, h => by
    simp only [assoc]
    cases hb : Nat.beq i id with
    | true => exact ⟨m, rfl⟩
    | false =>
      rcases List.mem_cons.1 h with h | h
      · injection h with h _; subst h; rw [Nat.beq_refl] at hb; cases hb
      · exact assoc_some h
theorem cutOk_spec : ∀ {l : List (Nat × Nat)}, cutOk l = true → ∀ p, p ∈ l → assoc p.1 l = some p.2
  | (i, n) :: r, h, p, hp => by
    simp only [cutOk, Bool.and_eq_true] at h
    simp only [assoc]
    rcases List.mem_cons.1 hp with rfl | hp2
    · rw [Nat.beq_refl]; rfl
    · cases hb : Nat.beq i p.1 with
      | true =>
        have := Nat.eq_of_beq_eq_true hb
        subst this
        obtain ⟨m, hm⟩ := assoc_some (id := p.1) (n := p.2) hp2
        rw [noN_spec h.1] at hm; cases hm
      | false => exact cutOk_spec h.2 p hp2
theorem fullOk_spec {cut : List (Nat × Nat)} : ∀ {l : List Nat}, fullOk cut l = true → ∀ p, p ∈ l → assoc p cut = none
  | i :: r, h, p, hp => by
    simp only [fullOk, Bool.and_eq_true] at h
    rcases List.mem_cons.1 hp with rfl | hp
    · exact noN_spec h.1
    · exact fullOk_spec h.2 p hp
theorem hasR_mem {ren : List (Nat × Nat)} : ∀ {i j : Nat}, (i, j) ∈ ren → hasR j ren = true := by
  induction ren with
  | nil => intro i j h; cases h
  | cons p r ih =>
    obtain ⟨a, b⟩ := p
    intro i j h
    simp only [hasR]
    rcases List.mem_cons.1 h with h | h
    · injection h with _ h; subst h; rw [Nat.beq_refl]; rfl
    · cases hb : Nat.beq b j
      · exact ih h
      · rfl
theorem apartL_spec {ren : List (Nat × Nat)} : ∀ {l : List Nat}, apartL l ren = true → ∀ j, j ∈ l → ∀ i, (i, j) ∉ ren
  | a :: r, h, j, hj, i, hi => by
    simp only [apartL] at h
    cases hb : hasR a ren with
    | true => rw [hb] at h; cases h
    | false =>
      rw [hb] at h
      rcases List.mem_cons.1 hj with rfl | hj
      · rw [hasR_mem hi] at hb; cases hb
      · exact apartL_spec h j hj i hi

section
variable {C : Cx} {X : Nat → Prop} {φ : Nat → Addr} {o : Nat → Obj} {w : World} {imm imm' : Nat → Prop}

/-- Data of what is lent. -/
theorem asD_relG (hl : ∀ id, relObj φ o imm w id (o id)) (hi : ∀ b, imm b → imm' b) {t : Ty} {x : V} {d : den t} {z : Value} (hx : relVal φ o imm w x z)
    (hf : ∀ id, id ∈ lentV o x → ∀ t ver s, o id = .vec t ver false s → s.nil = false → (φ id).spot = none → imm' (φ id).block) (h : asD lf o t x = some d) : relV imm' w t d z := by
  rcases asD_cases h with rfl | ⟨e', ht, s', h1, h2⟩ | ⟨e', ht, rfl, h2⟩
  · exact relV_mono hi (fun _ _ => rfl) _ _ _ hx
  · subst ht; subst h2
    obtain ⟨⟨g1, g2⟩, id, ver, fr, s0, g3, g4, g5, g6, g8⟩ := own_reads hl hx h1
    refine ⟨z, rfl, g1, ?_⟩
    rcases g2 with g2 | ⟨hn, a, cap, ec, h5, h6, h7, h8, h9⟩
    · exact .inl g2
    · refine .inr ⟨hn, a, cap, ec, h5, h6, fun hne => ?_, relR_mono (relC_mono hi (fun _ _ => rfl) _) h7, h8, h9⟩
      rw [g4 hn _ _ _ h5]
      have ho := hl id
      rw [g3] at ho
      obtain ⟨_, _, ho⟩ := ho
      rcases ho (g5 ▸ hn) with ⟨g9, _, _, _, _, _, g7⟩ | ⟨_, g7, _⟩
      · cases e : fr with
        | false => subst e; exact hf id (g6 rfl) _ _ _ g3 (g5 ▸ hn) g9
        | true => exact hi _ (g7 e)
      · exact absurd (g8 g7) hne
  · subst ht; subst h2
    exact ⟨z, rfl, Nat.zero_le _, .inl ⟨rfl, rfl, hx⟩⟩

/-- What may be lent of a value. -/
def Lendable (φ : Nat → Addr) (o : Nat → Obj) (imm' : Nat → Prop) (x : V) : Prop := ∀ id, id ∈ lentV o x → ∀ t ver s, o id = .vec t ver false s → s.nil = false → (φ id).spot = none → imm' (φ id).block

theorem paC_relG (hl : ∀ id, relObj φ o imm w id (o id)) (hi : ∀ b, imm b → imm' b) : ∀ (t : Ty) (cs r : List V) (d : den t) (zs : List Value), relVs φ o imm w cs zs → (∀ c, c ∈ cs → Lendable φ o imm' c) → paC lf o t cs = some (d, r) →
    ∃ zc zr, zs = zc ++ zr ∧ relC imm' w t d zc ∧ relVs φ o imm w r zr ∧ (∀ c, c ∈ r → Lendable φ o imm' c) := by
  have one : ∀ (t : Ty) (cs r : List V) (d : den t) (zs : List Value), relVs φ o imm w cs zs → (∀ c, c ∈ cs → Lendable φ o imm' c) →
      (match cs with | c :: r => (match asD lf o t c with | some x => some (x, r) | none => none) | [] => none) = some (d, r) →
      ∃ z zr, zs = z :: zr ∧ relV imm' w t d z ∧ relVs φ o imm w r zr ∧ (∀ c, c ∈ r → Lendable φ o imm' c) := by
    intro t cs r d zs hr hf h
    cases cs with
    | nil => cases h
    | cons c cs =>
      simp only at h
      split at h
      · rename_i x hx
        injection h with h; injection h with h1 h2; subst h1 h2
        obtain ⟨z, zr, h3, h4, h5⟩ := hr
        exact ⟨z, zr, h3, asD_relG hl hi h4 (hf _ (List.mem_cons_self ..)) hx, h5, fun c hc => hf c (List.mem_cons_of_mem _ hc)⟩
      · cases h
  intro t
  induction t with
  | unit => intro cs r d zs hr hf h; simp only [paC, Option.some.injEq, Prod.mk.injEq] at h; obtain ⟨_, rfl⟩ := h; exact ⟨[], zs, rfl, rfl, hr, hf⟩
  | pair a b iha ihb =>
    intro cs r d zs hr hf h
    simp only [paC] at h
    split at h
    · rename_i x r1 h1
      split at h
      · rename_i y r2 h2
        injection h with h; injection h with h3 h4; subst h3 h4
        obtain ⟨zc, zr, e1, e2, e3, e4⟩ := iha _ _ _ _ hr hf h1
        obtain ⟨zc', zr', g1, g2, g3, g4⟩ := ihb _ _ _ _ e3 e4 h2
        exact ⟨zc ++ zc', zr', by rw [e1, g1, List.append_assoc], ⟨zc, zc', rfl, e2, g2⟩, g3, g4⟩
      · cases h
    · cases h
  | st p ih => intro cs r d zs hr hf h; exact ih _ _ _ _ hr hf h
  | arr n e _ => intro cs r d zs hr hf h; cases h
  | int k => intro cs r d zs hr hf h; obtain ⟨z, zr, e1, e2, e3⟩ := one _ cs r d zs hr hf (by cases cs <;> exact h); exact ⟨[z], zr, e1, e2, e3⟩
  | bool => intro cs r d zs hr hf h; obtain ⟨z, zr, e1, e2, e3⟩ := one _ cs r d zs hr hf (by cases cs <;> exact h); exact ⟨[z], zr, e1, e2, e3⟩
  | str => intro cs r d zs hr hf h; obtain ⟨z, zr, e1, e2, e3⟩ := one _ cs r d zs hr hf (by cases cs <;> exact h); exact ⟨[z], zr, e1, e2, e3⟩
  | sl e _ => intro cs r d zs hr hf h; obtain ⟨z, zr, e1, e2, e3⟩ := one _ cs r d zs hr hf (by cases cs <;> exact h); exact ⟨[z], zr, e1, e2, e3⟩

theorem lendable_agg : ∀ {cs : List V}, Lendable φ o imm' (.agg cs) → ∀ c, c ∈ cs → Lendable φ o imm' c
  | c' :: cs, h, c, hc, id, hi => by
    rcases List.mem_cons.1 hc with rfl | hc
    · exact h id (by unfold lentV lentL; exact List.mem_append_left _ hi)
    · exact lendable_agg (cs := cs) (fun id hi => h id (by unfold lentV at hi ⊢; unfold lentL; exact List.mem_append_right _ hi)) c hc id hi

theorem asDs_relG (hl : ∀ id, relObj φ o imm w id (o id)) (hi : ∀ b, imm b → imm' b) {t : Ty} {x : V} {d : den t} {z : Value} (hx : relVal φ o imm w x z) (hf : Lendable φ o imm' x) (h : asDs lf o t x = some d) :
    relV imm' w t d z := by
  by_cases hc : ∃ cs, x = .agg cs
  · obtain ⟨cs, rfl⟩ := hc
    simp only [asDs] at h
    split at h
    · rename_i p
      split at h
      · rename_i y h1
        injection h with h; subst h
        obtain ⟨c, rfl, hr⟩ := hx
        obtain ⟨zc, zr, e1, e2, e3, _⟩ := paC_relG hl hi _ _ _ _ _ hr (lendable_agg hf) h1
        have : zr = [] := e3
        subst this
        exact ⟨c, rfl, by rw [e1, List.append_nil]; exact e2⟩
      · cases h
    · cases h
  · have : asDs lf o t x = asD lf o t x := by
      cases x <;> first | rfl | exact absurd ⟨_, rfl⟩ hc
    exact asD_relG hl hi hx hf (this ▸ h)

/-! A state that was packed. -/
structure Packed (o : Nat → Obj) (psF : PS) (k : Nat) (objs : List OSh) (oc : Nat → Obj) : Prop where
  fin : finOk k psF = true
  len : objs.length = k
  ob : ∀ i sh, objs[i]? = some sh → ObOk o psF i sh (oc i)
  none : ∀ i, k ≤ i → oc i = .none

def oldOf (psF : PS) (i : Nat) : Nat := (assoc i psF.ren).getD 0

theorem Packed.ren {psF : PS} {k : Nat} {objs : List OSh} {oc : Nat → Obj} (h : Packed o psF k objs oc) {i old : Nat} (hp : (i, old) ∈ psF.ren) : i < k ∧ oldOf psF i = old ∧ rassoc old psF.ren = some i := by
  have hf := h.fin
  unfold finOk at hf
  simp only [Bool.and_eq_true] at hf
  obtain ⟨h1, h2, h3⟩ := renOk_spec hf.1.1.1 _ hp
  exact ⟨h1, by unfold oldOf; rw [h2]; rfl, h3⟩

theorem Packed.lent {psF : PS} {k : Nat} {objs : List OSh} {oc : Nat → Obj} (h : Packed o psF k objs oc) {i old : Nat} (hp : (i, old) ∈ psF.ren) : old ∉ psF.lent := fun hl => by
  have hf := h.fin
  unfold finOk at hf
  simp only [Bool.and_eq_true] at hf
  exact apartL_spec hf.2 old hl i hp

theorem Packed.cut {psF : PS} {k : Nat} {objs : List OSh} {oc : Nat → Obj} (h : Packed o psF k objs oc) {id n : Nat} (hp : (id, n) ∈ psF.cut) : assoc id psF.cut = some n := by
  have hf := h.fin
  unfold finOk at hf
  simp only [Bool.and_eq_true] at hf
  exact cutOk_spec hf.1.1.2 _ hp

theorem Packed.full {psF : PS} {k : Nat} {objs : List OSh} {oc : Nat → Obj} (h : Packed o psF k objs oc) {id : Nat} (hp : id ∈ psF.full) : assoc id psF.cut = .none := by
  have hf := h.fin
  unfold finOk at hf
  simp only [Bool.and_eq_true] at hf
  exact fullOk_spec hf.1.2 _ hp

noncomputable def cutS {t : Ty} (s : Sl (den t)) : Option Nat → Sl (den t)
  | some n => ⟨s.nil, lf.takeL s.l n⟩
  | none => s

/-- What kind of object was packed. -/
theorem Packed.kind {psF : PS} {k : Nat} {objs : List OSh} {oc : Nat → Obj} (h : Packed o psF k objs oc) {i : Nat} (hi : i < k) : oc i = .dead ∨ ∃ old, (i, old) ∈ psF.ren ∧
    ((∃ l cs psa psb f r c, o old = .box cs ∧ paL lf o l cs psa = some (psb, f) ∧ Mono psb psF ∧ oc i = .box (fillL id0 ka0 l r (f r c)).1) ∨
     (∃ t ver s, o old = .vec t ver false s ∧ oc i = .vec t 0 false (cutS s (assoc old psF.cut))) ∨
     (∃ k v m, o old = .map k v m ∧ oc i = .map k v m) ∨ (∃ l p, o old = .iter l p ∧ oc i = .iter l p)) := by
  have hi' : i < objs.length := by rw [h.len]; exact hi
  rcases h.ob i _ (List.getElem?_eq_getElem hi') with ⟨_, h1⟩ | ⟨old, psa, psb, f, h1, h2, h3, r, c, h4⟩
  · exact .inl h1
  · generalize hsh : objs[i] = sh at *
    cases sh with
    | gone => exact .inl h4
    | box l =>
      have h2 : (match o old with | .box cs => paL lf o l cs psa | _ => .none) = some (psb, f) := h2
      cases e : o old <;> rw [e] at h2 <;> try (cases h2; done)
      exact .inr ⟨old, h1, .inl ⟨l, _, psa, psb, f, r, c, e, h2, h3, h4⟩⟩
    | vec t =>
      simp only [paO] at h2
      cases e : o old <;> rw [e] at h2 <;> try (cases h2; done)
      rename_i t' ver fr s
      cases fr <;> try (cases h2; done)
      simp only at h2
      split at h2
      · rename_i s' hs
        obtain ⟨ht, hs⟩ := asTy_some hs
        injection ht with ht
        subst ht
        subst hs
        refine .inr ⟨old, h1, .inr (.inl ⟨t', ver, _, e, ?_⟩)⟩
        split at h2
        · rename_i n hn
          injection h2 with h2; injection h2 with h5 h6; subst h5 h6
          rw [h4, h.cut (h3.cut _ (assoc_mem hn))]
          rfl
        · injection h2 with h2; injection h2 with h5 h6; subst h5 h6
          rw [h4, h.full (h3.full _ (List.mem_cons_self ..))]
          rfl
      · cases h2
    | map kt vt =>
      simp only [paO] at h2
      cases e : o old <;> rw [e] at h2 <;> try (cases h2; done)
      rename_i k' v' m
      simp only at h2
      split at h2
      · rename_i m' hs
        obtain ⟨ht, hs⟩ := asTy_some hs
        injection ht with _ ht
        injection ht with ht1 ht2
        subst ht1 ht2
        subst hs
        injection h2 with h2; injection h2 with h5 h6; subst h5 h6
        exact .inr ⟨old, h1, .inr (.inr (.inl ⟨_, _, _, e, h4⟩))⟩
      · cases h2
    | iter =>
      simp only [paO] at h2
      cases e : o old <;> rw [e] at h2 <;> try (cases h2; done)
      injection h2 with h2; injection h2 with h5 h6; subst h5 h6
      exact .inr ⟨old, h1, .inr (.inr (.inr ⟨_, _, e, h4⟩))⟩
end
end Ev


namespace Ev
open Go

section
variable {C : Cx} {X : Nat → Prop} {φ : Nat → Addr} {o oc : Nat → Obj} {w : World} {psF : PS} {k : Nat} {objs : List OSh}

/-- The addresses of what was packed; and the blocks of others. -/
def phC (φ : Nat → Addr) (psF : PS) : Nat → Addr := fun i => φ (oldOf psF i)
def XC (X : Nat → Prop) (φ : Nat → Addr) (o oc : Nat → Obj) (psF : PS) (b : Nat) : Prop :=
  X b ∨ ∃ id, excl (φ id) (o id) = true ∧ (φ id).block = b ∧ id ∉ psF.lent ∧ ¬ ∃ i, excl (phC φ psF i) (oc i) = true ∧ oldOf psF i = id

theorem Packed.exc (h : Packed o psF k objs oc) {i : Nat} (hx : excl (phC φ psF i) (oc i) = true) : i < k ∧ (i, oldOf psF i) ∈ psF.ren ∧ excl (φ (oldOf psF i)) (o (oldOf psF i)) = true := by
  have hi : i < k := Classical.byContradiction fun hn => by rw [h.none i (by omega)] at hx; exact excl_none hx
  rcases h.kind hi with h1 | ⟨old, h1, h2⟩
  · rw [h1] at hx; simp [excl, live] at hx
  · have := (h.ren h1).2.1
    unfold phC at hx
    rw [this] at hx ⊢
    refine ⟨hi, h1, ?_⟩
    rcases h2 with ⟨l, cs, psa, psb, f, r, c, e, _⟩ | ⟨t, ver, s, e, e'⟩ | ⟨_, _, m, e, _⟩ | ⟨_, _, e, _⟩
    · rw [e]; rfl
    · rw [e'] at hx
      obtain ⟨hn, _, hs⟩ := excl_spot hx
      have hn : s.nil = false := by
        cases hc : assoc old psF.cut <;> rw [hc] at hn <;> simpa [cutS] using hn
      rw [e]; exact excl_vec hn hs
    · rw [e]; rfl
    · rw [e]; rfl

theorem Packed.ownedSub (h : Packed o psF k objs oc) {b : Nat} (hb : owned (phC φ psF) oc b) : owned φ o b := by
  obtain ⟨i, h1, h2⟩ := hb
  exact ⟨oldOf psF i, (h.exc h1).2.2, h2⟩

theorem Packed.imm (h : Packed o psF k objs oc) {b : Nat} (hb : immB X φ o w b) : immB (XC X φ o oc psF) (phC φ psF) oc w b := by
  obtain ⟨h1, h2, h3⟩ := hb
  refine ⟨h1, ?_, fun hn => h3 (h.ownedSub hn)⟩
  rintro (hx | ⟨id, e1, e2, _⟩)
  · exact h2 hx
  · exact h3 ⟨id, e1, e2⟩

theorem Packed.lends (h : Packed o psF k objs oc) (hm : MRel C X φ o w) {id : Nat} (hx : excl (φ id) (o id) = true) (hl : id ∈ psF.lent) : immB (XC X φ o oc psF) (phC φ psF) oc w (φ id).block := by
  obtain ⟨h1, h2⟩ := hm.sep id hx
  refine ⟨h1, ?_, fun ⟨i, e1, e2⟩ => ?_⟩
  · rintro (hx' | ⟨id', e1, e2, e3, _⟩)
    · exact h2 hx'
    · have := hm.inj id' id e1 hx e2
      exact e3 (this ▸ hl)
  · obtain ⟨_, g1, g2⟩ := h.exc e1
    have := hm.inj _ id g2 hx e2
    exact h.lent g1 (this ▸ hl)

def RelsS (φ : Nat → Addr) (o oc : Nat → Obj) (imm immC : Nat → Prop) (w : World) (psF : PS) (s : Sh) : Prop := ∀ v z ps ps' f, relVal φ o imm w v z → paS lf o s v ps = some (ps', f) → Mono ps' psF →
  ∀ r c, relVal (phC φ psF) oc immC w (fillS id0 ka0 s r (f r c)).1 z
def RelsL (φ : Nat → Addr) (o oc : Nat → Obj) (imm immC : Nat → Prop) (w : World) (psF : PS) (l : List Sh) : Prop := ∀ vs zs ps ps' f, relVs φ o imm w vs zs → paL lf o l vs ps = some (ps', f) → Mono ps' psF →
  ∀ r c, relVs (phC φ psF) oc immC w (fillL id0 ka0 l r (f r c)).1 zs

theorem kind_of (h : Packed o psF k objs oc) {i id : Nat} (hp : (i, id) ∈ psF.ren) : oc i = .dead ∨
    ((∃ cs cs', o id = .box cs ∧ oc i = .box cs') ∨ (∃ t ver s, o id = .vec t ver false s ∧ oc i = .vec t 0 false (cutS s (assoc id psF.cut))) ∨ (∃ k v m, o id = .map k v m ∧ oc i = .map k v m) ∨ (∃ l p, o id = .iter l p ∧ oc i = .iter l p)) ∧ phC φ psF i = φ id := by
  obtain ⟨h1, h2, _⟩ := h.ren hp
  rcases h.kind h1 with h3 | ⟨old, h3, h4⟩
  · exact .inl h3
  · have := (h.ren h3).2.1
    rw [h2] at this
    subst this
    refine .inr ⟨?_, by unfold phC; rw [h2]⟩
    rcases h4 with ⟨l, cs, psa, psb, f, r, c, e, _, _, e'⟩ | h4 | h4 | h4
    · exact .inl ⟨cs, _, e, e'⟩
    · exact .inr (.inl h4)
    · exact .inr (.inr (.inl h4))
    · exact .inr (.inr (.inr h4))

theorem lentL_mem : ∀ {cs : List V} {q : V} {id : Nat}, q ∈ cs → id ∈ lentV o q → id ∈ lentL o cs
  | c :: cs, q, id, hq, hi => by
    unfold lentL
    rcases List.mem_cons.1 hq with rfl | hq
    · exact List.mem_append_left _ hi
    · exact List.mem_append_right _ (lentL_mem hq hi)

theorem rels_ref (hm : MRel C X φ o w) (h : Packed o psF k objs oc) (t : Ty) : RelsS φ o oc (immB X φ o w) (immB (XC X φ o oc psF) (phC φ psF) oc w) w psF (.ref t) := by
  intro v z ps ps' f hv hp hM r c
  obtain ⟨_, x, rfl, hx⟩ := paRef_mono (o := o) hp
  show relVal (phC φ psF) oc _ w (.ref t x) z
  rcases hx with ⟨rfl, rfl⟩ | ⟨id, rfl, hb, rfl⟩
  · obtain ⟨a, cs, h1, h2, h3, h4, h5⟩ := hv
    exact ⟨a, cs, h1, h2, h.imm h3, relC_mono (fun b hb => h.imm hb) (fun _ _ => rfl) _ _ _ h4, h5⟩
  · unfold boxD at hb
    split at hb
    · rename_i cs e
      split at hb
      · rename_i y hy
        injection hb with hb; subst hb
        have hex : excl (φ id) (o id) = true := by rw [e]; rfl
        have hlid : id ∈ psF.lent := hM.lent _ (List.mem_cons_self ..)
        have ho := hm.objs id
        unfold relVal at hv
        rw [e] at hv ho
        simp only at hv
        subst hv
        obtain ⟨h0, cz, el, lo, hi', g1, g2, g3⟩ := ho
        have hfz : ∀ q, q ∈ cs → Lendable φ o (immB (XC X φ o oc psF) (phC φ psF) oc w) q := by
          intro q hq id' hi t ver s e' hn hs
          refine h.lends hm (by rw [e']; exact excl_vec hn hs) (hM.lent _ (List.mem_cons_of_mem _ (List.mem_append_left _ ?_)))
          unfold lentB
          rw [e]
          exact lentL_mem hq hi
        obtain ⟨zc, zr, a1, a2, a3, _⟩ := paC_relG hm.objs (fun b hb => h.imm hb) _ _ _ _ _ g3 hfz hy
        have : zr = [] := a3
        subst this
        refine ⟨_, zc, rfl, rfl, h.lends hm hex hlid, a2, ?_⟩
        have := cellsAt_block g1 0 cz.size
        rw [List.drop_zero, a1, List.append_nil] at this
        have hlz : zc.length = cz.size := by rw [← Array.length_toList, a1, List.append_nil]
        rw [← hlz, List.take_length] at this
        rw [h0, Nat.zero_add]
        exact this
      · cases hb
    · cases hb

theorem rels (hm : MRel C X φ o w) (h : Packed o psF k objs oc) (s : Sh) : RelsS φ o oc (immB X φ o w) (immB (XC X φ o oc psF) (phC φ psF) oc w) w psF s := by
  refine Sh.rec (motive_1 := RelsS φ o oc (immB X φ o w) (immB (XC X φ o oc psF) (phC φ psF) oc w) w psF) (motive_2 := RelsL φ o oc (immB X φ o w) (immB (XC X φ o oc psF) (phC φ psF) oc w) w psF)
    ?_ ?_ ?_ ?_ ?_ ?_ ?_ ?_ ?_ ?_ ?_ ?_ ?_ ?_ ?_ ?_ ?_ ?_ ?_ s
  · intro t v z ps ps' f hv hp hM r c
    obtain ⟨_, x, h1, rfl, rfl⟩ := paD_mono (o := o) hp
    refine asDs_relG hm.objs (fun b hb => h.imm hb) hv (fun id hi t ver s e hn hs => h.lends hm (by rw [e]; exact excl_vec hn hs) (hM.lent _ (List.mem_append_left _ hi))) h1
  · intro i v z ps ps' f hv hp hM r c
    replace hp : paOwn o i v ps = some (ps', f) := hp
    unfold paOwn at hp
    show relVal (phC φ psF) oc _ w (.osl i 0) z
    split at hp
    · rename_i id ver
      split at hp
      · rename_i t ver' s e
        obtain ⟨hb, rfl, rfl⟩ := takeIf_some hp
        have hr := hM.ren _ (List.mem_cons_self ..)
        have hfull := h.full (hM.full _ (List.mem_cons_self ..))
        unfold relVal at hv ⊢
        rw [e] at hv
        replace hv := hv.2 (Nat.eq_of_beq_eq_true hb)
        rcases kind_of (φ := φ) h hr with hd | ⟨⟨cs, cs', e1, _⟩ | ⟨t', ver2, s', e1, e2⟩ | ⟨_, _, m, e1, _⟩ | ⟨_, _, e1, e3⟩, hφ⟩
        · rw [hd]; trivial
        · rw [e1] at e; cases e
        · rw [e1] at e
          injection e with ea eb ec ed
          subst ea eb
          have ed := eq_of_heq ed
          subst ed
          rw [e2, hfull, hφ]
          exact ⟨Nat.le_refl _, fun _ => hv⟩
        · rw [e1] at e; cases e
        · rw [e1] at e; cases e
      · cases hp
    · rename_i id ver n cp
      split at hp
      · rename_i t ver' s e
        obtain ⟨hb, rfl, rfl⟩ := takeIf_some hp
        have hr := hM.ren _ (List.mem_cons_self ..)
        have hcut := h.cut (hM.cut _ (List.mem_cons_self ..))
        unfold relVal at hv ⊢
        rw [e] at hv
        obtain ⟨hn, hv2, _⟩ := hv.2 (Nat.eq_of_beq_eq_true hb)
        clear hv
        rcases kind_of (φ := φ) h hr with hd | ⟨⟨cs, cs', e1, _⟩ | ⟨t', ver2, s', e1, e2⟩ | ⟨_, _, m, e1, _⟩ | ⟨_, _, e1, e3⟩, hφ⟩
        · rw [hd]; trivial
        · rw [e1] at e; cases e
        · rw [e1] at e
          injection e with ea eb ec ed
          subst ea eb
          have ed := eq_of_heq ed
          subst ed
          rw [e2, hcut, hφ]
          have hl : (lf.takeL s'.l n).length = n := by simp [lf, takeL, Nat.min_eq_left hn]
          refine ⟨Nat.le_refl _, fun _ => ?_⟩
          simp only [cutS]
          rw [hl]
          exact hv2
        · rw [e1] at e; cases e
        · rw [e1] at e; cases e
      · cases hp
    · cases hp
  · intro i off v z ps ps' f hv hp hM r c
    replace hp : paPtr o i off v ps = some (ps', f) := hp
    unfold paPtr at hp
    show relVal (phC φ psF) oc _ w (.ptr i off) z
    split at hp
    · rename_i id off'
      unfold relVal at hv ⊢
      split at hp
      · rename_i cs0 e
        obtain ⟨hb, rfl, rfl⟩ := takeIf_some hp
        have hr := hM.ren _ (List.mem_cons_self ..)
        have := Nat.eq_of_beq_eq_true hb
        subst this
        rw [e] at hv
        rcases kind_of (φ := φ) h hr with hd | ⟨⟨cs, cs', e1, e2⟩ | ⟨t', ver2, s', e1, e2⟩ | ⟨_, _, m, e1, _⟩ | ⟨_, _, e1, e3⟩, hφ⟩
        · rw [hd]; trivial
        · rw [e2, hφ]; exact hv
        · rw [e1] at e; cases e
        · rw [e1] at e; cases e
        · rw [e1] at e; cases e
      · rename_i t ver' s e
        obtain ⟨hb, rfl, rfl⟩ := takeIf_some hp
        rw [Bool.and_eq_true] at hb
        have hr := hM.ren _ (List.mem_cons_self ..)
        have := Nat.eq_of_beq_eq_true hb.1
        subst this
        rw [e] at hv
        replace hv := hv (Nat.eq_of_beq_eq_true hb.2).symm
        rcases kind_of (φ := φ) h hr with hd | ⟨⟨cs, cs', e1, e2⟩ | ⟨t', ver2, s', e1, e2⟩ | ⟨_, _, m, e1, _⟩ | ⟨_, _, e1, e3⟩, hφ⟩
        · rw [hd]; trivial
        · rw [e1] at e; cases e
        · rw [e2, hφ]; exact fun _ => hv
        · rw [e1] at e; cases e
        · rw [e1] at e; cases e
      · cases hp
    · cases hp
  · exact fun t => rels_ref hm h t
  · intro v z ps ps' f hv hp hM r c
    obtain ⟨hb, _, rfl⟩ := takeIf_some hp
    have : v = .nilp := by cases v <;> first | rfl | cases hb
    subst this; exact hv
  · intro g l ih v z ps ps' f hv hp hM r c
    obtain ⟨l', rfl, hp'⟩ := paS_fn hp
    obtain ⟨cz, h1, h2⟩ := hv
    exact ⟨cz, h1, ih _ _ _ _ _ h2 hp' hM r c⟩
  · intro v z ps ps' f hv hp hM r c
    obtain ⟨hb, _, rfl⟩ := takeIf_some hp
    have : v = .nilf := by cases v <;> first | rfl | cases hb
    subst this; exact hv
  · intro l ih v z ps ps' f hv hp hM r c
    obtain ⟨l', rfl, hp'⟩ := paS_tup hp
    obtain ⟨cz, h1, h2⟩ := hv
    exact ⟨cz, h1, ih _ _ _ _ _ h2 hp' hM r c⟩
  · intro l ih v z ps ps' f hv hp hM r c
    obtain ⟨l', rfl, hp'⟩ := paS_agg hp
    obtain ⟨cz, h1, h2⟩ := hv
    exact ⟨cz, h1, ih _ _ _ _ _ h2 hp' hM r c⟩
  · intro i v z ps ps' f hv hp hM r c
    replace hp : paMp o i v ps = some (ps', f) := hp
    unfold paMp at hp
    show relVal (phC φ psF) oc _ w (.mp i) z
    split at hp
    · rename_i id
      unfold relVal at hv ⊢
      split at hp
      · rename_i e
        injection hp with hp; injection hp with h1 h2; subst h1 h2
        have hr := hM.ren _ (List.mem_cons_self ..)
        rw [e] at hv
        rcases kind_of (φ := φ) h hr with hd | ⟨⟨cs, cs', e1, e2⟩ | ⟨t', ver2, s', e1, e2⟩ | ⟨_, _, m, e1, e2⟩ | ⟨_, _, e1, e3⟩, hφ⟩
        · rw [hd]; trivial
        · rw [e1] at e; cases e
        · rw [e1] at e; cases e
        · rw [e2, hφ]; exact hv
        · rw [e1] at e; cases e
      · cases hp
    · cases hp
  · intro v z ps ps' f hv hp hM r c
    obtain ⟨hb, _, rfl⟩ := takeIf_some hp
    have : v = .nilm := by cases v <;> first | rfl | cases hb
    subst this; exact hv
  · intro v z ps ps' f hv hp hM r c
    obtain ⟨hb, _, rfl⟩ := takeIf_some hp
    have : v = .nili := by cases v <;> first | rfl | cases hb
    subst this; exact hv
  · intro v z ps ps' f hv hp hM r c
    exact trivial
  · intro i v z ps ps' f hv hp hM r c
    replace hp : paSlf o i v ps = some (ps', f) := hp
    obtain ⟨id, b, cs, rfl, e, rfl, rfl⟩ := paSlf_mono hp
    have hr := hM.ren _ (List.mem_cons_self ..)
    show relVal (phC φ psF) oc _ w (.slf i b) z
    unfold relVal at hv ⊢
    rw [e] at hv
    rcases kind_of (φ := φ) h hr with hd | ⟨⟨cs, cs', e1, e2⟩ | ⟨t', ver2, s', e1, e2⟩ | ⟨_, _, m, e1, e2⟩ | ⟨_, _, e1, e3⟩, hφ⟩
    · rw [hd]; trivial
    · rw [e2, hφ]; exact hv
    · rw [e1] at e; cases e
    · rw [e1] at e; cases e
    · rw [e1] at e; cases e
  · intro i v z ps ps' f hv hp hM r c
    replace hp : paSuf o i v ps = some (ps', f) := hp
    obtain ⟨id, ver, lo, t, s, rfl, e, rfl, rfl⟩ := paSuf_mono hp
    have hr := hM.ren _ (List.mem_cons_self ..)
    have hcut := h.full (hM.full _ (List.mem_cons_self ..))
    show relVal (phC φ psF) oc _ w (.suf i 0 lo) z
    unfold relVal at hv ⊢
    rw [e] at hv
    replace hv := hv.2 rfl
    rcases kind_of (φ := φ) h hr with hd | ⟨⟨cs, cs', e1, e2⟩ | ⟨t', ver2, s', e1, e2⟩ | ⟨_, _, m, e1, e2⟩ | ⟨_, _, e1, e3⟩, hφ⟩
    · rw [hd]; trivial
    · rw [e1] at e; cases e
    · rw [e1] at e
      injection e with ea eb ec ed
      subst ea eb
      have ed := eq_of_heq ed
      subst ed
      rw [e2, hcut, hφ]
      exact ⟨Nat.le_refl _, fun _ => hv⟩
    · rw [e1] at e; cases e
    · rw [e1] at e; cases e
  · intro i v z ps ps' f hv hp hM r c
    replace hp : paIt o i v ps = some (ps', f) := hp
    unfold paIt at hp
    show relVal (phC φ psF) oc _ w (.it i) z
    split at hp
    · rename_i id
      unfold relVal at hv ⊢
      split at hp
      · rename_i e
        injection hp with hp; injection hp with h1 h2; subst h1 h2
        have hr := hM.ren _ (List.mem_cons_self ..)
        rw [e] at hv
        rcases kind_of (φ := φ) h hr with hd | ⟨⟨cs, cs', e1, e2⟩ | ⟨t', ver2, s', e1, e2⟩ | ⟨_, _, m, e1, e2⟩ | ⟨_, _, e1, e3⟩, hφ⟩
        · rw [hd]; trivial
        · rw [e1] at e; cases e
        · rw [e1] at e; cases e
        · rw [e1] at e; cases e
        · rw [e3, hφ]; exact hv
      · cases hp
    · cases hp
  · intro a v z ps ps' f hv hp hM r c
    replace hp : paFa lf o a v ps = some (ps', f) := hp
    rcases paFa_mono (o := o) hp with ⟨k, n, rfl, rfl, rfl⟩ | ⟨rfl, rfl, rfl⟩ | ⟨g, i, rfl, e, rfl, rfl⟩ | ⟨g, i, x, p, rfl, e, h2, rfl⟩
    · show relFa _ w a k n z
      exact relFa_imp (fun q ⟨b, cs, h1, h2, h3, h4, h5⟩ => ⟨b, cs, h1, h2, h.imm h3, relC_mono (fun b hb => h.imm hb) (fun _ _ => rfl) (.int .i64) n cs h4, h5⟩) a k z hv
    · show relFa _ w a _ _ z
      replace hv : z = .nilFunc := hv
      subst hv
      exact relFa_nil a
    · obtain ⟨cz, h1, h2⟩ := hv
      have h2 : cz.toList = [] := h2
      have hz : z = .func (.func g) #[] #[] := by rw [h1, show cz = #[] from Array.toList_eq_nil_iff.1 h2]
      obtain ⟨j, e1, e2⟩ := relFa_of (c := false) hz a 0 i e
      rw [Nat.zero_add] at e1
      subst e1
      exact e2
    · obtain ⟨cz, h1, y, r', e3, hy, e4⟩ := hv
      have e4 : r' = [] := e4
      subst e4
      have hz : z = .func (.func g) #[] #[y] := by rw [h1, show cz = #[y] from Array.toList_inj.1 e3]
      have key : relVal (phC φ psF) oc _ w (fillS id0 ka0 (.ref (.int .i64)) r (p r c)).1 y := rels_ref hm h (.int .i64) x y _ _ _ hy h2 hM r c
      obtain ⟨j, e1, e2⟩ := relFa_of (c := true) (n := (p r c).1) ⟨y, hz, key⟩ a 0 i e
      rw [Nat.zero_add] at e1
      subst e1
      exact e2
  · intro vs zs ps ps' f hv hp hM r c
    obtain ⟨rfl, _, rfl⟩ := paL_nil hp
    exact hv
  · intro s l ih1 ih2 vs zs ps ps' f hv hp hM r c
    obtain ⟨v, vs', ps1, f1, g1, rfl, h1, h2, rfl⟩ := paL_cons hp
    obtain ⟨z, zr, e, r1, r2⟩ := hv
    have hM1 := (takesL l _ _ _ _ h2).1.trans hM
    have a1 := ih1 _ _ _ _ _ r1 h1 hM1 _ (g1 r c)
    have e2 : (fillS id0 ka0 s (tyL l r) (f1 (tyL l r) (g1 r c))).2 = g1 r c := (takes s _ _ _ _ h1).2 _ _ _ _
    refine ⟨z, zr, e, a1, ?_⟩
    show relVs _ _ _ _ (fillL id0 ka0 l r (fillS id0 ka0 s (tyL l r) (f1 (tyL l r) (g1 r c))).2).1 zr
    rw [e2]
    exact ih2 _ _ _ _ _ r2 h2 hM r c

theorem relsL (hm : MRel C X φ o w) (h : Packed o psF k objs oc) : ∀ l, RelsL φ o oc (immB X φ o w) (immB (XC X φ o oc psF) (phC φ psF) oc w) w psF l
  | [] => by
    intro vs zs ps ps' f hv hp hM r c
    obtain ⟨rfl, _, rfl⟩ := paL_nil hp
    exact hv
  | s :: l => by
    intro vs zs ps ps' f hv hp hM r c
    obtain ⟨v, vs', ps1, f1, g1, rfl, h1, h2, rfl⟩ := paL_cons hp
    obtain ⟨z, zr, e, r1, r2⟩ := hv
    have hM1 := (takesL l _ _ _ _ h2).1.trans hM
    have a1 := rels hm h s _ _ _ _ _ r1 h1 hM1 _ (g1 r c)
    have e2 : (fillS id0 ka0 s (tyL l r) (f1 (tyL l r) (g1 r c))).2 = g1 r c := (takes s _ _ _ _ h1).2 _ _ _ _
    refine ⟨z, zr, e, a1, ?_⟩
    show relVs _ _ _ _ (fillL id0 ka0 l r (fillS id0 ka0 s (tyL l r) (f1 (tyL l r) (g1 r c))).2).1 zr
    rw [e2]
    exact relsL hm h l _ _ _ _ _ r2 h2 hM r c

theorem paL_slf {l : List Sh} {cs : List V} {ps ps' : PS} {f : ∀ r, denP r → denP (tyL l r)} (h : paL lf o l cs ps = some (ps', f)) {r : List Ty} {q : denP (tyL l r)} (hs : isSlf (fillL id0 ka0 l r q).1 = true) : isSlf cs = true := by
  cases l with
  | nil => cases hs
  | cons s l =>
    obtain ⟨v, vs', ps1, f1, g1, rfl, h1, h2, rfl⟩ := paL_cons h
    have hs : isSlf ((fillS id0 ka0 s (tyL l r) q).1 :: (fillL id0 ka0 l r (fillS id0 ka0 s (tyL l r) q).2).1) = true := hs
    cases s with
    | slf i =>
      obtain ⟨id, b, cs, rfl, _⟩ := paSlf_mono (o := o) (show paSlf o i v ps = some (ps1, f1) from h1)
      rfl
    | _ => cases hs

theorem Packed.mem (hm : MRel C X φ o w) (h : Packed o psF k objs oc) : MRel C (XC X φ o oc psF) (phC φ psF) oc w := by
  have hi : ∀ b, immB X φ o w b → immB (XC X φ o oc psF) (phC φ psF) oc w b := fun b hb => h.imm hb
  refine ⟨fun i => ?_, fun i j hxi hxj e => ?_, fun i hx => ?_, fun b hb => ?_, fun i => ?_, fun g t x hg => ?_⟩
  · by_cases hik : i < k
    · rcases h.kind hik with hd | ⟨old, h1, h2⟩
      · rw [hd]; trivial
      · have hφ : phC φ psF i = φ old := by unfold phC; rw [(h.ren h1).2.1]
        have ho := hm.objs old
        rcases h2 with ⟨l, cs, psa, psb, f, r, c, e, hp, hM, e'⟩ | ⟨t, ver, s, e, e'⟩ | ⟨_, _, m, e, e'⟩ | ⟨_, _, e, e'⟩
        · rw [e] at ho
          rw [e']
          obtain ⟨h3, cz, el, lo, hi', h4, h5, h6⟩ := ho
          exact ⟨by rw [hφ]; exact h3, cz, el, lo, hi', by rw [hφ]; exact h4, h5, relsL hm h l _ _ _ _ _ h6 hp hM r c⟩
        · rw [e] at ho
          rw [e']
          obtain ⟨h3, h4, h5⟩ := ho
          cases hc : assoc old psF.cut with
          | none =>
            refine ⟨h3, h4, fun hn => ?_⟩
            rw [hφ]
            refine (h5 hn).imp (fun ⟨g1, ec, g2, g3, g4, g5, g6⟩ => ?_) fun g => g
            exact ⟨g1, ec, relR_mono (relC_mono hi (fun _ _ => rfl) t) g2, g3, g4, g5, by simp⟩
          | some n =>
            have hle : (lf.takeL s.l n).length ≤ s.l.length := by simp [lf, takeL]; omega
            refine ⟨by show (lf.takeL s.l n).length ≤ maxL; omega, fun hn => ?_, fun hn => ?_⟩
            · show s.l.take n = []
              rw [h4 hn]; simp
            · rw [hφ]
              refine (h5 hn).imp (fun ⟨g1, ec, g2, g3, g4, g5, g6⟩ => ?_) fun g => ⟨g.1, (by show s.l.take n = []; rw [g.2.1]; simp), g.2.2⟩
              have hlen := relR_len g2
              have hmin : min n s.l.length ≤ s.l.length := Nat.min_le_right _ _
              have hsp := (relR_split (min n s.l.length) hmin g2).1
              have htk : s.l.take (min n s.l.length) = s.l.take n := by
                rcases Nat.le_total n s.l.length with h | h
                · rw [Nat.min_eq_left h]
                · rw [Nat.min_eq_right h, List.take_length, List.take_of_length_le h]
              rw [htk] at hsp
              refine ⟨g1, ec.take (min n s.l.length * csz t), relR_mono (relC_mono hi (fun _ _ => rfl) t) hsp, cellsAt_take _ g3, g4, fun _ => ?_, by simp⟩
              obtain ⟨cz, el, lo, hi', k1, k2, k3⟩ := g5 rfl
              have hl2 : (lf.takeL s.l n).length * csz t ≤ s.l.length * csz t := Nat.mul_le_mul_right _ hle
              exact ⟨cz, el, lo, hi', k1, by show _ + (lf.takeL s.l n).length * csz t ≤ _; omega, by show hi' ≤ lo ∨ hi' ≤ _ ∨ _ + (lf.takeL s.l n).length * csz t ≤ lo; omega⟩
        · rw [e] at ho
          rw [e']
          obtain ⟨es, clock, h3, h4⟩ := ho
          exact ⟨es, clock, by rw [hφ]; exact h3, relEs_mono (relV_mono hi (fun _ _ => rfl) _) (relV_mono hi (fun _ _ => rfl) _) h4⟩
        · rw [e] at ho
          rw [e']
          obtain ⟨s, n, h3, h4⟩ := ho
          exact ⟨s, n, by rw [hφ]; exact h3, h4⟩
    · rw [h.none i (by omega)]; trivial
  · obtain ⟨_, a1, a2⟩ := h.exc hxi
    obtain ⟨_, b1, b2⟩ := h.exc hxj
    have := hm.inj _ _ a2 b2 e
    have ra := (h.ren a1).2.2
    have rb := (h.ren b1).2.2
    rw [this, rb] at ra
    injection ra with ra
    exact ra.symm
  · obtain ⟨_, a1, a2⟩ := h.exc hx
    obtain ⟨s1, s2⟩ := hm.sep _ a2
    refine ⟨s1, ?_⟩
    rintro (hx' | ⟨id, e1, e2, _, e4⟩)
    · exact s2 hx'
    · have := hm.inj _ _ e1 a2 e2
      exact e4 ⟨i, hx, this.symm⟩
  · rcases hb with hb | ⟨id, e1, e2, _⟩
    · exact hm.xs b hb
    · exact e2 ▸ (hm.sep id e1).1
  · by_cases hik : i < k
    · rcases h.kind hik with hd | ⟨old, h1, h2⟩
      · rw [hd]; trivial
      · have hφ : phC φ psF i = φ old := by unfold phC; rw [(h.ren h1).2.1]
        have he := hm.els old
        rcases h2 with ⟨l, cs, psa, psb, f, r, c, e, hp, hM, e'⟩ | ⟨t, ver, s, e, e'⟩ | ⟨_, _, m, e, e'⟩ | ⟨_, _, e, e'⟩
        · rw [e] at he
          rw [e', hφ]
          exact fun hs => he (paL_slf hp hs)
        · rw [e] at he
          rw [e', hφ]
          refine fun ht hn => he ht ?_
          cases hc : assoc old psF.cut <;> rw [hc] at hn <;> exact hn
        · rw [e']; trivial
        · rw [e']; trivial
    · rw [h.none i (by omega)]; trivial
  · obtain ⟨a, cs, h1, h2, h3, h4, h5⟩ := hm.globs g t x hg
    exact ⟨a, cs, h1, h2, hi _ h3, relC_mono hi (fun _ _ => rfl) _ _ _ h4, h5⟩
end
end Ev


namespace Ev
open Go

/-! Reckoning at once changes nothing. -/
theorem sqN_eq {β : Type} (n : Nat) (k : Nat → β) : sqN n k = k n := by
  cases n <;> rfl

mutual
theorem sqV_eq {β : Type} : ∀ (v : V) (k : V → β), sqV v k = k v
  | .d t x, k => rfl
  | .osl id ver, k => by simp only [sqV, sqN_eq]
  | .pre id ver n c, k => by simp only [sqV, sqN_eq]
  | .ptr id off, k => by simp only [sqV, sqN_eq]
  | .eptr .., k => rfl
  | .ref .., k => rfl
  | .nilp, k => rfl
  | .fn f l, k => by simp only [sqV, sqN_eq, sqL_eq]
  | .nilf, k => rfl
  | .tup l, k => by simp only [sqV, sqL_eq]
  | .agg l, k => by simp only [sqV, sqL_eq]
  | .mp _, k => rfl
  | .nilm, k => rfl
  | .nili, k => rfl
  | .nils, k => rfl
  | .lb _, k => rfl
  | .undef, k => rfl
  | .junk, k => rfl
  | .slf id b, k => by simp only [sqV, sqN_eq]
  | .suf id ver lo, k => by simp only [sqV, sqN_eq]
  | .it _, k => rfl
  | .nxt .., k => rfl
  | .fa .., k => rfl
theorem sqL_eq {β : Type} : ∀ (l : List V) (k : List V → β), sqL l k = k l
  | [], k => rfl
  | v :: l, k => by simp only [sqL, sqV_eq, sqL_eq]
end

theorem sqO_eq {β : Type} (x : Obj) (k : Obj → β) : sqO x k = k x := by
  cases x <;> simp only [sqO, sqL_eq, sqN_eq]

theorem sqU_eq {β : Type} : ∀ (u : List (Nat × Obj)) (o : Nat → Obj) (k : (Nat → Obj) → β), sqU o u k = k (upds o u)
  | [], _, _ => rfl
  | (i, x) :: r, o, k => by simp only [sqU, sqN_eq, sqO_eq, sqU_eq r]; rfl

/-- What is new was not there. -/
theorem sqF_some {β : Type} {fr : Nat} : ∀ (u : List (Nat × Obj)) (o : Nat → Obj) (k : (Nat → Obj) → Option β) (y : β), sqF fr o u k = some y → k (upds o u) = some y ∧ Frees fr o u
  | [], o, k, y, h => ⟨h, (fun p hp => by cases hp)⟩
  | (i, x) :: r, o, k, y, h => by
    simp only [sqF, sqN_eq, sqO_eq] at h
    have next : ∀ (hfr : fr ≤ i → i < fr + 16 → o i = .none), sqF fr (upd o i x) r k = some y → k (upds o ((i, x) :: r)) = some y ∧ Frees fr o ((i, x) :: r) := by
      intro hfr h
      obtain ⟨h1, h2⟩ := sqF_some r _ _ _ h
      refine ⟨h1, fun p hp g1 g2 => ?_⟩
      rcases List.mem_cons.1 hp with rfl | hp
      · exact hfr g1 g2
      · by_cases e : p.1 = i
        · rw [e] at g1 g2 ⊢; exact hfr g1 g2
        · have := h2 p hp g1 g2
          rwa [upd_other e] at this
    cases hb : (Nat.ble fr i && Nat.blt i (fr + 16)) with
    | true =>
      rw [hb] at h
      simp only [cond_true] at h
      split at h
      · rename_i e; exact next (fun _ _ => e) h
      · cases h
    | false =>
      rw [hb] at h
      simp only [cond_false] at h
      refine next (fun g1 g2 => ?_) h
      have : (Nat.ble fr i && Nat.blt i (fr + 16)) = true := by
        rw [Bool.and_eq_true]; exact ⟨Nat.ble_eq ▸ g1, (Nat.ble_eq ▸ g2 : Nat.ble (i + 1) (fr + 16) = true)⟩
      rw [this] at hb; cases hb

mutual
theorem sqSh_eq {β : Type} : ∀ (s : Sh) (k : Sh → β), sqSh s k = k s
  | .d t, k => rfl
  | .osl id, k => by simp only [sqSh, sqN_eq]
  | .ptr id off, k => by simp only [sqSh, sqN_eq]
  | .ref t, k => rfl
  | .nilp, k => rfl
  | .fn f l, k => by simp only [sqSh, sqN_eq, sqShL_eq]
  | .nilf, k => rfl
  | .tup l, k => by simp only [sqSh, sqShL_eq]
  | .agg l, k => by simp only [sqSh, sqShL_eq]
  | .mp id, k => by simp only [sqSh, sqN_eq]
  | .it id, k => by simp only [sqSh, sqN_eq]
  | .nilm, k => rfl
  | .nili, k => rfl
  | .junk, k => rfl
  | .slf id, k => by simp only [sqSh, sqN_eq]
  | .suf id, k => by simp only [sqSh, sqN_eq]
  | .fa _, k => rfl
theorem sqShL_eq {β : Type} : ∀ (l : List Sh) (k : List Sh → β), sqShL l k = k l
  | [], k => rfl
  | v :: l, k => by simp only [sqShL, sqSh_eq, sqShL_eq]
end
theorem sqOSh_eq {β : Type} (s : OSh) (k : OSh → β) : sqOSh s k = k s := by
  cases s <;> simp only [sqOSh, sqShL_eq]
theorem sqOShL_eq {β : Type} : ∀ (l : List OSh) (k : List OSh → β), sqOShL l k = k l
  | [], _ => rfl
  | s :: l, k => by simp only [sqOShL, sqOSh_eq, sqOShL_eq l]

theorem shK_eq {β : Type} (sk : List Nat) (st : St) (ts : List Nat) (k : Shape → β) : shK sk st ts k = k (shapeOf sk st.obj (ts.map fun t => unlb (st.env t))) := by
  simp only [shK, sqShL_eq, sqOShL_eq]

/-- The state of a shape. -/
def stOf (sk ts : List Nat) (s : Shape) (c : denP s.tys) : St :=
  ⟨envOf ts (fill (skOf sk) ka0 s c).1, upds (fun _ => Obj.none) (fill (skOf sk) ka0 s c).2⟩

theorem stK_eq {β : Type} (sk ts : List Nat) (s : Shape) (c : denP s.tys) (k : St → β) : stK sk ts s c k = k (stOf sk ts s c) := by
  simp only [stK, sqL_eq, sqU_eq]; rfl

/-! What is packed, and filled again under other numbers. -/
section
variable {C : Cx} {X : Nat → Prop} {φ φ' : Nat → Addr} {o oc : Nat → Obj} {w : World} {imm : Nat → Prop} {ρ κ : Nat → Nat}

theorem fillS_snd (ρ κ ρ' κ' : Nat → Nat) (s : Sh) : ∀ r c, (fillS ρ κ s r c).2 = (fillS ρ' κ' s r c).2 := by
  refine Sh.rec (motive_1 := fun s => ∀ r c, (fillS ρ κ s r c).2 = (fillS ρ' κ' s r c).2) (motive_2 := fun l => ∀ r c, (fillL ρ κ l r c).2 = (fillL ρ' κ' l r c).2)
    ?_ ?_ ?_ ?_ ?_ ?_ ?_ ?_ ?_ ?_ ?_ ?_ ?_ ?_ ?_ ?_ ?_ ?_ ?_ s
  · exact fun t r c => rfl
  · exact fun i r c => rfl
  · exact fun i off r c => rfl
  · exact fun t r c => rfl
  · exact fun r c => rfl
  · exact fun f l ih r c => ih r c
  · exact fun r c => rfl
  · exact fun l ih r c => ih r c
  · exact fun l ih r c => ih r c
  · exact fun i r c => rfl
  · exact fun r c => rfl
  · exact fun r c => rfl
  · exact fun r c => rfl
  · exact fun i r c => rfl
  · exact fun i r c => rfl
  · exact fun i r c => rfl
  · exact fun a r c => rfl
  · exact fun r c => rfl
  · intro s l ih1 ih2 r c
    exact (congrArg (fun q => (fillL ρ κ l r q).2) (ih1 (tyL l r) c)).trans (ih2 r _)

theorem fillL_snd (ρ κ ρ' κ' : Nat → Nat) : ∀ (l : List Sh) r c, (fillL ρ κ l r c).2 = (fillL ρ' κ' l r c).2
  | [], _, _ => rfl
  | s :: l, r, c => by
    exact (congrArg (fun q => (fillL ρ κ l r q).2) (fillS_snd ρ κ ρ' κ' s (tyL l r) c)).trans (fillL_snd ρ κ ρ' κ' l r _)

/-- Objects that look the same to what speaks of them. -/
def Looks (κ : Nat) : Obj → Obj → Prop
  | .none, _ => True
  | .dead, .dead => True
  | .box _, .box _ => True
  | .vec t v f s, y => v = 0 ∧ y = .vec t κ f s
  | .map _ _ _, .map _ _ _ => True
  | .iter _ _, .iter _ _ => True
  | _, _ => False

theorem rens (hl : ∀ i, Looks (κ i) (oc i) (o (ρ i))) (hφ : ∀ i, oc i ≠ .none → oc i ≠ .dead → φ' (ρ i) = φ i) (s : Sh) : ∀ r c z, relVal φ oc imm w (fillS id0 ka0 s r c).1 z → relVal φ' o imm w (fillS ρ κ s r c).1 z := by
  refine Sh.rec (motive_1 := fun s => ∀ r c z, relVal φ oc imm w (fillS id0 ka0 s r c).1 z → relVal φ' o imm w (fillS ρ κ s r c).1 z)
    (motive_2 := fun l => ∀ r c zs, relVs φ oc imm w (fillL id0 ka0 l r c).1 zs → relVs φ' o imm w (fillL ρ κ l r c).1 zs)
    ?_ ?_ ?_ ?_ ?_ ?_ ?_ ?_ ?_ ?_ ?_ ?_ ?_ ?_ ?_ ?_ ?_ ?_ ?_ s
  · exact fun t r c z h => h
  · intro i r c z h
    replace h : relVal φ oc imm w (.osl i 0) z := h
    show relVal φ' o imm w (.osl (ρ i) (κ i)) z
    have h1 := hl i
    have h2 := hφ i
    unfold relVal at h ⊢
    cases e : oc i <;> rw [e] at h h1 h2
    · cases e2 : o (ρ i) <;> rw [e2] at h1 <;> first | exact h1.elim | trivial
    · rename_i t v fr s
      obtain ⟨hv, h1⟩ : v = 0 ∧ o (ρ i) = .vec t (κ i) fr s := h1
      subst hv
      rw [h1, h2 (by simp) (by simp)]
      exact ⟨Nat.le_refl _, fun _ => h.2 rfl⟩
    · cases e2 : o (ρ i) <;> rw [e2] at h1 <;> first | exact h1.elim | trivial
    · cases e2 : o (ρ i) <;> rw [e2] at h1 <;> first | exact h1.elim | trivial
    · exact h.elim
    · cases e2 : o (ρ i) <;> rw [e2] at h1 <;> first | exact h1.elim | trivial
  · intro i off r c z h
    replace h : relVal φ oc imm w (.ptr i off) z := h
    show relVal φ' o imm w (.ptr (ρ i) off) z
    have h1 := hl i
    have h2 := hφ i
    unfold relVal at h ⊢
    cases e : oc i <;> rw [e] at h h1 h2
    · cases e2 : o (ρ i) <;> rw [e2] at h1 <;> first | exact h1.elim | (rw [h2 (by simp) (by simp)]; exact h)
    · rename_i t v fr s
      obtain ⟨hv, h1⟩ : v = 0 ∧ o (ρ i) = .vec t (κ i) fr s := h1
      subst hv
      rw [h1, h2 (by simp) (by simp)]
      exact fun _ => h rfl
    · cases e2 : o (ρ i) <;> rw [e2] at h1 <;> first | exact h1.elim | (rw [h2 (by simp) (by simp)]; exact h)
    · cases e2 : o (ρ i) <;> rw [e2] at h1 <;> first | exact h1.elim | trivial
    · exact h.elim
    · cases e2 : o (ρ i) <;> rw [e2] at h1 <;> first | exact h1.elim | (rw [h2 (by simp) (by simp)]; exact h)
  · exact fun t r c z h => h
  · exact fun r c z h => h
  · exact fun f l ih r c z ⟨cz, h1, h2⟩ => ⟨cz, h1, ih _ _ _ h2⟩
  · exact fun r c z h => h
  · exact fun l ih r c z ⟨cz, h1, h2⟩ => ⟨cz, h1, ih _ _ _ h2⟩
  · exact fun l ih r c z ⟨cz, h1, h2⟩ => ⟨cz, h1, ih _ _ _ h2⟩
  · intro i r c z h
    replace h : relVal φ oc imm w (.mp i) z := h
    show relVal φ' o imm w (.mp (ρ i)) z
    have h1 := hl i
    have h2 := hφ i
    unfold relVal at h ⊢
    cases e : oc i <;> rw [e] at h h1 h2
    · cases e2 : o (ρ i) <;> rw [e2] at h1 <;> first | exact h1.elim | trivial
    · rename_i t v fr s
      obtain ⟨hv, h1⟩ : v = 0 ∧ o (ρ i) = .vec t (κ i) fr s := h1
      rw [h1]; trivial
    · cases e2 : o (ρ i) <;> rw [e2] at h1 <;> first | exact h1.elim | (rw [h2 (by simp) (by simp)]; exact h)
    · cases e2 : o (ρ i) <;> rw [e2] at h1 <;> first | exact h1.elim | trivial
    · exact h.elim
    · cases e2 : o (ρ i) <;> rw [e2] at h1 <;> first | exact h1.elim | trivial
  · exact fun r c z h => h
  · exact fun r c z h => h
  · exact fun r c z h => h
  · intro i r c z h
    replace h : relVal φ oc imm w (.slf i c.1) z := h
    show relVal φ' o imm w (.slf (ρ i) c.1) z
    have h1 := hl i
    have h2 := hφ i
    unfold relVal at h ⊢
    cases e : oc i <;> rw [e] at h h1 h2
    · cases e2 : o (ρ i) <;> rw [e2] at h1 <;> first | exact h1.elim | (rw [h2 (by simp) (by simp)]; exact h)
    · rename_i t v fr s
      obtain ⟨hv, h1⟩ : v = 0 ∧ o (ρ i) = .vec t (κ i) fr s := h1
      rw [h1]; trivial
    · cases e2 : o (ρ i) <;> rw [e2] at h1 <;> first | exact h1.elim | trivial
    · cases e2 : o (ρ i) <;> rw [e2] at h1 <;> first | exact h1.elim | trivial
    · exact h.elim
    · cases e2 : o (ρ i) <;> rw [e2] at h1 <;> first | exact h1.elim | trivial
  · intro i r c z h
    replace h : relVal φ oc imm w (.suf i 0 c.1) z := h
    show relVal φ' o imm w (.suf (ρ i) (κ i) c.1) z
    have h1 := hl i
    have h2 := hφ i
    unfold relVal at h ⊢
    cases e : oc i <;> rw [e] at h h1 h2
    · cases e2 : o (ρ i) <;> rw [e2] at h1 <;> first | exact h1.elim | trivial
    · rename_i t v fr s
      obtain ⟨hv, h1⟩ : v = 0 ∧ o (ρ i) = .vec t (κ i) fr s := h1
      subst hv
      rw [h1, h2 (by simp) (by simp)]
      exact ⟨Nat.le_refl _, fun _ => h.2 rfl⟩
    · cases e2 : o (ρ i) <;> rw [e2] at h1 <;> first | exact h1.elim | trivial
    · cases e2 : o (ρ i) <;> rw [e2] at h1 <;> first | exact h1.elim | trivial
    · exact h.elim
    · cases e2 : o (ρ i) <;> rw [e2] at h1 <;> first | exact h1.elim | trivial
  · intro i r c z h
    replace h : relVal φ oc imm w (.it i) z := h
    show relVal φ' o imm w (.it (ρ i)) z
    have h1 := hl i
    have h2 := hφ i
    unfold relVal at h ⊢
    cases e : oc i <;> rw [e] at h h1 h2
    · cases e2 : o (ρ i) <;> rw [e2] at h1 <;> first | exact h1.elim | trivial
    · rename_i t v fr s
      obtain ⟨hv, h1⟩ : v = 0 ∧ o (ρ i) = .vec t (κ i) fr s := h1
      rw [h1]; trivial
    · cases e2 : o (ρ i) <;> rw [e2] at h1 <;> first | exact h1.elim | trivial
    · cases e2 : o (ρ i) <;> rw [e2] at h1 <;> first | exact h1.elim | trivial
    · exact h.elim
    · cases e2 : o (ρ i) <;> rw [e2] at h1 <;> first | exact h1.elim | (rw [h2 (by simp) (by simp)]; exact h)
  · exact fun a r c z h => h
  · exact fun r c z h => h
  · intro s l ih1 ih2 r c zs ⟨z, zr, e, h1, h2⟩
    refine ⟨z, zr, e, ih1 _ _ _ h1, ?_⟩
    exact (congrArg (fun q => relVs φ' o imm w (fillL ρ κ l r q).1 zr) (fillS_snd ρ κ id0 ka0 s (tyL l r) c)).mpr (ih2 _ _ _ h2)

theorem rensL (hl : ∀ i, Looks (κ i) (oc i) (o (ρ i))) (hφ : ∀ i, oc i ≠ .none → oc i ≠ .dead → φ' (ρ i) = φ i) : ∀ (l : List Sh) r c zs, relVs φ oc imm w (fillL id0 ka0 l r c).1 zs → relVs φ' o imm w (fillL ρ κ l r c).1 zs
  | [], _, _, _, h => h
  | s :: l, r, c, zs, ⟨z, zr, e, h1, h2⟩ => by
    refine ⟨z, zr, e, rens hl hφ s _ _ _ h1, ?_⟩
    exact (congrArg (fun q => relVs φ' o imm w (fillL ρ κ l r q).1 zr) (fillS_snd ρ κ id0 ka0 s (tyL l r) c)).mpr (rensL hl hφ l _ _ _ h2)
end
end Ev


namespace Ev
open Go

theorem allOb_get {o : Nat → Obj} {psF : PS} : ∀ (l : List OSh) (i : Nat) (os : List (Nat × Obj)) (o' : Nat → Obj), AllOb o psF i l os →
    (∀ j sh, l[j]? = some sh → ObOk o psF (i + j) sh (upds o' os (i + j))) ∧ (∀ j, (j < i ∨ i + l.length ≤ j) → upds o' os j = o' j)
  | [], i, os, o', h => by
    have h : os = [] := h
    subst h
    exact ⟨fun j sh hj => by simp at hj, fun j _ => rfl⟩
  | s :: l, i, os, o', ⟨ob, r, e, h1, h2⟩ => by
    subst e
    obtain ⟨a1, a2⟩ := allOb_get l (i + 1) r (upd o' i ob) h2
    refine ⟨fun j sh hj => ?_, fun j hj => ?_⟩
    · cases j with
      | zero =>
        simp only [List.getElem?_cons_zero, Option.some.injEq] at hj
        subst hj
        show ObOk o psF i s (upds (upd o' i ob) r i)
        rw [a2 i (.inl (by omega)), upd_same]
        exact h1
      | succ j =>
        have := a1 j sh (by simpa using hj)
        rw [show i + 1 + j = i + (j + 1) by omega] at this
        exact this
    · show upds (upd o' i ob) r j = o' j
      simp only [List.length_cons] at hj
      rw [a2 j (by omega), upd_other (by omega)]

/-- The state that is packed, under the shape's own numbers. -/
def canO (s : Shape) (c : denP s.tys) : Nat → Obj := upds (fun _ => Obj.none) (fill id0 ka0 s c).2

theorem pack_packed {o : Nat → Obj} {ren : List (Nat × Nat)} {s : Shape} {vs : List V} {ps : PS} {c : denP s.tys} (h : pack lf o ren s vs = some (ps, c)) :
    Packed o ps s.objs.length s.objs (canO s c) ∧ ∃ ps1 f, paL lf o s.roots vs ⟨ren, [], [], []⟩ = some (ps1, f) ∧ Mono ps1 ps ∧ ∃ q, c = f _ q := by
  unfold pack at h
  split at h
  · rename_i ps1 f h1
    split at h
    · rename_i ps2 g h2
      cases hb : finOk s.objs.length ps2 with
      | false => rw [hb] at h; cases h
      | true =>
        rw [hb] at h
        injection h with h; injection h with h3 h4
        subst h3
        obtain ⟨m1, e1⟩ := takesL s.roots _ _ _ _ h1
        obtain ⟨m2, e2⟩ := paOs_spec (psF := ps2) s.objs 0 _ _ _ h2
        have hob := e2 (.refl _) [] ()
        have hc : canO s c = upds (fun _ => Obj.none) (fillOs id0 ka0 0 s.objs [] (g [] ())) := by
          unfold canO fill
          simp only
          rw [← h4, e1]
        obtain ⟨a1, a2⟩ := allOb_get _ _ _ (fun _ => Obj.none) hob
        refine ⟨⟨hb, rfl, fun i sh hi => ?_, fun i hi => ?_⟩, ps1, f, h1, m2, _, h4.symm⟩
        · have := a1 i sh hi
          rw [Nat.zero_add] at this
          rw [hc]; exact this
        · rw [hc]; exact a2 i (.inr (by omega))
    · cases h
  · cases h

/-- A state that is packed is, under the shape's own numbers, as it was. -/
theorem pack_ok {C : Cx} {X : Nat → Prop} {φ : Nat → Addr} {o : Nat → Obj} {w : World} (hm : MRel C X φ o w) {ren : List (Nat × Nat)} {s : Shape} {vs : List V} {zs : List Value} {ps : PS} {c : denP s.tys}
    (h : pack lf o ren s vs = some (ps, c)) (hr : relVs φ o (immB X φ o w) w vs zs) :
    MRel C (XC X φ o (canO s c) ps) (phC φ ps) (canO s c) w ∧
    relVs (phC φ ps) (canO s c) (immB (XC X φ o (canO s c) ps) (phC φ ps) (canO s c) w) w (fill id0 ka0 s c).1 zs := by
  obtain ⟨hp, ps1, f, h1, h2, q, h3⟩ := pack_packed h
  refine ⟨hp.mem hm, ?_⟩
  have := relsL hm hp s.roots _ _ _ _ _ hr h1 h2 _ q
  rw [← h3] at this
  exact this

/-- Kept numbers are apart. -/
def SkGood (sk : List Nat) : Prop := ∃ inv : Nat → Nat, ∀ j, inv (skOf sk j) = j

theorem SkGood.inj {sk : List Nat} (h : SkGood sk) : ∀ i j, skOf sk i = skOf sk j → i = j := fun i j e => by
  obtain ⟨inv, h⟩ := h
  rw [← h i, ← h j, e]

theorem hasN_mem {j : Nat} : ∀ {l : List Nat}, hasN j l = true ↔ j ∈ l
  | [] => ⟨fun h => (by cases h), fun h => (by cases h)⟩
  | b :: r => by
    simp only [hasN]
    cases hb : Nat.beq b j with
    | true =>
      have := Nat.eq_of_beq_eq_true hb
      subst this
      simp
    | false =>
      have hne : b ≠ j := fun e => by rw [e, Nat.beq_refl] at hb; cases hb
      rw [cond_false, hasN_mem (l := r), List.mem_cons]
      exact ⟨.inr, fun h => h.resolve_left fun e => hne e.symm⟩

theorem keepGood_spec {k : Nat} : ∀ {sk : List Nat}, keepGood k sk = true → (∀ id, id ∈ sk → id < k ∧ id < 1000000) ∧ sk.Nodup
  | [], _ => ⟨fun id h => (by cases h), List.nodup_nil⟩
  | b :: r, h => by
    simp only [keepGood, Bool.and_eq_true, Nat.blt_eq] at h
    obtain ⟨⟨⟨h1, h2⟩, h3⟩, h4⟩ := h
    obtain ⟨g1, g2⟩ := keepGood_spec h4
    refine ⟨fun id hi => ?_, List.nodup_cons.2 ⟨fun hm => ?_, g2⟩⟩
    · rcases List.mem_cons.1 hi with rfl | hi
      · exact ⟨h1, h2⟩
      · exact g1 id hi
    · rw [hasN_mem.2 hm] at h3; cases h3

theorem skGood_of {k : Nat} {sk : List Nat} (h : keepGood k sk = true) : SkGood sk := by
  obtain ⟨g1, g2⟩ := keepGood_spec h
  have inj : ∀ i j, skOf sk i = skOf sk j → i = j := fun i j e => by
    unfold skOf at e
    split at e
    · rename_i a ha
      split at e
      · rename_i b hb
        subst e
        obtain ⟨hi, ea⟩ := List.getElem?_eq_some_iff.1 ha
        obtain ⟨hj, eb⟩ := List.getElem?_eq_some_iff.1 hb
        exact (List.getElem_inj (h₀ := hi) (h₁ := hj) g2).1 (by rw [ea, eb])
      · have := (g1 a (List.mem_of_getElem? ha)).2
        omega
    · split at e
      · rename_i b hb
        have := (g1 b (List.mem_of_getElem? hb)).2
        omega
      · omega
  refine ⟨fun id => by
    classical
    exact if h : ∃ j, skOf sk j = id then h.choose else 0, fun j => ?_⟩
  have hx : ∃ i, skOf sk i = skOf sk j := ⟨j, rfl⟩
  simp only [dif_pos hx]
  exact inj _ _ hx.choose_spec

theorem skGood_nil : SkGood [] := ⟨fun id => id - 1000000, fun j => by simp [skOf]⟩

theorem skRen_mem : ∀ {sk : List Nat} {n i id : Nat}, sk[i]? = some id → (n + i, id) ∈ skRen n sk
  | [], _, i, _, h => by simp at h
  | b :: r, n, i, id, h => by
    cases i with
    | zero =>
      simp only [List.getElem?_cons_zero, Option.some.injEq] at h
      subst h; exact List.mem_cons_self ..
    | succ i =>
      have := skRen_mem (n := n + 1) (i := i) (by simpa using h)
      rw [show n + 1 + i = n + (i + 1) by omega] at this
      exact List.mem_cons_of_mem _ this

theorem keepRen_mem : ∀ {sk : List Nat} {id : Nat}, id ∈ sk → (id, id) ∈ keepRen sk
  | b :: r, id, h => by
    rcases List.mem_cons.1 h with rfl | h
    · exact List.mem_cons_self ..
    · exact List.mem_cons_of_mem _ (keepRen_mem h)

theorem skOk_spec {o : Nat → Obj} : ∀ {sk : List Nat}, skOk o sk = true → ∀ id, id ∈ sk → keptB o id = true
  | b :: r, h, id, hi => by
    simp only [skOk, Bool.and_eq_true] at h
    rcases List.mem_cons.1 hi with rfl | hi
    · exact h.1
    · exact skOk_spec h.2 id hi

theorem noCut_spec {cut : List (Nat × Nat)} : ∀ {sk : List Nat}, noCut cut sk = true → ∀ id, id ∈ sk → assoc id cut = none
  | b :: r, h, id, hi => by
    simp only [noCut, Bool.and_eq_true] at h
    rcases List.mem_cons.1 hi with rfl | hi
    · exact noN_spec h.1
    · exact noCut_spec h.2 id hi

theorem packK_some {sk : List Nat} {ren : List (Nat × Nat)} {o : Nat → Obj} {s : Shape} {vs : List V} {p : PS × denP s.tys} (h : packK lf sk ren o s vs = some p) :
    pack lf o ren s vs = some p ∧ skOk o sk = true ∧ noCut p.1.cut sk = true := by
  unfold packK at h
  split at h
  · rename_i q e
    cases hb : (skOk o sk && noCut q.1.cut sk) with
    | false => rw [hb] at h; cases h
    | true =>
      rw [hb, cond_true] at h
      injection h with h
      subst h
      rw [Bool.and_eq_true] at hb
      exact ⟨e, hb⟩
  · cases h

theorem pack_ren {o : Nat → Obj} {ren : List (Nat × Nat)} {s : Shape} {vs : List V} {ps : PS} {c : denP s.tys} (h : pack lf o ren s vs = some (ps, c)) : ∀ p, p ∈ ren → p ∈ ps.ren := by
  obtain ⟨_, ps1, f, h1, h2, _⟩ := pack_packed h
  exact fun p hp => h2.ren p ((takesL s.roots _ _ _ _ h1).1.ren p hp)

/-- What is kept turns as it may. -/
theorem keep_up {φ : Nat → Addr} {o oc : Nat → Obj} {w : World} {psF : PS} {k : Nat} {objs : List OSh} (h : Packed o psF k objs oc) {i id : Nat} (hp : (i, id) ∈ psF.ren) (hk : keptB o id = true) (hc : assoc id psF.cut = none) :
    Up w w (φ id) (phC φ psF i) (o id) (oc i) := by
  rcases kind_of (φ := φ) h hp with hd | ⟨⟨cs, cs', e1, e2⟩ | ⟨t', ver, s, e1, e2⟩ | ⟨k, v, m, e1, e2⟩ | ⟨_, _, e1, e2⟩, hφ⟩
  · rw [hd]; cases o id <;> trivial
  · rw [e1, e2]; exact hφ
  · rw [e1, e2, hc]
    unfold keptB at hk
    rw [e1] at hk
    have hv : ver = 0 := Nat.eq_of_beq_eq_true hk
    exact .inr ⟨hv, rfl, rfl, rfl, hφ, fun _ => ⟨rfl, fun _ _ n hr => hr⟩⟩
  · rw [e1, e2]; exact hφ
  · rw [e1, e2]; exact hφ

/-- An object under other numbers. -/
def ObR (ρ : Nat → Nat) (a b : Obj) : Prop := (∃ l r c, a = .box (fillL id0 ka0 l r c).1 ∧ b = .box (fillL ρ ka0 l r c).1) ∨ (a = b ∧ ∀ cs, a ≠ .box cs)

theorem fillO_rel (ρ : Nat → Nat) (i : Nat) (s : OSh) (r : List Ty) (c : denP (tyO s r)) : ObR ρ (fillO id0 ka0 i s r c).1 (fillO ρ ka0 i s r c).1 ∧ (fillO ρ ka0 i s r c).2 = (fillO id0 ka0 i s r c).2 := by
  cases s with
  | box l => exact ⟨.inl ⟨l, r, c, rfl, rfl⟩, fillL_snd ρ ka0 id0 ka0 l r c⟩
  | vec t => exact ⟨.inr ⟨rfl, fun _ h => by cases h⟩, rfl⟩
  | map k v => exact ⟨.inr ⟨rfl, fun _ h => by cases h⟩, rfl⟩
  | iter => exact ⟨.inr ⟨rfl, fun _ h => by cases h⟩, rfl⟩
  | gone => exact ⟨.inr ⟨rfl, fun _ h => by cases h⟩, rfl⟩

theorem fillOs_rel (ρ : Nat → Nat) (hρ : ∀ i j, ρ i = ρ j → i = j) : ∀ (l : List OSh) (i : Nat) (r : List Ty) (c : denP (tyOL l r)) (o1 o2 : Nat → Obj),
    (∀ j, i ≤ j → j < i + l.length → ObR ρ (upds o1 (fillOs id0 ka0 i l r c) j) (upds o2 (fillOs ρ ka0 i l r c) (ρ j))) ∧
    (∀ j, (j < i ∨ i + l.length ≤ j) → upds o1 (fillOs id0 ka0 i l r c) j = o1 j) ∧ (∀ id, (∀ j, i ≤ j → j < i + l.length → ρ j ≠ id) → upds o2 (fillOs ρ ka0 i l r c) id = o2 id)
  | [], i, r, c, o1, o2 => ⟨fun j h1 h2 => absurd h2 (by simp; omega), fun _ _ => rfl, fun _ _ => rfl⟩
  | s :: l, i, r, c, o1, o2 => by
    obtain ⟨e1, e2⟩ := fillO_rel ρ i s (tyOL l r) c
    obtain ⟨a1, a2, a3⟩ := fillOs_rel ρ hρ l (i + 1) r (fillO id0 ka0 i s (tyOL l r) c).2 (upd o1 i (fillO id0 ka0 i s (tyOL l r) c).1) (upd o2 (ρ i) (fillO ρ ka0 i s (tyOL l r) c).1)
    have f1 : ∀ j, upds o1 (fillOs id0 ka0 i (s :: l) r c) j = upds (upd o1 i (fillO id0 ka0 i s (tyOL l r) c).1) (fillOs id0 ka0 (i + 1) l r (fillO id0 ka0 i s (tyOL l r) c).2) j := fun _ => rfl
    have f2 : ∀ id, upds o2 (fillOs ρ ka0 i (s :: l) r c) id = upds (upd o2 (ρ i) (fillO ρ ka0 i s (tyOL l r) c).1) (fillOs ρ ka0 (i + 1) l r (fillO id0 ka0 i s (tyOL l r) c).2) id := fun id =>
      (congrArg (fun q => upds (upd o2 (ρ i) (fillO ρ ka0 i s (tyOL l r) c).1) (fillOs ρ ka0 (i + 1) l r q) id) e2)
    refine ⟨fun j h1 h2 => ?_, fun j hj => ?_, fun id hid => ?_⟩
    · rw [f1, f2]
      simp only [List.length_cons] at h2
      by_cases hji : j = i
      · subst hji
        rw [a2 j (.inl (by omega)), a3 (ρ j) (fun q hq _ e => by have := hρ _ _ e; omega), upd_same, upd_same]
        exact e1
      · exact a1 j (by omega) (by omega)
    · rw [f1]
      simp only [List.length_cons] at hj
      rw [a2 j (by omega), upd_other (by omega)]
    · rw [f2]
      simp only [List.length_cons] at hid
      rw [a3 id (fun q h1 h2 => hid q (by omega) (by omega)), upd_other]
      exact fun e => hid i (Nat.le_refl _) (by omega) e.symm

section
variable {C : Cx} {X : Nat → Prop} {φ : Nat → Addr} {w : World} {s : Shape} {c : denP s.tys} {sk : List Nat} {inv : Nat → Nat}

theorem st_obj (hinj : ∀ i j, skOf sk i = skOf sk j → i = j) (ts : List Nat) (s : Shape) (c : denP s.tys) : (∀ j, j < s.objs.length → ObR (skOf sk) (canO s c j) ((stOf sk ts s c).obj (skOf sk j))) ∧ (∀ j, s.objs.length ≤ j → canO s c j = .none) ∧
    (∀ id, (∀ j, j < s.objs.length → skOf sk j ≠ id) → (stOf sk ts s c).obj id = .none) := by
  obtain ⟨a1, a2, a3⟩ := fillOs_rel (skOf sk) hinj s.objs 0 [] (fillL id0 ka0 s.roots (tyOL s.objs []) c).2 (fun _ => .none) (fun _ => .none)
  have e : (stOf sk ts s c).obj = upds (fun _ => .none) (fillOs (skOf sk) ka0 0 s.objs [] (fillL id0 ka0 s.roots (tyOL s.objs []) c).2) :=
    congrArg (fun q => upds (fun _ => Obj.none) (fillOs (skOf sk) ka0 0 s.objs [] q)) (fillL_snd (skOf sk) ka0 id0 ka0 s.roots (tyOL s.objs []) c)
  refine ⟨fun j hj => ?_, fun j hj => a2 j (.inr (by omega)), fun id hid => ?_⟩
  · rw [e]; exact a1 j (Nat.zero_le _) (by omega)
  · rw [e]; exact a3 id (fun j _ hj => hid j (by omega))

theorem fillOs_ver (ρ : Nat → Nat) : ∀ (l : List OSh) (i : Nat) (r : List Ty) (c : denP (tyOL l r)) (o : Nat → Obj), (∀ j t v f s, o j = .vec t v f s → v = 0) → ∀ j t v f s, upds o (fillOs ρ ka0 i l r c) j = .vec t v f s → v = 0
  | [], i, r, c, o, h => h
  | s :: l, i, r, c, o, h => by
    refine fillOs_ver ρ l (i + 1) r (fillO ρ ka0 i s (tyOL l r) c).2 (upd o (ρ i) (fillO ρ ka0 i s (tyOL l r) c).1) ?_
    intro j t v f s' e
    by_cases hj : j = ρ i
    · subst hj
      rw [upd_same] at e
      cases s with
      | box l => cases e
      | map k v => cases e
      | gone => cases e
      | iter => cases e
      | vec t => injection e with _ e; exact e.symm
    · rw [upd_other hj] at e
      exact h _ _ _ _ _ e

theorem canO_ver {s : Shape} {c : denP s.tys} {j : Nat} {t : Ty} {v : Nat} {f : Bool} {x : Sl (den t)} (h : canO s c j = .vec t v f x) : v = 0 :=
  fillOs_ver id0 s.objs 0 [] _ (fun _ => .none) (fun _ _ _ _ _ e => by cases e) j t v f x h

theorem isSlf_fill (ρ κ : Nat → Nat) : ∀ (l : List Sh) (r : List Ty) (c : denP (tyL l r)), isSlf (fillL ρ κ l r c).1 = isSlf (fillL id0 ka0 l r c).1
  | [], _, _ => rfl
  | s :: l, r, c => by
    show isSlf ((fillS ρ κ s (tyL l r) c).1 :: _) = isSlf ((fillS id0 ka0 s (tyL l r) c).1 :: _)
    cases s <;> rfl

/-- The same memory under other numbers. -/
theorem st_mem (hinv : ∀ j, inv (skOf sk j) = j) (ts : List Nat) (hm : MRel C X φ (canO s c) w) : MRel C X (fun id => φ (inv id)) (stOf sk ts s c).obj w ∧ (∀ b, owned (fun id => φ (inv id)) (stOf sk ts s c).obj b ↔ owned φ (canO s c) b) ∧
    (∀ zs, relVs φ (canO s c) (immB X φ (canO s c) w) w (fill id0 ka0 s c).1 zs →
      relVs (fun id => φ (inv id)) (stOf sk ts s c).obj (immB X (fun id => φ (inv id)) (stOf sk ts s c).obj w) w (fill (skOf sk) ka0 s c).1 zs) := by
  obtain ⟨a1, a2, a3⟩ := st_obj (fun i j e => by rw [← hinv i, ← hinv j, e]) ts s c
  generalize ho : (stOf sk ts s c).obj = o at *
  have hφ : ∀ j, (fun id => φ (inv id)) (skOf sk j) = φ j := fun j => by simp only [hinv]
  have hex : ∀ j a, j < s.objs.length → excl a (o (skOf sk j)) = excl a (canO s c j) := fun j a hj => by
    rcases a1 j hj with ⟨l, r, q, e1, e2⟩ | ⟨e1, _⟩
    · rw [e1, e2]; rfl
    · rw [e1]
  have hid : ∀ id, (∃ j, j < s.objs.length ∧ skOf sk j = id) ∨ o id = .none := fun id => by
    by_cases h : ∃ j, j < s.objs.length ∧ skOf sk j = id
    · exact .inl h
    · exact .inr (a3 id fun j hj e => h ⟨j, hj, e⟩)
  have hlt : ∀ j a, excl a (canO s c j) = true → j < s.objs.length := fun j a hx => Classical.byContradiction fun h => by rw [a2 j (by omega)] at hx; exact excl_none hx
  have hown : ∀ b, owned (fun id => φ (inv id)) o b ↔ owned φ (canO s c) b := fun b => by
    constructor
    · rintro ⟨id, e1, e2⟩
      rcases hid id with ⟨j, hj, rfl⟩ | h
      · simp only [hinv] at e1
        exact ⟨j, by rw [← hex j _ hj]; exact e1, by rw [← hφ j]; exact e2⟩
      · rw [h] at e1; exact (excl_none e1).elim
    · rintro ⟨j, e1, e2⟩
      exact ⟨skOf sk j, by simp only [hinv]; rw [hex j _ (hlt j _ e1)]; exact e1, by rw [hφ]; exact e2⟩
  have himm : ∀ b, immB X φ (canO s c) w b ↔ immB X (fun id => φ (inv id)) o w b := fun b => by unfold immB; rw [hown b]
  have hlk : ∀ i, Looks (ka0 i) (canO s c i) (o (skOf sk i)) := fun i => by
    by_cases hi : i < s.objs.length
    · rcases a1 i hi with ⟨l, r, q, e1, e2⟩ | ⟨e1, e2⟩
      · rw [e1, e2]; trivial
      · rw [← e1]
        cases hc : canO s c i with
        | vec t v f s' => exact ⟨canO_ver hc, by rw [canO_ver hc]⟩
        | box cs => exact absurd hc (e2 _)
        | map k v m => trivial
        | dead => trivial
        | none => trivial
        | iter l p => trivial
    · rw [a2 i (by omega)]; trivial
  have himm' : (fun b => immB X φ (canO s c) w b) = immB X (fun id => φ (inv id)) o w := funext fun b => propext (himm b)
  have himm2 : immB X φ (canO s c) w = immB X (fun id => φ (inv id)) o w := himm'
  refine ⟨⟨fun id => ?_, fun i j hi hj e => ?_, fun i hi => ?_, hm.xs, fun id => ?_, fun g t x hg => ?_⟩, hown, fun zs hz => ?_⟩
  · rcases hid id with ⟨j, hj, rfl⟩ | h
    · have hob := hm.objs j
      rcases a1 j hj with ⟨l, r, q, e1, e2⟩ | ⟨e1, e2⟩
      · rw [e1] at hob
        rw [e2]
        obtain ⟨h1, cz, el, lo, hi', h2, h3, h4⟩ := hob
        refine ⟨by rw [hφ]; exact h1, cz, el, lo, hi', by rw [hφ]; exact h2, h3, ?_⟩
        rw [himm2] at h4
        exact rensL (φ' := fun id => φ (inv id)) hlk (fun i _ _ => hφ i) l r q _ h4
      · rw [← e1]
        cases hc : canO s c j with
        | box cs => exact absurd hc (e2 _)
        | dead => trivial
        | none => trivial
        | map k v m =>
          rw [hc] at hob
          obtain ⟨es, clock, h1, h2⟩ := hob
          rw [himm2] at h2
          exact ⟨es, clock, by rw [hφ]; exact h1, h2⟩
        | iter l p =>
          rw [hc] at hob
          obtain ⟨s', n, h1, h2⟩ := hob
          exact ⟨s', n, by rw [hφ]; exact h1, h2⟩
        | vec t ver fr sl =>
          rw [hc] at hob
          obtain ⟨h1, h2, h3⟩ := hob
          rw [himm2] at h3
          refine ⟨h1, h2, fun hn => ?_⟩
          rw [hφ]
          exact h3 hn
    · rw [h]; trivial
  · rcases hid i with ⟨i', hi', rfl⟩ | h
    · rcases hid j with ⟨j', hj', rfl⟩ | h
      · have hr : ∀ j, inv (skOf sk j) = j := hinv
        simp only [hr] at e hi hj
        rw [hm.inj i' j' (by rw [← hex i' _ hi']; exact hi) (by rw [← hex j' _ hj']; exact hj) e]
      · rw [h] at hj; exact (excl_none hj).elim
    · rw [h] at hi; exact (excl_none hi).elim
  · rcases hid i with ⟨i', hi', rfl⟩ | h
    · have hr : ∀ j, inv (skOf sk j) = j := hinv
      simp only [hr] at hi ⊢
      exact hm.sep i' (by rw [← hex i' _ hi']; exact hi)
    · rw [h] at hi; exact (excl_none hi).elim
  · rcases hid id with ⟨j, hj, rfl⟩ | h
    · have he := hm.els j
      show ElsAt C w (φ (inv (skOf sk j))) (o (skOf sk j))
      rw [hinv]
      rcases a1 j hj with ⟨l, r, q, e1, e2⟩ | ⟨e1, e2⟩
      · rw [e1] at he
        rw [e2]
        exact fun hs => he (by rw [← isSlf_fill (skOf sk) ka0]; exact hs)
      · rw [← e1]; exact he
    · rw [h]; trivial
  · obtain ⟨a, cs, h1, h2, h3, h4, h5⟩ := hm.globs g t x hg
    rw [himm2] at h3 h4
    exact ⟨a, cs, h1, h2, h3, h4, h5⟩
  · rw [himm2] at hz
    exact rensL (φ' := fun id => φ (inv id)) hlk (fun i _ _ => hφ i) s.roots _ _ _ hz

theorem env_rel {φ : Nat → Addr} {o : Nat → Obj} {imm : Nat → Prop} {g : Nat → Value} : ∀ (ts : List Nat) (vs : List V), relVs φ o imm w vs (ts.map g) → ∀ t, relVal φ o imm w (envOf ts vs t) (g t)
  | [], _, _, _ => by cases ‹List V› <;> trivial
  | t' :: ts, vs, h, t => by
    cases vs with
    | nil => trivial
    | cons v vs =>
      obtain ⟨z, r, e, h1, h2⟩ := h
      injection e with e1 e2
      show relVal φ o imm w (upd (envOf ts vs) t' v t) (g t)
      by_cases ht : t = t'
      · subst ht; rw [upd_same, e1]; exact h1
      · rw [upd_other ht]; exact env_rel ts vs (e2 ▸ h2) t
end

/-- What has become of memory since an entry. -/
structure Hist (sk : List Nat) (φ0 : Nat → Addr) (o0 : Nat → Obj) (w0 : World) (φ : Nat → Addr) (o : Nat → Obj) (w : World) : Prop where
  size : w0.heap.size ≤ w.heap.size
  frame : ∀ b, b < w0.heap.size → ¬ owned φ0 o0 b → w.heap[b]? = w0.heap[b]?
  news : ∀ b, owned φ o b → w0.heap.size ≤ b ∨ owned φ0 o0 b
  still : Still w0 w
  up : ∀ id, id ∈ sk → Up w0 w (φ0 id) (φ id) (o0 id) (o id)

theorem Hist.refl (sk : List Nat) (φ0 : Nat → Addr) (o0 : Nat → Obj) (w0 : World) : Hist sk φ0 o0 w0 φ0 o0 w0 := ⟨Nat.le_refl _, fun _ _ _ => rfl, fun _ h => .inr h, ⟨rfl, rfl⟩, fun _ _ => Up.same fun _ _ h => h⟩

theorem Hist.step {C : Cx} {X : Nat → Prop} {φ0 φ φ' : Nat → Addr} {o0 o : Nat → Obj} {w0 w w' : World} {u : List (Nat × Obj)} {v : V} {z : Value} {sk : List Nat} (h : Hist sk φ0 o0 w0 φ o w) (hc : Comes C X φ φ' o u w w' v z) :
    Hist sk φ0 o0 w0 φ' (upds o u) w' := by
  refine ⟨Nat.le_trans h.size hc.size, fun b hb hn => ?_, fun b ⟨id, e1, e2⟩ => ?_, ⟨hc.still.1.trans h.still.1, hc.still.2.trans h.still.2⟩, fun id hi => (h.up id hi).trans (hc.up id)⟩
  · rw [hc.frame b (Nat.lt_of_lt_of_le hb h.size), h.frame b hb hn]
    rintro ⟨id, _, e1, e2⟩
    rcases h.news b ⟨id, e1, e2⟩ with h1 | h1
    · omega
    · exact hn h1
  · rcases hc.news id e1 with h1 | h1
    · exact .inl (by have := h.size; omega)
    · rw [e2] at h1; exact h.news b h1

/-- A state is packed and filled again. -/
theorem repack {C : Cx} {nt : Nat} {X : Nat → Prop} {φ φ0 : Nat → Addr} {o0 : Nat → Obj} {w0 : World} {st : St} {a : Act} {w : World} {sk : List Nat} (hsk : SkGood sk) (h : Rel C nt X φ st a w) (hh : Hist sk φ0 o0 w0 φ st.obj w) {s : Shape} {ts : List Nat} {ps : PS} {c : denP s.tys}
    (hp : packK lf sk (skRen 0 sk) st.obj s (ts.map fun t => unlb (st.env t)) = some (ps, c)) : ∃ φ2 X2, (∀ b, X b → X2 b) ∧ Rel C nt X2 φ2 (stOf sk ts s c) a w ∧ Hist sk φ0 o0 w0 φ2 (stOf sk ts s c).obj w := by
  obtain ⟨hp', hok, hcut⟩ := packK_some hp
  clear hp
  have hp := hp'
  clear hp'
  have hinj := hsk.inj
  obtain ⟨inv, hinv⟩ := hsk
  have hv : relVs φ st.obj (immB X φ st.obj w) w (ts.map fun t => unlb (st.env t)) (ts.map fun t => a.tmps.getD t undef) := by
    clear hp
    induction ts with
    | nil => rfl
    | cons t ts ih => exact ⟨_, _, rfl, relVal_unlb (h.env t), ih⟩
  obtain ⟨h1, h2⟩ := pack_ok h.toMRel hp hv
  obtain ⟨hpk, _⟩ := pack_packed hp
  obtain ⟨g1, g2, g3⟩ := st_mem hinv ts h1
  refine ⟨_, _, fun b hb => .inl hb, ⟨g1, h.size, fun t => ?_, h.defers⟩, ⟨hh.size, hh.frame, fun b hb => hh.news b (hpk.ownedSub ((g2 b).1 hb)), hh.still, fun id hi => (hh.up id hi).trans ?_⟩⟩
  · exact env_rel ts _ (g3 _ h2) t
  · obtain ⟨i, hi', hie⟩ := List.mem_iff_getElem.1 hi
    have hsi : sk[i]? = some id := by rw [List.getElem?_eq_getElem hi', hie]
    have e : skOf sk i = id := by unfold skOf; rw [hsi]
    have hr : (i, id) ∈ ps.ren := pack_ren hp _ (by have := skRen_mem (n := 0) hsi; rwa [Nat.zero_add] at this)
    have hu := keep_up (φ := φ) (w := w) hpk hr (skOk_spec hok id hi) (noCut_spec hcut id hi)
    have hφ : phC φ ps (inv id) = phC φ ps i := by rw [← e, hinv]
    obtain ⟨a1, _⟩ := st_obj hinj ts s c
    have ha := a1 i (hpk.ren hr).1
    rw [e] at ha
    show Up w w (φ id) (phC φ ps (inv id)) (st.obj id) _
    rw [hφ]
    rcases ha with ⟨l, r, q, e1, e2⟩ | ⟨e1, _⟩
    · rw [e2]; rw [e1] at hu
      cases ho : st.obj id <;> rw [ho] at hu <;> exact hu
    · rw [← e1]; exact hu
end Ev

