/- Regions that draw their order are sound.
   A part of a verified evaluator of the model: no statement of its own about the program. -/
import Derived.Test.YtdekfefcpdejkaaGreatDoorEvG
namespace Ev
open Go

/-! Regions that draw their order: the operations' effects, each for itself. -/
structure En where
  i : Nat
  op : Oper
  sk : Bool
  kn : List (Nat × Bool)
  F : List Nat
  v : V
  u : List (Nat × Obj)

/-- An operation's effect. -/
def En.app (e : En) (st : St) : St := putO { st with obj := upds st.obj e.u } e.op.dst e.v

/-- The effects of some of the operations, in the order of the text. -/
def fam (S : Nat → Bool) : List En → St → St
  | [], st => st
  | e :: r, st => fam S r (bif S e.i then e.app st else st)

theorem St.ext' {a b : St} (h1 : ∀ t, a.env t = b.env t) (h2 : ∀ id, a.obj id = b.obj id) : a = b := by
  obtain ⟨e, o⟩ := a
  obtain ⟨e', o'⟩ := b
  have : e = e' := funext h1
  have : o = o' := funext h2
  subst_vars; rfl

theorem app_obj (e : En) (st : St) : (e.app st).obj = upds st.obj e.u := by
  unfold En.app putO
  cases e.op.dst <;> rfl

theorem app_env (e : En) (st : St) (t : Nat) : (e.op.dst = some t ∧ (e.app st).env t = e.v) ∨ (e.op.dst ≠ some t ∧ (e.app st).env t = st.env t) := by
  unfold En.app putO
  cases h : e.op.dst with
  | none => exact .inr ⟨by simp, rfl⟩
  | some d =>
    by_cases ht : t = d
    · subst ht; exact .inl ⟨rfl, upd_same⟩
    · exact .inr ⟨fun e => ht (by injection e with e; exact e.symm), upd_other ht⟩

/-- Two effects that touch nothing of each other may come in either order. -/
theorem app_comm {e e' : En} (hd : ∀ d, e.op.dst = some d → e'.op.dst ≠ some d) (hk : ∀ id, id ∈ keysU e.u → id ∉ keysU e'.u) (st : St) : e'.app (e.app st) = e.app (e'.app st) := by
  apply St.ext'
  · intro t
    rcases app_env e' (e.app st) t with ⟨h1, h2⟩ | ⟨h1, h2⟩
    · rw [h2]
      rcases app_env e (e'.app st) t with ⟨h3, h4⟩ | ⟨h3, h4⟩
      · exact absurd h1 (hd t h3)
      · rw [h4]
        rcases app_env e' st t with ⟨_, h6⟩ | ⟨h5, _⟩
        · rw [h6]
        · exact absurd h1 h5
    · rw [h2]
      rcases app_env e (e'.app st) t with ⟨h3, h4⟩ | ⟨h3, h4⟩
      · rw [h4]
        rcases app_env e st t with ⟨_, h6⟩ | ⟨h5, _⟩
        · exact h6
        · exact absurd h3 h5
      · rw [h4]
        rcases app_env e st t with ⟨h5, _⟩ | ⟨_, h6⟩
        · exact absurd h5 h3
        · rw [h6]
          rcases app_env e' st t with ⟨h7, _⟩ | ⟨_, h8⟩
          · exact absurd h7 h1
          · rw [h8]
  · intro id
    rw [app_obj, app_obj, app_obj, app_obj]
    by_cases h1 : id ∈ keysU e.u
    · rw [upds_not (hk id h1), upds_in (o' := upds st.obj e'.u) h1]
    · rw [upds_not (u := e.u) (o := upds st.obj e'.u) h1]
      by_cases h2 : id ∈ keysU e'.u
      · exact upds_in h2
      · rw [upds_not h2, upds_not h2, upds_not h1]

theorem fam_append (S : Nat → Bool) : ∀ (l m : List En) (st : St), fam S (l ++ m) st = fam S m (fam S l st)
  | [], _, _ => rfl
  | _ :: l, m, _ => fam_append S l m _

theorem fam_congr {S S' : Nat → Bool} : ∀ (l : List En) (st : St), (∀ e, e ∈ l → S e.i = S' e.i) → fam S l st = fam S' l st
  | [], _, _ => rfl
  | e :: l, st, h => by
    show fam S l (bif S e.i then e.app st else st) = fam S' l (bif S' e.i then e.app st else st)
    rw [h e (List.mem_cons_self ..)]
    exact fam_congr l _ fun q hq => h q (List.mem_cons_of_mem _ hq)

/-- An effect passes those that touch nothing of it. -/
theorem fam_pass {S : Nat → Bool} {e : En} : ∀ (l : List En) (st : St), (∀ q, q ∈ l → S q.i = true → (∀ d, e.op.dst = some d → q.op.dst ≠ some d) ∧ ∀ id, id ∈ keysU e.u → id ∉ keysU q.u) → fam S l (e.app st) = e.app (fam S l st)
  | [], _, _ => rfl
  | q :: l, st, h => by
    show fam S l (bif S q.i then q.app (e.app st) else e.app st) = e.app (fam S l (bif S q.i then q.app st else st))
    have ih := fun st => fam_pass (S := S) (e := e) l st fun p hp => h p (List.mem_cons_of_mem _ hp)
    cases hs : S q.i with
    | true =>
      obtain ⟨h1, h2⟩ := h q (List.mem_cons_self ..) hs
      show fam S l (q.app (e.app st)) = e.app (fam S l (q.app st))
      rw [app_comm h1 h2, ih]
    | false => exact ih st

/-- One more operation: its effect comes last. -/
theorem fam_flip {S S' : Nat → Bool} {e : En} {l m : List En} (st : St) (hl : ∀ q, q ∈ l → S q.i = S' q.i) (hm : ∀ q, q ∈ m → S q.i = S' q.i) (h1 : S e.i = false) (h2 : S' e.i = true)
    (hp : ∀ q, q ∈ m → S q.i = true → (∀ d, e.op.dst = some d → q.op.dst ≠ some d) ∧ ∀ id, id ∈ keysU e.u → id ∉ keysU q.u) : fam S' (l ++ e :: m) st = e.app (fam S (l ++ e :: m) st) := by
  rw [fam_append, fam_append]
  show fam S' m (bif S' e.i then e.app (fam S' l st) else fam S' l st) = e.app (fam S m (bif S e.i then e.app (fam S l st) else fam S l st))
  rw [h1, h2, ← fam_congr l st hl]
  show fam S' m (e.app (fam S l st)) = e.app (fam S m (fam S l st))
  rw [← fam_congr m _ hm]
  exact fam_pass m _ hp
end Ev


namespace Ev
open Go

section
variable {C : Cx} {R : Oracle C.sigs}

def En.tr (e : En) : Tr := ⟨e.i, e.op, e.F, keysU e.u⟩

/-- What is known is so. -/
def KnOk (st : St) (kn : List (Nat × Bool)) : Prop := ∀ d b, lookK d kn = some b → st.env d = .d .bool b

/-- An operation was left out: its guard said so. -/
def SkipOk (all : List Oper) (st : St) (e : En) : Prop := ∃ j want oj dj, e.op.guard = some (j, want) ∧ all[j]? = some oj ∧ oj.dst = some dj ∧ ((∃ b, lookK dj e.kn = some b ∧ b ≠ want) ∨ st.env dj = .undef)

/-- An operation was to run: its guard said so. -/
def WantOk (all : List Oper) (e : En) : Prop := e.op.guard = none ∨ ∃ j want oj dj, e.op.guard = some (j, want) ∧ all[j]? = some oj ∧ oj.dst = some dj ∧ lookK dj e.kn = some want

def EnOk (C : Cx) (R : Oracle C.sigs) (rg : Nat) (all : List Oper) (st : St) (e : En) : Prop :=
  (e.sk = true ∧ SkipOk all st e ∧ e.v = .undef ∧ e.u = [] ∧ e.F = []) ∨
  (e.sk = false ∧ WantOk all e ∧ e.F = footOf C st e.op ∧ closed st.obj e.F e.F = true ∧
    (opPk lf C R (envR st.env e.kn (tmpsO e.op.op.operands.toList)) (objR st.obj e.F) (freshOf rg e.i) e.op.type e.op.op).gives e.v e.u ∧ Frees (freshOf rg e.i) st.obj e.u)

def RunsF (C : Cx) (R : Oracle C.sigs) (rg : Nat) (all : List Oper) : Nat → St → List En → Prop
  | _, _, [] => True
  | i, st, e :: r => e.i = i ∧ EnOk C R rg all st e ∧ KnOk st e.kn ∧ notKn e.op.dst e.kn = true ∧ RunsF C R rg all (i + 1) (e.app st) r

def lastSt : List En → St → St
  | [], st => st
  | e :: r, st => lastSt r (e.app st)

theorem knOk_app {e : En} {st : St} {kn : List (Nat × Bool)} (h : KnOk st kn) (hn : notKn e.op.dst kn = true) : KnOk (e.app st) kn := by
  intro d b hd
  rcases app_env e st d with ⟨h1, _⟩ | ⟨_, h2⟩
  · exfalso
    rw [h1] at hn
    unfold notKn at hn
    simp only [hd] at hn
    cases hn
  · rw [h2]; exact h d b hd

theorem gives_move {env : Nat → V} {o : Nat → Obj} {fr : Nat} {ty : TypeId} {t : Nat} {y : Bool} (he : env t = .lb y) {v : V} {u : List (Nat × Obj)} (h : (opPk lf C R env o fr ty (.move (.tmp t))).gives v u) : v = .d .bool y := by
  have hv : opd C env (.tmp t) = .d .bool y := by show unlb (env t) = _; rw [he]; rfl
  simp only [opPk, hv, movePk] at h
  rw [gives_now] at h
  exact h.1.symm

theorem gives_pick {env : Nat → V} {o : Nat → Obj} {fr : Nat} {ty : TypeId} {t : Nat} {q z : Bool} {a b : Operand} (he : env t = .lb q) (hz : (bif q then a else b) = .const (.bool z)) {v : V} {u : List (Nat × Obj)}
    (h : (opPk lf C R env o fr ty (.pick (.tmp t) a b)).gives v u) : v = .d .bool z := by
  have hv : opdL C env (.tmp t) = .lb q := he
  simp only [opPk, hv] at h
  rw [gives_now] at h
  rw [← h.1]
  cases q with
  | true => rw [cond_true] at hz ⊢; rw [hz]; rfl
  | false => rw [cond_false] at hz ⊢; rw [hz]; rfl

theorem envR_known {env : Nat → V} {kn : List (Nat × Bool)} {ts : List Nat} {t : Nat} {b : Bool} (ht : hasN t ts = true) (hk : lookK t kn = some b) : envR env kn ts t = .lb b := by
  unfold envR
  rw [ht, cond_true, hk]

theorem knOk_cons {st : St} {kn : List (Nat × Bool)} {d : Nat} {z : Bool} (h : KnOk st kn) (hd : st.env d = .d .bool z) : KnOk st ((d, z) :: kn) := by
  intro t b ht
  simp only [lookK] at ht
  cases hq : Nat.beq d t with
  | true =>
    rw [hq, cond_true] at ht
    injection ht with ht
    have := Nat.eq_of_beq_eq_true hq
    subst this ht
    exact hd
  | false => rw [hq, cond_false] at ht; exact h t b ht

theorem hasN_head (t : Nat) (l : List Nat) : hasN t (t :: l) = true := by simp [hasN]

theorem knOk_new {st : St} {kn : List (Nat × Bool)} {o : Oper} {ob : Nat → Obj} {ob' : Nat → Obj} {fr : Nat} {v : V} {u : List (Nat × Obj)}
    (hg : (opPk lf C R (envR st.env kn (tmpsO o.op.operands.toList)) ob fr o.type o.op).gives v u)
    (h : KnOk (putO { st with obj := ob' } o.dst v) kn) : KnOk (putO { st with obj := ob' } o.dst v) (newKn o kn) := by
  unfold newKn
  split
  · exact h
  · rename_i d hd
    have hput : (putO { st with obj := ob' } o.dst v).env d = v := by rw [hd]; simp [putO, upd]
    split
    · rename_i t ho
      split
      · rename_i y hy
        rw [ho] at hg
        have := gives_move (envR_known (by simpa [Op.operands, tmpsO] using hasN_head t []) hy) hg
        exact knOk_cons h (by rw [hput, this])
      · exact h
    · rename_i c x y ho
      split
      · rename_i q hq
        split
        · rename_i z hz
          rw [ho] at hg
          have := gives_pick (envR_known (by simpa [Op.operands, tmpsO] using hasN_head c _) hq) hz hg
          exact knOk_cons h (by rw [hput, this])
        · exact h
      · exact h
    · exact h

theorem evF_run {rg : Nat} {all : List Oper} {γ δ : Type} {w : γ → δ} {k : (γ → δ) → St → Option δ} {y : δ} : ∀ (n i : Nat) (r : List Oper) (st : St) (kn : List (Nat × Bool)) (tr : List Tr),
    evF lf C R rg all n w i r st kn tr k = some y → KnOk st kn →
    ∃ es, es.map (·.op) = r ∧ RunsF C R rg all i st es ∧ (drawOk (befs all []) all ((es.map En.tr).reverse ++ tr) && trsOk rg ((es.map En.tr).reverse ++ tr)) = true ∧ k w (lastSt es st) = some y := by
  intro n
  induction n with
  | zero => intro i r st kn tr h; cases h
  | succ n ih =>
    intro i r st kn tr h hkn
    cases r with
    | nil =>
      have h : (bif drawOk (befs all []) all tr && trsOk rg tr then k w st else none) = some y := h
      cases hd : (drawOk (befs all []) all tr && trsOk rg tr) with
      | false => rw [hd] at h; cases h
      | true => rw [hd] at h; exact ⟨[], rfl, trivial, hd, h⟩
    | cons o r =>
      unfold evF at h
      simp only at h
      cases hnk : notKn o.dst kn with
      | false => rw [hnk] at h; cases h
      | true =>
        rw [hnk, cond_true] at h
        have more : ∀ (e : En), e.i = i → e.op = o → e.kn = kn → EnOk C R rg all st e → ∀ kn', (KnOk (e.app st) kn → KnOk (e.app st) kn') → evF lf C R rg all n w (i + 1) r (e.app st) kn' (e.tr :: tr) k = some y →
            ∃ es, es.map (·.op) = o :: r ∧ RunsF C R rg all i st es ∧ (drawOk (befs all []) all ((es.map En.tr).reverse ++ tr) && trsOk rg ((es.map En.tr).reverse ++ tr)) = true ∧ k w (lastSt es st) = some y := by
          intro e h1 h2 h3 h4 kn' h6 h5
          obtain ⟨es, g1, g2, g3, g4⟩ := ih _ _ _ _ _ h5 (h6 (knOk_app hkn (by rw [h2]; exact hnk)))
          exact ⟨e :: es, by rw [List.map_cons, g1, h2], ⟨h1, h4, by rw [h3]; exact hkn, by rw [h2, h3]; exact hnk, g2⟩, by rw [List.map_cons, List.reverse_cons, List.append_assoc]; exact g3, g4⟩
        have run : (∀ e : En, e.op = o → e.kn = kn → WantOk all e) → (bif closed st.obj (footOf C st o) (footOf C st o) then (match opPk lf C R (envR st.env kn (tmpsO o.op.operands.toList)) (objR st.obj (footOf C st o)) (freshOf rg i) o.type o.op with
            | .fail => none
            | .nowU v u => sqV v fun v => sqF (freshOf rg i) st.obj u fun o' => evF lf C R rg all n w (i + 1) r (putO { st with obj := o' } o.dst v) (newKn o kn) (⟨i, o, footOf C st o, keysU u⟩ :: tr) k
            | .dyn _ x out => lf.bnd x fun y => sqV (out y).1 fun v => sqF (freshOf rg i) st.obj (out y).2 fun o' =>
                evF lf C R rg all n w (i + 1) r (putO { st with obj := o' } o.dst v) (newKn o kn) (⟨i, o, footOf C st o, keysU (out y).2⟩ :: tr) k) else none) = some y →
            ∃ es, es.map (·.op) = o :: r ∧ RunsF C R rg all i st es ∧ (drawOk (befs all []) all ((es.map En.tr).reverse ++ tr) && trsOk rg ((es.map En.tr).reverse ++ tr)) = true ∧ k w (lastSt es st) = some y := by
          intro hw h
          cases hc : closed st.obj (footOf C st o) (footOf C st o) with
          | false => rw [hc] at h; cases h
          | true =>
            rw [hc, cond_true] at h
            have go : ∀ v u, (opPk lf C R (envR st.env kn (tmpsO o.op.operands.toList)) (objR st.obj (footOf C st o)) (freshOf rg i) o.type o.op).gives v u →
                (sqV v fun v => sqF (freshOf rg i) st.obj u fun o' => evF lf C R rg all n w (i + 1) r (putO { st with obj := o' } o.dst v) (newKn o kn) (⟨i, o, footOf C st o, keysU u⟩ :: tr) k) = some y →
                ∃ es, es.map (·.op) = o :: r ∧ RunsF C R rg all i st es ∧ (drawOk (befs all []) all ((es.map En.tr).reverse ++ tr) && trsOk rg ((es.map En.tr).reverse ++ tr)) = true ∧ k w (lastSt es st) = some y := by
              intro v u hg h
              rw [sqV_eq] at h
              obtain ⟨h1, h2⟩ := sqF_some _ _ _ _ h
              exact more ⟨i, o, false, kn, footOf C st o, v, u⟩ rfl rfl rfl (.inr ⟨rfl, hw _ rfl rfl, rfl, hc, hg, h2⟩) _ (knOk_new hg) h1
            generalize hp : opPk lf C R (envR st.env kn (tmpsO o.op.operands.toList)) (objR st.obj (footOf C st o)) (freshOf rg i) o.type o.op = pk at h go
            cases pk with
            | fail => cases h
            | nowU v u => exact go v u ⟨rfl, rfl⟩ h
            | dyn α x out =>
              obtain ⟨q, h1, h2⟩ := bnd_some (x := x) h
              exact go (out q).1 (out q).2 ⟨q, h1, rfl⟩ h2
        have skip : (∀ e : En, e.op = o → e.kn = kn → SkipOk all st e) → evF lf C R rg all n w (i + 1) r (putO st o.dst .undef) kn (⟨i, o, [], []⟩ :: tr) k = some y →
            ∃ es, es.map (·.op) = o :: r ∧ RunsF C R rg all i st es ∧ (drawOk (befs all []) all ((es.map En.tr).reverse ++ tr) && trsOk rg ((es.map En.tr).reverse ++ tr)) = true ∧ k w (lastSt es st) = some y := fun hs h =>
          more ⟨i, o, true, kn, [], .undef, []⟩ rfl rfl rfl (.inl ⟨rfl, hs _ rfl rfl, rfl, rfl, rfl⟩) kn (fun h => h) h
        split at h
        · rename_i hg
          exact run (fun e h1 _ => .inl (by rw [h1]; exact hg)) h
        · rename_i j want hg
          split at h
          · rename_i oj hoj
            split at h
            · rename_i dj hdj
              split at h
              · rename_i b hb
                cases hc : (bif want then b else !b) with
                | true =>
                  rw [hc] at h
                  have : b = want := by cases b <;> cases want <;> first | rfl | cases hc
                  subst this
                  exact run (fun e h1 h2 => .inr ⟨j, b, oj, dj, by rw [h1]; exact hg, hoj, hdj, by rw [h2]; exact hb⟩) h
                | false =>
                  rw [hc] at h
                  have : b ≠ want := by cases b <;> cases want <;> first | (intro h; cases h; done) | cases hc
                  exact skip (fun e h1 h2 => ⟨j, want, oj, dj, by rw [h1]; exact hg, hoj, hdj, .inl ⟨b, by rw [h2]; exact hb, this⟩⟩) h
              · split at h
                · rename_i hu
                  exact skip (fun e h1 h2 => ⟨j, want, oj, dj, by rw [h1]; exact hg, hoj, hdj, .inr hu⟩) h
                · rename_i x hx
                  have kn' : ∀ b, x = b → KnOk st ((dj, b) :: kn) := by
                    intro b e d b' hd
                    simp only [lookK] at hd
                    cases hq : Nat.beq dj d with
                    | true =>
                      rw [hq, cond_true] at hd
                      injection hd with hd
                      have := Nat.eq_of_beq_eq_true hq
                      subst this hd e
                      exact hx
                    | false => rw [hq, cond_false] at hd; exact hkn d b' hd
                  cases x with
                  | true => exact ih i (o :: r) st _ tr h (kn' true rfl)
                  | false => exact ih i (o :: r) st _ tr h (kn' false rfl)
                · cases h
            · cases h
          · cases h
end
end Ev


namespace Ev
open Go

/-- What stands before an operation. -/
inductive Pre (all : List Oper) : Nat → Nat → Prop where
  | edge {i : Nat} {o : Oper} {e : Edge} (h1 : all[i]? = some o) (h2 : e ∈ o.after.toList) (h3 : Region.binds .any e = true) : Pre all i e.on
  | trans {i a : Nat} {o : Oper} {e : Edge} (h1 : all[i]? = some o) (h2 : e ∈ o.after.toList) (h3 : Region.binds .any e = true) (h4 : Pre all e.on a) : Pre all i a

theorem testBit_bit {t a : Nat} (h : Nat.testBit (bit t) a = true) : a = t := by
  unfold bit at h
  rw [Nat.testBit_shiftLeft, Bool.and_eq_true] at h
  obtain ⟨h1, h2⟩ := h
  have h1 : t ≤ a := by simpa using h1
  have : a - t = 0 := Classical.byContradiction fun hn => by
    obtain ⟨m, hm⟩ : ∃ m, a - t = m + 1 := ⟨a - t - 1, by omega⟩
    rw [hm, Nat.testBit_succ] at h2
    simp at h2
  omega

theorem fold_pre {all : List Oper} {acc : List Nat} (hacc : ∀ i a, Nat.testBit (acc.getD i 0) a = true → Pre all i a) {i : Nat} {o : Oper} (ho : all[i]? = some o) : ∀ (l : List Edge) (s : Nat), (∀ e, e ∈ l → e ∈ o.after.toList) →
    (∀ a, Nat.testBit s a = true → Pre all i a) → ∀ a, Nat.testBit (l.foldl (fun s e => bif Region.binds .any e then s ||| bit e.on ||| acc.getD e.on 0 else s) s) a = true → Pre all i a
  | [], s, _, hs, a, h => hs a h
  | e :: l, s, hl, hs, a, h => by
    refine fold_pre hacc ho l _ (fun q hq => hl q (List.mem_cons_of_mem _ hq)) ?_ a h
    intro a ha
    replace ha : Nat.testBit (bif Region.binds .any e then s ||| bit e.on ||| acc.getD e.on 0 else s) a = true := ha
    cases hb : Region.binds .any e with
    | false => rw [hb, cond_false] at ha; exact hs a ha
    | true =>
      rw [hb, cond_true, Nat.testBit_or, Nat.testBit_or, Bool.or_eq_true, Bool.or_eq_true] at ha
      rcases ha with (ha | ha) | ha
      · exact hs a ha
      · rw [testBit_bit ha]; exact .edge ho (hl e (List.mem_cons_self ..)) hb
      · exact .trans ho (hl e (List.mem_cons_self ..)) hb (hacc _ _ ha)

theorem befs_pre {all : List Oper} : ∀ (r pre : List Oper) (acc : List Nat), all = pre ++ r → acc.length = pre.length → (∀ i a, Nat.testBit (acc.getD i 0) a = true → Pre all i a) →
    ∀ i a, Nat.testBit ((befs r acc).getD i 0) a = true → Pre all i a
  | [], pre, acc, _, _, hacc => hacc
  | o :: r, pre, acc, hall, hlen, hacc => by
    refine befs_pre r (pre ++ [o]) _ (by rw [hall]; simp) (by simp [hlen]) ?_
    have ho : all[pre.length]? = some o := by rw [hall]; simp
    intro i a h
    by_cases hi : i < acc.length
    · rw [List.getD_eq_getElem?_getD, List.getElem?_append_left hi, ← List.getD_eq_getElem?_getD] at h
      exact hacc i a h
    · by_cases hi2 : i = acc.length
      · rw [List.getD_eq_getElem?_getD, List.getElem?_append_right (by omega), hi2, Nat.sub_self] at h
        rw [hi2, hlen]
        exact fold_pre hacc ho o.after.toList 0 (fun _ h => h) (fun a h => by simp at h) a h
      · rw [List.getD_eq_getElem?_getD, List.getElem?_eq_none (by simp; omega)] at h
        simp at h

/-- What stands before a listed operation, or before one that is ready, is listed. -/
theorem pre_listed {all : List Oper} {S : Nat → Bool} (hS : ∀ i o, all[i]? = some o → S i = true → ∀ e, e ∈ o.after.toList → Region.binds .any e = true → S e.on = true) {i a : Nat} (h : Pre all i a) : S i = true → S a = true := by
  induction h with
  | edge h1 h2 h3 => exact fun hi => hS _ _ h1 hi _ h2 h3
  | trans h1 h2 h3 _ ih => exact fun hi => ih (hS _ _ h1 hi _ h2 h3)

theorem pre_ready {all : List Oper} {S : Nat → Bool} (hS : ∀ i o, all[i]? = some o → S i = true → ∀ e, e ∈ o.after.toList → Region.binds .any e = true → S e.on = true) {i a : Nat} {o : Oper} (ho : all[i]? = some o)
    (hr : ∀ e, e ∈ o.after.toList → Region.binds .any e = true → S e.on = true) (h : Pre all i a) : S a = true := by
  cases h with
  | edge h1 h2 h3 => rw [ho] at h1; injection h1 with h1; subst h1; exact hr _ h2 h3
  | trans h1 h2 h3 h4 => rw [ho] at h1; injection h1 with h1; subst h1; exact pre_listed hS h4 (hr _ h2 h3)
end Ev


namespace Ev
open Go

theorem notIn_mem {d : Nat} : ∀ {l : List Nat}, notIn d l = true → d ∉ l
  | [], _ => by simp
  | b :: r, h => by
    simp only [notIn] at h
    cases hb : Nat.beq b d with
    | true => rw [hb] at h; cases h
    | false =>
      rw [hb] at h
      have hr := notIn_mem h
      intro hm
      rcases List.mem_cons.1 hm with hm | hm
      · subst hm; rw [Nat.beq_refl] at hb; cases hb
      · exact hr hm

/-- A temporary is the same, if the operations that are in one but not in the other do not write it. -/
theorem fam_env {S S' : Nat → Bool} {t : Nat} : ∀ (es : List En) (st st' : St), st.env t = st'.env t → (∀ q, q ∈ es → S q.i ≠ S' q.i → q.op.dst ≠ some t) → (fam S es st).env t = (fam S' es st').env t
  | [], _, _, h, _ => h
  | q :: es, st, st', h, hq => by
    have hr := fun p hp => hq p (List.mem_cons_of_mem q hp)
    show (fam S es (bif S q.i then q.app st else st)).env t = (fam S' es (bif S' q.i then q.app st' else st')).env t
    refine fam_env es _ _ ?_ hr
    by_cases e : S q.i = S' q.i
    · rw [e]
      cases S' q.i with
      | false => exact h
      | true =>
        show (q.app st).env t = (q.app st').env t
        rcases app_env q st t with ⟨h1, h2⟩ | ⟨h1, h2⟩ <;> rcases app_env q st' t with ⟨h3, h4⟩ | ⟨h3, h4⟩
        · rw [h2, h4]
        · exact absurd h1 h3
        · exact absurd h3 h1
        · rw [h2, h4, h]
    · have hd := hq q (List.mem_cons_self ..) e
      have one : ∀ (b : Bool) (s : St), (bif b then q.app s else s).env t = s.env t := by
        intro b s
        cases b with
        | false => rfl
        | true =>
          rcases app_env q s t with ⟨h1, _⟩ | ⟨_, h2⟩
          · exact absurd h1 hd
          · exact h2
      rw [one, one, h]

/-- An object likewise. -/
theorem fam_obj {S S' : Nat → Bool} {id : Nat} : ∀ (es : List En) (st st' : St), st.obj id = st'.obj id → (∀ q, q ∈ es → S q.i ≠ S' q.i → id ∉ keysU q.u) → (fam S es st).obj id = (fam S' es st').obj id
  | [], _, _, h, _ => h
  | q :: es, st, st', h, hq => by
    have hr := fun p hp => hq p (List.mem_cons_of_mem q hp)
    show (fam S es (bif S q.i then q.app st else st)).obj id = (fam S' es (bif S' q.i then q.app st' else st')).obj id
    refine fam_obj es _ _ ?_ hr
    have upd1 : ∀ s s' : St, s.obj id = s'.obj id → (q.app s).obj id = (q.app s').obj id := by
      intro s s' hs
      rw [app_obj, app_obj]
      by_cases hk : id ∈ keysU q.u
      · exact upds_in hk
      · rw [upds_not hk, upds_not hk, hs]
    by_cases e : S q.i = S' q.i
    · rw [e]
      cases S' q.i with
      | false => exact h
      | true => exact upd1 st st' h
    · have hd := hq q (List.mem_cons_self ..) e
      have one : ∀ (b : Bool) (s : St), (bif b then q.app s else s).obj id = s.obj id := by
        intro b s
        cases b with
        | false => rfl
        | true => show (q.app s).obj id = s.obj id; rw [app_obj, upds_not hd]
      rw [one, one, h]
end Ev


namespace Ev
open Go

theorem disj_mem {a b : List Nat} (h : disj a b = true) : ∀ x, x ∈ a → x ∉ b := by
  intro x hx hb
  unfold disj at h
  have := List.all_eq_true.1 h x hx
  rw [hasN_iff.2 hb] at this
  cases this

theorem dstNot_spec {d : Option Nat} {l : List Nat} (h : dstNot d l = true) : ∀ t, d = some t → t ∉ l := by
  rintro t rfl
  exact notIn_mem h

theorem passAll_mem {bef : List Nat} {all : List Oper} {b : Tr} {r : List Tr} : passAll bef all b r = true → ∀ a, a ∈ r → mayPass bef all a b = true := by
  induction r with
  | nil => intro _ a ha; cases ha
  | cons x r ih =>
    intro h a ha
    simp only [passAll, Bool.and_eq_true] at h
    rcases List.mem_cons.1 ha with ha | ha
    · subst ha; exact h.1
    · exact ih h.2 a ha

/-- Each two operations, the earlier one first, may pass each other, or the one stands before the other. -/
theorem drawOk_pair {bef : List Nat} {all : List Oper} : ∀ (l1 l2 : List Tr) (b : Tr), drawOk bef all (l1 ++ b :: l2) = true → ∀ a, a ∈ l2 → mayPass bef all a b = true
  | [], l2, b, h => by
    simp only [List.nil_append, drawOk, Bool.and_eq_true] at h
    exact passAll_mem h.1
  | x :: l1, l2, b, h => by
    simp only [List.cons_append, drawOk, Bool.and_eq_true] at h
    exact drawOk_pair l1 l2 b h.2
end Ev


namespace Ev
open Go

/-- The operations that are listed hold all that stands before them. -/
def Down (all : List Oper) (S : Nat → Bool) : Prop := ∀ i o, all[i]? = some o → S i = true → ∀ e, e ∈ o.after.toList → Region.binds .any e = true → S e.on = true

/-- What may be in one state but not in the other may pass an operation that is ready. -/
theorem differs {all : List Oper} {S : Nat → Bool} (hS : Down all S) {l1 l2 : List En} {e : En} {o : Oper} (ho : all[e.i]? = some o) (hr : ∀ ed, ed ∈ o.after.toList → Region.binds .any ed = true → S ed.on = true) (hSe : S e.i = false)
    (hd : drawOk (befs all []) all ((l1 ++ e :: l2).map En.tr).reverse = true) (h1 : ∀ q, q ∈ l1 → q.i < e.i) (h2 : ∀ q, q ∈ l2 → e.i < q.i) :
    ∀ q, q ∈ l1 ++ e :: l2 → S q.i ≠ decide (q.i < e.i) → (∀ t, q.op.dst = some t → t ∉ looksO all e.op) ∧ (∀ id, id ∈ keysU q.u → id ∉ e.F ∧ id ∉ keysU e.u) := by
  have hpre := befs_pre (all := all) all [] [] rfl rfl (fun i a h => by simp at h)
  intro q hq hne
  rcases List.mem_append.1 hq with hq | hq
  ·
    have hlt := h1 q hq
    have hsq : S q.i = false := by
      cases hs : S q.i with
      | false => rfl
      | true => rw [hs] at hne; simp [hlt] at hne
    have hp : mayPass (befs all []) all q.tr e.tr = true := by
      refine drawOk_pair (l2.map En.tr).reverse (l1.map En.tr).reverse e.tr ?_ q.tr ?_
      · rw [List.map_append, List.map_cons, List.reverse_append, List.reverse_cons, List.append_assoc] at hd
        exact hd
      · exact List.mem_reverse.2 (List.mem_map_of_mem hq)
    unfold mayPass at hp
    rw [Bool.or_eq_true] at hp
    rcases hp with hp | hp
    · have := pre_ready hS ho hr (hpre _ _ hp)
      have this : S q.i = true := this
      rw [hsq] at this; cases this
    · unfold apartT at hp
      simp only [Bool.and_eq_true] at hp
      obtain ⟨⟨⟨a1, _⟩, a3⟩, _⟩ := hp
      exact ⟨fun t ht hm => dstNot_spec a1 t ht (List.mem_append_left _ hm), fun id hid => ⟨fun h => disj_mem a3 id hid (List.mem_append_left _ h), fun h => disj_mem a3 id hid (List.mem_append_right _ h)⟩⟩
  · rcases List.mem_cons.1 hq with hq | hq
    · subst hq
      rw [hSe] at hne; simp at hne
    ·
      have hlt := h2 q hq
      have hsq : S q.i = true := by
        cases hs : S q.i with
        | true => rfl
        | false => rw [hs] at hne; simp at hne; omega
      have hp : mayPass (befs all []) all e.tr q.tr = true := by
        obtain ⟨m1, m2, rfl⟩ := List.append_of_mem hq
        refine drawOk_pair (m2.map En.tr).reverse ((l1 ++ e :: m1).map En.tr).reverse q.tr ?_ e.tr ?_
        · have e1 : l1 ++ e :: (m1 ++ q :: m2) = (l1 ++ e :: m1) ++ q :: m2 := by simp
          rw [e1, List.map_append, List.map_cons, List.reverse_append, List.reverse_cons, List.append_assoc] at hd
          exact hd
        · exact List.mem_reverse.2 (List.mem_map_of_mem (List.mem_append_right _ (List.mem_cons_self ..)))
      unfold mayPass at hp
      rw [Bool.or_eq_true] at hp
      rcases hp with hp | hp
      · have := pre_listed hS (hpre _ _ hp) hsq
        have this : S e.i = true := this
        rw [hSe] at this; cases this
      · unfold apartT at hp
        simp only [Bool.and_eq_true] at hp
        obtain ⟨⟨⟨_, a2⟩, a3⟩, a4⟩ := hp
        exact ⟨fun t ht hm => dstNot_spec a2 t ht hm, fun id hid => ⟨fun h => disj_mem a4 id hid h, fun h => disj_mem a3 id h (List.mem_append_right _ hid)⟩⟩
end Ev


namespace Ev
open Go

theorem fam_none {S : Nat → Bool} : ∀ (l : List En) (st : St), (∀ q, q ∈ l → S q.i = false) → fam S l st = st
  | [], _, _ => rfl
  | q :: l, st, h => by
    show fam S l (bif S q.i then q.app st else st) = st
    rw [h q (List.mem_cons_self ..)]
    exact fam_none l st fun p hp => h p (List.mem_cons_of_mem _ hp)

theorem fam_all {S : Nat → Bool} : ∀ (l : List En) (st : St), (∀ q, q ∈ l → S q.i = true) → fam S l st = lastSt l st
  | [], _, _ => rfl
  | q :: l, st, h => by
    show fam S l (bif S q.i then q.app st else st) = lastSt l (q.app st)
    rw [h q (List.mem_cons_self ..)]
    exact fam_all l _ fun p hp => h p (List.mem_cons_of_mem _ hp)

/-- An operation that is ready sees what it saw in the order of the text. -/
theorem agree {all : List Oper} {S : Nat → Bool} (hS : Down all S) {l1 l2 : List En} {e : En} {o : Oper} (ho : all[e.i]? = some o) (hr : ∀ ed, ed ∈ o.after.toList → Region.binds .any ed = true → S ed.on = true) (hSe : S e.i = false)
    (hd : drawOk (befs all []) all ((l1 ++ e :: l2).map En.tr).reverse = true) (h1 : ∀ q, q ∈ l1 → q.i < e.i) (h2 : ∀ q, q ∈ l2 → e.i < q.i) (st : St) :
    (∀ t, t ∈ looksO all e.op → (fam S (l1 ++ e :: l2) st).env t = (lastSt l1 st).env t) ∧
    (∀ id, (id ∈ e.F ∨ id ∈ keysU e.u) → (fam S (l1 ++ e :: l2) st).obj id = (lastSt l1 st).obj id) := by
  have hdf := differs hS ho hr hSe hd h1 h2
  have hlast : fam (fun i => decide (i < e.i)) (l1 ++ e :: l2) st = lastSt l1 st := by
    rw [fam_append, fam_all l1 st (fun q hq => by simpa using h1 q hq)]
    refine fam_none _ _ fun q hq => ?_
    rcases List.mem_cons.1 hq with hq | hq
    · subst hq; simp
    · have := h2 q hq; simp; omega
  refine ⟨fun t ht => ?_, fun id hid => ?_⟩
  · rw [← hlast]
    exact fam_env _ _ _ rfl fun q hq hne hdst => (hdf q hq hne).1 t hdst ht
  · rw [← hlast]
    refine fam_obj _ _ _ rfl fun q hq hne hk => ?_
    obtain ⟨g1, g2⟩ := (hdf q hq hne).2 id hk
    exact hid.elim g1 g2
end Ev


namespace Ev
open Go

theorem hasR_reach {o : Nat → Obj} : ∀ (F l : List Nat), closed o F l = true → ∀ id, id ∈ l → ∀ j, j ∈ idsO (o id) → j ∈ F
  | F, x :: r, h, id, hi, j, hj => by
    simp only [closed, Bool.and_eq_true] at h
    have key : ∀ (l m : List Nat), allIn l m = true → ∀ q, q ∈ l → q ∈ m := by
      intro l m
      induction l with
      | nil => intro _ q hq; cases hq
      | cons y l ih =>
        intro h q hq
        simp only [allIn, Bool.and_eq_true] at h
        rcases List.mem_cons.1 hq with hq | hq
        · subst hq; exact hasN_iff.1 h.1
        · exact ih h.2 q hq
    rcases List.mem_cons.1 hi with hi | hi
    · subst hi; exact key _ _ h.1 j hj
    · exact hasR_reach F r h.2 id hi j hj

theorem reach_sub (o : Nat → Obj) : ∀ (n : Nat) (l : List Nat) (x : Nat), x ∈ l → x ∈ reach o n l
  | 0, _, _, h => h
  | _ + 1, _, _, h => List.mem_append_left _ h

theorem idsL_mem : ∀ {l : List V} {v : V} {id : Nat}, v ∈ l → id ∈ idsV v → id ∈ idsL l
  | x :: l, v, id, hv, hi => by
    unfold idsL
    rcases List.mem_cons.1 hv with rfl | hv
    · exact List.mem_append_left _ hi
    · exact List.mem_append_right _ (idsL_mem hv hi)

theorem tmpsO_mem : ∀ {l : List Operand} {t : Nat}, t ∈ tmpsO l → Operand.tmp t ∈ l
  | x :: r, t, h => by
    cases x <;> simp only [tmpsO] at h <;> try exact List.mem_cons_of_mem _ (tmpsO_mem h)
    rcases List.mem_cons.1 h with h | h
    · subst h; exact List.mem_cons_self ..
    · exact List.mem_cons_of_mem _ (tmpsO_mem h)
end Ev


namespace Ev
open Go

/-- The operands of an operation, over what it reaches alone. -/
theorem opd_restrict {C : Cx} {nt : Nat} {X : Nat → Prop} {φ : Nat → Addr} {st : St} {a : Act} {w : World} (hR : Rel C nt X φ st a w) {kn : List (Nat × Bool)} {ops : List Operand} (hk : ∀ d b, d ∈ tmpsO ops → lookK d kn = some b → st.env d = .d .bool b) {F : List Nat}
    (hF : ∀ id, id ∈ idsL (ops.map (opd C st.env)) → id ∈ F) (hm : MRel C (Xr X φ st.obj F) φ (objR st.obj F) w) : ∀ x, relVal φ (objR st.obj F) (immB (Xr X φ st.obj F) φ (objR st.obj F) w) w (opd C (envR st.env kn (tmpsO ops)) x) (a.eval x) := by
  intro x
  cases x with
  | tmp t =>
    show relVal φ _ _ w (unlb (envR st.env kn (tmpsO ops) t)) (a.tmps.getD t undef)
    unfold envR
    cases hh : hasN t (tmpsO ops) with
    | false => trivial
    | true =>
      rw [cond_true]
      have ht := hasN_iff.1 hh
      split
      · rename_i b hb
        have hz := hR.env t
        rw [hk t b ht hb] at hz
        have := rel_bool hz
        rw [this]; exact mk_bool
      · exact relVal_restrict (fun id hi => hF id (idsL_mem (List.mem_map_of_mem (tmpsO_mem ht)) hi)) (relVal_unlb (hR.env t))
  | const v => exact relVal_cst v
  | global g =>
    simp only [opd, Act.eval]
    split
    · rename_i e; exact hm.globs _ _ _ e
    · trivial
  | func f => exact ⟨#[], rfl, rfl⟩
end Ev


namespace Ev
open Go

section
variable {C : Cx} {R : Oracle C.sigs} {nt : Nat}

/-- An operation that is to run, over what it reaches alone. -/
theorem run_restricted (hC : CxOk C) (hE : EqOk C) (HC : ∀ X φ o w, MRel C X φ o w → ∀ fr f, CallsOk C R X φ o w fr f) {X : Nat → Prop} {φ : Nat → Addr} {st : St} {a : Act} {w : World} (hR : Rel C nt X φ st a w) {o : Oper} {kn : List (Nat × Bool)} {F : List Nat} {fr : Nat}
    (hkn : ∀ d b, d ∈ tmpsO o.op.operands.toList → lookK d kn = some b → st.env d = .d .bool b) (hF : ∀ id, id ∈ idsL (o.op.operands.toList.map (opd C st.env)) → id ∈ F) (hcl : closed st.obj F F = true)
    {v : V} {u : List (Nat × Obj)} (hg : (opPk lf C R (envR st.env kn (tmpsO o.op.operands.toList)) (objR st.obj F) fr o.type o.op).gives v u) (hnew : ∀ id, id ∈ keysU u → id ∉ F → st.obj id = .none)
    (hfr : Frees fr (objR st.obj F) u) {K : Act → World → Prop} {Q : Exit → Act → World → Prop} (hK : ∀ val w' φ', Comes C X φ φ' st.obj u w w' v val → K (a.put o.dst val) w') : o.wp C.P a w K Q := by
  have hm := hR.toMRel.restrict (F := F) (fun id hi j hj => hasR_reach F F hcl id hi j hj)
  have hl := op_ok hC hE hm (opd_restrict hR hkn hF hm) (HC _ _ _ _ hm fr) hg hfr
  exact hl.upon fun val w' φ' hc => by
    obtain ⟨φ'', h⟩ := hc.unrestrict hR.toMRel hnew
    exact hK val w' φ'' h
end
end Ev


namespace Ev
open Go

theorem closed_congr {o o' : Nat → Obj} (F : List Nat) : ∀ (l : List Nat), (∀ id, id ∈ l → o id = o' id) → closed o F l = closed o' F l
  | [], _ => rfl
  | x :: l, h => by
    simp only [closed]
    rw [h x (List.mem_cons_self ..), closed_congr F l fun id hi => h id (List.mem_cons_of_mem _ hi)]

theorem keysU_ex : ∀ {u : List (Nat × Obj)} {id : Nat}, id ∈ keysU u → ∃ p, p ∈ u ∧ p.1 = id
  | p :: r, id, h => by
    rcases List.mem_cons.1 h with h | h
    · exact ⟨p, List.mem_cons_self .., h.symm⟩
    · obtain ⟨q, h1, h2⟩ := keysU_ex h
      exact ⟨q, List.mem_cons_of_mem _ h1, h2⟩

theorem keysIn_mem {F : List Nat} {fr : Nat} : ∀ {l : List Nat}, keysIn F fr l = true → ∀ id, id ∈ l → id ∈ F ∨ (fr ≤ id ∧ id < fr + 16)
  | [], _, id, h => by cases h
  | x :: l, hk, id, h => by
    simp only [keysIn, Bool.and_eq_true, Bool.or_eq_true] at hk
    rcases List.mem_cons.1 h with h | h
    · subst h
      exact hk.1.imp hasN_iff.1 fun h => ⟨Nat.le_of_ble_eq_true h.1, Nat.le_of_ble_eq_true h.2⟩
    · exact keysIn_mem hk.2 id h

section
variable {C : Cx} {R : Oracle C.sigs} {nt : Nat}

/-- An operation that is ready, in whatever order. -/
theorem draw_step (hC : CxOk C) (hE : EqOk C) (HC : ∀ X φ o w, MRel C X φ o w → ∀ fr f, CallsOk C R X φ o w fr f) {ops : Array Oper} {rg : Nat} {X : Nat → Prop} {φ : Nat → Addr} {st0 : St} {S : Nat → Bool} {l1 l2 : List En} {e : En} {a : Act} {w : World}
    (ho : ops.toList[e.i]? = some e.op) (hS : Down ops.toList S) (hr : ∀ ed, ed ∈ e.op.after.toList → Region.binds .any ed = true → S ed.on = true) (hSe : S e.i = false)
    (hd : drawOk (befs ops.toList []) ops.toList ((l1 ++ e :: l2).map En.tr).reverse = true) (h1 : ∀ q, q ∈ l1 → q.i < e.i) (h2 : ∀ q, q ∈ l2 → e.i < q.i)
    (hki : keysIn e.F (freshOf rg e.i) (keysU e.u) = true) (hen : EnOk C R rg ops.toList (lastSt l1 st0) e) (hkn : KnOk (lastSt l1 st0) e.kn) (hR : Rel C nt X φ (fam S (l1 ++ e :: l2) st0) a w) {K : Act → World → Prop} {Q : Exit → Act → World → Prop}
    (hK : ∀ z w' φ', Comes C X φ φ' (fam S (l1 ++ e :: l2) st0).obj e.u w w' e.v z → K (a.put e.op.dst z) w') : wpOp C.P ops Q e.i K a w := by
  obtain ⟨ag1, ag2⟩ := agree hS ho hr hSe hd h1 h2 st0
  generalize fam S (l1 ++ e :: l2) st0 = st at *
  have hop : ops[e.i]? = some e.op := by rw [← Array.getElem?_toList]; exact ho
  have lookg : ∀ j want oj dj, e.op.guard = some (j, want) → ops.toList[j]? = some oj → oj.dst = some dj → dj ∈ looksO ops.toList e.op := fun j want oj dj g1 g2 g3 => by
    unfold looksO
    refine List.mem_append_right _ ?_
    rw [g1]; simp only; rw [g2]; simp only; rw [g3]; exact List.mem_cons_self ..
  unfold wpOp
  simp only [hop]
  rcases hen with ⟨_, ⟨j, want, oj, dj, g1, g2, g3, g4⟩, hv, hu, _⟩ | ⟨_, hw, hF, hcl, hg, hf⟩
  · have hz := hR.env dj
    rw [ag1 dj (lookg j want oj dj g1 g2 g3)] at hz
    have hy : Region.wanted e.op (yielded ops a.tmps) = false := by
      unfold Region.wanted
      rw [g1]
      simp only
      rcases g4 with ⟨b, hb, hne⟩ | hun
      · rw [hkn dj b hb] at hz
        rw [yield_bool g2 g3 (rel_bool hz)]
        cases b <;> cases want <;> first | rfl | exact absurd rfl hne
      · rw [hun] at hz
        rw [yield_undef g2 g3 hz]; rfl
    rw [if_neg (by rw [hy]; simp)]
    exact hK undef w φ (by rw [hu, hv]; exact .same hR.toMRel rfl)
  · have hy : Region.wanted e.op (yielded ops a.tmps) = true := by
      unfold Region.wanted
      rcases hw with hw | ⟨j, want, oj, dj, g1, g2, g3, g4⟩
      · rw [hw]
      · have hz := hR.env dj
        rw [ag1 dj (lookg j want oj dj g1 g2 g3), hkn dj want g4] at hz
        rw [g1]
        simp only
        rw [yield_bool g2 g3 (rel_bool hz)]
        simp
    rw [if_pos hy]
    have lt : ∀ t, t ∈ tmpsO e.op.op.operands.toList → st.env t = (lastSt l1 st0).env t := fun t ht => ag1 t (List.mem_append_left _ ht)
    have hopd : e.op.op.operands.toList.map (opd C st.env) = e.op.op.operands.toList.map (opd C (lastSt l1 st0).env) := by
      apply List.map_congr_left
      intro x hx
      cases x with
      | tmp t =>
        have ht : t ∈ tmpsO e.op.op.operands.toList := by
          revert hx
          generalize e.op.op.operands.toList = l
          intro hx
          induction l with
          | nil => cases hx
          | cons y r ih =>
            rcases List.mem_cons.1 hx with h | h
            · subst h; exact List.mem_cons_self ..
            · cases y <;> first | exact ih h | exact List.mem_cons_of_mem _ (ih h)
        show unlb (st.env t) = unlb ((lastSt l1 st0).env t)
        rw [lt t ht]
      | _ => rfl
    have hobj : ∀ id, id ∈ e.F → st.obj id = (lastSt l1 st0).obj id := fun id h => ag2 id (.inl h)
    have eR : envR st.env e.kn (tmpsO e.op.op.operands.toList) = envR (lastSt l1 st0).env e.kn (tmpsO e.op.op.operands.toList) := funext fun t => by
      unfold envR
      cases hh : hasN t (tmpsO e.op.op.operands.toList) with
      | false => rfl
      | true => rw [lt t (hasN_iff.1 hh)]
    have oR : objR st.obj e.F = objR (lastSt l1 st0).obj e.F := funext fun id => by
      by_cases h : id ∈ e.F
      · rw [objR_in h, objR_in h, hobj id h]
      · rw [objR_out h, objR_out h]
    refine .inl (run_restricted hC hE HC hR ?_ ?_ ?_ (by rw [eR, oR]; exact hg) ?_ ?_ hK)
    · intro d b hdt hb
      rw [lt d hdt]; exact hkn d b hb
    · intro id hid
      rw [hopd] at hid
      rw [hF]
      exact reach_sub _ _ _ _ hid
    · rw [closed_congr e.F e.F (fun id h => hobj id h)]; exact hcl
    · intro id hid hnf
      rw [ag2 id (.inr hid)]
      obtain ⟨p, hp, rfl⟩ := keysU_ex hid
      rcases keysIn_mem hki p.1 hid with h | ⟨h3, h4⟩
      · exact absurd h hnf
      · exact hf p hp h3 h4
    · intro p hp h3 h4
      by_cases h : p.1 ∈ e.F
      · rw [objR_in h, hobj _ h]; exact hf p hp h3 h4
      · exact objR_out h
end
end Ev


namespace Ev
open Go

section
variable {C : Cx} {R : Oracle C.sigs} {nt : Nat}

/-- A world in which something was drawn holds what it held. -/
theorem Rel.drawn {X : Nat → Prop} {φ : Nat → Addr} {st : St} {a : Act} {w : World} (h : Rel C nt X φ st a w) : Rel C nt X φ st a { w with drawn := w.drawn + 1 } := by
  have hw : ({ w with drawn := w.drawn + 1 } : World).heap = w.heap := rfl
  generalize ({ w with drawn := w.drawn + 1 } : World) = w' at hw
  have himm : ∀ b, immB X φ st.obj w b → immB X φ st.obj w' b := fun b hb => ⟨by rw [hw]; exact hb.1, hb.2⟩
  have keeps : ∀ x z, relVal φ st.obj (immB X φ st.obj w) w x z → relVal φ st.obj (immB X φ st.obj w') w' x z :=
    fun x z hx => relVal_up himm (fun _ _ => by rw [hw]) (fun _ => Up.same fun _ n hr => room_congr (by rw [hw]) hr) x z hx
  exact ⟨⟨fun id => relObj_keep himm (fun _ _ => by rw [hw]) keeps rfl (fun _ => by rw [hw]) (h.objs id), h.inj, (fun i hi => by rw [hw]; exact h.sep i hi), (fun b hb => by rw [hw]; exact h.xs b hb), (fun id => h.toMRel.els_keep id (fun _ => .same (by rw [hw])) (fun _ _ => by rw [hw])), fun g t x hg => keeps _ _ (h.globs g t x hg)⟩, h.size, fun t => keeps _ _ (h.env t), h.defers⟩

theorem runsF_split {rg : Nat} {all : List Oper} : ∀ (l1 : List En) (i : Nat) (st : St) (e : En) (l2 : List En), RunsF C R rg all i st (l1 ++ e :: l2) →
    e.i = i + l1.length ∧ EnOk C R rg all (lastSt l1 st) e ∧ KnOk (lastSt l1 st) e.kn ∧ (∀ q, q ∈ l1 → q.i < i + l1.length) ∧ (∀ q, q ∈ l2 → i + l1.length < q.i)
  | [], i, st, e, l2, h => by
    obtain ⟨h1, h2, h3, _, h5⟩ := h
    refine ⟨h1, h2, h3, (fun q hq => by cases hq), ?_⟩
    have key : ∀ (l : List En) (j : Nat) (s : St), RunsF C R rg all j s l → ∀ q, q ∈ l → j ≤ q.i := by
      intro l
      induction l with
      | nil => intro _ _ _ q hq; cases hq
      | cons p l ih =>
        intro j s hr q hq
        obtain ⟨g1, _, _, _, g5⟩ := hr
        rcases List.mem_cons.1 hq with hq | hq
        · subst hq; omega
        · have := ih (j + 1) _ g5 q hq; omega
    intro q hq
    have := key l2 (i + 1) _ h5 q hq
    simp only [List.length_nil]; omega
  | p :: l1, i, st, e, l2, h => by
    obtain ⟨h1, _, _, _, h5⟩ := h
    obtain ⟨g1, g2, g3, g4, g5⟩ := runsF_split l1 (i + 1) (p.app st) e l2 h5
    simp only [List.length_cons]
    refine ⟨by omega, g2, g3, fun q hq => ?_, fun q hq => ?_⟩
    · rcases List.mem_cons.1 hq with hq | hq
      · subst hq; omega
      · have := g4 q hq; omega
    · have := g5 q hq; omega

theorem trsOk_mem {rg : Nat} : ∀ {l : List Tr}, trsOk rg l = true → ∀ t, t ∈ l → backE t.i t.op.after.toList = true ∧ keysIn t.rd (freshOf rg t.i) t.wr = true
  | [], _, t, h => by cases h
  | x :: l, hk, t, h => by
    simp only [trsOk, Bool.and_eq_true] at hk
    rcases List.mem_cons.1 h with h | h
    · subst h; exact hk.1
    · exact trsOk_mem hk.2 t h

theorem backE_mem {i : Nat} : ∀ {l : List Edge}, backE i l = true → ∀ e, e ∈ l → Region.binds .any e = true → e.on < i
  | [], _, e, h => by cases h
  | x :: l, hk, e, h => by
    intro hb
    simp only [backE, Bool.and_eq_true, Bool.or_eq_true] at hk
    rcases List.mem_cons.1 h with h | h
    · subst h
      rw [hb] at hk
      exact Nat.le_of_ble_eq_true (hk.1.resolve_left (by simp))
    · exact backE_mem hk.2 e h hb

/-- Which operations are listed. -/
def lst (listed : Array Bool) (i : Nat) : Bool := listed.getD i false

theorem mem_ready {ops : Array Oper} {listed : Array Bool} (hs : listed.size = ops.size) {i : Nat} : i ∈ Region.ready .any ops listed ↔
    ∃ o, ops[i]? = some o ∧ lst listed i = false ∧ ∀ e, e ∈ o.after.toList → Region.binds .any e = true → lst listed e.on = true := by
  unfold Region.ready
  rw [List.mem_filter, List.mem_range, Bool.and_eq_true]
  constructor
  · rintro ⟨h1, h2, h3⟩
    have ho : ops[i]? = some ops[i] := Array.getElem?_eq_getElem h1
    refine ⟨ops[i], ho, ?_, ?_⟩
    · unfold lst
      have hl : i < listed.size := by omega
      simp only [Array.getD, hl, dif_pos] at h2 ⊢
      simpa using h2
    · rw [ho] at h3
      simp only [Option.map_some, Option.getD_some] at h3
      rw [← Array.all_toList, List.all_eq_true] at h3
      intro e he hb
      have := h3 e he
      rw [hb] at this
      simpa [lst] using this
  · rintro ⟨o, ho, h2, h3⟩
    have h1 : i < ops.size := by
      rcases Nat.lt_or_ge i ops.size with h | h
      · exact h
      · rw [Array.getElem?_eq_none h] at ho; cases ho
    refine ⟨h1, ?_, ?_⟩
    · unfold lst at h2
      have hl : i < listed.size := by omega
      simp only [Array.getD, hl, dif_pos] at h2 ⊢
      simpa using h2
    · rw [ho]
      simp only [Option.map_some, Option.getD_some]
      rw [← Array.all_toList, List.all_eq_true]
      intro e he
      cases hb : Region.binds .any e with
      | false => rfl
      | true => have := h3 e he hb; simpa [lst] using this

theorem lst_set {listed : Array Bool} {i j : Nat} (hi : i < listed.size) : lst (listed.setIfInBounds i true) j = (decide (i = j) || lst listed j) := by
  unfold lst
  simp only [Array.getD_eq_getD_getElem?, Array.getElem?_setIfInBounds]
  by_cases h : i = j
  · subst h; simp [hi]
  · simp [h]

def unl (listed : Array Bool) : Nat := listed.toList.countP (fun b => !b)

theorem unl_set_list : ∀ (l : List Bool) (i : Nat), l[i]? = some false → (l.set i true).countP (fun b => !b) + 1 = l.countP (fun b => !b)
  | [], _, h => by simp at h
  | b :: l, 0, h => by
    simp at h; subst h; simp
  | b :: l, i + 1, h => by
    have := unl_set_list l i (by simpa using h)
    simp only [List.set_cons_succ, List.countP_cons]
    omega

theorem unl_set {listed : Array Bool} {i : Nat} (hi : i < listed.size) (h : lst listed i = false) : unl (listed.setIfInBounds i true) + 1 = unl listed := by
  unfold unl
  rw [Array.toList_setIfInBounds]
  refine unl_set_list _ _ ?_
  unfold lst at h
  simp only [Array.getD, hi, dif_pos] at h
  rw [Array.getElem?_toList, Array.getElem?_eq_getElem hi]
  exact congrArg some h

theorem lst_of_unl {listed : Array Bool} (h : unl listed = 0) {i : Nat} (hi : i < listed.size) : lst listed i = true := by
  unfold unl at h
  rw [List.countP_eq_zero] at h
  unfold lst
  simp only [Array.getD, hi, dif_pos]
  have := h listed[i] (by simp)
  simpa using this

/-- Where nothing is ready, all is listed. -/
theorem all_listed {ops : Array Oper} {listed : Array Bool} (hs : listed.size = ops.size) (hb : ∀ i o, ops[i]? = some o → ∀ e, e ∈ o.after.toList → Region.binds .any e = true → e.on < i) (h : Region.ready .any ops listed = []) :
    ∀ i, i < ops.size → lst listed i = true := by
  intro i
  induction i using Nat.strongRecOn with
  | _ i ih =>
    intro hi
    cases hl : lst listed i with
    | true => rfl
    | false =>
      exfalso
      have ho : ops[i]? = some ops[i] := Array.getElem?_eq_getElem hi
      have : i ∈ Region.ready .any ops listed := (mem_ready hs).2 ⟨_, ho, hl, fun e he hbd => by
        have := hb i _ ho e he hbd
        exact ih _ this (by omega)⟩
      rw [h] at this
      cases this
end
end Ev


namespace Ev
open Go

/-- A later operation that is listed writes no temporary of one that is ready. -/
theorem passes {all : List Oper} {S : Nat → Bool} (hS : Down all S) {l1 l2 : List En} {e : En} (hSe : S e.i = false)
    (hd : drawOk (befs all []) all ((l1 ++ e :: l2).map En.tr).reverse = true) : ∀ q, q ∈ l2 → S q.i = true → (∀ d, e.op.dst = some d → q.op.dst ≠ some d) ∧ ∀ id, id ∈ keysU e.u → id ∉ keysU q.u := by
  have hpre := befs_pre (all := all) all [] [] rfl rfl (fun i a h => by simp at h)
  intro q hq hsq
  have hp : mayPass (befs all []) all e.tr q.tr = true := by
    obtain ⟨m1, m2, rfl⟩ := List.append_of_mem hq
    refine drawOk_pair (m2.map En.tr).reverse ((l1 ++ e :: m1).map En.tr).reverse q.tr ?_ e.tr ?_
    · have e1 : l1 ++ e :: (m1 ++ q :: m2) = (l1 ++ e :: m1) ++ q :: m2 := by simp
      rw [e1, List.map_append, List.map_cons, List.reverse_append, List.reverse_cons, List.append_assoc] at hd
      exact hd
    · exact List.mem_reverse.2 (List.mem_map_of_mem (List.mem_append_right _ (List.mem_cons_self ..)))
  unfold mayPass at hp
  rw [Bool.or_eq_true] at hp
  rcases hp with hp | hp
  · have := pre_listed hS (hpre _ _ hp) hsq
    have this : S e.i = true := this
    rw [hSe] at this; cases this
  · unfold apartT at hp
    simp only [Bool.and_eq_true] at hp
    obtain ⟨⟨⟨a1, _⟩, a3⟩, _⟩ := hp
    refine ⟨fun d hd hq => ?_, fun id h1 h2 => disj_mem a3 id h1 (List.mem_append_right _ h2)⟩
    refine dstNot_spec a1 d hd (List.mem_append_right _ ?_)
    have hq : q.tr.op.dst = some d := hq
    rw [hq]; exact List.mem_cons_self ..

section
variable {C : Cx} {R : Oracle C.sigs} {nt : Nat} {φ0 : Nat → Addr} {o0 : Nat → Obj} {w0 : World} {sk : List Nat}

/-- A region that draws its order, once its operations are known. -/
theorem draw_run (hC : CxOk C) (hE : EqOk C) (HC : ∀ X φ o w, MRel C X φ o w → ∀ fr f, CallsOk C R X φ o w fr f) {ops : Array Oper} {rg : Nat} {X : Nat → Prop} {Q : Exit → Act → World → Prop} {st0 : St} {es : List En}
    (hes : es.map (·.op) = ops.toList) (hrun : RunsF C R rg ops.toList 0 st0 es) (hd : drawOk (befs ops.toList []) ops.toList (es.map En.tr).reverse = true) (hk : trsOk rg (es.map En.tr).reverse = true) (hdst : dstsOk nt ops.toList = true)
    (fin : Sound C nt X (HJ sk φ0 o0 w0) (lastSt es st0) (Q .normal)) : ∀ (fuel : Nat) (listed : Array Bool) (X' : Nat → Prop) (φ : Nat → Addr) (a : Act) (w : World), listed.size = ops.size → unl listed ≤ fuel → Down ops.toList (lst listed) → (∀ b, X b → X' b) →
      Rel C nt X' φ (fam (lst listed) es st0) a w → Hist sk φ0 o0 w0 φ (fam (lst listed) es st0).obj w → wpAny C.P .any ops Q fuel listed a w := by
  have hlen : es.length = ops.size := by rw [← List.length_map (f := (·.op)), hes, Array.length_toList]
  have split : ∀ i, i < es.length → ∃ l1 e l2, es = l1 ++ e :: l2 ∧ l1.length = i ∧ e.i = i ∧ ops.toList[i]? = some e.op ∧ EnOk C R rg ops.toList (lastSt l1 st0) e ∧ KnOk (lastSt l1 st0) e.kn ∧ (∀ q, q ∈ l1 → q.i < i) ∧ (∀ q, q ∈ l2 → i < q.i) := by
    intro i hi
    refine ⟨es.take i, es[i], es.drop (i + 1), ?_, ?_, ?_⟩
    · rw [← List.drop_eq_getElem_cons hi, List.take_append_drop]
    · rw [List.length_take]; omega
    · have e1 : es = es.take i ++ es[i] :: es.drop (i + 1) := by rw [← List.drop_eq_getElem_cons hi, List.take_append_drop]
      have hr := hrun
      rw [e1] at hr
      obtain ⟨g1, g2, g3, g4, g5⟩ := runsF_split _ _ _ _ _ hr
      have e2 : (es.take i).length = i := by rw [List.length_take]; omega
      rw [e2] at g1 g4 g5
      refine ⟨by omega, ?_, g2, g3, fun q hq => by have := g4 q hq; omega, fun q hq => by have := g5 q hq; omega⟩
      rw [← hes, List.getElem?_map, List.getElem?_eq_getElem hi]; rfl
  have trs : ∀ e, e ∈ es → backE e.i e.op.after.toList = true ∧ keysIn e.F (freshOf rg e.i) (keysU e.u) = true := fun e he => trsOk_mem hk e.tr (List.mem_reverse.2 (List.mem_map_of_mem he))
  have back : ∀ i o, ops[i]? = some o → ∀ e, e ∈ o.after.toList → Region.binds .any e = true → e.on < i := by
    intro i o ho ed he hb
    have hi : i < es.length := by
      rw [hlen]
      rcases Nat.lt_or_ge i ops.size with h | h
      · exact h
      · rw [Array.getElem?_eq_none h] at ho; cases ho
    obtain ⟨l1, e, l2, h1, _, h2, h3, _⟩ := split i hi
    rw [Array.getElem?_toList, ho] at h3
    injection h3 with h3
    have := (trs e (by rw [h1]; exact List.mem_append_right _ (List.mem_cons_self ..))).1
    rw [h2] at this
    exact backE_mem this ed (by rw [← h3]; exact he) hb
  have ilt : ∀ q, q ∈ es → q.i < ops.size := by
    intro q hq
    obtain ⟨i, hi, rfl⟩ := List.mem_iff_getElem.1 hq
    obtain ⟨l1, e, l2, h1, h0, h2, _⟩ := split i hi
    have : es[i] = e := by
      have : es[i]? = some e := by rw [h1, List.getElem?_append_right (by omega), h0, Nat.sub_self]; rfl
      rw [List.getElem?_eq_getElem hi] at this
      injection this
    rw [this, h2]; omega
  have done : ∀ (listed : Array Bool) X' φ a w, listed.size = ops.size → (∀ b, X b → X' b) → Rel C nt X' φ (fam (lst listed) es st0) a w → Hist sk φ0 o0 w0 φ (fam (lst listed) es st0).obj w → Region.ready .any ops listed = [] → Q .normal a w := by
    intro listed X' φ a w hs hX hR hJ hr
    have hall := all_listed hs back hr
    rw [fam_all es st0 fun q hq => hall _ (ilt q hq)] at hR hJ
    exact fin X' φ a w hX hR hJ
  intro fuel
  induction fuel with
  | zero =>
    intro listed X' φ a w hs hu hD hX hR hJ
    have hr : Region.ready .any ops listed = [] := by
      rw [List.eq_nil_iff_forall_not_mem]
      intro i hi
      obtain ⟨o, ho, hl, _⟩ := (mem_ready hs).1 hi
      have : i < listed.size := by
        rcases Nat.lt_or_ge i listed.size with h | h
        · exact h
        · rw [Array.getElem?_eq_none (by omega)] at ho; cases ho
      rw [lst_of_unl (by omega) this] at hl
      cases hl
    exact ⟨hr, done listed X' φ a w hs hX hR hJ hr⟩
  | succ fuel ih =>
    intro listed X' φ a w hs hu hD hX hR hJ
    refine ⟨done listed X' φ a w hs hX hR hJ, fun i hi => ?_⟩
    obtain ⟨o, ho, hl, hready⟩ := (mem_ready hs).1 hi
    have hil : i < ops.size := by
      rcases Nat.lt_or_ge i ops.size with h | h
      · exact h
      · rw [Array.getElem?_eq_none h] at ho; cases ho
    obtain ⟨l1, e, l2, h1, _, h2, h3, h4, h5, h6, h7⟩ := split i (by omega)
    have hoe : o = e.op := by
      rw [Array.getElem?_toList, ho] at h3
      injection h3
    subst h2 hoe
    have hmem : e ∈ es := by rw [h1]; exact List.mem_append_right _ (List.mem_cons_self ..)
    have hk' := (trs e hmem).2
    have hdt : dstOk nt e.op.dst := dstsOk_mem hdst e.op (List.mem_of_getElem? h3)
    subst h1
    refine draw_step hC hE HC (l1 := l1) (l2 := l2) (st0 := st0) h3 hD hready hl hd h6 h7 hk' h4 h5 hR fun z w' φ' hc => ?_
    have hset : ∀ j, lst (listed.setIfInBounds e.i true) j = (decide (e.i = j) || lst listed j) := fun j => lst_set (by omega)
    have hflip : fam (lst (listed.setIfInBounds e.i true)) (l1 ++ e :: l2) st0 = e.app (fam (lst listed) (l1 ++ e :: l2) st0) := by
      refine fam_flip st0 (fun q hq => ?_) (fun q hq => ?_) hl (by rw [hset]; simp) (passes hD hl hd)
      · have := h6 q hq
        rw [hset, decide_eq_false (by omega), Bool.false_or]
      · have := h7 q hq
        rw [hset, decide_eq_false (by omega), Bool.false_or]
    refine ih _ X' φ' _ w' (by simpa using hs) ?_ ?_ hX ?_ ?_
    · have := unl_set (listed := listed) (i := e.i) (by omega) hl
      omega
    · intro j oj hj hsj ed he hb
      rw [hset] at hsj ⊢
      rw [Bool.or_eq_true] at hsj ⊢
      right
      rcases hsj with hsj | hsj
      · have hsj := of_decide_eq_true hsj
        subst hsj
        rw [h3] at hj
        injection hj with hj
        subst hj
        exact hready ed he hb
      · exact hD j oj hj hsj ed he hb
    · rw [hflip]; exact hR.step hdt hc
    · rw [hflip, app_obj]; exact hJ.step hc

theorem drawLaw (hC : CxOk C) (hE : EqOk C) (hL : CallLaw C) (hm : C.P.follows .mixedOrders = true) : DrawLaw C := by
  intro R hR nt sk φ0 o0 w0 rg ops n γ δ X Q wr st k y h hdst hk X' φ a w hX hRel hJ
  obtain ⟨es, h1, h2, h3, h4⟩ := evF_run n 0 ops.toList st [] [] h (fun d b hd => by cases hd)
  rw [List.append_nil, Bool.and_eq_true] at h3
  refine wp_region_any hm ?_
  have hl0 : ∀ i, lst (Array.replicate ops.size false) i = false := fun i => by
    unfold lst
    rw [Array.getD_eq_getD_getElem?, Array.getElem?_replicate]
    split <;> rfl
  have hf0 : fam (lst (Array.replicate ops.size false)) es st = st := fam_none es st fun q _ => hl0 _
  refine draw_run hC hE (hL R hR) h1 h2 h3.1 h3.2 hdst (hk _ h4) ops.size _ X' φ a _ (by simp) ?_ ?_ hX ?_ ?_
  · unfold unl
    exact Nat.le_trans List.countP_le_length (by simp)
  · intro i o _ hs
    rw [hl0] at hs; cases hs
  · rw [hf0]; exact hRel.drawn
  · rw [hf0]; exact ⟨hJ.size, hJ.frame, hJ.news, hJ.still, hJ.up⟩
end
end Ev

