/- Regions, code, functions and calls are sound.
   A part of a verified evaluator of the model: no statement of its own about the program. -/
import Derived.Test.YtdekfefcpdejkaaGreatDoorEvF
import Derived.Tactics
import Derived.Scope
import Derived.ScopeJumps
namespace Ev
open Go

section
variable {C : Cx} {nt : Nat} {X : Nat → Prop} {φ φ' : Nat → Addr} {st : St} {a : Act} {w w' : World} {R : Oracle C.sigs}

theorem put_size (a : Act) (d : Option Tmp) (z : Value) : (a.put d z).tmps.size = a.tmps.size := by
  cases d <;> simp [Act.put]
theorem put_defers' (a : Act) (d : Option Tmp) (z : Value) : (a.put d z).defers = a.defers := by
  cases d <;> rfl
theorem put_same (a : Act) (d : Tmp) (z : Value) (h : d < a.tmps.size) : (a.put (some d) z).tmps.getD d undef = z := by
  simp [Act.put, h]
theorem put_other (a : Act) (d : Option Tmp) (z : Value) (t : Nat) (h : d ≠ some t) : (a.put d z).tmps.getD t undef = a.tmps.getD t undef := by
  cases d with
  | none => rfl
  | some d =>
    have : d ≠ t := fun e => h (e ▸ rfl)
    simp [Act.put, Array.getElem?_setIfInBounds_ne this]

def dstOk (nt : Nat) (d : Option Tmp) : Prop := ∀ t, d = some t → t < nt

theorem putO_env (st : St) (d : Option Nat) (v : V) (t : Nat) : (d = some t ∧ (putO st d v).env t = v) ∨ (d ≠ some t ∧ (putO st d v).env t = st.env t) := by
  cases d with
  | none => exact .inr ⟨by simp, rfl⟩
  | some d =>
    by_cases h : t = d
    · subst h; exact .inl ⟨rfl, upd_same⟩
    · exact .inr ⟨fun e => h (by injection e with e; exact e.symm), upd_other h⟩
theorem putO_obj (st : St) (d : Option Nat) (v : V) : (putO st d v).obj = st.obj := by
  cases d <;> rfl

theorem Rel.step (h : Rel C nt X φ st a w) {u : List (Nat × Obj)} {v : V} {z : Value} {d : Option Tmp} (hd : dstOk nt d) (hc : Comes C X φ φ' st.obj u w w' v z) :
    Rel C nt X φ' (putO { st with obj := upds st.obj u } d v) (a.put d z) w' := by
  have ho : (putO { st with obj := upds st.obj u } d v).obj = upds st.obj u := putO_obj _ _ _
  refine ⟨by rw [ho]; exact hc.mem, (put_size _ _ _).trans h.size, fun t => ?_, by rw [put_defers']; exact h.defers⟩
  rw [ho]
  rcases putO_env { st with obj := upds st.obj u } d v t with ⟨h1, h2⟩ | ⟨h1, h2⟩
  · rw [h2]
    subst h1
    rw [put_same _ _ _ (by rw [h.size]; exact hd t rfl)]
    exact hc.val
  · rw [h2, put_other _ _ _ _ h1]
    exact hc.keeps _ _ (h.env t)

theorem Rel.put (h : Rel C nt X φ st a w) {v : V} {z : Value} {d : Option Tmp} (hd : dstOk nt d) (hv : relVal φ st.obj (immB X φ st.obj w) w v z) : Rel C nt X φ (putO st d v) (a.put d z) w := by
  have ho : (putO st d v).obj = st.obj := putO_obj _ _ _
  refine ⟨by rw [ho]; exact h.toMRel, (put_size _ _ _).trans h.size, fun t => ?_, by rw [put_defers']; exact h.defers⟩
  rw [ho]
  rcases putO_env st d v t with ⟨h1, h2⟩ | ⟨h1, h2⟩
  · rw [h2]
    subst h1
    rw [put_same _ _ _ (by rw [h.size]; exact hd t rfl)]
    exact hv
  · rw [h2, put_other _ _ _ _ h1]
    exact h.env t

/-- What is known of a temporary is put in another way. -/
theorem Rel.recast (h : Rel C nt X φ st a w) {v : V} {d : Nat} (hv : ∀ z, relVal φ st.obj (immB X φ st.obj w) w (st.env d) z → relVal φ st.obj (immB X φ st.obj w) w v z) : Rel C nt X φ (putO st (some d) v) a w := by
  refine ⟨h.toMRel, h.size, fun t => ?_, h.defers⟩
  rcases putO_env st (some d) v t with ⟨h1, h2⟩ | ⟨h1, h2⟩
  · rw [h2]
    injection h1 with h1; subst h1
    exact hv _ (h.env d)
  · rw [h2]; exact h.env t

theorem dstsOk_mem {nt : Nat} {l : List Oper} : dstsOk nt l = true → ∀ o, o ∈ l → dstOk nt o.dst := by
  induction l with
  | nil => intro _ o ho; cases ho
  | cons p r ih =>
    intro h o ho
    simp only [dstsOk, Bool.and_eq_true] at h
    rcases List.mem_cons.1 ho with rfl | ho
    · intro t e
      have h1 := h.1
      rw [e] at h1
      exact Nat.le_of_ble_eq_true h1
    · exact ih h.2 o ho

/-- What holds of each state that an evaluated one is. J, what is kept beside it. -/
def Sound (C : Cx) (nt : Nat) (X : Nat → Prop) (J : (Nat → Prop) → (Nat → Addr) → St → Act → World → Prop) (st : St) (P : Act → World → Prop) : Prop :=
  ∀ X' φ a w, (∀ b, X b → X' b) → Rel C nt X' φ st a w → J X' φ st a w → P a w

theorem wpList_append {P : Program} {ops : Array Oper} {Q : Exit → Act → World → Prop} : ∀ (l m : List Oper) (a : Act) (w : World),
    wpList P ops (Exit.then (wpList P ops Q m) Q) l a w → wpList P ops Q (l ++ m) a w
  | [], m, a, w, h => h
  | o :: l, m, a, w, h => by
    show (if Region.wanted o (yielded ops a.tmps) then o.wp P a w (wpList P ops Q (l ++ m)) Q ∨ (o.asks P a w ∧ LetsOut Q) else wpList P ops Q (l ++ m) (a.put o.dst undef) w)
    have h : (if Region.wanted o (yielded ops a.tmps) then o.wp P a w (wpList P ops (Exit.then (wpList P ops Q m) Q) l) (Exit.then (wpList P ops Q m) Q) ∨ (o.asks P a w ∧ LetsOut (Exit.then (wpList P ops Q m) Q)) else wpList P ops (Exit.then (wpList P ops Q m) Q) l (a.put o.dst undef) w) := h
    split
    · rename_i hw
      rw [if_pos hw] at h
      refine h.imp (fun h => ?_) (fun h => h)
      unfold Oper.wp at *
      generalize (execOp a.eval o).run P w = r at *
      cases r with
      | ok n w' =>
        cases n <;> simp only [Oper.upon] at h ⊢ <;>
          first
            | exact wpList_append l m _ _ h
            | exact Calls.mono h (fun e w'' he => by cases e <;> first | exact wpList_append l m _ _ he | exact he)
            | exact Rows.mono h (fun _ _ he => wpList_append l m _ _ he)
      | halt x w' => cases x <;> simp only [Oper.upon] at h ⊢ <;> exact h
    · rename_i hw
      rw [if_neg hw] at h
      exact wpList_append l m _ _ h
end
end Ev


namespace Ev
open Go

theorem groupOf_spec {d : Nat} {l : List Oper} : ∀ {g r : List Oper} {p : Oper}, groupOf d l = some (g, p, r) → l = g ++ p :: r := by
  induction l with
  | nil => intro g r p h; cases h
  | cons o l ih =>
    intro g r p h
    have key : (groupOf d l).map (fun q => (o :: q.1, q.2.1, q.2.2)) = some (g, p, r) → o :: l = g ++ p :: r := by
      intro h
      rw [Option.map_eq_some_iff] at h
      obtain ⟨q, h1, h2⟩ := h
      obtain ⟨q1, q2, q3⟩ := q
      simp only [Prod.mk.injEq] at h2
      obtain ⟨rfl, rfl, rfl⟩ := h2
      rw [ih h1]; rfl
    simp only [groupOf] at h
    split at h
    · rename_i c _ _ _
      cases hb : Nat.beq c d <;> rw [hb] at h
      · exact key h
      · injection h with h
        simp only [Prod.mk.injEq] at h
        obtain ⟨rfl, rfl, rfl⟩ := h
        rfl
    · exact key h

theorem dstsOk_append {nt : Nat} {l m : List Oper} : dstsOk nt (l ++ m) = true → dstsOk nt l = true ∧ dstsOk nt m = true := by
  induction l with
  | nil => exact fun h => ⟨rfl, h⟩
  | cons o l ih =>
    intro h
    simp only [List.cons_append, dstsOk, Bool.and_eq_true] at h ⊢
    obtain ⟨h1, h2⟩ := ih h.2
    exact ⟨⟨h.1, h1⟩, h2⟩

theorem onlyNew_mem {o : Nat → Obj} {u : List (Nat × Obj)} : onlyNew (some o) u = true → ∀ id, id ∈ keysU u → o id = .none := by
  induction u with
  | nil => intro _ id hi; cases hi
  | cons q r ih =>
    obtain ⟨i, x⟩ := q
    intro h id hi
    simp only [onlyNew, Bool.and_eq_true] at h
    rcases List.mem_cons.1 hi with hi | hi
    · subst hi
      have := h.1
      cases e : o id <;> rw [e] at this <;> first | rfl | cases this
    · exact ih h.2 id hi

theorem junks_obj : ∀ (g : List Oper) (st : St), (junks st g).obj = st.obj
  | [], _ => rfl
  | o :: r, st => by
    show (junks (putO st o.dst .junk) r).obj = _
    rw [junks_obj r, putO_obj]

theorem junks_env : ∀ (g : List Oper) (st : St) (t : Nat), (junks st g).env t = .junk ∨ ((junks st g).env t = st.env t ∧ ∀ o, o ∈ g → o.dst ≠ some t)
  | [], _, _ => .inr ⟨rfl, (fun _ h => by cases h)⟩
  | o :: r, st, t => by
    rcases junks_env r (putO st o.dst .junk) t with h | ⟨h1, h2⟩
    · exact .inl h
    · rcases putO_env st o.dst .junk t with ⟨h3, h4⟩ | ⟨h3, h4⟩
      · exact .inl (h1.trans h4)
      · refine .inr ⟨h1.trans h4, fun q hq => ?_⟩
        rcases List.mem_cons.1 hq with rfl | hq
        · exact h3
        · exact h2 q hq

section
variable {C : Cx} {nt : Nat} {X : Nat → Prop} {R : Oracle C.sigs}

/-- What is kept in a group of operations: what was there stays as it was. -/
structure Grp (ds : List Oper) (φs : Nat → Addr) (ss : St) (as : Act) (ws : World) (φ : Nat → Addr) (st : St) (a : Act) (w : World) : Prop where
  size : ws.heap.size ≤ w.heap.size
  same : ∀ b, b < ws.heap.size → w.heap[b]? = ws.heap[b]?
  old : ∀ id, ss.obj id ≠ .none → st.obj id = ss.obj id ∧ φ id = φs id
  new : ∀ id, ss.obj id = .none → excl (φ id) (st.obj id) = true → ws.heap.size ≤ (φ id).block
  tmps : ∀ t, (∀ o, o ∈ ds → o.dst ≠ some t) → a.tmps.getD t undef = as.tmps.getD t undef
  still : Still ws w

theorem Grp.step {ds : List Oper} {φs φ φ' : Nat → Addr} {ss st : St} {as a : Act} {ws w w' : World} (h : Grp ds φs ss as ws φ st a w) {u : List (Nat × Obj)} {v : V} {z : Value} {o : Oper} (ho : o ∈ ds)
    (hc : Comes C X φ φ' st.obj u w w' v z) (hn : onlyNew (some ss.obj) u = true) : Grp ds φs ss as ws φ' (putO { st with obj := upds st.obj u } o.dst v) (a.put o.dst z) w' := by
  have hk : ∀ id, id ∈ keysU u → ss.obj id = .none := onlyNew_mem hn
  have hobj : (putO { st with obj := upds st.obj u } o.dst v).obj = upds st.obj u := putO_obj _ _ _
  have old : ∀ id, ss.obj id ≠ .none → upds st.obj u id = ss.obj id ∧ φ' id = φs id := fun id hi => by
    obtain ⟨h1, h2⟩ := h.old id hi
    have hnk : id ∉ keysU u := fun hm => hi (hk id hm)
    exact ⟨(upds_not hnk).trans h1, (hc.phi id (by rw [h1]; exact hi) hnk).trans h2⟩
  refine ⟨Nat.le_trans h.size hc.size, fun b hb => ?_, by rw [hobj]; exact old, fun id hi hx => ?_, fun t ht => ?_, ⟨hc.still.1.trans h.still.1, hc.still.2.trans h.still.2⟩⟩
  · rw [hc.frame b (Nat.lt_of_lt_of_le hb h.size), h.same b hb]
    rintro ⟨id, h1, h2, h3⟩
    have := h.new id (hk id h1) h2
    omega
  · rw [hobj] at hx
    rcases hc.news id hx with h1 | ⟨j, h1, h2⟩
    · have := h.size; omega
    · by_cases hj : ss.obj j = .none
      · have := h.new j hj h1; omega
      · exfalso
        obtain ⟨e1, e2⟩ := old j hj
        obtain ⟨e3, e4⟩ := h.old j hj
        have hxj : excl (φ' j) (upds st.obj u j) = true := by rw [e1, e2, ← e3, ← e4]; exact h1
        have := hc.mem.inj j id hxj hx (by rw [e2, ← e4]; exact h2)
        subst this
        exact hj hi
  · rw [put_other _ _ _ _ (ht o ho)]
    exact h.tmps t ht

theorem Grp.undef {ds : List Oper} {φs φ : Nat → Addr} {ss st : St} {as a : Act} {ws w : World} (h : Grp ds φs ss as ws φ st a w) {o : Oper} (ho : o ∈ ds) (v : V) (z : Value) : Grp ds φs ss as ws φ (putO st o.dst v) (a.put o.dst z) w :=
  ⟨h.size, h.same, by rw [putO_obj]; exact h.old, by rw [putO_obj]; exact h.new, fun t ht => by rw [put_other _ _ _ _ (ht o ho)]; exact h.tmps t ht, h.still⟩

theorem Grp.recast {ds : List Oper} {φs φ : Nat → Addr} {ss st : St} {as a : Act} {ws w : World} (h : Grp ds φs ss as ws φ st a w) (d : Option Nat) (v : V) : Grp ds φs ss as ws φ (putO st d v) a w :=
  ⟨h.size, h.same, by rw [putO_obj]; exact h.old, by rw [putO_obj]; exact h.new, h.tmps, h.still⟩

/-- Behind a group: what was there, and one truth. -/
theorem Grp.forget {g : List Oper} {p : Oper} {pd : Nat} (hpd : p.dst = some pd) {φs φ : Nat → Addr} {ss st : St} {as a : Act} {ws w : World} (hs : Rel C nt X φs ss as ws) (he : Rel C nt X φ st a w) (h : Grp (g ++ [p]) φs ss as ws φ st a w)
    {y : Bool} (hy : unlb (st.env pd) = .d .bool y) : Rel C nt X φs (putO (junks ss g) (some pd) (.d .bool y)) a w := by
  have hobj : (putO (junks ss g) (some pd) (.d .bool y)).obj = ss.obj := by rw [putO_obj, junks_obj]
  have himm : ∀ b, immB X φs ss.obj ws b → immB X φs ss.obj w b := fun b hb => ⟨Nat.lt_of_lt_of_le hb.1 h.size, hb.2.1, hb.2.2⟩
  have hst : ∀ b, immB X φs ss.obj ws b → w.heap[b]? = ws.heap[b]? := fun b hb => h.same b hb.1
  have keeps : ∀ x z, relVal φs ss.obj (immB X φs ss.obj ws) ws x z → relVal φs ss.obj (immB X φs ss.obj w) w x z := fun x z hx =>
    relVal_up himm hst (fun id => Up.same fun hx n hr => room_congr (h.same _ (hs.sep id hx).1) hr) x z hx
  refine ⟨?_, he.size, fun t => ?_, he.defers⟩
  · rw [hobj]
    refine ⟨fun id => relObj_keep himm hst keeps rfl (fun hx => h.same _ (hs.sep id hx).1) (hs.objs id), hs.inj, fun i hi => ⟨Nat.lt_of_lt_of_le (hs.sep i hi).1 h.size, (hs.sep i hi).2⟩,
      fun b hb => Nat.lt_of_lt_of_le (hs.xs b hb) h.size, fun id => hs.els_keep id (fun hx => .same (h.same _ (hs.sep id hx).1)) hst, fun g t x hg => keeps _ _ (hs.globs g t x hg)⟩
  · rw [hobj]
    rcases putO_env (junks ss g) (some pd) (.d .bool y) t with ⟨h1, h2⟩ | ⟨h1, h2⟩
    · rw [h2]
      injection h1 with h1; subst h1
      have := relVal_unlb (he.env pd)
      rw [hy] at this
      have := rel_bool this
      rw [this]; exact mk_bool
    · rw [h2]
      rcases junks_env g ss t with h3 | ⟨h3, h4⟩
      · rw [h3]; trivial
      · rw [h3, h.tmps t fun o ho => ?_]
        · exact keeps _ _ (hs.env t)
        · rcases List.mem_append.1 ho with ho | ho
          · exact h4 o ho
          · rw [List.mem_singleton] at ho
            subst ho
            rw [hpd]; exact h1

theorem yield_bool {ops : Array Oper} {a : Act} {j dj : Nat} {oj : Oper} {b : Bool} (hj : ops.toList[j]? = some oj) (hd : oj.dst = some dj) (h : a.tmps.getD dj undef = .bool b) : yielded ops a.tmps j = some b := by
  unfold yielded
  rw [Array.getElem?_toList] at hj
  have h' : a.tmps[dj]? = some (.bool b) := by
    rw [Array.getD_eq_getD_getElem?] at h
    cases e : a.tmps[dj]? with
    | none => rw [e] at h; cases h
    | some z => rw [e] at h; exact congrArg some h
  simp [hj, hd, h']

theorem yield_undef {ops : Array Oper} {a : Act} {j dj : Nat} {oj : Oper} (hj : ops.toList[j]? = some oj) (hd : oj.dst = some dj) (h : a.tmps.getD dj undef = undef) : yielded ops a.tmps j = none := by
  unfold yielded
  rw [Array.getElem?_toList] at hj
  rw [Array.getD_eq_getD_getElem?] at h
  simp only [hj, Option.bind_some, hd]
  cases e : a.tmps[dj]? with
  | none => rfl
  | some z =>
    rw [e] at h
    have h : z = undef := h
    subst h; rfl

/-- What is asked of what is kept beside a state. -/
structure Keeps (C : Cx) (nt : Nat) (g0 : Option (Nat → Obj)) (r : List Oper) (J : (Nat → Prop) → (Nat → Addr) → St → Act → World → Prop) : Prop where
  step : ∀ X φ st a w φ' u v z w' o, o ∈ r → J X φ st a w → Rel C nt X φ st a w → Comes C X φ φ' st.obj u w w' v z → onlyNew g0 u = true → J X φ' (putO { st with obj := upds st.obj u } o.dst v) (a.put o.dst z) w'
  undef : ∀ X φ st a w o, o ∈ r → J X φ st a w → J X φ (putO st o.dst .undef) (a.put o.dst undef) w
  recast : ∀ X φ st a w d v, J X φ st a w → J X φ (putO st d v) a w
  forget : g0 = none → ∀ X φs ss as ws φ st a w (g js : List Oper) (v : Option Nat × V), J X φs ss as ws → Grp g φs ss as ws φ st a w → J X φs (putO (junks ss js) v.1 v.2) a w

theorem Keeps.tail {g0 : Option (Nat → Obj)} {r r' : List Oper} {J : (Nat → Prop) → (Nat → Addr) → St → Act → World → Prop} (h : Keeps C nt g0 r J) (hs : ∀ o, o ∈ r' → o ∈ r) : Keeps C nt g0 r' J :=
  ⟨fun X φ st a w φ' u v z w' o ho => h.step X φ st a w φ' u v z w' o (hs o ho), fun X φ st a w o ho => h.undef X φ st a w o (hs o ho), h.recast, h.forget⟩

variable (hC : CxOk C) (hE : EqOk C) (HC : ∀ X φ o w, MRel C X φ o w → ∀ fr f, CallsOk C R X φ o w fr f)
include hC hE HC

theorem evOps_sound {ops : Array Oper} {rg : Nat} : ∀ (n : Nat) {γ δ : Type} (X : Nat → Prop) (Q : Exit → Act → World → Prop) (wr : γ → δ) (i : Nat) (r : List Oper) (st : St) (k : (γ → δ) → St → Option δ) (y : δ)
    (J : (Nat → Prop) → (Nat → Addr) → St → Act → World → Prop) (g0 : Option (Nat → Obj)),
    evOps lf C R rg ops.toList g0 n wr i r st k = some y → dstsOk nt r = true → Keeps C nt g0 r J → (∀ st', k wr st' = some y → Sound C nt X J st' (Q .normal)) → Sound C nt X J st (wpList C.P ops Q r) := by
  intro n
  induction n with
  | zero => intro γ δ X Q wr i r st k y J g0 h; cases h
  | succ n ih =>
    intro γ δ X Q wr i r st k y J g0 h hd hJ hk
    cases r with
    | nil => exact hk st h
    | cons o r =>
      have hdo : dstOk nt o.dst := dstsOk_mem hd o (List.mem_cons_self ..)
      have hdr : dstsOk nt r = true := (dstsOk_append (l := [o]) hd).2
      have hJr : Keeps C nt g0 r J := hJ.tail fun q hq => List.mem_cons_of_mem _ hq
      have runs : (match opPk lf C R st.env st.obj (freshOf rg i) o.type o.op with
          | .fail => none
          | .nowU v u => bif onlyNew g0 u then sqV v fun v => sqF (freshOf rg i) st.obj u fun o' => evOps lf C R rg ops.toList g0 n wr (i + 1) r (putO { st with obj := o' } o.dst v) k else none
          | .dyn _ x out => lf.bnd x fun y => bif onlyNew g0 (out y).2 then sqV (out y).1 fun v => sqF (freshOf rg i) st.obj (out y).2 fun o' => evOps lf C R rg ops.toList g0 n wr (i + 1) r (putO { st with obj := o' } o.dst v) k else none) = some y →
          ∀ X' φ a w, (∀ b, X b → X' b) → Rel C nt X' φ st a w → J X' φ st a w → o.wp C.P a w (wpList C.P ops Q r) Q := by
        intro h X' φ a w hX hR hj
        have go : ∀ v u, (opPk lf C R st.env st.obj (freshOf rg i) o.type o.op).gives v u → (bif onlyNew g0 u then sqV v fun v => sqF (freshOf rg i) st.obj u fun o' => evOps lf C R rg ops.toList g0 n wr (i + 1) r (putO { st with obj := o' } o.dst v) k else none) = some y →
            o.wp C.P a w (wpList C.P ops Q r) Q := by
          intro v u hg h
          cases hb : onlyNew g0 u with
          | false => rw [hb] at h; cases h
          | true =>
            rw [hb, cond_true, sqV_eq] at h
            obtain ⟨h1, h2⟩ := sqF_some _ _ _ _ h
            have hl := op_ok hC hE hR.toMRel (fun x => hR.opd x) (HC X' φ st.obj w hR.toMRel (freshOf rg i)) hg h2
            exact hl.upon fun val w' φ' hc => ih X Q wr (i + 1) r _ k y J g0 h1 hdr hJr hk X' φ' _ w' hX (hR.step hdo hc) (hJ.step X' φ st a w φ' u v val w' o (List.mem_cons_self ..) hj hR hc hb)
        generalize hp : opPk lf C R st.env st.obj (freshOf rg i) o.type o.op = pk at h go
        cases pk with
        | fail => cases h
        | nowU v u => exact go v u ⟨rfl, rfl⟩ h
        | dyn α x out =>
          obtain ⟨q, h1, h2⟩ := bnd_some (x := x) h
          exact go (out q).1 (out q).2 ⟨q, h1, rfl⟩ h2
      have skips : evOps lf C R rg ops.toList g0 n wr (i + 1) r (putO st o.dst .undef) k = some y → Sound C nt X J st (fun a w => wpList C.P ops Q r (a.put o.dst undef) w) := by
        intro h X' φ a w hX hR hj
        exact ih X Q wr (i + 1) r _ k y J g0 h hdr hJr hk X' φ _ w hX (hR.put hdo rfl) (hJ.undef X' φ st a w o (List.mem_cons_self ..) hj)
      intro X' φ a w hX hR hj
      show (if Region.wanted o (yielded ops a.tmps) then o.wp C.P a w (wpList C.P ops Q r) Q ∨ (o.asks C.P a w ∧ LetsOut Q) else wpList C.P ops Q r (a.put o.dst undef) w)
      unfold evOps at h
      simp only at h
      split at h
      · rename_i hg
        rw [if_pos (by simp [Region.wanted, hg])]
        exact .inl (runs h X' φ a w hX hR hj)
      · rename_i j want hg
        split at h
        · rename_i oj hoj
          split at h
          · rename_i dj hdj
            split at h
            ·
              rename_i b hb
              have hz := hR.env dj
              rw [hb] at hz
              have hy := yield_bool hoj hdj hz
              have hw : Region.wanted o (yielded ops a.tmps) = (bif want then b else !b) := by
                unfold Region.wanted
                rw [hg]
                simp only [hy]
                cases b <;> cases want <;> rfl
              rw [hw]
              cases hc : (bif want then b else !b) with
              | true =>
                rw [hc] at h
                rw [if_pos rfl]
                exact .inl (runs h X' φ a w hX hR hj)
              | false =>
                rw [hc] at h
                rw [if_neg (by simp)]
                exact skips h X' φ a w hX hR hj
            ·
              rename_i hb
              have hz := hR.env dj
              rw [hb] at hz
              have hy := yield_undef hoj hdj hz
              have hw : Region.wanted o (yielded ops a.tmps) = false := by
                unfold Region.wanted
                rw [hg]
                simp only [hy]
                rfl
              rw [hw, if_neg (by simp)]
              exact skips h X' φ a w hX hR hj
            · rename_i x hb
              split at h
              ·
                rename_i gs
                have rc : ∀ b, x = b → ∀ z, relVal φ st.obj (immB X' φ st.obj w) w (st.env dj) z → relVal φ st.obj (immB X' φ st.obj w) w (.lb b) z := by
                  intro b e z hz
                  rw [hb] at hz
                  subst e
                  exact rel_bool hz
                cases x with
                | true =>
                  have h : evOps lf C R rg ops.toList (some gs) n wr i (o :: r) (putO st (some dj) (.lb true)) k = some y := h
                  exact ih X Q wr i (o :: r) _ k y J _ h hd hJ hk X' φ a w hX (hR.recast (rc true rfl)) (hJ.recast X' φ st a w _ _ hj)
                | false =>
                  have h : evOps lf C R rg ops.toList (some gs) n wr i (o :: r) (putO st (some dj) (.lb false)) k = some y := h
                  exact ih X Q wr i (o :: r) _ k y J _ h hd hJ hk X' φ a w hX (hR.recast (rc false rfl)) (hJ.recast X' φ st a w _ _ hj)
              · split at h
                · rename_i g p r' hgr
                  split at h
                  · rename_i pd hpd
                    obtain ⟨yb, h1, h2⟩ := bnd_some h
                    have hsp := groupOf_spec hgr
                    show wpList C.P ops Q (o :: r) a w
                    rw [hsp] at hd hJ ⊢
                    have hsp2 : g ++ p :: r' = (g ++ [p]) ++ r' := by simp
                    rw [hsp2] at hd hJ ⊢
                    obtain ⟨hd1, hd2⟩ := dstsOk_append hd
                    refine wpList_append _ _ _ _ ?_
                    have rc : ∀ b, x = b → ∀ z, relVal φ st.obj (immB X' φ st.obj w) w (st.env dj) z → relVal φ st.obj (immB X' φ st.obj w) w (.lb b) z := by
                      intro b e z hz
                      rw [hb] at hz
                      subst e
                      exact rel_bool hz
                    have hin : evOps (γ := Bool) (δ := Bool) lf C R rg ops.toList (some st.obj) n (fun x => x) i (g ++ [p]) (putO st (some dj) (.lb x)) (fun w' st' => boolK _ w' (unlb (st'.env pd))) = some yb := by
                      cases x <;> exact h1
                    refine ih X' (Exit.then (wpList C.P ops Q r') Q) (fun x => x) i (g ++ [p]) _ _ yb (fun X2 φ2 st2 a2 w2 => X2 = X' ∧ Grp (g ++ [p]) φ st a w φ2 st2 a2 w2) (some st.obj) hin hd1 ?_ ?_ X' φ a w (fun _ h => h) (hR.recast (rc x rfl)) ⟨rfl, ?_⟩
                    · refine ⟨fun X2 φ2 st2 a2 w2 φ' u v z w' q hq ⟨e, hG⟩ hR2 hc ho => ⟨e, hG.step hq hc ho⟩, fun X2 φ2 st2 a2 w2 q hq ⟨e, hG⟩ => ⟨e, hG.undef hq _ _⟩, fun X2 φ2 st2 a2 w2 d v ⟨e, hG⟩ => ⟨e, hG.recast d v⟩, fun e => by cases e⟩
                    · intro st' hst' X2 φ2 a2 w2 _ hR2 ⟨e, hG⟩
                      subst e
                      have hyb : unlb (st'.env pd) = .d .bool yb := by
                        revert hst'
                        generalize unlb (st'.env pd) = q
                        intro hq
                        cases q <;> try (cases hq; done)
                        rename_i t d
                        cases t <;> try (cases hq; done)
                        injection hq with hq
                        rw [← hq]
                      exact ih X Q wr _ r' _ k y J none h2 hd2 (hJ.tail fun q hq => List.mem_append_right _ hq) hk X2 φ a2 w2 hX (hG.forget hpd hR hR2 hyb)
                        (hJ.forget rfl X2 φ st a w φ2 st' a2 w2 (g ++ [p]) g (some pd, .d .bool yb) hj hG)
                    · exact ⟨Nat.le_refl _, fun _ _ => rfl, fun _ _ => ⟨rfl, rfl⟩, fun id h1 h2 => (by
                        have : (putO st (some dj) (.lb x)).obj = st.obj := putO_obj _ _ _
                        rw [this, h1] at h2; cases h2), fun _ _ => rfl, ⟨rfl, rfl⟩⟩
                  · cases h
                · cases h
            · cases h
          · cases h
        · cases h
end
end Ev


namespace Ev
open Go

/-- Code, and the same with what is read later noted. -/
inductive AnnR (nt : Nat) : Code → AC → Prop where
  | skip : AnnR nt .skip .skip
  | label (l : Nat) : AnnR nt (.label l) .skip
  | region (id : Nat) (ops : Array Oper) (d : Bool) (h : dstsOk nt ops.toList = true) : AnnR nt (.region id ops d) (.region id ops d)
  | seq {a b : Code} {a' b' : AC} (ha : AnnR nt a a') (hb : AnnR nt b b') : AnnR nt (.seq a b) (.seq a' b')
  | cond {a b : Code} {a' b' : AC} (c : Operand) (ts : List Nat) (ha : AnnR nt a a') (hb : AnnR nt b b') : AnnR nt (.cond c a b) (.cond c ts a' b')
  | block {b : Code} {b' : AC} (id : Nat) (ts : List Nat) (hb : AnnR nt b b') : AnnR nt (.block id b) (.block id ts b')
  | loop {b : Code} {b' : AC} (ts : List Nat) (hb : AnnR nt b b') : AnnR nt (.loop b) (.loop ts b')
  | exit (id : Nat) : AnnR nt (.exit id) (.exit id)
  | goto (l : Nat) : AnnR nt (.goto l) (.goto l)
  | ret : AnnR nt .ret .ret
  | scope {b : Code} {b' : AC} (hb : AnnR nt b b') : AnnR nt (.scope b) (.scope b')
  | jump {b p r : Code} {p' r' : AC} (l : Nat) (ts : List Nat) (h1 : ahead l b = some p) (h2 : findLabel b l = some r) (hp : AnnR nt p p') (hr : AnnR nt r r') : AnnR nt (.scope b) (.jump l ts p' r')
  | bad (c : Code) : AnnR nt c .bad

/-- What a code needs, taken apart at its rows. -/
def wps (P : Program) : Code → (Exit → Act → World → Prop) → Act → World → Prop
  | .seq x y, Q => wps P x (Exit.then (wps P y Q) Q)
  | .skip, Q => Q .normal
  | .label _, Q => Q .normal
  | c, Q => c.wp P Q

theorem wps_wp {P : Program} : ∀ {c : Code} {Q : Exit → Act → World → Prop} {a : Act} {w : World}, wps P c Q a w → c.wp P Q a w := by
  intro c
  induction c with
  | seq x y ihx ihy =>
    intro Q a w h
    refine wp_seq (wp_mono (ihx h) fun e a w h => ?_)
    cases e <;> first | exact ihy h | exact h
  | skip => intro Q a w h; exact wp_skip h
  | label l => intro Q a w h; exact wp_label h
  | _ => intro Q a w h; exact h

theorem wps_mono {P : Program} : ∀ {c : Code} {Q Q' : Exit → Act → World → Prop} {a : Act} {w : World}, wps P c Q a w → (∀ e a w, Q e a w → Q' e a w) → wps P c Q' a w := by
  intro c
  induction c with
  | seq x y ihx ihy =>
    intro Q Q' a w h hq
    refine ihx (Q := Exit.then (wps P y Q) Q) h fun e a w h => ?_
    cases e <;> first | exact ihy h hq | exact hq _ _ _ h
  | skip => intro Q Q' a w h hq; exact hq _ _ _ h
  | label l => intro Q Q' a w h hq; exact hq _ _ _ h
  | _ => intro Q Q' a w h hq; exact wp_mono h hq

/-- A code with a label: what stands ahead, and then from the label on. -/
theorem ahead_wps {P : Program} {l : Nat} : ∀ (c : Code) {p r : Code} {Q : Exit → Act → World → Prop} {a : Act} {w : World}, ahead l c = some p → findLabel c l = some r → wps P p (Exit.then (wps P r Q) Q) a w → wps P c Q a w := by
  have none : ∀ c, ahead l c = none → findLabel c l = none := by
    intro c
    induction c with
    | seq x y ihx ihy =>
      intro h
      simp only [ahead] at h
      split at h
      · cases h
      · rename_i e
        split at h
        · cases h
        · rename_i e2
          simp only [findLabel, ihx e, ihy e2]
    | label j =>
      intro h
      simp only [ahead] at h
      have : ¬ j = l := fun e => by
        rw [e, Nat.beq_refl] at h; cases h
      simp [findLabel, this]
    | _ => intro h; rfl
  have some' : ∀ c p, ahead l c = some p → ∃ r, findLabel c l = some r := by
    intro c
    induction c with
    | seq x y ihx ihy =>
      intro p h
      simp only [ahead] at h
      split at h
      · rename_i c' e
        obtain ⟨r, hr⟩ := ihx _ e
        exact ⟨.seq r y, by simp only [findLabel, hr]⟩
      · rename_i e
        split at h
        · rename_i c' e2
          obtain ⟨r, hr⟩ := ihy _ e2
          exact ⟨r, by simp only [findLabel, none _ e, hr]⟩
        · cases h
    | label j =>
      intro p h
      simp only [ahead] at h
      cases hb : Nat.beq j l with
      | true => exact ⟨.skip, by have := Nat.eq_of_beq_eq_true hb
                                 simp [findLabel, this]⟩
      | false => rw [hb] at h; cases h
    | _ => intro p h; cases h
  intro c
  induction c with
  | seq x y ihx ihy =>
    intro p r Q a w h1 h2 h
    simp only [ahead] at h1
    split at h1
    · rename_i c' e
      injection h1 with h1
      subst h1
      obtain ⟨rx, hrx⟩ := some' _ _ e
      simp only [findLabel, hrx, Option.some.injEq] at h2
      subst h2
      refine ihx (Q := Exit.then (wps P y Q) Q) e hrx (wps_mono h fun e a w h => ?_)
      cases e <;> exact h
    · rename_i e
      split at h1
      · rename_i c' e2
        injection h1 with h1
        subst h1
        simp only [findLabel, none _ e] at h2
        refine wps_mono (c := x) h fun e a w h => ?_
        cases e <;> first | exact ihy e2 h2 h | exact h
      · cases h1
  | label j =>
    intro p r Q a w h1 h2 h
    simp only [ahead] at h1
    cases hb : Nat.beq j l with
    | true =>
      rw [hb] at h1
      injection h1 with h1
      have hb := Nat.eq_of_beq_eq_true hb
      simp only [findLabel, hb, beq_self_eq_true, if_true, Option.some.injEq] at h2
      subst h1 h2
      exact h
    | false => rw [hb] at h1; cases h1
  | _ => intro p r Q a w h1; cases h1

def Ex.to : Ex → Exit
  | .normal => .normal
  | .exit id => .exit id
  | .goto l => .goto l
  | .ret => .ret

theorem least {p : Nat → Prop} (h : ∃ n, p n) : ∃ n, p n ∧ ∀ m, p m → n ≤ m := by
  obtain ⟨n, hn⟩ := h
  induction n using Nat.strongRecOn with
  | _ n ih =>
    by_cases hm : ∃ m, m < n ∧ p m
    · obtain ⟨m, h1, h2⟩ := hm
      exact ih m h1 h2
    · exact ⟨n, hn, fun m hm' => Classical.byContradiction fun hlt => hm ⟨m, by omega, hm'⟩⟩

theorem loopR_some {σ ρ : Type} {f : σ → Option (σ ⊕ ρ)} {s : σ} {r : ρ} (h : loopR f s = some r) : ∃ n, loopN f n s = some r := by
  unfold loopR at h
  split at h
  · rename_i hx
    injection h with h
    have := Classical.choose_spec hx
    rw [h] at this
    exact this
  · cases h

section
variable {C : Cx} {nt : Nat} {R : Oracle C.sigs} {φ0 : Nat → Addr} {o0 : Nat → Obj} {w0 : World} {sk : List Nat}

abbrev HJ (sk : List Nat) (φ0 : Nat → Addr) (o0 : Nat → Obj) (w0 : World) : (Nat → Prop) → (Nat → Addr) → St → Act → World → Prop := fun _ φ st _ w => Hist sk φ0 o0 w0 φ st.obj w

theorem HJ.keeps (r : List Oper) : Keeps C nt none r (HJ sk φ0 o0 w0) := by
  refine ⟨fun X φ st a w φ' u v z w' o ho h hR hc _ => ?_, fun X φ st a w o ho h => ?_, fun X φ st a w d v h => ?_, fun _ X φs ss as ws φ st a w g js v h hG => ?_⟩
  · show Hist sk φ0 o0 w0 φ' (putO { st with obj := upds st.obj u } o.dst v).obj w'
    rw [putO_obj]
    exact h.step hc
  · show Hist sk φ0 o0 w0 φ (putO st o.dst .undef).obj w
    rw [putO_obj]; exact h
  · show Hist sk φ0 o0 w0 φ (putO st d v).obj w
    rw [putO_obj]; exact h
  · show Hist sk φ0 o0 w0 φs (putO (junks ss js) v.1 v.2).obj w
    rw [putO_obj, junks_obj]
    exact ⟨Nat.le_trans h.size hG.size, fun b hb hn => by rw [hG.same b (Nat.lt_of_lt_of_le hb h.size), h.frame b hb hn], h.news, ⟨hG.still.1.trans h.still.1, hG.still.2.trans h.still.2⟩, fun id hi => (h.up id hi).trans (Up.same fun _ n hr => by
      refine room_congr (hG.same _ ?_) hr
      obtain ⟨c, el, lo, hi', h1, _⟩ := hr
      exact (Array.getElem?_eq_some_iff.1 h1).1)⟩

/-- What a continuation keeps. -/
def KOk (C : Cx) (nt : Nat) (J : (Nat → Prop) → (Nat → Addr) → St → Act → World → Prop) (X : Nat → Prop) {γ : Type} (k : (δ : Type) → (γ → δ) → Ex → St → Option δ) (Q : (γ → Prop) → Exit → Act → World → Prop) : Prop :=
  ∀ (δ : Type) (w : γ → δ) (e : Ex) (st : St) (y : δ), k δ w e st = some y → Sound C nt X J st (Q (fun g => w g = y) e.to)

def MonoQ {γ : Type} (Q : (γ → Prop) → Exit → Act → World → Prop) : Prop := ∀ S S' e a w, (∀ g, S g → S' g) → Q S e a w → Q S' e a w

/-- A region that draws its order. -/
def DrawOk (C : Cx) (nt : Nat) (R : Oracle C.sigs) (J : (Nat → Prop) → (Nat → Addr) → St → Act → World → Prop) : Prop :=
  ∀ (rg : Nat) (ops : Array Oper) (n : Nat) {γ δ : Type} (X : Nat → Prop) (Q : Exit → Act → World → Prop) (wr : γ → δ) (st : St) (k : (γ → δ) → St → Option δ) (y : δ),
    evF lf C R rg ops.toList n wr 0 ops.toList st [] [] k = some y → dstsOk nt ops.toList = true → (∀ st', k wr st' = some y → Sound C nt X J st' (Q .normal)) →
    Sound C nt X J st ((Code.region rg ops true).wp C.P Q)

theorem Sound.weaken {J : (Nat → Prop) → (Nat → Addr) → St → Act → World → Prop} {X : Nat → Prop} {st : St} {P P' : Act → World → Prop} (h : Sound C nt X J st P) (hp : ∀ a w, P a w → P' a w) : Sound C nt X J st P' :=
  fun X' φ a w h1 h2 h3 => hp _ _ (h X' φ a w h1 h2 h3)

/-- A state of a shape. -/
def InSt (C : Cx) (nt : Nat) (sk : List Nat) (φ0 : Nat → Addr) (o0 : Nat → Obj) (w0 : World) (X : Nat → Prop) (ts : List Nat) (s : Shape) (c : denP s.tys) (a : Act) (w : World) : Prop :=
  ∃ X2 φ2, (∀ b, X b → X2 b) ∧ Rel C nt X2 φ2 (stOf sk ts s c) a w ∧ Hist sk φ0 o0 w0 φ2 (stOf sk ts s c).obj w

theorem give_some {δ : Type} {s : Shape} {w : denP s.tys → δ} {ren : List (Nat × Nat)} {o : Nat → Obj} {vs : List V} {y : δ} (h : give lf sk s w ren o vs = some y) : ∃ ps c, packK lf sk ren o s vs = some (ps, c) ∧ w c = y := by
  unfold give at h
  split at h
  · rename_i p e
    injection h with h
    exact ⟨p.1, p.2, e, h⟩
  · cases h

/-- How a join ends. -/
def JQ (C : Cx) (nt : Nat) (sk : List Nat) (φ0 : Nat → Addr) (o0 : Nat → Obj) (w0 : World) (X : Nat → Prop) (ts : List Nat) (s : Shape) {γ δ : Type} (wr : γ → δ) (Q : (γ → Prop) → Exit → Act → World → Prop) :
    (denP s.tys ⊕ δ → Prop) → Exit → Act → World → Prop
  | S, .normal, a, w => ∃ c, S (.inl c) ∧ InSt C nt sk φ0 o0 w0 X ts s c a w
  | S, e, a, w => Q (fun g => S (.inr (wr g))) e a w

theorem JQ.mono {X : Nat → Prop} {ts : List Nat} {s : Shape} {γ δ : Type} {wr : γ → δ} {Q : (γ → Prop) → Exit → Act → World → Prop} (hQ : MonoQ Q) : MonoQ (JQ C nt sk φ0 o0 w0 X ts s wr Q) := by
  intro S S' e a w hs h
  cases e <;> first | exact hQ _ _ _ _ _ (fun g hg => hs _ hg) h | exact (let ⟨c, h1, h2⟩ := h; ⟨c, hs _ h1, h2⟩)

theorem join_end {X : Nat → Prop} {ts : List Nat} {s : Shape} {γ δ : Type} {wr : γ → δ} {Q : (γ → Prop) → Exit → Act → World → Prop} (hQ : MonoQ Q) {y1 : denP s.tys ⊕ δ} {y : δ} {k : (δ : Type) → (γ → δ) → Ex → St → Option δ}
    (hk : KOk C nt (HJ sk φ0 o0 w0) X k Q) (h : sumE (fun c => stK sk ts s c fun st => k δ wr .normal st) y1 = some y) (e : Exit) (a : Act) (w : World) (hj : JQ C nt sk φ0 o0 w0 X ts s wr Q (fun g => g = y1) e a w) : Q (fun g => wr g = y) e a w := by
  cases y1 with
  | inl c =>
    have h : stK sk ts s c (fun st => k δ wr .normal st) = some y := h
    rw [stK_eq] at h
    cases e with
    | normal =>
      obtain ⟨c', h1, X2, φ2, h2, h3, h4⟩ := hj
      injection h1 with h1
      subst h1
      exact hk δ wr .normal _ y h X2 φ2 a w h2 h3 h4
    | _ => exact hQ _ _ _ _ _ (fun g hg => by cases hg) hj
  | inr d =>
    have h : some d = some y := h
    injection h with h
    subst h
    cases e with
    | normal => obtain ⟨c', h1, _⟩ := hj; cases h1
    | _ => exact hQ _ _ _ _ _ (fun g hg => by injection hg) hj

theorem join_give {X : Nat → Prop} {ts : List Nat} {s : Shape} {γ δ δ' : Type} {wr : γ → δ} {Q : (γ → Prop) → Exit → Act → World → Prop} {w' : denP s.tys ⊕ δ → δ'} {st' : St} {y' : δ'}
    (hsk : SkGood sk) (h : give lf sk s (fun c => w' (.inl c)) (skRen 0 sk) st'.obj (ts.map fun t => unlb (st'.env t)) = some y') : Sound C nt X (HJ sk φ0 o0 w0) st' (JQ C nt sk φ0 o0 w0 X ts s wr Q (fun g => w' g = y') .normal) := by
  obtain ⟨ps, c, h1, h2⟩ := give_some h
  intro X' φ a w hX hR hJ
  obtain ⟨φ2, X2, g1, g2, g3⟩ := repack hsk hR hJ h1
  exact ⟨c, h2, X2, φ2, fun b hb => g1 b (hX b hb), g2, g3⟩

variable (hC : CxOk C) (hE : EqOk C) (HC : ∀ X φ o w, MRel C X φ o w → ∀ fr f, CallsOk C R X φ o w fr f) (HD : DrawOk C nt R (HJ sk φ0 o0 w0)) (hsk : SkGood sk)
include hC hE HC HD hsk

open Classical in
theorem ev_sound {c : Code} {ac : AC} (hA : AnnR nt c ac) : ∀ (X : Nat → Prop) (st : St) (γ δ : Type) (w : γ → δ) (k : (δ : Type) → (γ → δ) → Ex → St → Option δ) (Q : (γ → Prop) → Exit → Act → World → Prop) (y : δ),
    MonoQ Q → KOk C nt (HJ sk φ0 o0 w0) X k Q → ev lf C R sk ac st γ δ w k = some y → Sound C nt X (HJ sk φ0 o0 w0) st (wps C.P c (Q fun g => w g = y)) := by
  induction hA with
  | skip => intro X st γ δ w k Q y hQ hk h; exact hk δ w .normal st y h
  | label l => intro X st γ δ w k Q y hQ hk h; exact hk δ w .normal st y h
  | region id ops d hd =>
    intro X st γ δ w k Q y hQ hk h
    cases d with
    | true => exact HD id ops _ X _ w st _ y h hd fun st' h' => hk δ w .normal st' y h'
    | false =>
      refine (evOps_sound hC hE HC (ops := ops) (rg := id) _ X (Q fun g => w g = y) w 0 ops.toList st _ y (HJ sk φ0 o0 w0) none h hd (HJ.keeps _) fun st' h' => hk δ w .normal st' y h').weaken fun a w h => wp_region_list h
  | @seq ca cb a b ha hb iha ihb =>
    intro X st γ δ w k Q y hQ hk h
    refine iha X st γ δ w _ (fun S e a w => Exit.then (wps C.P cb (Q S)) (Q S) e a w) y ?_ ?_ h
    · intro S S' e a w hs h
      cases e <;> first | exact hQ _ _ _ _ _ hs h | exact wps_mono h fun e a w h => hQ _ _ _ _ _ hs h
    · intro δ' w' e st' y' h'
      cases e with
      | normal => exact ihb X st' γ δ' w' k Q y' hQ hk h'
      | exit id => exact hk δ' w' (.exit id) st' y' h'
      | goto l => exact hk δ' w' (.goto l) st' y' h'
      | ret => exact hk δ' w' .ret st' y' h'
  | @cond ca cb a b c ts ha hb iha ihb =>
    intro X st γ δ w k Q y hQ hk h X' φ act wd hX hR hJ
    unfold ev at h
    split at h
    · rename_i x hx
      have hz := hR.opd c
      rw [hx] at hz
      have hz := rel_bool hz
      have plain : cnd x (ev lf C R sk a st γ δ w k) (ev lf C R sk b st γ δ w k) = some y → (Code.cond c ca cb).wp C.P (Q fun g => w g = y) act wd := by
        intro h
        cases x with
        | true => exact wp_cond_true hz (wps_wp (iha X st γ δ w k Q y hQ hk h X' φ act wd hX hR hJ))
        | false => exact wp_cond_false hz (wps_wp (ihb X st γ δ w k Q y hQ hk h X' φ act wd hX hR hJ))
      cases hf : (falls a && falls b) with
      | false =>
        rw [hf] at h
        exact plain h
      | true =>
        rw [hf, cond_true, shK_eq] at h
        generalize shapeOf sk st.obj (ts.map fun t => unlb (st.env t)) = s at h
        have both : ∀ (k' : (δ' : Type) → (denP s.tys ⊕ δ → δ') → Ex → St → Option δ') (y1 : denP s.tys ⊕ δ), KOk C nt (HJ sk φ0 o0 w0) X k' (JQ C nt sk φ0 o0 w0 X ts s w Q) →
            cnd x (ev lf C R sk a st (denP s.tys ⊕ δ) (denP s.tys ⊕ δ) (fun x => x) k') (ev lf C R sk b st (denP s.tys ⊕ δ) (denP s.tys ⊕ δ) (fun x => x) k') = some y1 →
            (Code.cond c ca cb).wp C.P (JQ C nt sk φ0 o0 w0 X ts s w Q fun g => g = y1) act wd := by
          intro k' y1 hk' h
          cases x with
          | true => exact wp_cond_true hz (wps_wp (iha X st _ _ (fun x => x) k' _ y1 (JQ.mono hQ) hk' h X' φ act wd hX hR hJ))
          | false => exact wp_cond_false hz (wps_wp (ihb X st _ _ (fun x => x) k' _ y1 (JQ.mono hQ) hk' h X' φ act wd hX hR hJ))
        cases hl : (leaves a || leaves b) with
        | true =>
          rw [hl, cond_true] at h
          obtain ⟨y1, h1, h2⟩ := bnd_some h
          refine wp_mono (both _ y1 ?_ h1) fun e a w hj => join_end hQ hk h2 e a w hj
          intro δ' w' e st' y' h'
          cases e with
          | normal => exact join_give hsk h'
          | exit id => exact hk δ' (fun g => w' (.inr (w g))) (.exit id) st' y' h'
          | goto l => exact hk δ' (fun g => w' (.inr (w g))) (.goto l) st' y' h'
          | ret => exact hk δ' (fun g => w' (.inr (w g))) .ret st' y' h'
        | false =>
          rw [hl, cond_false] at h
          obtain ⟨y1, h1, h2⟩ := bnd_some h
          have only : ∀ (cx : Code) (ax : AC), (∀ (X : Nat → Prop) (st : St) (γ δ : Type) (w : γ → δ) (k : (δ : Type) → (γ → δ) → Ex → St → Option δ) (Q : (γ → Prop) → Exit → Act → World → Prop) (y : δ),
              MonoQ Q → KOk C nt (HJ sk φ0 o0 w0) X k Q → ev lf C R sk ax st γ δ w k = some y → Sound C nt X (HJ sk φ0 o0 w0) st (wps C.P cx (Q fun g => w g = y))) →
              ev lf C R sk ax st (denP s.tys) (denP s.tys) (fun x => x) (fun _ w' e st' => match e with
                | .normal => give lf sk s w' (skRen 0 sk) st'.obj (ts.map fun t => unlb (st'.env t))
                | _ => none) = some y1 → cx.wp C.P (Q fun g => w g = y) act wd := by
            intro cx ax ih h
            have := ih X st _ _ (fun x => x) _ (fun S e a w => match e with | .normal => ∃ c, S c ∧ InSt C nt sk φ0 o0 w0 X ts s c a w | _ => False) y1 ?_ ?_ h X' φ act wd hX hR hJ
            · refine wp_mono (wps_wp this) fun e a2 w2 hj => ?_
              cases e with
              | normal =>
                obtain ⟨c', hc, X2, φ2, g1, g2, g3⟩ := hj
                subst hc
                have h2 : stK sk ts s c' (fun st => k δ w .normal st) = some y := h2
                rw [stK_eq] at h2
                exact hk δ _ .normal _ y h2 X2 φ2 a2 w2 g1 g2 g3
              | _ => exact hj.elim
            · intro S S' e a w hs h
              cases e <;> first | exact h.elim | exact (let ⟨c, h1, h2⟩ := h; ⟨c, hs _ h1, h2⟩)
            · intro δ' w' e st' y' h'
              cases e with
              | normal =>
                obtain ⟨ps, cc, e1, e2⟩ := give_some h'
                intro X' φ a w hX hR hJ
                obtain ⟨φ2, X2, g1, g2, g3⟩ := repack hsk hR hJ e1
                exact ⟨cc, e2, X2, φ2, fun b hb => g1 b (hX b hb), g2, g3⟩
              | _ => cases h'
          cases x with
          | true => exact wp_cond_true hz (only ca a iha h1)
          | false => exact wp_cond_false hz (only cb b ihb h1)
    · cases h
  | @block cb b id ts hb ih =>
    intro X st γ δ w k Q y hQ hk h
    have monoB : ∀ {γ : Type} {Q : (γ → Prop) → Exit → Act → World → Prop}, MonoQ Q → MonoQ (fun S => Exit.inBlock id (Q S)) := by
      intro γ Q hQ S S' e a w hs h
      cases e with
      | exit j =>
        show (if j = id then Q S' .normal a w else Q S' (.exit j) a w)
        have h : (if j = id then Q S .normal a w else Q S (.exit j) a w) := h
        split
        · rename_i e; rw [if_pos e] at h; exact hQ _ _ _ _ _ hs h
        · rename_i e; rw [if_neg e] at h; exact hQ _ _ _ _ _ hs h
      | _ => exact hQ _ _ _ _ _ hs h
    unfold ev at h
    cases hw : Nat.ble 2 (ways id b + (bif falls b then 1 else 0)) with
    | true =>
      rw [hw, cond_true, shK_eq] at h
      generalize shapeOf sk st.obj (ts.map fun t => unlb (st.env t)) = s at h
      obtain ⟨y1, h1, h2⟩ := bnd_some h
      refine (ih X st _ _ (fun x => x) _ (fun S => Exit.inBlock id (JQ C nt sk φ0 o0 w0 X ts s w Q S)) y1 (monoB (JQ.mono hQ)) ?_ h1).weaken fun a wd hb => wp_mono (wp_block (wps_wp hb)) fun e a wd hj => join_end hQ hk h2 e a wd hj
      intro δ' w' e st' y' h'
      cases e with
      | normal => exact join_give (wr := w) (Q := Q) hsk h'
      | exit j =>
        show Sound C nt X _ st' (fun a wd => if j = id then JQ C nt sk φ0 o0 w0 X ts s w Q (fun g => w' g = y') .normal a wd else JQ C nt sk φ0 o0 w0 X ts s w Q (fun g => w' g = y') (.exit j) a wd)
        simp only at h'
        cases hj : Nat.beq j id with
        | true =>
          rw [hj, cond_true] at h'
          have := Nat.eq_of_beq_eq_true hj
          simp only [this, if_true]
          exact join_give (wr := w) (Q := Q) hsk h'
        | false =>
          rw [hj, cond_false] at h'
          have : ¬ j = id := fun e => by rw [e, Nat.beq_refl] at hj; cases hj
          simp only [this, if_false]
          exact hk δ' (fun g => w' (.inr (w g))) (.exit j) st' y' h'
      | goto l => exact hk δ' (fun g => w' (.inr (w g))) (.goto l) st' y' h'
      | ret => exact hk δ' (fun g => w' (.inr (w g))) .ret st' y' h'
    | false =>
      rw [hw, cond_false] at h
      refine (ih X st γ δ w _ (fun S => Exit.inBlock id (Q S)) y (monoB hQ) ?_ h).weaken fun a wd hb => wp_block (wps_wp hb)
      intro δ' w' e st' y' h'
      cases e with
      | normal => exact hk δ' w' .normal st' y' h'
      | exit j =>
        show Sound C nt X _ st' (fun a wd => if j = id then Q (fun g => w' g = y') .normal a wd else Q (fun g => w' g = y') (.exit j) a wd)
        simp only at h'
        cases hj : Nat.beq j id with
        | true =>
          rw [hj, cond_true] at h'
          have := Nat.eq_of_beq_eq_true hj
          simp only [this, if_true]
          exact hk δ' w' .normal st' y' h'
        | false =>
          rw [hj, cond_false] at h'
          have : ¬ j = id := fun e => by rw [e, Nat.beq_refl] at hj; cases hj
          simp only [this, if_false]
          exact hk δ' w' (.exit j) st' y' h'
      | goto l => exact hk δ' w' (.goto l) st' y' h'
      | ret => exact hk δ' w' .ret st' y' h'
  | @loop cb b ts hb ih =>
    intro X st γ δ w k Q y hQ hk h X' φ act wd hX hR hJ
    unfold ev at h
    rw [shK_eq] at h
    generalize shapeOf sk st.obj (ts.map fun t => unlb (st.env t)) = s at h
    split at h
    · rename_i p hp
      obtain ⟨n0, hn0⟩ := loopR_some h
      generalize hbody : (fun c => stK sk ts s c fun st => ev lf C R sk b st (denP s.tys ⊕ δ) (denP s.tys ⊕ δ) (fun x => x) fun δ' w' e st' => match e with
          | .normal => give lf sk s (fun c => w' (.inl c)) (skRen 0 sk) st'.obj (ts.map fun t => unlb (st'.env t))
          | e => k δ' (fun g => w' (.inr (w g))) e st') = body at hn0
      obtain ⟨φ2, X2, g1, g2, g3⟩ := repack hsk hR hJ hp
      let Pn : Act → World → Nat → Prop := fun a wd n => ∃ cc, loopN body n cc = some y ∧ InSt C nt sk φ0 o0 w0 X ts s cc a wd
      let I : Act → World → Prop := fun a wd => ∃ n, Pn a wd n
      refine wp_loop I (fun a wd => if h : I a wd then Classical.choose (least h) else 0) ⟨n0, p.2, hn0, X2, φ2, fun b hb => g1 b (hX b hb), g2, g3⟩ ?_
      intro a wd hI
      have hl := Classical.choose_spec (least hI)
      simp only [dif_pos hI]
      generalize Classical.choose (least hI) = n at hl
      obtain ⟨⟨cc, c1, X3, φ3, c2, c3, c4⟩, hmin⟩ := hl
      cases n with
      | zero => cases c1
      | succ m =>
        simp only [loopN] at c1
        have run : ∀ y1, body cc = some y1 → cb.wp C.P (JQ C nt sk φ0 o0 w0 X ts s w Q fun g => g = y1) a wd := by
          intro y1 hy1
          rw [← hbody] at hy1
          have hy1 : stK sk ts s cc _ = some y1 := hy1
          rw [stK_eq] at hy1
          refine wps_wp (ih X (stOf sk ts s cc) _ _ (fun x => x) _ (JQ C nt sk φ0 o0 w0 X ts s w Q) y1 (JQ.mono hQ) ?_ hy1 X3 φ3 a wd c2 c3 c4)
          intro δ' w' e st' y' h'
          cases e with
          | normal => exact join_give hsk h'
          | exit id => exact hk δ' (fun g => w' (.inr (w g))) (.exit id) st' y' h'
          | goto l => exact hk δ' (fun g => w' (.inr (w g))) (.goto l) st' y' h'
          | ret => exact hk δ' (fun g => w' (.inr (w g))) .ret st' y' h'
        split at c1
        · rename_i s' hs'
          refine wp_mono (run _ hs') fun e a2 w2 hj => ?_
          cases e with
          | normal =>
            obtain ⟨c', e1, e2⟩ := hj
            injection e1 with e1
            subst e1
            have hI2 : I a2 w2 := ⟨m, c', c1, e2⟩
            refine ⟨hI2, ?_⟩
            rw [dif_pos hI2]
            have := (Classical.choose_spec (least hI2)).2 m ⟨c', c1, e2⟩
            omega
          | _ => exact hQ _ _ _ _ _ (fun g hg => by cases hg) hj
        · rename_i r hr
          injection c1 with c1
          subst c1
          refine wp_mono (run _ hr) fun e a2 w2 hj => ?_
          cases e with
          | normal => obtain ⟨c', e1, _⟩ := hj; cases e1
          | _ => exact hQ _ _ _ _ _ (fun g hg => by injection hg) hj
        · cases c1
    · cases h
  | exit id => intro X st γ δ w k Q y hQ hk h; exact (hk δ w (.exit id) st y h).weaken fun a w h => wp_exit h
  | goto l => intro X st γ δ w k Q y hQ hk h; exact (hk δ w (.goto l) st y h).weaken fun a w h => wp_goto h
  | ret => intro X st γ δ w k Q y hQ hk h; exact (hk δ w .ret st y h).weaken fun a w h => wp_ret h
  | @scope cb b hb ih =>
    intro X st γ δ w k Q y hQ hk h
    refine (ih X st γ δ w _ (fun S => Exit.noGoto (Q S)) y ?_ ?_ h).weaken fun a wd hb => wp_scope_straight (wps_wp hb)
    · intro S S' e a w hs h
      cases e <;> first | exact hQ _ _ _ _ _ hs h | exact h
    · intro δ' w' e st' y' h'
      cases e with
      | normal => exact hk δ' w' .normal st' y' h'
      | exit id => exact hk δ' w' (.exit id) st' y' h'
      | goto l => cases h'
      | ret => exact hk δ' w' .ret st' y' h'
  | @jump cb cp cr p r l ts h1 h2 hp hr ihp ihr =>
    intro X st γ δ w k Q y hQ hk h
    let body : (s : Shape) → (δ' : Type) → (γ → δ') → denP s.tys → Option (denP s.tys ⊕ δ') := fun s δ w c => stK sk ts s c fun st => ev lf C R sk r st (denP s.tys ⊕ δ) (denP s.tys ⊕ δ) (fun x => x) fun δ' w' e st' => match e with
          | .goto l' => bif Nat.beq l' l then give lf sk s (fun c => w' (.inl c)) (skRen 0 sk) st'.obj (ts.map fun t => unlb (st'.env t)) else none
          | e => k δ' (fun g => w' (.inr (w g))) e st'
    let JJ : (γ → Prop) → Nat → Act → World → Prop := fun S n a wd => ∃ (s : Shape) (δ' : Type) (w' : γ → δ') (y' : δ'), (∀ g, w' g = y' → S g) ∧ ∃ cc, loopN (body s δ' w') n cc = some y' ∧ InSt C nt sk φ0 o0 w0 X ts s cc a wd
    let J : (γ → Prop) → Act → World → Prop := fun S a wd => ∃ n, JJ S n a wd
    let Q' : (γ → Prop) → Exit → Act → World → Prop := fun S e a wd => match e with
      | .normal => J S a wd
      | .goto _ => False
      | e => Q S e a wd
    have mJ : ∀ S S' a wd, (∀ g, S g → S' g) → J S a wd → J S' a wd := fun S S' a wd hs ⟨n, s, δ', w', y', h1, h2⟩ => ⟨n, s, δ', w', y', fun g hg => hs g (h1 g hg), h2⟩
    have mQ : MonoQ Q' := by
      intro S S' e a w hs h
      cases e <;> first | exact hQ _ _ _ _ _ hs h | exact mJ _ _ _ _ hs h | exact h.elim
    have hp' := ihp X st γ δ w _ Q' y mQ (fun δ' w' e st' y' h' => by
      cases e with
      | normal =>
        simp only at h'
        rw [shK_eq] at h'
        generalize shapeOf sk st'.obj (ts.map fun t => unlb (st'.env t)) = s at h'
        split at h'
        · rename_i p hp
          obtain ⟨n0, hn0⟩ := loopR_some h'
          intro X' φ a wd hX hR hJ
          obtain ⟨φ2, X2, g1, g2, g3⟩ := repack hsk hR hJ hp
          exact ⟨n0, s, δ', w', y', fun _ h => h, p.2, hn0, X2, φ2, fun b hb => g1 b (hX b hb), g2, g3⟩
        · cases h'
      | exit id => exact hk δ' w' (.exit id) st' y' h'
      | goto l => cases h'
      | ret => exact hk δ' w' .ret st' y' h') h
    intro X' φ act wd hX hR hJ
    replace hp' := hp' X' φ act wd hX hR hJ
    let μ : Act → World → Nat := fun a wd => if h : J (fun g => w g = y) a wd then Classical.choose (least h) else 0
    have pass : ∀ a wd, J (fun g => w g = y) a wd → wps C.P cr (Exit.jump l (fun a' w' => J (fun g => w g = y) a' w' ∧ μ a' w' < μ a wd) (Q fun g => w g = y)) a wd := by
      intro a wd hI
      have hl := Classical.choose_spec (least hI)
      have hμ : μ a wd = Classical.choose (least hI) := dif_pos hI
      rw [hμ]
      generalize Classical.choose (least hI) = n at hl
      obtain ⟨⟨s, δ', w', y', hS, cc, c1, X3, φ3, c2, c3, c4⟩, hmin⟩ := hl
      cases n with
      | zero => cases c1
      | succ m =>
        simp only [loopN] at c1
        let Q2 : (denP s.tys ⊕ δ' → Prop) → Exit → Act → World → Prop := fun T e a wd => match e with
          | .goto l' => l' = l ∧ ∃ c, T (.inl c) ∧ InSt C nt sk φ0 o0 w0 X ts s c a wd
          | e => Q (fun g => T (.inr (w' g))) e a wd
        have mQ2 : MonoQ Q2 := by
          intro S S' e a w hs h
          cases e <;> first | exact hQ _ _ _ _ _ (fun g hg => hs _ hg) h | exact (let ⟨c0, c, h1, h2⟩ := h; ⟨c0, c, hs _ h1, h2⟩)
        have run : ∀ y1, body s δ' w' cc = some y1 → wps C.P cr (Q2 fun g => g = y1) a wd := by
          intro y1 hy1
          have hy1 : stK sk ts s cc _ = some y1 := hy1
          rw [stK_eq] at hy1
          refine ihr X (stOf sk ts s cc) _ _ (fun x => x) _ Q2 y1 mQ2 ?_ hy1 X3 φ3 a wd c2 c3 c4
          intro δ2 w2 e st' y2 h'
          cases e with
          | normal => exact hk δ2 (fun g => w2 (.inr (w' g))) .normal st' y2 h'
          | exit id => exact hk δ2 (fun g => w2 (.inr (w' g))) (.exit id) st' y2 h'
          | goto l' =>
            simp only at h'
            cases hb : Nat.beq l' l with
            | false => rw [hb] at h'; cases h'
            | true =>
              rw [hb, cond_true] at h'
              obtain ⟨ps, c, e1, e2⟩ := give_some h'
              intro X' φ a w hX hR hJ
              obtain ⟨φ2, X2, g1, g2, g3⟩ := repack hsk hR hJ e1
              exact ⟨Nat.eq_of_beq_eq_true hb, c, e2, X2, φ2, fun b hb => g1 b (hX b hb), g2, g3⟩
          | ret => exact hk δ2 (fun g => w2 (.inr (w' g))) .ret st' y2 h'
        split at c1
        · rename_i s' hs'
          refine wps_mono (run _ hs') fun e a2 w2 hj => ?_
          cases e with
          | goto l' =>
            obtain ⟨e0, c', e1, e2⟩ := hj
            injection e1 with e1
            subst e1
            have hJJ : JJ (fun g => w g = y) m a2 w2 := ⟨s, δ', w', y', hS, c', c1, e2⟩
            have hI2 : J (fun g => w g = y) a2 w2 := ⟨m, hJJ⟩
            refine ⟨e0, hI2, ?_⟩
            have hμ2 : μ a2 w2 = Classical.choose (least hI2) := dif_pos hI2
            rw [hμ2]
            have := (Classical.choose_spec (least hI2)).2 m hJJ
            omega
          | _ => exact hQ _ _ _ _ _ (fun g hg => by cases hg) hj
        · rename_i r0 hr0
          injection c1 with c1
          subst c1
          refine wps_mono (run _ hr0) fun e a2 w2 hj => ?_
          cases e with
          | goto l' => obtain ⟨_, c', e1, _⟩ := hj; cases e1
          | _ => exact hQ _ _ _ _ _ (fun g hg => hS g (by injection hg)) hj
        · cases c1
    refine wp_scope_jumps l (J fun g => w g = y) μ h2 (wps_wp (ahead_wps cb h1 h2 (wps_mono hp' fun e a wd hq => ?_))) fun a wd hI => wps_wp (pass a wd hI)
    cases e with
    | normal =>
      refine wps_mono (pass a wd hq) fun e a2 w2 hj => ?_
      cases e with
      | goto l' => exact ⟨hj.1, hj.2.1⟩
      | _ => exact hj
    | goto l' => exact hq.elim
    | _ => exact hq
  | bad c => intro X st γ δ w k Q y hQ hk h; cases h
end
end Ev


namespace Ev
open Go

theorem tmK_eq {β : Type} (m : Nat) : ∀ (n : Nat) (acc : List Nat) (k : List Nat → β), ∃ ts, tmK m n acc k = k ts
  | 0, acc, k => ⟨acc, rfl⟩
  | n + 1, acc, k => by
    show ∃ ts, (bif Nat.testBit m n then tmK m n (n :: acc) k else tmK m n acc k) = k ts
    cases Nat.testBit m n
    · exact tmK_eq m n acc k
    · exact tmK_eq m n (n :: acc) k

theorem ann_sound {γ : Type} {rt nt : Nat} : ∀ (n : Nat) (c : Code) (ex gt : List (Nat × Nat)) (m : Nat) (k : Nat → AC → Option γ) (y : γ), ann rt nt n c ex gt m k = some y → ∃ m' ac, AnnR nt c ac ∧ k m' ac = some y := by
  intro n
  induction n with
  | zero => intro c ex gt m k y h; exact ⟨m, .bad, .bad c, h⟩
  | succ n ih =>
    intro c ex gt m k y h
    cases c with
    | skip => exact ⟨m, .skip, .skip, h⟩
    | label l => exact ⟨m, .skip, .label l, h⟩
    | region id ops d =>
      have h : (bif dstsOk nt ops.toList then sqN (liveOps ops.toList m) fun m' => k m' (.region id ops d) else k m .bad) = some y := h
      cases hd : dstsOk nt ops.toList with
      | true => rw [hd, cond_true, sqN_eq] at h; exact ⟨_, _, .region id ops d hd, h⟩
      | false => rw [hd, cond_false] at h; exact ⟨_, _, .bad _, h⟩
    | seq a b =>
      have h : (ann rt nt n b ex gt m fun mb b' => ann rt nt n a ex gt mb fun ma a' => k ma (.seq a' b')) = some y := h
      obtain ⟨mb, b', h1, h2⟩ := ih _ _ _ _ _ _ h
      obtain ⟨ma, a', h3, h4⟩ := ih _ _ _ _ _ _ h2
      exact ⟨ma, _, .seq h3 h1, h4⟩
    | cond c a b =>
      have h : (ann rt nt n a ex gt m fun ma a' => ann rt nt n b ex gt m fun mb b' => sqN (opM c ||| ma ||| mb) fun m' => tmK m nt [] fun ts => k m' (.cond c ts a' b')) = some y := h
      obtain ⟨ma, a', h1, h2⟩ := ih _ _ _ _ _ _ h
      obtain ⟨mb, b', h3, h4⟩ := ih _ _ _ _ _ _ h2
      rw [sqN_eq] at h4
      obtain ⟨ts, e⟩ := tmK_eq m nt [] (fun ts => k (opM c ||| ma ||| mb) (.cond c ts a' b'))
      rw [e] at h4
      exact ⟨_, _, .cond c ts h1 h3, h4⟩
    | block id b =>
      have h : (ann rt nt n b ((id, m) :: ex) gt m fun mb b' => tmK m nt [] fun ts => k mb (.block id ts b')) = some y := h
      obtain ⟨mb, b', h1, h2⟩ := ih _ _ _ _ _ _ h
      obtain ⟨ts, e⟩ := tmK_eq m nt [] (fun ts => k mb (.block id ts b'))
      rw [e] at h2
      exact ⟨_, _, .block id ts h1, h2⟩
    | loop b =>
      have h : (ann rt nt n b ex gt 0 fun m1 _ => ann rt nt n b ex gt m1 fun m2 b' => tmK m2 nt [] fun ts => k m2 (.loop ts b')) = some y := h
      obtain ⟨m1, _, _, h2⟩ := ih _ _ _ _ _ _ h
      obtain ⟨m2, b', h3, h4⟩ := ih _ _ _ _ _ _ h2
      obtain ⟨ts, e⟩ := tmK_eq m2 nt [] (fun ts => k m2 (.loop ts b'))
      rw [e] at h4
      exact ⟨_, _, .loop ts h3, h4⟩
    | exit id => exact ⟨_, _, .exit id, h⟩
    | goto l => exact ⟨_, _, .goto l, h⟩
    | ret => exact ⟨_, _, .ret, h⟩
    | scope b =>
      have h : (match labelOf b b with
        | none => ann rt nt n b ex gt m fun mb b' => k mb (.scope b')
        | some l => match ahead l b, findLabel b l with
          | some p, some r => ann rt nt n r ex ((l, 0) :: gt) m fun m1 _ => ann rt nt n r ex ((l, m1) :: gt) m fun m2 r' => ann rt nt n p ex gt m2 fun mp p' => tmK m2 nt [] fun ts => k mp (.jump l ts p' r')
          | _, _ => k m .bad) = some y := h
      split at h
      · obtain ⟨mb, b', h1, h2⟩ := ih _ _ _ _ _ _ h
        exact ⟨_, _, .scope h1, h2⟩
      · rename_i l _
        split at h
        · rename_i p r ep er
          obtain ⟨m1, _, _, h2⟩ := ih _ _ _ _ _ _ h
          obtain ⟨m2, r', h3, h4⟩ := ih _ _ _ _ _ _ h2
          obtain ⟨mp, p', h5, h6⟩ := ih _ _ _ _ _ _ h4
          obtain ⟨ts, e⟩ := tmK_eq m2 nt [] (fun ts => k mp (.jump l ts p' r'))
          rw [e] at h6
          exact ⟨_, _, .jump l ts ep er h5 h3, h6⟩
        · exact ⟨_, _, .bad _, h⟩
    | _ => exact ⟨m, .bad, .bad _, h⟩

theorem setArgs_get : ∀ (vs : List V) (i : Nat) (env : Nat → V) (t : Nat), (∀ j, t = i + j → ∀ v, vs[j]? = some v → setArgs env i vs t = v) ∧ ((t < i ∨ i + vs.length ≤ t) → setArgs env i vs t = env t)
  | [], i, env, t => ⟨fun j _ v h => by simp at h, fun _ => rfl⟩
  | x :: r, i, env, t => by
    obtain ⟨h1, h2⟩ := setArgs_get r (i + 1) (upd env i x) t
    refine ⟨fun j hj v hv => ?_, fun hj => ?_⟩
    · show setArgs (upd env i x) (i + 1) r t = v
      cases j with
      | zero =>
        rw [h2 (.inl (by omega)), hj, Nat.add_zero, upd_same]
        simpa using hv
      | succ j => exact h1 j (by omega) v (by simpa using hv)
    · show setArgs (upd env i x) (i + 1) r t = env t
      simp only [List.length_cons] at hj
      rw [h2 (by omega), upd_other (by omega)]

section
variable {C : Cx} {R : Oracle C.sigs}

/-- One value, or a row of them. -/
def oneOf (l : List Value) : Value := match l with
  | [v] => v
  | l => .tuple l.toArray

theorem resV_ok (hC : CxOk C) {nt : Nat} {X : Nat → Prop} {φ : Nat → Addr} {st : St} {a : Act} {w : World} (h : Rel C nt X φ st a w) : ∀ (rs : List ResultVar) (vs : List V), resV lf C st rs = some vs →
    ∃ zs, relVs φ st.obj (immB X φ st.obj w) w vs zs ∧ (rs.mapM fun (r : ResultVar) => (match r with
      | .tmp t => (pure (a.tmps.getD t undef) : Sem Value)
      | .cell q t => do loadVar t (← asAddr (a.tmps.getD q undef)))).run C.P w = .ok zs w := by
  intro rs
  induction rs with
  | nil => intro vs h1; injection h1 with h1; subst h1; exact ⟨[], rfl, by simp⟩
  | cons r rs ih =>
    intro vs h1
    cases r with
    | tmp t =>
      simp only [resV] at h1
      split at h1
      · rename_i l h2
        injection h1 with h1; subst h1
        obtain ⟨zs, h3, h4⟩ := ih _ h2
        exact ⟨a.tmps.getD t undef :: zs, ⟨_, _, rfl, relVal_unlb (h.env t), h3⟩, by simp only [List.mapM_cons, Sem.run_bind, Sem.run_pure, Result.andThen_ok, h4]⟩
      · cases h1
    | cell q t =>
      simp only [resV] at h1
      split at h1
      · rename_i v u hv
        split at h1
        · rename_i l h2
          injection h1 with h1; subst h1
          obtain ⟨zs, h3, h4⟩ := ih _ h2
          obtain ⟨_, z, h5, h6⟩ := loadPk_ok (v := v) (u := u) hC h.toMRel (h.env q) (by rw [hv]; exact ⟨rfl, rfl⟩)
          refine ⟨z :: zs, ⟨_, _, rfl, h6, h3⟩, ?_⟩
          have hl : (asAddr (a.tmps.getD q undef) >>= fun ad => loadVar t ad).run C.P w = .ok z w := by
            unfold Instr.loadAt at h5
            generalize a.tmps.getD q undef = zq at h5 ⊢
            cases zq with
            | pointer p => cases p with
              | none => exact absurd h5 (by simp [Instr.sureAddr, stuck])
              | some ad => simpa [Instr.sureAddr, asAddr] using h5
            | _ => exact absurd h5 (by simp [Instr.sureAddr, stuck])
          rw [Sem.run_bind] at hl
          simp only [List.mapM_cons, Sem.run_bind, Sem.run_pure]
          rw [hl]
          simp only [Result.andThen_ok, h4]
        · cases h1
      · cases h1

/-- What a call comes to. -/
def Back (C : Cx) (i : Nat) (x : denP (sigAt C.sigs i).ins.tys) (y : denP (sigAt C.sigs i).outs.tys) (X : Nat → Prop) (φ : Nat → Addr) (w : World) (e : Ending) (w' : World) : Prop :=
  ∃ vals φ' X', e = .returned (oneOf vals) ∧ (∀ b, X b → X' b) ∧ MRel C X' φ' (canO (sigAt C.sigs i).outs y) w' ∧
    relVs φ' (canO (sigAt C.sigs i).outs y) (immB X' φ' (canO (sigAt C.sigs i).outs y) w') w' (fill id0 ka0 (sigAt C.sigs i).outs y).1 vals ∧
    Hist (sigAt C.sigs i).keep φ (canO (sigAt C.sigs i).ins x) w φ' (canO (sigAt C.sigs i).outs y) w'

/-- What a function does at a signature. -/
def FnOk (C : Cx) (i : Nat) (x : denP (sigAt C.sigs i).ins.tys) (y : denP (sigAt C.sigs i).outs.tys) : Prop :=
  ∀ X φ w zs, MRel C X φ (canO (sigAt C.sigs i).ins x) w → relVs φ (canO (sigAt C.sigs i).ins x) (immB X φ (canO (sigAt C.sigs i).ins x) w) w (fill id0 ka0 (sigAt C.sigs i).ins x).1 zs →
    (∃ fn, C.P.funcs[(sigAt C.sigs i).f]? = some fn ∧ fn.body.isNone = false) ∧ Calls C.P (sigAt C.sigs i).f zs.toArray w (Back C i x y X φ w)

theorem evalFn_sound (hC : CxOk C) (hE : EqOk C) (HC : ∀ X φ o w, MRel C X φ o w → ∀ fr f, CallsOk C R X φ o w fr f) (HD : ∀ nt sk φ0 o0 w0, DrawOk C nt R (HJ sk φ0 o0 w0)) {i : Nat} {x : denP (sigAt C.sigs i).ins.tys}
    {y : denP (sigAt C.sigs i).outs.tys} (h : evalFn lf C R i x = some y) : FnOk C i x y := by
  intro X φ w zs hm hz
  unfold evalFn at h
  simp only at h
  split at h
  · cases h
  · rename_i fn hfn
    rw [Array.getElem?_toList] at hfn
    split at h
    · cases h
    · rename_i b hb
      refine ⟨⟨fn, hfn, by rw [hb]; rfl⟩, ?_⟩
      cases hn : (keepGood (sigAt C.sigs i).ins.objs.length (sigAt C.sigs i).keep && Nat.ble (fill id (fun _ => 0) (sigAt C.sigs i).ins x).1.length fn.ntmps) with
      | false => rw [hn] at h; cases h
      | true =>
        rw [hn, cond_true] at h
        rw [Bool.and_eq_true] at hn
        obtain ⟨hkg, hn⟩ := hn
        obtain ⟨m', ac, hA, hev⟩ := ann_sound _ _ _ _ _ _ _ h
        have hlen := relVs_len hz
        have hn : (fill id0 ka0 (sigAt C.sigs i).ins x).1.length ≤ fn.ntmps := Nat.le_of_ble_eq_true hn
        have hsz : zs.length ≤ fn.ntmps := by omega
        refine calls_of_wp hfn hb ?_
        let PR : denP (sigAt C.sigs i).outs.tys → Act → World → Prop := fun yy a wd => a.defers = [] ∧ ∃ v, (results fn a.tmps).run C.P wd = .ok v wd ∧ Back C i x yy X φ w (.returned v) wd
        have hk : KOk C fn.ntmps (HJ (sigAt C.sigs i).keep φ (canO (sigAt C.sigs i).ins x) w) X (fun _ w e st => match e with
          | .normal => giveR lf C (sigAt C.sigs i).keep (sigAt C.sigs i).outs w st fn.results.toList
          | .ret => giveR lf C (sigAt C.sigs i).keep (sigAt C.sigs i).outs w st fn.results.toList
          | _ => none) (fun S e a wd => match e with | .normal => ∃ yy, S yy ∧ PR yy a wd | .ret => ∃ yy, S yy ∧ PR yy a wd | _ => False) := by
          have fin : ∀ (δ : Type) (wr : denP (sigAt C.sigs i).outs.tys → δ) (st : St) (y' : δ), giveR lf C (sigAt C.sigs i).keep (sigAt C.sigs i).outs wr st fn.results.toList = some y' →
              Sound C fn.ntmps X (HJ (sigAt C.sigs i).keep φ (canO (sigAt C.sigs i).ins x) w) st (fun a wd => ∃ yy, wr yy = y' ∧ PR yy a wd) := by
            intro δ wr st y' hg X' φ2 a wd hX hR hJ
            unfold giveR at hg
            split at hg
            · rename_i vs hvs
              obtain ⟨ps, cc, hp, hw⟩ := give_some hg
              obtain ⟨hp, hok, hcut⟩ := packK_some hp
              obtain ⟨vals, r1, r2⟩ := resV_ok hC hR _ _ hvs
              obtain ⟨q1, q2⟩ := pack_ok hR.toMRel hp r1
              obtain ⟨hpk, _⟩ := pack_packed hp
              refine ⟨cc, hw, hR.defers, oneOf vals, ?_, vals, _, _, rfl, fun b hb => .inl (hX b hb), q1, q2, ⟨hJ.size, hJ.frame, fun b hb => hJ.news b (hpk.ownedSub hb), hJ.still, fun id hi => (hJ.up id hi).trans (keep_up hpk (pack_ren hp _ (keepRen_mem hi)) (skOk_spec hok id hi) (noCut_spec hcut id hi))⟩⟩
              have key : ∀ (q : Sem (List Value)), q.run C.P wd = .ok vals wd → ((Functor.map List.toArray q) >>= fun vs => (pure (if h : vs.size = 1 then vs[0] else Value.tuple vs) : Sem Value)).run C.P wd = .ok (oneOf vals) wd := by
                intro q hq
                rw [Sem.run_bind, Sem.run_map, hq]
                match vals with
                | [] => rfl
                | [v] => rfl
                | a :: b :: r => rfl
              unfold results
              rw [Array.mapM_eq_mapM_toList]
              exact key _ r2
            · cases hg
          intro δ wr e st y' hg
          cases e with
          | normal => exact fin δ wr st y' hg
          | ret => exact fin δ wr st y' hg
          | exit id => cases hg
          | goto l => cases hg
        have hQ : MonoQ (fun (S : denP (sigAt C.sigs i).outs.tys → Prop) e a wd => match e with | .normal => ∃ yy, S yy ∧ PR yy a wd | .ret => ∃ yy, S yy ∧ PR yy a wd | _ => False) := by
          intro S S' e a wd hs h
          cases e <;> first | exact h.elim | exact (let ⟨c, h1, h2⟩ := h; ⟨c, hs _ h1, h2⟩)
        have hR0 : Rel C fn.ntmps X φ ⟨setArgs (fun _ => .undef) 0 (fill id0 ka0 (sigAt C.sigs i).ins x).1, canO (sigAt C.sigs i).ins x⟩
            { tmps := zs.toArray ++ Array.replicate (fn.ntmps - zs.toArray.size) undef, defers := [] } w := by
          refine ⟨hm, by simp; omega, fun t => ?_, rfl⟩
          obtain ⟨g1, g2⟩ := setArgs_get (fill id0 ka0 (sigAt C.sigs i).ins x).1 0 (fun _ => .undef) t
          by_cases ht : t < (fill id0 ka0 (sigAt C.sigs i).ins x).1.length
          · obtain ⟨z, e1, e2⟩ := relVs_get hz (List.getElem?_eq_getElem ht)
            have := g1 t (by omega) _ (List.getElem?_eq_getElem ht)
            show relVal φ _ _ w (setArgs _ 0 _ t) _
            rw [this]
            have e3 : (zs.toArray ++ Array.replicate (fn.ntmps - zs.toArray.size) undef).getD t undef = z := by
              have ht' : t < zs.length := by omega
              rw [Array.getD_eq_getD_getElem?, Array.getElem?_append_left (by simpa using ht')]
              simp [e1]
            rw [e3]
            exact e2
          · show relVal φ _ _ w (setArgs _ 0 _ t) _
            rw [g2 (.inr (by omega))]
            have e3 : (zs.toArray ++ Array.replicate (fn.ntmps - zs.toArray.size) undef).getD t undef = undef := by
              have ht' : zs.length ≤ t := by omega
              rw [Array.getD_eq_getD_getElem?, Array.getElem?_append_right (by simpa using ht')]
              simp only [Array.getElem?_replicate]
              split <;> rfl
            exact e3
        have hfin := wps_wp (ev_sound hC hE HC (HD fn.ntmps _ φ (canO (sigAt C.sigs i).ins x) w) (skGood_of hkg) hA X _ _ _ _ _ _ y hQ hk hev X φ _ w (fun _ h => h) hR0 (Hist.refl _ _ _ _))
        refine wp_mono hfin fun e a wd hq => ?_
        cases e with
        | normal => obtain ⟨yy, e1, h1, v, h2, h3⟩ := hq; subst e1; exact ⟨h1, v, h2, h3⟩
        | ret => obtain ⟨yy, e1, h1, v, h2, h3⟩ := hq; subst e1; exact ⟨h1, v, h2, h3⟩
        | _ => exact hq.elim
end
end Ev


namespace Ev
open Go

/-- What a call of a function at a signature gives: as the evaluator says over calls that are known. -/
inductive Call (C : Cx) : (i : Nat) → denP (sigAt C.sigs i).ins.tys → denP (sigAt C.sigs i).outs.tys → Prop where
  | mk (R : Oracle C.sigs) (h : ∀ j a b, R j a = some b → Call C j a b) (i : Nat) (x : denP (sigAt C.sigs i).ins.tys) (y : denP (sigAt C.sigs i).outs.tys) (e : evalFn lf C R i x = some y) : Call C i x y
  | prim (i : Nat) (x : denP (sigAt C.sigs i).ins.tys) (y : denP (sigAt C.sigs i).outs.tys) (h : FnOk C i x y) : Call C i x y

/-- What is still to be shown of calls, and of regions that draw their order. -/
def CallLaw (C : Cx) : Prop := ∀ R : Oracle C.sigs, (∀ j a b, R j a = some b → FnOk C j a b) → ∀ X φ o w, MRel C X φ o w → ∀ fr f, CallsOk C R X φ o w fr f
def DrawLaw (C : Cx) : Prop := ∀ R : Oracle C.sigs, (∀ j a b, R j a = some b → FnOk C j a b) → ∀ nt sk φ0 o0 w0, DrawOk C nt R (HJ sk φ0 o0 w0)

theorem Call.ok {C : Cx} (hC : CxOk C) (hE : EqOk C) (hL : CallLaw C) (hD : DrawLaw C) {i : Nat} {x : denP (sigAt C.sigs i).ins.tys} {y : denP (sigAt C.sigs i).outs.tys} (h : Call C i x y) : FnOk C i x y := by
  induction h with
  | mk R h i x y e ih => exact evalFn_sound hC hE (hL R ih) (hD R ih) e
  | prim i x y h => exact h

/-! What shares no memory does not ask which memory is no one's. -/
theorem relC_noSl {imm imm' : Nat → Prop} {w : World} : ∀ (t : Ty) (x : den t) (cs : List Value), hasSlT t = false → relC imm w t x cs → relC imm' w t x cs
  | .unit, _, _, _, h => h
  | .pair a b, x, _, hs, ⟨c, d, e, h1, h2⟩ => by
    simp only [hasSlT, Bool.or_eq_false_iff] at hs
    exact ⟨c, d, e, relC_noSl a x.1 c hs.1 h1, relC_noSl b x.2 d hs.2 h2⟩
  | .st p, x, cs, hs, h => relC_noSl p x cs hs h
  | .arr _ e, _, _, hs, ⟨h1, h2⟩ => ⟨h1, relR_mono (fun x c h => relC_noSl e x c hs h) h2⟩
  | .int _, _, _, _, h => h
  | .bool, _, _, _, h => h
  | .str, _, _, _, h => h
  | .sl e, _, _, hs, _ => by cases hs

theorem relV_noSl {imm imm' : Nat → Prop} {w : World} (t : Ty) (x : den t) (v : Value) (hs : hasSlT t = false) (h : relV imm w t x v) : relV imm' w t x v := by
  cases t with
  | st p => obtain ⟨cs, h1, h2⟩ := h; exact ⟨cs, h1, relC_noSl p x _ hs h2⟩
  | arr n e => obtain ⟨cs, h1, h2⟩ := h; exact ⟨cs, h1, relC_noSl (.arr n e) x _ hs h2⟩
  | unit => exact h
  | pair a b => exact h
  | int k => exact h
  | bool => exact h
  | str => exact h
  | sl e => cases hs

theorem fill_noAl {imm imm' : Nat → Prop} {w : World} {φ : Nat → Addr} {o : Nat → Obj} (ρ κ : Nat → Nat) (s : Sh) : alS s = false → ∀ r c z, relVal φ o imm w (fillS ρ κ s r c).1 z → relVal φ o imm' w (fillS ρ κ s r c).1 z := by
  refine Sh.rec (motive_1 := fun s => alS s = false → ∀ r c z, relVal φ o imm w (fillS ρ κ s r c).1 z → relVal φ o imm' w (fillS ρ κ s r c).1 z)
    (motive_2 := fun l => alL l = false → ∀ r c zs, relVs φ o imm w (fillL ρ κ l r c).1 zs → relVs φ o imm' w (fillL ρ κ l r c).1 zs)
    ?_ ?_ ?_ ?_ ?_ ?_ ?_ ?_ ?_ ?_ ?_ ?_ ?_ ?_ ?_ ?_ ?_ s
  · exact fun t hs r c z h => relV_noSl t _ _ hs h
  · intro i _ r c z h
    replace h : relVal φ o imm w (.osl (ρ i) (κ i)) z := h
    show relVal φ o imm' w (.osl (ρ i) (κ i)) z
    unfold relVal at h ⊢; exact h
  · intro i off _ r c z h
    replace h : relVal φ o imm w (.ptr (ρ i) off) z := h
    show relVal φ o imm' w (.ptr (ρ i) off) z
    unfold relVal at h ⊢; exact h
  · exact fun t hs r c z h => by cases hs
  · exact fun _ r c z h => h
  · exact fun f l ih hs r c z ⟨cz, h1, h2⟩ => ⟨cz, h1, ih hs _ _ _ h2⟩
  · exact fun _ r c z h => h
  · exact fun l ih hs r c z ⟨cz, h1, h2⟩ => ⟨cz, h1, ih hs _ _ _ h2⟩
  · exact fun l ih hs r c z ⟨cz, h1, h2⟩ => ⟨cz, h1, ih hs _ _ _ h2⟩
  · intro i _ r c z h
    replace h : relVal φ o imm w (.mp (ρ i)) z := h
    show relVal φ o imm' w (.mp (ρ i)) z
    unfold relVal at h ⊢; exact h
  · exact fun _ r c z h => h
  · exact fun _ r c z h => h
  · exact fun _ r c z h => h
  · intro i _ r c z h
    replace h : relVal φ o imm w (.slf (ρ i) c.1) z := h
    show relVal φ o imm' w (.slf (ρ i) c.1) z
    unfold relVal at h ⊢; exact h
  · intro i _ r c z h
    replace h : relVal φ o imm w (.suf (ρ i) (κ i) c.1) z := h
    show relVal φ o imm' w (.suf (ρ i) (κ i) c.1) z
    unfold relVal at h ⊢; exact h
  · exact fun _ r c z h => h
  · intro s l ih1 ih2 hs r c zs ⟨z, zr, e, h1, h2⟩
    have hs : (alS s || alL l) = false := hs
    rw [Bool.or_eq_false_iff] at hs
    exact ⟨z, zr, e, ih1 hs.1 _ _ _ h1, ih2 hs.2 _ _ _ h2⟩

/-- Objects of a shape, filled under numbers that are apart. -/
theorem fillO_snd (ρ κ : Nat → Nat) (i : Nat) (s : OSh) (r : List Ty) (c : denP (tyO s r)) : (fillO ρ κ i s r c).2 = (fillO id0 ka0 i s r c).2 := by
  cases s with
  | box l => exact fillL_snd ρ κ id0 ka0 l r c
  | vec t => rfl
  | map k v => rfl
  | gone => rfl

theorem fillOs_relR (ρ κ : Nat → Nat) : ∀ (l : List OSh) (i : Nat) (r : List Ty) (c : denP (tyOL l r)) (o1 o2 : Nat → Obj), (∀ a b, i ≤ a → a < i + l.length → i ≤ b → b < i + l.length → ρ a = ρ b → a = b) →
    (∀ j, (j < i ∨ i + l.length ≤ j) → upds o1 (fillOs id0 ka0 i l r c) j = o1 j) ∧ (∀ id, (∀ j, i ≤ j → j < i + l.length → ρ j ≠ id) → upds o2 (fillOs ρ κ i l r c) id = o2 id ∧ id ∉ keysU (fillOs ρ κ i l r c)) ∧
    (∀ j, i ≤ j → j < i + l.length → ρ j ∈ keysU (fillOs ρ κ i l r c))
  | [], i, r, c, o1, o2, _ => ⟨fun _ _ => rfl, fun _ _ => ⟨rfl, (fun h => by cases h)⟩, fun j h1 h2 => absurd h2 (by simp; omega)⟩
  | s :: l, i, r, c, o1, o2, hρ => by
    have e2 := fillO_snd ρ κ i s (tyOL l r) c
    simp only [List.length_cons] at hρ
    obtain ⟨a2, a3, a4⟩ := fillOs_relR ρ κ l (i + 1) r (fillO id0 ka0 i s (tyOL l r) c).2 (upd o1 i (fillO id0 ka0 i s (tyOL l r) c).1) (upd o2 (ρ i) (fillO ρ κ i s (tyOL l r) c).1)
      (fun a b h1 h2 h3 h4 e => hρ a b (by omega) (by omega) (by omega) (by omega) e)
    have f1 : ∀ j, upds o1 (fillOs id0 ka0 i (s :: l) r c) j = upds (upd o1 i (fillO id0 ka0 i s (tyOL l r) c).1) (fillOs id0 ka0 (i + 1) l r (fillO id0 ka0 i s (tyOL l r) c).2) j := fun _ => rfl
    have f2 : ∀ id, upds o2 (fillOs ρ κ i (s :: l) r c) id = upds (upd o2 (ρ i) (fillO ρ κ i s (tyOL l r) c).1) (fillOs ρ κ (i + 1) l r (fillO id0 ka0 i s (tyOL l r) c).2) id := fun id =>
      (congrArg (fun q => upds (upd o2 (ρ i) (fillO ρ κ i s (tyOL l r) c).1) (fillOs ρ κ (i + 1) l r q) id) e2)
    have f3 : keysU (fillOs ρ κ i (s :: l) r c) = ρ i :: keysU (fillOs ρ κ (i + 1) l r (fillO id0 ka0 i s (tyOL l r) c).2) :=
      congrArg (fun q => ρ i :: keysU (fillOs ρ κ (i + 1) l r q)) e2
    refine ⟨fun j hj => ?_, fun id hid => ?_, fun j h1 h2 => ?_⟩
    · rw [f1]
      simp only [List.length_cons] at hj
      rw [a2 j (by omega), upd_other (by omega)]
    · rw [f2, f3]
      simp only [List.length_cons] at hid
      obtain ⟨b1, b2⟩ := a3 id (fun q h1 h2 => hid q (by omega) (by omega))
      have hne : id ≠ ρ i := fun e => hid i (Nat.le_refl _) (by omega) e.symm
      exact ⟨by rw [b1, upd_other hne], fun h => by
        rcases List.mem_cons.1 h with h | h
        · exact hne h
        · exact b2 h⟩
    · rw [f3]
      simp only [List.length_cons] at h2
      by_cases hji : j = i
      · subst hji; exact List.mem_cons_self ..
      · exact List.mem_cons_of_mem _ (a4 j (by omega) (by omega))
end Ev


namespace Ev
open Go

theorem fillOs_keys (ρ κ : Nat → Nat) : ∀ (l : List OSh) (i : Nat) (r : List Ty) (c : denP (tyOL l r)) (j : Nat), i ≤ j → j < i + l.length → ∃ p, p ∈ fillOs ρ κ i l r c ∧ p.1 = ρ j
  | [], i, r, c, j, h1, h2 => absurd h2 (by simp; omega)
  | s :: l, i, r, c, j, h1, h2 => by
    by_cases hj : j = i
    · subst hj; exact ⟨_, List.mem_cons_self .., rfl⟩
    · simp only [List.length_cons] at h2
      obtain ⟨p, h3, h4⟩ := fillOs_keys ρ κ l (i + 1) r (fillO ρ κ i s (tyOL l r) c).2 j (by omega) (by omega)
      exact ⟨p, List.mem_cons_of_mem _ h3, h4⟩

/-- Each object of a shape, filled under numbers that are apart. -/
theorem fillOs_each (ρ κ : Nat → Nat) : ∀ (l : List OSh) (i : Nat) (r : List Ty) (c : denP (tyOL l r)) (o1 o2 : Nat → Obj), (∀ a b, i ≤ a → a < i + l.length → i ≤ b → b < i + l.length → ρ a = ρ b → a = b) →
    ∀ j sh, i ≤ j → l[j - i]? = some sh → ∃ r' c', upds o1 (fillOs id0 ka0 i l r c) j = (fillO id0 ka0 j sh r' c').1 ∧ upds o2 (fillOs ρ κ i l r c) (ρ j) = (fillO ρ κ j sh r' c').1
  | [], i, r, c, o1, o2, _ => fun j sh _ h => by simp at h
  | s :: l, i, r, c, o1, o2, hρ => by
    intro j sh h1 h2
    have e2 := fillO_snd ρ κ i s (tyOL l r) c
    simp only [List.length_cons] at hρ
    have hρ' : ∀ a b, i + 1 ≤ a → a < i + 1 + l.length → i + 1 ≤ b → b < i + 1 + l.length → ρ a = ρ b → a = b := fun a b h1 h2 h3 h4 e => hρ a b (by omega) (by omega) (by omega) (by omega) e
    obtain ⟨a2, a3, _⟩ := fillOs_relR ρ κ l (i + 1) r (fillO id0 ka0 i s (tyOL l r) c).2 (upd o1 i (fillO id0 ka0 i s (tyOL l r) c).1) (upd o2 (ρ i) (fillO ρ κ i s (tyOL l r) c).1) hρ'
    have f1 : ∀ j, upds o1 (fillOs id0 ka0 i (s :: l) r c) j = upds (upd o1 i (fillO id0 ka0 i s (tyOL l r) c).1) (fillOs id0 ka0 (i + 1) l r (fillO id0 ka0 i s (tyOL l r) c).2) j := fun _ => rfl
    have f2 : ∀ id, upds o2 (fillOs ρ κ i (s :: l) r c) id = upds (upd o2 (ρ i) (fillO ρ κ i s (tyOL l r) c).1) (fillOs ρ κ (i + 1) l r (fillO id0 ka0 i s (tyOL l r) c).2) id := fun id =>
      (congrArg (fun q => upds (upd o2 (ρ i) (fillO ρ κ i s (tyOL l r) c).1) (fillOs ρ κ (i + 1) l r q) id) e2)
    by_cases hji : j = i
    · subst hji
      rw [Nat.sub_self] at h2
      simp only [List.getElem?_cons_zero, Option.some.injEq] at h2
      subst h2
      refine ⟨tyOL l r, c, ?_, ?_⟩
      · rw [f1, a2 j (.inl (by omega)), upd_same]
      · rw [f2, (a3 (ρ j) (fun q hq hq2 e => by have := hρ q j (by omega) (by omega) (by omega) (by omega) e; omega)).1, upd_same]
    · rw [show j - i = (j - (i + 1)) + 1 by omega] at h2
      obtain ⟨r', c', g1, g2⟩ := fillOs_each ρ κ l (i + 1) r (fillO id0 ka0 i s (tyOL l r) c).2 (upd o1 i (fillO id0 ka0 i s (tyOL l r) c).1) (upd o2 (ρ i) (fillO ρ κ i s (tyOL l r) c).1) hρ' j sh (by omega) (by simpa using h2)
      exact ⟨r', c', by rw [f1]; exact g1, by rw [f2]; exact g2⟩

theorem fill_noAlL {imm imm' : Nat → Prop} {w : World} {φ : Nat → Addr} {o : Nat → Obj} (ρ κ : Nat → Nat) : ∀ (l : List Sh), alL l = false → ∀ r c zs, relVs φ o imm w (fillL ρ κ l r c).1 zs → relVs φ o imm' w (fillL ρ κ l r c).1 zs
  | [], _, _, _, _, h => h
  | s :: l, hs, r, c, zs, ⟨z, zr, e, h1, h2⟩ => by
    have hs : (alS s || alL l) = false := hs
    rw [Bool.or_eq_false_iff] at hs
    exact ⟨z, zr, e, fill_noAl ρ κ s hs.1 _ _ _ h1, fill_noAlL ρ κ l hs.2 _ _ _ h2⟩

theorem alO_get : ∀ {l : List OSh}, alO l = false → ∀ (j : Nat) (sh : OSh), l[j]? = some sh → alO [sh] = false
  | [], _, j, sh, h => by simp at h
  | s :: l, hs, j, sh, h => by
    cases j with
    | zero =>
      simp only [List.getElem?_cons_zero, Option.some.injEq] at h
      subst h
      cases s <;> simp only [alO, Bool.or_eq_false_iff] at hs ⊢ <;> first | exact ⟨hs.1, trivial⟩ | rfl | trivial
    | succ j =>
      refine alO_get (l := l) ?_ j sh (by simpa using h)
      cases s <;> simp only [alO, Bool.or_eq_false_iff] at hs <;> first | exact hs.2 | exact hs

theorem allGone_spec {keep : List Nat} : ∀ (k i : Nat) (l : List OSh), allGone keep k i l = true → k ≤ l.length ∧ ∀ j, j < k → (l[j]? = some .gone ∧ hasN (i + j) keep = false) ∨ (l[j]? ≠ some .gone ∧ hasN (i + j) keep = true)
  | 0, i, l, _ => ⟨Nat.zero_le _, fun j h => absurd h (by omega)⟩
  | k + 1, i, l, h => by
    cases l with
    | nil => cases h
    | cons s l =>
      have both : allGone keep k (i + 1) l = true ∧ ((s = .gone ∧ hasN i keep = false) ∨ (s ≠ .gone ∧ hasN i keep = true)) := by
        cases s with
        | gone =>
          simp only [allGone, Bool.and_eq_true] at h
          refine ⟨h.2, .inl ⟨rfl, ?_⟩⟩
          cases hb : hasN i keep with
          | false => rfl
          | true => exact absurd (hasN_mem.1 hb) (notIn_spec h.1)
        | box cs => simp only [allGone, Bool.and_eq_true] at h; exact ⟨h.2, .inr ⟨by simp, h.1⟩⟩
        | vec t => simp only [allGone, Bool.and_eq_true] at h; exact ⟨h.2, .inr ⟨by simp, h.1⟩⟩
        | map kt vt => simp only [allGone, Bool.and_eq_true] at h; exact ⟨h.2, .inr ⟨by simp, h.1⟩⟩
      obtain ⟨h1, h2⟩ := allGone_spec k (i + 1) l both.1
      refine ⟨by simp; omega, fun j hj => ?_⟩
      cases j with
      | zero => simpa using both.2
      | succ j =>
        have := h2 j (by omega)
        rw [show i + 1 + j = i + (j + 1) by omega] at this
        simpa using this

theorem wholeAll_spec {ps : PS} : ∀ {l : List Nat}, wholeAll ps l = true → ∀ i, i ∈ l → assoc ((assoc i ps.ren).getD 0) ps.cut = none
  | b :: r, h, i, hi => by
    simp only [wholeAll, Bool.and_eq_true] at h
    rcases List.mem_cons.1 hi with rfl | hi
    · exact noN_spec h.1
    · exact wholeAll_spec h.2 i hi

theorem tiedAll_spec {o : Nat → Obj} {ren : List (Nat × Nat)} : ∀ (k : Nat), tiedAll o ren k = true → ∀ j, j < k → ∃ old, assoc j ren = some old ∧ o old ≠ .none
  | 0, _, j, h => absurd h (by omega)
  | k + 1, h, j, hj => by
    simp only [tiedAll, Bool.and_eq_true] at h
    by_cases e : j = k
    · subst e
      have h1 := h.1
      split at h1
      · rename_i old ho
        refine ⟨old, ho, fun e => ?_⟩
        rw [e] at h1; cases h1
      · cases h1
    · exact tiedAll_spec k h.2 j (by omega)

theorem noBox_spec {o : Nat → Obj} : ∀ {l : List Nat}, noBox o l = true → ∀ id, id ∈ l → (∀ cs, o id ≠ .box cs) ∧ (∀ k v m, o id ≠ .map k v m)
  | b :: r, h, id, hi => by
    simp only [noBox, Bool.and_eq_true] at h
    rcases List.mem_cons.1 hi with hi | hi
    · subst hi
      have h1 := h.1
      exact ⟨fun cs e => (by rw [e] at h1; cases h1), fun k v m e => (by rw [e] at h1; cases h1)⟩
    · exact noBox_spec h.2 id hi

theorem callPk_gives {C : Cx} {R : Oracle C.sigs} {o : Nat → Obj} {fr f : Nat} {vs : List V} {v : V} {u : List (Nat × Obj)} : ∀ (l : List Sig) (i : Nat), (callPk lf C R o fr f vs l i).gives v u →
    ∃ i ps c y, (sigAt C.sigs i).f = f ∧ pack lf o [] (sigAt C.sigs i).ins vs = some (ps, c) ∧ callOk o ps (sigAt C.sigs i).ins.objs.length (sigAt C.sigs i).outs (sigAt C.sigs i).keep = true ∧ R i c = some y ∧
      v = oneV (fill (callRho ps.ren (sigAt C.sigs i).ins.objs.length fr) (callKap o ps.ren (sigAt C.sigs i).ins.objs.length (sigAt C.sigs i).keep) (sigAt C.sigs i).outs y).1 ∧
      u = (bif alias (sigAt C.sigs i).outs then frz o ps.lent else []) ++ (fill (callRho ps.ren (sigAt C.sigs i).ins.objs.length fr) (callKap o ps.ren (sigAt C.sigs i).ins.objs.length (sigAt C.sigs i).keep) (sigAt C.sigs i).outs y).2
  | [], i, h => h.elim
  | s :: r, i, h => by
    unfold callPk at h
    cases hb : Nat.beq s.f f with
    | false => rw [hb] at h; exact callPk_gives r (i + 1) h
    | true =>
      rw [hb, cond_true] at h
      split at h
      · rename_i ps c hp
        rw [gives_when, gives_dyn, Bool.and_eq_true] at h
        obtain ⟨⟨h1, h2⟩, y, h3, h4⟩ := h
        simp only [Prod.mk.injEq] at h4
        exact ⟨i, ps, c, y, Nat.eq_of_beq_eq_true h1, hp, h2, h3, h4.1.symm, h4.2.symm⟩
      · exact callPk_gives r (i + 1) h
end Ev


namespace Ev
open Go

theorem relVal_one {φ : Nat → Addr} {o : Nat → Obj} {imm : Nat → Prop} {w : World} {vs : List V} {zs : List Value} (h : relVs φ o imm w vs zs) : relVal φ o imm w (oneV vs) (oneOf zs) := by
  match vs, zs, h with
  | [], zs, h => have h : zs = [] := h; subst h; exact ⟨#[], rfl, rfl⟩
  | [v], zs, ⟨z, r, e, h1, h2⟩ => have h2 : r = [] := h2; subst e h2; exact h1
  | v :: v' :: vs, zs, ⟨z, r, e, h1, z', r', e', h2, h3⟩ => subst e e'; exact ⟨(z :: z' :: r').toArray, rfl, z, z' :: r', by simp, h1, z', r', rfl, h2, h3⟩

def ofk : Obj → Prop
  | .none => False
  | _ => True

theorem frz_keys {o : Nat → Obj} {id : Nat} : ∀ {ks : List Nat}, id ∈ keysU (frz o ks) → id ∈ ks
  | [], h => by cases h
  | q :: r, h => by
    simp only [frz] at h
    split at h
    · rcases List.mem_cons.1 h with h | h
      · exact h ▸ List.mem_cons_self ..
      · exact List.mem_cons_of_mem _ (frz_keys h)
    · exact List.mem_cons_of_mem _ (frz_keys h)

theorem absorb {C : Cx} {X X1 : Nat → Prop} {φ φ1 : Nat → Addr} {o oc0 : Nat → Obj} {w w' : World} {ps : PS} {fr : Nat} {ins outs : Shape} {y : denP outs.tys} {vals : List Value} {keep : List Nat}
    (hm : MRel C X φ o w) (hpk : Packed o ps ins.objs.length ins.objs oc0) (hok : callOk o ps ins.objs.length outs keep = true)
    (hf : Frees fr o ((bif alias outs then frz o ps.lent else []) ++ (fill (callRho ps.ren ins.objs.length fr) (callKap o ps.ren ins.objs.length keep) outs y).2))
    (hX : ∀ b, XC X φ o oc0 ps b → X1 b) (M1 : MRel C X1 φ1 (canO outs y) w')
    (rv : relVs φ1 (canO outs y) (immB X1 φ1 (canO outs y) w') w' (fill id0 ka0 outs y).1 vals) (H : Hist keep (phC φ ps) oc0 w φ1 (canO outs y) w') :
    ∃ φ'', Comes C X φ φ'' o ((bif alias outs then frz o ps.lent else []) ++ (fill (callRho ps.ren ins.objs.length fr) (callKap o ps.ren ins.objs.length keep) outs y).2) w w' (oneV (fill (callRho ps.ren ins.objs.length fr) (callKap o ps.ren ins.objs.length keep) outs y).1) (oneOf vals) := by
  generalize hk : ins.objs.length = k at *
  generalize hρ : callRho ps.ren k fr = ρ at *
  generalize hκ : callKap o ps.ren k keep = κ at *
  unfold callOk at hok
  simp only [Bool.and_eq_true] at hok
  obtain ⟨⟨⟨⟨hwhole, hgone⟩, hbox⟩, htied⟩, hlen⟩ := hok
  have hlen := Nat.le_of_ble_eq_true hlen
  obtain ⟨hkl, hgone⟩ := allGone_spec _ _ _ hgone
  simp only [Nat.zero_add] at hgone
  have tied : ∀ j, j < k → (j, ρ j) ∈ ps.ren ∧ o (ρ j) ≠ .none := fun j hj => by
    obtain ⟨old, h1, h2⟩ := tiedAll_spec k htied j hj
    have : ρ j = old := by
      rw [← hρ]; unfold callRho
      have hb : Nat.blt j k = true := by rw [Nat.blt_eq]; exact hj
      rw [hb, h1]; rfl
    rw [this]; exact ⟨assoc_mem h1, h2⟩
  have fresh : ∀ j, k ≤ j → ρ j = fr + (j - k) := fun j hj => by
    rw [← hρ]; unfold callRho
    have hb : Nat.blt j k = false := by
      cases e : Nat.blt j k with
      | false => rfl
      | true => rw [Nat.blt_eq] at e; omega
    rw [hb]; rfl
  have fnone : ∀ j, k ≤ j → j < outs.objs.length → o (ρ j) = .none := fun j h1 h2 => by
    obtain ⟨p, h3, h4⟩ := fillOs_keys ρ κ outs.objs 0 [] (fillL ρ κ outs.roots (tyOL outs.objs []) y).2 j (Nat.zero_le _) (by omega)
    have := hf p (List.mem_append_right _ h3)
    rw [h4, fresh j h1] at this
    rw [fresh j h1]
    exact this (by omega) (by omega)
  have inj : ∀ a b, 0 ≤ a → a < 0 + outs.objs.length → 0 ≤ b → b < 0 + outs.objs.length → ρ a = ρ b → a = b := fun a b _ h1 _ h2 e => by
    by_cases ha : a < k <;> by_cases hb : b < k
    · have r1 := (hpk.ren (tied a ha).1).2.2
      have r2 := (hpk.ren (tied b hb).1).2.2
      rw [e, r2] at r1
      injection r1 with r1; exact r1.symm
    · exact absurd (e ▸ fnone b (by omega) (by omega)) (tied a ha).2
    · exact absurd (e.symm ▸ fnone a (by omega) (by omega)) (tied b hb).2
    · rw [fresh a (by omega), fresh b (by omega)] at e; omega
  have hF : Comes C X φ φ o (bif alias outs then frz o ps.lent else []) w w .undef undef := by
    cases alias outs with
    | true => exact frz_ok hm ps.lent
    | false => exact .same hm rfl
  generalize hof : upds o (bif alias outs then frz o ps.lent else []) = of
  have Mf : MRel C X φ of w := hof ▸ hF.mem
  have ofs : ∀ id, (of id = o id) ∨ (∃ t ver fz s, o id = .vec t ver fz s ∧ of id = .vec t ver true s) := fun id => by
    rw [← hof]
    cases alias outs with
    | true => exact (frz_get (o := o) ps.lent id).imp (fun h => h.1) (fun h => h)
    | false => exact .inl rfl
  have ofx : ∀ id, excl (φ id) (of id) = true → of id = o id ∧ excl (φ id) (o id) = true := fun id hx => by
    rcases ofs id with h | ⟨t, ver, fz, s, h1, h2⟩
    · exact ⟨h, h ▸ hx⟩
    · rw [h2] at hx; have := (excl_spot hx).2.1; simp at this
  have ofn : ∀ id, of id = .none ↔ o id = .none := fun id => by
    rcases ofs id with h | ⟨t, ver, fz, s, h1, h2⟩
    · rw [h]
    · rw [h1, h2]; simp
  have ofl : ∀ id, id ∉ ps.lent → of id = o id := fun id hi => by
    rw [← hof]
    cases alias outs with
    | false => rfl
    | true =>
      show upds o (frz o ps.lent) id = o id
      exact upds_not fun hk => hi (frz_keys hk)
  have lentx : ∀ id, id ∈ ps.lent → excl (φ id) (of id) = true → alias outs = false := fun id hi hx => by
    cases ha : alias outs with
    | false => rfl
    | true =>
      exfalso
      rw [ha] at hbox hof
      simp only [Bool.not_true, Bool.or_false] at hbox
      obtain ⟨b1, b2⟩ := noBox_spec hbox id hi
      have hof : upds o (frz o ps.lent) = of := hof
      obtain ⟨e1, e2⟩ := ofx id hx
      cases he : o id with
      | box cs => exact b1 cs he
      | map k v m => exact b2 k v m he
      | dead => rw [he] at e2; simp [excl, Ev.live] at e2
      | none => rw [he] at e2; exact excl_none e2
      | vec t ver fz s =>
        have hmem := frz_mem hi he
        obtain ⟨t', ver', fz', s', _, h2⟩ := frz_spec hmem
        rw [← hof, h2 o] at hx
        have := (excl_spot hx).2.1
        simp at this
  have hu1 : (fill ρ κ outs y).2 = fillOs ρ κ 0 outs.objs [] (fillL id0 ka0 outs.roots (tyOL outs.objs []) y).2 :=
    congrArg (fun q => fillOs ρ κ 0 outs.objs [] q) (fillL_snd ρ κ id0 ka0 outs.roots (tyOL outs.objs []) y)
  have each := fillOs_each ρ κ outs.objs 0 [] (fillL id0 ka0 outs.roots (tyOL outs.objs []) y).2 (fun _ => .none) of inj
  obtain ⟨c2, c3, c4⟩ := fillOs_relR ρ κ outs.objs 0 [] (fillL id0 ka0 outs.roots (tyOL outs.objs []) y).2 (fun _ => .none) of inj
  rw [← hu1] at each c3 c4
  have hcan : canO outs y = upds (fun _ => .none) (fillOs id0 ka0 0 outs.objs [] (fillL id0 ka0 outs.roots (tyOL outs.objs []) y).2) := rfl
  rw [← hcan] at each c2
  generalize hoc : canO outs y = oc at *
  generalize hu : (fill ρ κ outs y).2 = u1 at *
  have at1 : ∀ j, j < outs.objs.length → ∃ sh r' c', outs.objs[j]? = some sh ∧ oc j = (fillO id0 ka0 j sh r' c').1 ∧ upds of u1 (ρ j) = (fillO ρ κ j sh r' c').1 := fun j hj => by
    obtain ⟨r', c', h1, h2⟩ := each j outs.objs[j] (Nat.zero_le _) (by rw [Nat.sub_zero]; exact List.getElem?_eq_getElem hj)
    exact ⟨_, r', c', List.getElem?_eq_getElem hj, h1, h2⟩
  have dead : ∀ j, j < k → hasN j keep = false → oc j = .dead ∧ upds of u1 (ρ j) = .dead := fun j hj hn => by
    obtain ⟨sh, r', c', h1, h2, h3⟩ := at1 j (by omega)
    rcases hgone j hj with ⟨g1, _⟩ | ⟨_, g2⟩
    · rw [g1] at h1
      injection h1 with h1
      subst h1
      exact ⟨h2, h3⟩
    · rw [hn] at g2; cases g2
  have live : ∀ j, j < k → hasN j keep = true → oc j ≠ .dead ∧ ofk (of (ρ j)) ∧ of (ρ j) = o (ρ j) ∧ phC φ ps j = φ (ρ j) ∧ φ1 j = φ (ρ j) ∧ ∀ a', a' = φ (ρ j) → Up w w' (φ (ρ j)) a' (o (ρ j)) (upds of u1 (ρ j)) := fun j hj hn => by
    obtain ⟨sh, r', c', h1, h2, h3⟩ := at1 j (by omega)
    have hsh : sh ≠ .gone := fun e => by
      subst e
      rcases hgone j hj with ⟨_, g2⟩ | ⟨g1, _⟩
      · rw [hn] at g2; cases g2
      · exact g1 h1
    have hnd : oc j ≠ .dead := by rw [h2]; cases sh <;> simp [fillO] at hsh ⊢
    have hoj : of (ρ j) = o (ρ j) := ofl _ (hpk.lent (tied j hj).1)
    have hup := H.up j (hasN_mem.1 hn)
    have hrj : (assoc j ps.ren).getD 0 = ρ j := (hpk.ren (tied j hj).1).2.1
    have hcut : assoc (ρ j) ps.cut = none := by rw [← hrj]; exact wholeAll_spec hwhole j (hasN_mem.1 hn)
    have hκj : κ j = verOf (o (ρ j)) := by
      rw [← hκ]; unfold callKap
      have hb : (Nat.blt j k && hasN j keep) = true := by rw [hn, Bool.and_true, Nat.blt_eq]; exact hj
      rw [hb, cond_true, hrj]
    refine ⟨hnd, ?_⟩
    rw [hoj]
    rcases kind_of (φ := φ) hpk (tied j hj).1 with hd | ⟨⟨cs, cs', e1, e2⟩ | ⟨t', ver, s, e1, e2⟩ | ⟨kt, vt, m, e1, e2⟩, hφ⟩
    · rw [hd] at hup
      exfalso
      cases hoc : oc j <;> rw [hoc] at hup <;> first | exact hup.elim | exact hnd hoc
    · rw [e2] at hup
      refine ⟨by rw [e1]; trivial, rfl, hφ, ?_⟩
      rw [h2] at hup
      cases sh <;> first | exact hup.elim | exact (hsh rfl).elim | skip
      have hup : φ1 j = phC φ ps j := hup
      refine ⟨hup.trans hφ, fun a' ha => ?_⟩
      rw [e1, h3, ha]; exact rfl
    · rw [e2, hcut] at hup
      refine ⟨by rw [e1]; trivial, rfl, hφ, ?_⟩
      rw [h2] at hup
      cases sh <;> first | exact hup.elim | exact (hsh rfl).elim | skip
      rcases hup with hup | ⟨_, u2, u3, u4, u5, u6⟩
      · exact absurd hup (Nat.lt_irrefl 0)
      · subst u2
        refine ⟨u5.trans hφ, fun a' ha => ?_⟩
        rw [e1, h3, ha]
        refine .inr ⟨?_, rfl, u3, u4, rfl, fun _ => ⟨rfl, fun hn hs n hr => ?_⟩⟩
        · rw [hκj, e1]; rfl
        · have := (u6 rfl).2 hn (by rw [hφ]; exact hs) n (by rw [hφ]; exact hr)
          rw [hφ] at this; exact this
    · rw [e2] at hup
      refine ⟨by rw [e1]; trivial, rfl, hφ, ?_⟩
      rw [h2] at hup
      cases sh <;> first | exact hup.elim | exact (hsh rfl).elim | skip
      have hup : φ1 j = phC φ ps j := hup
      refine ⟨hup.trans hφ, fun a' ha => ?_⟩
      rw [e1, h3, ha]; exact rfl
  have exN : ∀ j a, j < outs.objs.length → excl a (upds of u1 (ρ j)) = excl a (oc j) := fun j a hj => by
    obtain ⟨sh, r', c', h1, h2, h3⟩ := at1 j hj
    rw [h2, h3]
    cases sh <;> rfl
  have kept : ∀ id, (∀ j, j < outs.objs.length → ρ j ≠ id) → upds of u1 id = of id ∧ id ∉ keysU u1 := fun id h => c3 id fun j _ hj => h j (by omega)
  have split : ∀ id, (∃ j, j < outs.objs.length ∧ ρ j = id) ∨ (∀ j, j < outs.objs.length → ρ j ≠ id) := fun id => by
    by_cases h : ∃ j, j < outs.objs.length ∧ ρ j = id
    · exact .inl h
    · exact .inr fun j hj e => h ⟨j, hj, e⟩
  have hlt : ∀ j a, excl a (oc j) = true → j < outs.objs.length ∧ (k ≤ j ∨ hasN j keep = true) := fun j a hx => by
    have h1 : j < outs.objs.length := Classical.byContradiction fun h => by rw [c2 j (.inr (by omega))] at hx; exact excl_none hx
    refine ⟨h1, ?_⟩
    cases hn : hasN j keep with
    | true => exact .inr rfl
    | false =>
      refine .inl (Classical.byContradiction fun h => ?_)
      rw [(dead j (by omega) hn).1] at hx; simp [excl, Ev.live] at hx
  generalize hφ : (fun id => bif (Nat.ble fr id && Nat.blt id (fr + (outs.objs.length - k))) then φ1 (id - fr + k) else φ id) = φ2
  have pN0 : ∀ j, k ≤ j → j < outs.objs.length → φ2 (ρ j) = φ1 j := fun j h1 h2 => by
    rw [← hφ]
    simp only
    rw [fresh j h1]
    have hb : (Nat.ble fr (fr + (j - k)) && Nat.blt (fr + (j - k)) (fr + (outs.objs.length - k))) = true := by
      rw [Bool.and_eq_true, Nat.ble_eq, Nat.blt_eq]; omega
    rw [hb, cond_true]
    congr 1; omega
  have pO : ∀ id, of id ≠ .none → φ2 id = φ id := fun id hn => by
    rw [← hφ]
    simp only
    have hb : (Nat.ble fr id && Nat.blt id (fr + (outs.objs.length - k))) = false := by
      cases e : (Nat.ble fr id && Nat.blt id (fr + (outs.objs.length - k))) with
      | false => rfl
      | true =>
        rw [Bool.and_eq_true, Nat.ble_eq, Nat.blt_eq] at e
        have := fnone (k + (id - fr)) (by omega) (by omega)
        rw [fresh _ (by omega), show fr + (k + (id - fr) - k) = id by omega] at this
        exact absurd ((ofn id).2 this) hn
    rw [hb, cond_false]
  have pN : ∀ j, (k ≤ j ∨ hasN j keep = true) → j < outs.objs.length → φ2 (ρ j) = φ1 j := fun j h1 h2 => by
    by_cases hjk : k ≤ j
    · exact pN0 j hjk h2
    · have hn := h1.resolve_left hjk
      obtain ⟨_, l2, _, _, l5, _⟩ := live j (by omega) hn
      rw [pO _ (fun e => by rw [e] at l2; exact l2), l5]
  have oldI : ∀ b, owned (phC φ ps) oc0 b → ∃ i, i < k ∧ excl (φ (ρ i)) (of (ρ i)) = true ∧ (φ (ρ i)).block = b := fun b ⟨i, h1, h2⟩ => by
    obtain ⟨hik, g1, g2⟩ := hpk.exc h1
    have hri : oldOf ps i = ρ i := (hpk.ren (tied i hik).1).2.1
    refine ⟨i, hik, ?_, by rw [← hri]; exact h2⟩
    rw [← hri]
    have hnl := hpk.lent g1
    rw [← hof]
    cases ha : alias outs with
    | false => exact g2
    | true =>
      show excl (φ (oldOf ps i)) (upds o (frz o ps.lent) (oldOf ps i)) = true
      rw [upds_not]
      · exact g2
      · intro hk
        have key : ∀ ks : List Nat, oldOf ps i ∈ keysU (frz o ks) → oldOf ps i ∈ ks := by
          intro ks
          induction ks with
          | nil => intro h; cases h
          | cons q r ih =>
            intro h
            simp only [frz] at h
            split at h
            · rcases List.mem_cons.1 h with h | h
              · exact h ▸ List.mem_cons_self ..
              · exact List.mem_cons_of_mem _ (ih h)
            · exact List.mem_cons_of_mem _ (ih h)
        exact hnl (key _ hk)
  have oldO : ∀ b, owned (phC φ ps) oc0 b → owned φ of b := fun b hb => by
    obtain ⟨i, _, h1, h2⟩ := oldI b hb
    exact ⟨ρ i, h1, h2⟩
  have free : ∀ id, (∀ j, j < outs.objs.length → ρ j ≠ id) → excl (φ id) (of id) = true → ¬ owned (phC φ ps) oc0 (φ id).block := fun id hid hx ⟨i, h1, h2⟩ => by
    obtain ⟨hik, g1, g2⟩ := hpk.exc h1
    have := hm.inj _ _ g2 (ofx id hx).2 h2
    have hr := (hpk.ren (tied i hik).1).2.1
    exact hid i (by omega) (hr.symm.trans this)
  have keepB : ∀ id, (∀ j, j < outs.objs.length → ρ j ≠ id) → excl (φ id) (of id) = true → w'.heap[(φ id).block]? = w.heap[(φ id).block]? := fun id hid hx =>
    H.frame _ (Mf.sep id hx).1 (free id hid hx)
  have keepX : ∀ id, (∀ j, j < outs.objs.length → ρ j ≠ id) → excl (φ id) (of id) = true → X1 (φ id).block ∨ alias outs = false := fun id hid hx => by
    by_cases hl : id ∈ ps.lent
    · exact .inr (lentx id hl hx)
    · refine .inl (hX _ (.inr ⟨id, (ofx id hx).2, rfl, hl, fun ⟨i, h1, h2⟩ => ?_⟩))
      exact free id hid hx ⟨i, h1, by unfold phC; rw [h2]⟩
  have stays : ∀ b, immB X φ of w b → w'.heap[b]? = w.heap[b]? := fun b hb => H.frame b hb.1 fun h => hb.2.2 (oldO b h)
  have news : ∀ id, excl (φ2 id) (upds of u1 id) = true → w.heap.size ≤ (φ2 id).block ∨ owned φ of (φ2 id).block := fun id hx => by
    rcases split id with ⟨j, hj, rfl⟩ | h
    · rw [exN j _ hj] at hx
      rw [pN j (hlt j _ hx).2 hj] at hx ⊢
      exact (H.news _ ⟨j, hx, rfl⟩).imp (fun h => h) (oldO _)
    · rw [(kept id h).1] at hx
      have hne : of id ≠ .none := fun e => by rw [e] at hx; exact excl_none hx
      rw [pO id hne] at hx ⊢
      exact .inr ⟨id, hx, rfl⟩
  have imm : ∀ b, immB X φ of w b → immB X φ2 (upds of u1) w' b := fun b ⟨h1, h2, h3⟩ => ⟨Nat.lt_of_lt_of_le h1 H.size, h2, fun ⟨id, e1, e2⟩ => by
    rcases news id e1 with h | h
    · omega
    · exact h3 (e2 ▸ h)⟩
  have imm1 : alias outs = true → ∀ b, immB X1 φ1 oc w' b → immB X φ2 (upds of u1) w' b := fun ha b ⟨h1, h2, h3⟩ => ⟨h1, fun hx => h2 (hX b (.inl hx)), fun ⟨id, e1, e2⟩ => by
    rcases split id with ⟨j, hj, rfl⟩ | h
    · rw [exN j _ hj] at e1
      rw [pN j (hlt j _ e1).2 hj] at e2 e1
      exact h3 ⟨j, e1, e2⟩
    · rw [(kept id h).1] at e1
      have hne : of id ≠ .none := fun e => by rw [e] at e1; exact excl_none e1
      rw [pO id hne] at e2 e1
      rcases keepX id h e1 with h4 | h4
      · exact h2 (e2 ▸ h4)
      · rw [ha] at h4; cases h4⟩
  have ups : ∀ id, Up w w' (φ id) (φ2 id) (of id) (upds of u1 id) := fun id => by
    rcases split id with ⟨j, hj, rfl⟩ | h
    · by_cases hjk : j < k
      · cases hn : hasN j keep with
        | false =>
          rw [(dead j hjk hn).2]
          cases of (ρ j) <;> trivial
        | true =>
          obtain ⟨_, l2, l3, _, l5, l6⟩ := live j hjk hn
          have := l6 (φ2 (ρ j)) ((pN j (.inr hn) hj).trans l5)
          rwa [← l3] at this
      · rw [(ofn _).2 (fnone j (by omega) hj)]; trivial
    · rw [(kept id h).1]
      by_cases hne : of id = .none
      · rw [hne]; trivial
      · rw [pO id hne]
        exact Up.same fun hx n hr => room_congr (keepB id h hx) hr
  have keeps : ∀ x z, relVal φ of (immB X φ of w) w x z → relVal φ2 (upds of u1) (immB X φ2 (upds of u1) w') w' x z := fun x z hx => relVal_up imm stays ups x z hx
  have lk : ∀ i, Looks (κ i) (oc i) (upds of u1 (ρ i)) := fun i => by
    by_cases hi : i < outs.objs.length
    · obtain ⟨sh, r', c', h1, h2, h3⟩ := at1 i hi
      rw [h2, h3]
      cases sh <;> first | trivial | exact ⟨rfl, rfl⟩
    · rw [c2 i (.inr (by omega))]; trivial
  have pk : ∀ i, oc i ≠ .none → oc i = .dead ∨ φ2 (ρ i) = φ1 i := fun i hn => by
    have hi : i < outs.objs.length := Classical.byContradiction fun h => hn (c2 i (.inr (by omega)))
    cases hk2 : hasN i keep with
    | true => exact .inr (pN i (.inr hk2) hi)
    | false =>
      by_cases hik : i < k
      · exact .inl (dead i hik hk2).1
      · exact .inr (pN i (.inl (by omega)) hi)
  have pk' : ∀ i, oc i ≠ .none → oc i ≠ .dead → φ2 (ρ i) = φ1 i := fun i h1 h2 => (pk i h1).resolve_left h2
  have allImm : alias outs = true → ∀ x z, relVal φ2 (upds of u1) (immB X1 φ1 oc w') w' x z → relVal φ2 (upds of u1) (immB X φ2 (upds of u1) w') w' x z := fun ha x z hx =>
    relVal_up (imm1 ha) (fun _ _ => rfl) (fun _ => Up.same fun _ _ h => h) x z hx
  have hal : alias outs = false → alL outs.roots = false ∧ alO outs.objs = false := fun h => by unfold alias at h; rwa [Bool.or_eq_false_iff] at h
  have lists : ∀ (l : List Sh) (r : List Ty) (c : denP (tyL l r)) (zs : List Value), (alias outs = false → alL l = false) → relVs φ1 oc (immB X1 φ1 oc w') w' (fillL id0 ka0 l r c).1 zs →
      relVs φ2 (upds of u1) (immB X φ2 (upds of u1) w') w' (fillL ρ κ l r c).1 zs := fun l r c zs hl h => by
    have h2 := rensL (φ' := φ2) lk pk' l r c zs h
    cases ha : alias outs with
    | true => exact relVs_all (allImm ha) _ _ h2
    | false => exact fill_noAlL ρ κ l (hl ha) r c zs h2
  have main : Comes C X φ φ2 of u1 w w' (oneV (fill ρ κ outs y).1) (oneOf vals) := by
    refine ⟨⟨fun id => ?_, fun i j hi hj e => ?_, fun i hi => ?_, fun b hb => Nat.lt_of_lt_of_le (Mf.xs b hb) H.size, fun id => ?_, fun g t x hg => keeps _ _ (Mf.globs g t x hg)⟩, ?_, ups, H.size, fun b hb hh => ?_, fun id hn hk => pO id hn, news, H.still⟩
    · rcases split id with ⟨j, hj, rfl⟩ | h
      · by_cases hjk : j < k ∧ hasN j keep = false
        · rw [(dead j hjk.1 hjk.2).2]; trivial
        · have hob := M1.objs j
          obtain ⟨sh, r', c', h1, h2, h3⟩ := at1 j hj
          have hφj := pN j (by
            cases hn : hasN j keep with
            | true => exact .inr rfl
            | false => exact .inl (Classical.byContradiction fun h => hjk ⟨by omega, hn⟩)) hj
          rw [h2] at hob
          rw [h3]
          have hsh : alias outs = false → alO [sh] = false := fun ha => alO_get (hal ha).2 j sh h1
          cases sh with
          | gone => trivial
          | box l =>
            obtain ⟨b1, cz, el, lo, hi', b2, b3, b4⟩ := hob
            refine ⟨by rw [hφj]; exact b1, cz, el, lo, hi', by rw [hφj]; exact b2, b3, lists l r' c' _ (fun ha => ?_) b4⟩
            have := hsh ha
            simpa [alO] using this
          | vec t =>
            obtain ⟨b1, b2, b3⟩ := hob
            refine ⟨b1, b2, fun hn => ?_⟩
            rw [hφj]
            refine (b3 hn).imp (fun ⟨b4, ec, b5, b6, b7, b8, b9⟩ => ?_) fun g => g
            refine ⟨b4, ec, ?_, b6, b7, b8, fun h => by cases h⟩
            cases ha : alias outs with
            | true => exact relR_mono (relC_mono (imm1 ha) (fun _ _ => rfl) t) b5
            | false =>
              have := hsh ha
              exact relR_mono (fun x c h => relC_noSl t x c (by simpa [alO] using this) h) b5
          | map kt vt =>
            obtain ⟨es, clock, b1, b2⟩ := hob
            refine ⟨es, clock, by rw [hφj]; exact b1, ?_⟩
            cases ha : alias outs with
            | true => exact relEs_mono (relV_mono (imm1 ha) (fun _ _ => rfl) _) (relV_mono (imm1 ha) (fun _ _ => rfl) _) b2
            | false =>
              have := hsh ha
              simp only [alO, Bool.or_false, Bool.or_eq_false_iff] at this
              exact relEs_mono (fun x v h => relV_noSl _ x v this.1 h) (fun x v h => relV_noSl _ x v this.2 h) b2
      · rw [(kept id h).1]
        by_cases hne : of id = .none
        · rw [hne]; trivial
        · exact relObj_keep imm stays keeps (pO id hne) (keepB id h) (Mf.objs id)
    · have mixed : ∀ a b, a < outs.objs.length → excl (φ1 a) (oc a) = true → (∀ j, j < outs.objs.length → ρ j ≠ b) → excl (φ b) (of b) = true → (φ1 a).block = (φ b).block → False := fun a b ha hxa hb hxb e => by
        rcases H.news _ ⟨a, hxa, rfl⟩ with h | h
        · have := (Mf.sep b hxb).1; omega
        · exact free b hb hxb (e ▸ h)
      rcases split i with ⟨i', hi', rfl⟩ | h1 <;> rcases split j with ⟨j', hj', rfl⟩ | h2
      · rw [exN i' _ hi'] at hi; rw [exN j' _ hj'] at hj
        rw [pN i' (hlt i' _ hi).2 hi'] at hi e; rw [pN j' (hlt j' _ hj).2 hj'] at hj e
        rw [M1.inj i' j' hi hj e]
      · rw [exN i' _ hi'] at hi; rw [(kept j h2).1] at hj
        have hne : of j ≠ .none := fun e => by rw [e] at hj; exact excl_none hj
        rw [pN i' (hlt i' _ hi).2 hi'] at hi e; rw [pO j hne] at hj e
        exact (mixed i' j hi' hi h2 hj e).elim
      · rw [exN j' _ hj'] at hj; rw [(kept i h1).1] at hi
        have hne : of i ≠ .none := fun e => by rw [e] at hi; exact excl_none hi
        rw [pN j' (hlt j' _ hj).2 hj'] at hj e; rw [pO i hne] at hi e
        exact (mixed j' i hj' hj h1 hi e.symm).elim
      · rw [(kept i h1).1] at hi; rw [(kept j h2).1] at hj
        have hne : of i ≠ .none := fun e => by rw [e] at hi; exact excl_none hi
        have hne2 : of j ≠ .none := fun e => by rw [e] at hj; exact excl_none hj
        rw [pO i hne] at hi e; rw [pO j hne2] at hj e
        exact Mf.inj i j hi hj e
    · rcases split i with ⟨i', hi', rfl⟩ | h1
      · rw [exN i' _ hi'] at hi
        rw [pN i' (hlt i' _ hi).2 hi'] at hi ⊢
        exact ⟨(M1.sep i' hi).1, fun hx => (M1.sep i' hi).2 (hX _ (.inl hx))⟩
      · rw [(kept i h1).1] at hi
        have hne : of i ≠ .none := fun e => by rw [e] at hi; exact excl_none hi
        rw [pO i hne] at hi ⊢
        exact ⟨Nat.lt_of_lt_of_le (Mf.sep i hi).1 H.size, (Mf.sep i hi).2⟩
    · rcases split id with ⟨j, hj, rfl⟩ | h
      · by_cases hjk : j < k ∧ hasN j keep = false
        · rw [(dead j hjk.1 hjk.2).2]; trivial
        · have he := M1.els j
          obtain ⟨sh, r', c', h1, h2, h3⟩ := at1 j hj
          have hφj := pN j (by
            cases hn : hasN j keep with
            | true => exact .inr rfl
            | false => exact .inl (Classical.byContradiction fun h => hjk ⟨by omega, hn⟩)) hj
          rw [h2] at he
          rw [h3, hφj]
          cases sh with
          | gone => trivial
          | box l => exact fun hs => he ((isSlf_fill ρ κ l r' c').symm.trans hs)
          | vec t => exact he
          | map kt vt => trivial
      · rw [(kept id h).1]
        by_cases hne : of id = .none
        · rw [hne]; trivial
        · rw [pO id hne]
          exact Mf.els_keep id (fun hx => .same (keepB id h hx)) stays
    · exact relVal_one (lists outs.roots _ _ _ (fun ha => (hal ha).1) rv)
    · refine H.frame b hb fun ho => ?_
      obtain ⟨i, g1, g2, g3⟩ := oldI b ho
      exact hh ⟨ρ i, c4 i (Nat.zero_le _) (by omega), g2, g3⟩
  rw [← hof] at main
  exact ⟨φ2, hF.trans main⟩

/-- Calls of functions that are known. -/
theorem callLaw {C : Cx} (HN : ∀ i fn, C.P.funcs[(sigAt C.sigs i).f]? = some fn → (fn.name == "runtime.NumGoroutine") = false) : CallLaw C := by
  intro R hR X φ o w hm fr f vs zs v u hv hg hf
  obtain ⟨i, ps, c, y, hfi, hp, hok, hy, rfl, rfl⟩ := callPk_gives _ _ hg
  subst hfi
  obtain ⟨q1, q2⟩ := pack_ok hm hp hv
  obtain ⟨hpk, _⟩ := pack_packed hp
  obtain ⟨⟨fn, g1, g2⟩, g3⟩ := hR i c y hy _ _ w zs q1 q2
  refine ⟨⟨fn, g1, HN i fn g1, g2⟩, Calls.mono g3 fun e w' hb => ?_⟩
  obtain ⟨vals, φ1, X1, rfl, hX, M1, rv, H⟩ := hb
  obtain ⟨φ2, h⟩ := absorb hm hpk hok hf hX M1 rv H
  exact ⟨_, φ2, rfl, h⟩
end Ev

