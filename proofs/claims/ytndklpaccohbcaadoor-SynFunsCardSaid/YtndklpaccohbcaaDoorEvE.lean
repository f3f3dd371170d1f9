/- All operations are sound; the frame rule.
   A part of a verified evaluator of the model: no statement of its own about the program. -/
import Derived.Test.YtndklpaccohbcaaDoorEvD
namespace Ev
open Go

section
variable {C : Cx} {X : Nat → Prop} {φ : Nat → Addr} {o : Nat → Obj} {w : World} {imm : Nat → Prop} {R : Oracle C.sigs} {env : Nat → V} {ρ : Operand → Value}

/-- What a step lands at. -/
def Lands (C : Cx) (X : Nat → Prop) (φ : Nat → Addr) (o : Nat → Obj) (w : World) (v : V) (u : List (Nat × Obj)) (r : Result Next) : Prop :=
  (∃ val w' φ', r = .ok (.value val) w' ∧ Comes C X φ φ' o u w w' v val) ∨
  (∃ w' φ', r = .ok .skip w' ∧ Comes C X φ φ' o u w w' v undef) ∨
  (∃ f args, r = .ok (.enter f args) w ∧ Calls C.P f args w fun e w' => ∃ val φ', e = .returned val ∧ Comes C X φ φ' o u w w' v val)

theorem Lands.upon {v : V} {u : List (Nat × Obj)} {r : Result Next} (h : Lands C X φ o w v u r) {op : Oper} {a : Act} {next : Act → World → Prop} {Q : Exit → Act → World → Prop}
    (hn : ∀ val w' φ', Comes C X φ φ' o u w w' v val → next (a.put op.dst val) w') : op.upon C.P a next Q r := by
  rcases h with ⟨val, w', φ', rfl, hc⟩ | ⟨w', φ', rfl, hc⟩ | ⟨f, args, rfl, hc⟩
  · exact hn _ _ _ hc
  · exact hn _ _ _ hc
  · refine Calls.mono hc fun e w' h => ?_
    obtain ⟨val, φ', rfl, h⟩ := h
    exact hn _ _ _ h

theorem Res.lands {v : V} {u : List (Nat × Obj)} {s : Sem Value} (h : Res C X φ o w v u s) : Lands C X φ o w v u ((do pure (Next.value (← s)) : Sem Next).run C.P w) := by
  obtain ⟨val, w', φ', h1, h2⟩ := h
  exact .inl ⟨val, w', φ', by simp [h1], h2⟩

theorem ResU.lands {v : V} {u : List (Nat × Obj)} {s : Sem Unit} (h : ResU C X φ o w v u s) : Lands C X φ o w v u ((do s; pure Next.skip : Sem Next).run C.P w) := by
  obtain ⟨w', φ', h1, h2⟩ := h
  exact .inr (.inl ⟨w', φ', by simp [h1], h2⟩)

theorem Lands.same (hm : MRel C X φ o w) {v : V} {z : Value} (h : relVal φ o (immB X φ o w) w v z) : Lands C X φ o w v [] (.ok (.value z) w) :=
  .inl ⟨z, w, φ, rfl, .same hm h⟩

theorem binPk_guard {op : BinOp} {t : TypeId} {x y : V} {zx zy : Value} {v : V} {u : List (Nat × Obj)} (hl : ∀ id, relObj φ o imm w id (o id)) (hx : relVal φ o imm w x zx) (hy : relVal φ o imm w y zy)
    (h : (binPk lf C o op t x y).gives v u) : guardless zx = true ∨ (hasN t C.eqs = true ∧ ∃ xs ys, zx = .agg xs ∧ zy = .agg ys) := by
  unfold binPk at h
  split at h
  · obtain ⟨rfl, _⟩ := rel_int hx; exact .inl rfl
  · obtain ⟨s, rfl, _⟩ := rel_str hx; exact .inl rfl
  · have := rel_bool hx; subst this; exact .inl rfl
  · split at h
    · rw [gives_when, Bool.and_eq_true] at h
      obtain ⟨xs, rfl, _⟩ := hx
      obtain ⟨ys, rfl, _⟩ := hy
      exact .inr ⟨h.1.1, xs, ys, rfl, rfl⟩
    · cases h
  · obtain ⟨_, h2⟩ := rel_sl hx
    rcases h2 with ⟨_, _, rfl⟩ | ⟨_, a, cap, ec, rfl, _⟩ <;> exact .inl rfl
  · have : zx = .slice none 0 0 := hx; subst this; exact .inl rfl
  · obtain ⟨c, rfl, _⟩ := hx; exact .inl rfl
  · have : zx = .nilFunc := hx; subst this; exact .inl rfl
  · rename_i a k n
    have hx : relFa imm w a k n zx := hx
    rcases relFa_kind a hx with ⟨rfl, _⟩ | ⟨_, _, rfl, _⟩ <;> exact .inl rfl
  · have : zx = .pointer none := hx; subst this; exact .inl rfl
  · rw [gives_when, Bool.and_eq_true] at h
    obtain ⟨a, rfl⟩ := sure_spec hx h.1.2
    exact .inl rfl
  · split at h
    · rename_i e s he
      rcases ownOf_spec hx he hl with ⟨_, _, rfl⟩ | ⟨_, a, cap, rfl⟩ <;> exact .inl rfl
    · cases h
  · cases h

theorem binOp_ok (hE : EqOk C) (hm : MRel C X φ o w) {op : BinOp} {t : TypeId} {x y : Operand} {vx vy : V} {v : V} {u : List (Nat × Obj)} (hx : relVal φ o (immB X φ o w) w vx (ρ x)) (hy : relVal φ o (immB X φ o w) w vy (ρ y))
    (h : (binPk lf C o op t vx vy).gives v u) : Res C X φ o w v u (do eqGuard op t x y (ρ x) (ρ y); binOp op t (ρ x) (ρ y)) := by
  have h1 := binPk_ok hm.objs hx hy (fun t p a b xs ys => hE.eq w _ t p a b xs ys) h
  obtain ⟨hu, val, h2, h3⟩ := h1
  refine Res.of_pure hm ⟨hu, val, ?_, h3⟩
  rcases binPk_guard hm.objs hx hy h with hg | ⟨hg, xs, ys, e1, e2⟩
  · simp [run_eqGuard hg, h2]
  · rw [e1, e2] at h2 ⊢
    simp [run_eqGuard_agg w op t x y xs ys (hE.guard t hg), h2]

theorem relVs_map (hρ : ∀ x, relVal φ o imm w (opd C env x) (ρ x)) : ∀ (l : List Operand), relVs φ o imm w (l.map (opd C env)) (l.map ρ)
  | [] => rfl
  | x :: l => ⟨_, _, rfl, hρ x, relVs_map hρ l⟩

theorem relPs_map (hρ : ∀ x, relVal φ o imm w (opd C env x) (ρ x)) : ∀ (l : List (Nat × Operand)), relPs φ o imm w (l.map fun p => (p.1, opd C env p.2)) (l.map fun p => (p.1, ρ p.2))
  | [] => rfl
  | x :: l => ⟨_, _, rfl, hρ x.2, relPs_map hρ l⟩

theorem relO_map (hρ : ∀ x, relVal φ o imm w (opd C env x) (ρ x)) (x : Option Operand) : relO φ o imm w (x.map (opd C env)) (x.map ρ) := by
  cases x with
  | none => trivial
  | some x => exact hρ x

theorem list_args {xs : Array Operand} {ρ : Operand → Value} {l : List Operand} (h : xs.toList = l) : xs.map ρ = (l.map ρ).toArray := by
  rw [← h, ← Array.toList_map, Array.toArray_toList]

/-- A call of a function of the program: what is to be shown of it. -/
def CallsOk (C : Cx) (R : Oracle C.sigs) (X : Nat → Prop) (φ : Nat → Addr) (o : Nat → Obj) (w : World) (fr f : Nat) : Prop :=
  ∀ (vs : List V) (zs : List Value) (v : V) (u : List (Nat × Obj)), relVs φ o (immB X φ o w) w vs zs → (callPk lf C R o fr f vs C.sigs 0).gives v u → Frees fr o u →
    (∃ fn, C.P.funcs[f]? = some fn ∧ (fn.name == "runtime.NumGoroutine") = false ∧ fn.body.isNone = false) ∧
    Calls C.P f zs.toArray w fun e w' => ∃ val φ', e = .returned val ∧ Comes C X φ φ' o u w w' v val

theorem mv_ok (hm : MRel C X φ o w) (hρ : ∀ x, relVal φ o (immB X φ o w) w (opd C env x) (ρ x)) {fr : Nat} {ty : TypeId} {v : V} {u : List (Nat × Obj)} (x : Operand) (h : (movePk C fr ty (opd C env x)).gives v u) (hf : Frees fr o u) :
    Lands C X φ o w v u (.ok (.value (ρ x)) w) := by
  have hx := hρ x
  unfold movePk at h
  split at h
  · rename_i e1
    rw [e1] at hx
    split at h
    · rename_i e _
      rw [gives_now] at h
      obtain ⟨rfl, rfl⟩ := h
      have hfr : o fr = .none := hf _ (List.mem_cons_self ..) (Nat.le_refl _) (by show fr < fr + 16; omega)
      refine .inl ⟨_, w, φ, rfl, Comes.write hm (.vec e 0 false ⟨true, []⟩) (by simp [excl, live]) rfl (fun _ _ => rfl) (up_none hfr _) (fun _ _ _ => ⟨Nat.zero_le _, fun _ => rfl, fun h => by simp at h⟩) (fun _ h => by simp at h) (fun hid => ?_)⟩
      unfold relVal
      rw [hid]
      exact ⟨Nat.le_refl _, fun _ => .inl ⟨rfl, hx⟩⟩
    · rw [gives_now] at h
      obtain ⟨rfl, rfl⟩ := h
      exact .same hm hx
  · rw [gives_now] at h
    obtain ⟨rfl, rfl⟩ := h
    exact .same hm hx

theorem pick_ok (hm : MRel C X φ o w) (hρ : ∀ x, relVal φ o (immB X φ o w) w (opd C env x) (ρ x)) {v : V} {u : List (Nat × Obj)} {c a b : Operand} {dst : Option Tmp} {ty : TypeId} {pos : String} {after : Array Edge} {guard : Option (Nat × Bool)} {fr : Nat}
    (h : (opPk lf C R env o fr ty (.pick c a b)).gives v u) : Lands C X φ o w v u ((execOp ρ ⟨dst, .pick c a b, ty, pos, after, guard⟩).run C.P w) := by
  have hc := hρ c
  have key : ∀ x, (opdL C env c = .lb x ∨ opdL C env c = .d .bool x) → opd C env c = .d .bool x := by
    intro x h
    cases c with
    | tmp t =>
      show unlb (env t) = _
      have h : env t = .lb x ∨ env t = .d .bool x := h
      rcases h with h | h <;> rw [h] <;> rfl
    | const z =>
      rcases h with h | h
      · exfalso
        have h : cst z = .lb x := h
        have hn : ∀ (b : Bool) (y : V), (∀ x, y ≠ .lb x) → (bif b then y else V.junk) ≠ .lb x := by
          intro b y hy
          cases b
          · intro h; cases h
          · exact hy x
        unfold cst at h
        split at h <;> first | exact hn _ _ (fun _ h => by cases h) h | cases h
      · exact h
    | global g =>
      rcases h with h | h
      · exfalso
        have h : opd C env (.global g) = .lb x := h
        simp only [opd] at h
        split at h <;> cases h
      · exact h
    | func f => rcases h with h | h <;> cases h
  simp only [opPk] at h
  split at h
  · rename_i x e
    rw [gives_now] at h
    obtain ⟨rfl, rfl⟩ := h
    rw [key x (.inl e)] at hc
    have hc := rel_bool hc
    simp only [execOp, hc, asBool]
    cases x
    · exact .same hm (hρ b)
    · exact .same hm (hρ a)
  · rename_i x e
    rw [gives_now] at h
    obtain ⟨rfl, rfl⟩ := h
    rw [key x (.inr e)] at hc
    have hc := rel_bool hc
    simp only [execOp, hc, asBool]
    exact .same hm (pickV_ok (hρ a) (hρ b))
  · cases h

theorem unOp_ok (hm : MRel C X φ o w) (hρ : ∀ x, relVal φ o (immB X φ o w) w (opd C env x) (ρ x)) {v : V} {u : List (Nat × Obj)} {op : UnOp} {t : TypeId} {x : Operand} {dst : Option Tmp} {ty : TypeId} {pos : String} {after : Array Edge} {guard : Option (Nat × Bool)} {fr : Nat}
    (h : (opPk lf C R env o fr ty (.unOp op t x)).gives v u) : Lands C X φ o w v u ((execOp ρ ⟨dst, .unOp op t x, ty, pos, after, guard⟩).run C.P w) := by
  have hx := hρ x
  cases op with
  | xor =>
    simp only [opPk] at h
    split at h
    · rename_i k n e
      rw [e] at hx
      rw [gives_now] at h
      obtain ⟨rfl, rfl⟩ := h
      obtain ⟨hz, _⟩ := rel_int hx
      simp only [execOp, hz]
      have e1 : ones k = if k.signed then -1 else k.max := by cases k <;> decide
      exact (Res.of_pure hm ⟨rfl, .int k (lf.xorI k (ones k) n), by rw [e1]; simp [Op.unary, Op.intBits, lf, xorI, pure], mk_int (wrap_in _ _)⟩).lands
    · cases h
  | plus => exact False.elim h
  | neg =>
    simp only [opPk] at h
    split at h
    · rename_i k n e
      rw [e] at hx
      rw [gives_now] at h
      obtain ⟨rfl, rfl⟩ := h
      obtain ⟨hz, _⟩ := rel_int hx
      simp only [execOp, hz]
      exact (Res.of_pure hm ⟨rfl, .int k (k.wrap (0 - n)), by simp [Op.unary, Op.intArith], mk_int (wrap_in _ _)⟩).lands
    · cases h
  | not =>
    simp only [opPk] at h
    split at h
    · rename_i b e
      rw [e] at hx
      rw [gives_now] at h
      obtain ⟨rfl, rfl⟩ := h
      have hz := rel_bool hx
      simp only [execOp, hz]
      exact (Res.of_pure hm ⟨rfl, .bool (!b), by simp [Op.unary], mk_bool⟩).lands
    · cases h

theorem makeFunc_ok (hm : MRel C X φ o w) (hρ : ∀ x, relVal φ o (immB X φ o w) w (opd C env x) (ρ x)) {v : V} {u : List (Nat × Obj)} {fn : Fn} {first caps : Array Operand} {dst : Option Tmp} {ty : TypeId} {pos : String} {after : Array Edge} {guard : Option (Nat × Bool)} {fr : Nat}
    (h : (opPk lf C R env o fr ty (.makeFunc fn first caps)).gives v u) : Lands C X φ o w v u ((execOp ρ ⟨dst, .makeFunc fn first caps, ty, pos, after, guard⟩).run C.P w) := by
  cases fn <;> try exact False.elim h
  rename_i f
  simp only [opPk] at h
  split at h
  · rename_i e
    rw [gives_now] at h
    obtain ⟨rfl, rfl⟩ := h
    have e1 : first.map ρ = #[] := by rw [list_args e]; rfl
    simp only [execOp, e1, Instr.makeFunc]
    have hv : relVal φ o (immB X φ o w) w (.fn f (caps.toList.map (opd C env))) (.func (.func f) #[] (caps.map ρ)) := ⟨caps.map ρ, rfl, by rw [Array.toList_map]; exact relVs_map hρ _⟩
    exact (Res.of_pure (s := pure (.func (.func f) #[] (caps.map ρ))) hm ⟨rfl, _, rfl, hv⟩).lands
  · cases h

theorem extract_ok (hm : MRel C X φ o w) (hρ : ∀ x, relVal φ o (immB X φ o w) w (opd C env x) (ρ x)) {v : V} {u : List (Nat × Obj)} {x : Operand} {i : Nat} {dst : Option Tmp} {ty : TypeId} {pos : String} {after : Array Edge} {guard : Option (Nat × Bool)} {fr : Nat}
    (h : (opPk lf C R env o fr ty (.extract x i)).gives v u) : Lands C X φ o w v u ((execOp ρ ⟨dst, .extract x i, ty, pos, after, guard⟩).run C.P w) := by
  exact (extPk_ok hm (hρ x) h).lands

theorem next_ok (hm : MRel C X φ o w) (hρ : ∀ x, relVal φ o (immB X φ o w) w (opd C env x) (ρ x)) {v : V} {u : List (Nat × Obj)} {x : Operand} {b : Bool} {dst : Option Tmp} {ty : TypeId} {pos : String} {after : Array Edge} {guard : Option (Nat × Bool)} {fr : Nat}
    (h : (opPk lf C R env o fr ty (.next x b)).gives v u) : Lands C X φ o w v u ((execOp ρ ⟨dst, .next x b, ty, pos, after, guard⟩).run C.P w) := by
  cases b with
  | false => exact False.elim h
  | true => exact (nextPk_ok hm (hρ x) h).lands

theorem callFa_spec {fr : Nat} {n : Int} {vs : List V} {z : Value} {b : Bool} : ∀ (a : List (Nat × Bool)) (i : Nat) (k : Int), callFa lf C R o fr (k + (i : Int)) n vs a i = some (some b) → relFa imm w a k n z →
    ∃ f caps capsz, z = .func (.func f) #[] capsz ∧ relVs φ o imm w caps capsz.toList ∧ (callPk lf C R o fr f (vs ++ caps) C.sigs 0).gives (.d .bool b) []
  | [], _, _, h, _ => by cases h
  | (f, c) :: r, i, k, h, hr => by
    unfold callFa at h
    split at h
    · rename_i x hx
      split at h
      · rename_i y hy
        injection h with h
        rcases hr with ⟨rfl, h2⟩ | ⟨h1, h2⟩
        · have he : lf.eqI (0 + (i : Int)) (Int.ofNat i) = true := by show ((0 + (i : Int)) == Int.ofNat i) = true; simp
          rw [he] at h
          have h : x = some b := h
          subst h
          have gv : (callPk lf C R o fr f (vs ++ bif c then [.ref (.int .i64) n] else []) C.sigs 0).gives (.d .bool b) [] := by
            revert hx
            generalize callPk lf C R o fr f (vs ++ bif c then [.ref (.int .i64) n] else []) C.sigs 0 = p
            intro hx
            cases p with
            | fail => cases hx
            | nowU v u => cases hx
            | dyn α x' out =>
              injection hx with hx
              cases x' with
              | none => cases hx
              | some q =>
                have hx : (match out q with | (.d .bool b, []) => some b | _ => none) = some b := hx
                split at hx
                · rename_i b' eo
                  injection hx with hx
                  subst hx
                  exact ⟨q, rfl, eo⟩
                · cases hx
          cases c with
          | false => exact ⟨f, [], #[], h2, rfl, gv⟩
          | true =>
            obtain ⟨p, h3, h4⟩ := h2
            exact ⟨f, [.ref (.int .i64) n], #[p], h3, ⟨p, [], rfl, h4, rfl⟩, gv⟩
        · have he : lf.eqI (k + (i : Int)) (Int.ofNat i) = false := by
            show ((k + (i : Int)) == Int.ofNat i) = false
            have : k + (i : Int) ≠ Int.ofNat i := by
              show k + (i : Int) ≠ (i : Int)
              omega
            exact beq_false_of_ne this
          rw [he] at h
          have h : y = some b := h
          subst h
          refine callFa_spec r (i + 1) (k - 1) ?_ h2
          have : k - 1 + ((i + 1 : Nat) : Int) = k + (i : Int) := by omega
          rw [this]
          exact hy
      · cases h
    · cases h

theorem callV_ok (hρ : ∀ x, relVal φ o (immB X φ o w) w (opd C env x) (ρ x)) {v : V} {u : List (Nat × Obj)} {f : Operand} {args : Array Operand} {ats : Array TypeId} {dst : Option Tmp} {ty : TypeId} {pos : String} {after : Array Edge} {guard : Option (Nat × Bool)} {fr : Nat}
    (hcall : ∀ f, CallsOk C R X φ o w fr f) (h : (opPk lf C R env o fr ty (.call ⟨.value f, args, ats⟩)).gives v u) (hf : Frees fr o u) : Lands C X φ o w v u ((execOp ρ ⟨dst, .call ⟨.value f, args, ats⟩, ty, pos, after, guard⟩).run C.P w) := by
  have hx := hρ f
  simp only [opPk] at h
  split at h
  · rename_i fid caps e
    rw [e] at hx
    obtain ⟨cz, hz, hr⟩ := hx
    have hargs : relVs φ o (immB X φ o w) w (args.toList.map (opd C env) ++ caps) ((args.map ρ).toList ++ cz.toList) := by
      rw [Array.toList_map]
      exact relVs_app (relVs_map hρ _) hr
    obtain ⟨⟨fn, g1, g2, g3⟩, g4⟩ := hcall fid _ _ v u hargs h hf
    refine .inr (.inr ⟨fid, ((args.map ρ).toList ++ cz.toList).toArray, ?_, g4⟩)
    have e2 : ((args.map ρ).toList ++ cz.toList).toArray = args.map ρ ++ cz := by
      apply Array.toList_inj.1; simp
    rw [e2]
    have g2' : ¬ fn.name = "runtime.NumGoroutine" := by simpa using g2
    have g3' : fn.body ≠ none := by intro e; rw [e] at g3; cases g3
    simp [execOp, resolve, hz, Deferred.ofValue, invoke, callFunc, g1, g2', g3']
  · rename_i a k n e
    rw [e] at hx
    split at h
    · rename_i x hcx
      obtain ⟨b, hb, ho⟩ := h
      subst hb
      injection ho with ho1 ho2
      subst ho1 ho2
      have hcx : callFa lf C R o fr (k + ((0 : Nat) : Int)) n (args.toList.map (opd C env)) a 0 = some (some b) := by
        have : k + ((0 : Nat) : Int) = k := by omega
        rw [this]; exact hcx
      obtain ⟨fid, caps, cz, hz, hr, h⟩ := callFa_spec (φ := φ) (imm := immB X φ o w) (w := w) a 0 k hcx hx
      have hargs : relVs φ o (immB X φ o w) w (args.toList.map (opd C env) ++ caps) ((args.map ρ).toList ++ cz.toList) := by
        rw [Array.toList_map]
        exact relVs_app (relVs_map hρ _) hr
      obtain ⟨⟨fn, g1, g2, g3⟩, g4⟩ := hcall fid _ _ _ _ hargs h hf
      refine .inr (.inr ⟨fid, ((args.map ρ).toList ++ cz.toList).toArray, ?_, g4⟩)
      have e2 : ((args.map ρ).toList ++ cz.toList).toArray = args.map ρ ++ cz := by
        apply Array.toList_inj.1; simp
      rw [e2]
      have g2' : ¬ fn.name = "runtime.NumGoroutine" := by simpa using g2
      have g3' : fn.body ≠ none := by intro e; rw [e] at g3; cases g3
      simp [execOp, resolve, hz, Deferred.ofValue, invoke, callFunc, g1, g2', g3']
    · exact False.elim h
  · cases h

theorem minmax_in {k : IntKind} {a b : Int} (ha : inK k a) (hb : inK k b) : inK k (minI a b) ∧ inK k (maxI a b) := by
  unfold minI maxI
  constructor <;> split <;> assumption

theorem builtin_ok (hC : CxOk C) (hm : MRel C X φ o w) (hρ : ∀ x, relVal φ o (immB X φ o w) w (opd C env x) (ρ x)) {v : V} {u : List (Nat × Obj)} {b : Builtin} {args : Array Operand} {ats : Array TypeId} {dst : Option Tmp} {ty : TypeId} {pos : String} {after : Array Edge} {guard : Option (Nat × Bool)} {fr : Nat}
    (h : (opPk lf C R env o fr ty (.call ⟨.builtin b, args, ats⟩)).gives v u) (hf : Frees fr o u) : Lands C X φ o w v u ((execOp ρ ⟨dst, .call ⟨.builtin b, args, ats⟩, ty, pos, after, guard⟩).run C.P w) := by
  have args2 : ∀ {x y : V}, args.toList.map (opd C env) = [x, y] → ∃ zx zy, args.map ρ = #[zx, zy] ∧ relVal φ o (immB X φ o w) w x zx ∧ relVal φ o (immB X φ o w) w y zy := by
    intro x y e
    match hl : args.toList, e with
    | [a, b], e =>
      simp only [List.map_cons, List.map_nil, List.cons.injEq, and_true] at e
      obtain ⟨rfl, rfl⟩ := e
      exact ⟨ρ a, ρ b, list_args hl, hρ a, hρ b⟩
  have args1 : ∀ {x : V}, args.toList.map (opd C env) = [x] → ∃ zx, args.map ρ = #[zx] ∧ relVal φ o (immB X φ o w) w x zx := by
    intro x e
    match hl : args.toList, e with
    | [a], e =>
      simp only [List.map_cons, List.map_nil, List.cons.injEq, and_true] at e
      subst e
      exact ⟨ρ a, list_args hl, hρ a⟩
  have tys : ∀ {l : List TypeId}, ats.toList = l → ats = l.toArray := fun e => by rw [← e, Array.toArray_toList]
  simp only [opPk, builtinPk] at h
  split at h
  · rename_i t ts x e1 e2
    obtain ⟨zx, h1, h2⟩ := args1 e2
    have := (Res.of_pure hm (lenPk_ok (ts := ts) (ty := ty) hm h2 h)).lands
    rw [← tys e1] at this
    simpa [execOp, resolve, invoke, builtin, h1] using this
  · rename_i t u' ts x y e1 e2
    obtain ⟨zx, zy, h1, h2, h3⟩ := args2 e2
    have := (appendPk_ok (ts := ts) (ty := ty) hC hm h2 h3 h hf).lands
    rw [← tys e1] at this
    simpa [execOp, resolve, invoke, builtin, h1] using this
  · rename_i t ts x y e1 e2
    obtain ⟨zx, zy, h1, h2, h3⟩ := args2 e2
    have := (copyPk_ok (ts := ts) (ty := ty) hC hm h2 h3 h).lands
    rw [← tys e1] at this
    simpa [execOp, resolve, invoke, builtin, h1] using this
  · rename_i t ts x e1 e2
    obtain ⟨zx, h1, h2⟩ := args1 e2
    have := (clearPk_ok (ts := ts) (ty := ty) hC hm h2 h).lands
    rw [← tys e1] at this
    simpa [execOp, resolve, invoke, builtin, h1] using this
  · rename_i t ts x y e1 e2
    obtain ⟨zx, zy, h1, h2, h3⟩ := args2 e2
    have := (deletePk_ok (ts := ts) (ty := ty) hC hm h2 h3 h).lands
    rw [← tys e1] at this
    simpa [execOp, resolve, invoke, builtin, h1] using this
  · rename_i k a k' b e2
    obtain ⟨zx, zy, h1, h2, h3⟩ := args2 e2
    obtain ⟨rfl, i1⟩ := rel_int h2
    obtain ⟨rfl, i2⟩ := rel_int h3
    rw [gives_when, gives_now] at h
    obtain ⟨hk, rfl, rfl⟩ := h
    have := kindN_inj hk
    subst this
    have : Lands C X φ o w (.d (.int k) (lf.minI a b)) [] _ := (Res.of_pure (s := Builtin.min_ ats ty #[.int k a, .int k b]) hm ⟨rfl, .int k (minI a b), by simp [Builtin.min_, Builtin.min2, minI], mk_int (minmax_in i1 i2).1⟩).lands
    simpa [execOp, resolve, invoke, builtin, h1] using this
  · rename_i k a k' b e2
    obtain ⟨zx, zy, h1, h2, h3⟩ := args2 e2
    obtain ⟨rfl, i1⟩ := rel_int h2
    obtain ⟨rfl, i2⟩ := rel_int h3
    rw [gives_when, gives_now] at h
    obtain ⟨hk, rfl, rfl⟩ := h
    have := kindN_inj hk
    subst this
    have : Lands C X φ o w (.d (.int k) (lf.maxI a b)) [] _ := (Res.of_pure (s := Builtin.max_ ats ty #[.int k a, .int k b]) hm ⟨rfl, .int k (maxI a b), by simp [Builtin.max_, Builtin.max2, maxI], mk_int (minmax_in i1 i2).2⟩).lands
    simpa [execOp, resolve, invoke, builtin, h1] using this
  · cases h

set_option maxHeartbeats 4000000 in
theorem op_ok (hC : CxOk C) (hE : EqOk C) (hm : MRel C X φ o w) (hρ : ∀ x, relVal φ o (immB X φ o w) w (opd C env x) (ρ x)) {op : Oper} {fr : Nat} (hcall : ∀ f, CallsOk C R X φ o w fr f)
    {v : V} {u : List (Nat × Obj)} (h : (opPk lf C R env o fr op.type op.op).gives v u) (hf : Frees fr o u) : Lands C X φ o w v u ((execOp ρ op).run C.P w) := by
  obtain ⟨dst, op, ty, pos, after, guard⟩ := op
  cases op
  case move x => exact mv_ok hm hρ x h hf
  case assign x => exact mv_ok hm hρ x h hf
  case pick c a b => exact pick_ok hm hρ h
  case alloc e => exact (allocPk_ok hC hm h hf _).lands
  case box e x => exact (boxPk_ok hm (hρ x) h hf).lands
  case build t ps =>
    refine (ownAgg_ok (fun v u h => buildPk_ok (zparts := ps.map fun p => (p.1, ρ p.2)) hC hm ?_ h) h hf).lands
    rw [Array.toList_map]
    exact relPs_map hρ _
  case buildSlice t n ps =>
    refine (buildSlicePk_ok (zparts := ps.map fun p => (p.1, ρ p.2)) hC hm ?_ h hf).lands
    rw [Array.toList_map]
    exact relPs_map hρ _
  case load t a => exact (Res.of_pure hm (loadPk_ok hC hm (hρ a) h)).lands
  case store t a x => exact (storePk_ok hC hm (hρ a) (hρ x) h).lands
  case nilCheck x =>
    obtain ⟨rfl, rfl, hz⟩ := nilPk_ok (hρ x) h
    have hx := hρ x
    rcases hz with ⟨a, e⟩ | ⟨f, c, e⟩ <;> simp only [execOp, e] <;> rw [e] at hx <;> exact .same hm hx
  case binOp op t x y yt => exact (binOp_ok hE hm (hρ x) (hρ y) h).lands
  case unOp op t x => exact unOp_ok hm hρ h
  case convert s d x => exact (convertPk_ok hC hm (hρ x) h hf).lands
  case makeFunc fn first caps => exact makeFunc_ok hm hρ h
  case makeSlice t l c => exact (makeSlicePk_ok hC hm (hρ l) (hρ c) h hf).lands
  case slice t x lo hi mx => exact (slicePk_ok hC hm (hρ x) (relO_map hρ lo) (relO_map hρ hi) (relO_map hρ mx) h hf).lands
  case fieldAddr t x f => exact (Res.of_pure hm (fieldAddrPk_ok hC hm (hρ x) h)).lands
  case field t x f => exact (Res.of_pure hm (fieldPk_ok hC hm (hρ x) h)).lands
  case indexAddr t x i => exact (Res.of_pure hm (indexAddrPk_ok hC hm (hρ x) (hρ i) h)).lands
  case index t x i => exact (Res.of_pure hm (indexPk_ok hC (hρ x) (hρ i) h)).lands
  case extract x i => exact extract_ok hm hρ h
  case range t x => exact (rangePk_ok hm (hρ x) h hf).lands
  case next x b => exact next_ok hm hρ h
  case makeMap t r =>
    cases r with
    | none => exact (makeMapPk_ok hm h hf).lands
    | some x => exact False.elim h
  case lookup t x k ok => exact (lookupPk_ok hC hm (hρ x) (hρ k) h).lands
  case mapUpdate t m k x => exact (mapUpdatePk_ok hC hm (hρ m) (hρ k) (hρ x) h).lands
  case call c =>
    obtain ⟨callee, args, ats⟩ := c
    cases callee with
    | invoke r m => exact False.elim h
    | value f => exact callV_ok hρ hcall h hf
    | builtin b => exact builtin_ok hC hm hρ h hf
  all_goals exact False.elim h
end
end Ev


namespace Ev
open Go

theorem hasN_iff {j : Nat} : ∀ {l : List Nat}, hasN j l = true ↔ j ∈ l
  | [] => by simp [hasN]
  | b :: r => by
    simp only [hasN, List.mem_cons]
    cases h : Nat.beq b j with
    | true => have := Nat.eq_of_beq_eq_true h; simp [this]
    | false =>
      have : ¬ j = b := fun e => by subst e; rw [Nat.beq_refl] at h; cases h
      simp [this, hasN_iff]

theorem upds_in : ∀ {u : List (Nat × Obj)} {o o' : Nat → Obj} {id : Nat}, id ∈ keysU u → upds o u id = upds o' u id
  | (i, x) :: r, o, o', id, h => by
    show upds (upd o i x) r id = upds (upd o' i x) r id
    by_cases hr : id ∈ keysU r
    · exact upds_in hr
    · rw [upds_not hr, upds_not hr]
      simp only [keysU, List.mem_cons, hr, or_false] at h
      subst h
      rw [upd_same, upd_same]

section
variable {C : Cx} {X : Nat → Prop} {φ φ' : Nat → Addr} {o o' : Nat → Obj} {w w' : World} {imm : Nat → Prop} {F : List Nat}

theorem relVal_sub : ∀ (x : V) (z : Value), (∀ id, id ∈ idsV x → o' id = o id) → relVal φ o imm w x z → relVal φ o' imm w x z := by
  intro x
  refine V.rec (motive_1 := fun x => ∀ z, (∀ id, id ∈ idsV x → o' id = o id) → relVal φ o imm w x z → relVal φ o' imm w x z)
    (motive_2 := fun l => ∀ zs, (∀ id, id ∈ idsL l → o' id = o id) → relVs φ o imm w l zs → relVs φ o' imm w l zs)
    ?_ ?_ ?_ ?_ ?_ ?_ ?_ ?_ ?_ ?_ ?_ ?_ ?_ ?_ ?_ ?_ ?_ ?_ ?_ ?_ ?_ ?_ ?_ ?_ ?_ x
  · exact fun t x z _ h => h
  · intro id ver z hs h; have := hs id (by simp [idsV]); unfold relVal at *; rw [this]; exact h
  · intro id ver n cp z hs h; have := hs id (by simp [idsV]); unfold relVal at *; rw [this]; exact h
  · intro id off z hs h; have := hs id (by simp [idsV]); unfold relVal at *; rw [this]; exact h
  · intro id ver i path z hs h; have := hs id (by simp [idsV]); unfold relVal at *; rw [this]; exact h
  · exact fun t x z _ h => h
  · exact fun z _ h => h
  · exact fun f l ih z hs ⟨c, h1, h2⟩ => ⟨c, h1, ih _ (fun id h => hs id (by unfold idsV; exact h)) h2⟩
  · exact fun z _ h => h
  · exact fun l ih z hs ⟨c, h1, h2⟩ => ⟨c, h1, ih _ (fun id h => hs id (by unfold idsV; exact h)) h2⟩
  · exact fun l ih z hs ⟨c, h1, h2⟩ => ⟨c, h1, ih _ (fun id h => hs id (by unfold idsV; exact h)) h2⟩
  · intro id z hs h; have := hs id (by simp [idsV]); unfold relVal at *; rw [this]; exact h
  · exact fun z _ h => h
  · exact fun z _ h => h
  · exact fun z _ h => h
  · exact fun b z _ h => h
  · exact fun z _ h => h
  · exact fun z _ h => h
  · intro id b z hs h; have := hs id (by simp [idsV]); unfold relVal at *; rw [this]; exact h
  · intro id ver lo z hs h; have := hs id (by simp [idsV]); unfold relVal at *; rw [this]; exact h
  · intro id z hs h; have := hs id (by simp [idsV]); unfold relVal at *; rw [this]; exact h
  · exact fun b p c z _ h => h
  · exact fun a k n z _ h => h
  · exact fun zs _ h => h
  · exact fun x l ih1 ih2 zs hs ⟨v, r, h1, h2, h3⟩ => ⟨v, r, h1, ih1 _ (fun id h => hs id (by unfold idsL; exact List.mem_append_left _ h)) h2,
      ih2 _ (fun id h => hs id (by unfold idsL; exact List.mem_append_right _ h)) h3⟩

theorem relVs_sub : ∀ (l : List V) (zs : List Value), (∀ id, id ∈ idsL l → o' id = o id) → relVs φ o imm w l zs → relVs φ o' imm w l zs
  | [], _, _, h => h
  | x :: l, _, hs, ⟨v, r, h1, h2, h3⟩ => ⟨v, r, h1, relVal_sub x v (fun id h => hs id (by unfold idsL; exact List.mem_append_left _ h)) h2,
      relVs_sub l r (fun id h => hs id (by unfold idsL; exact List.mem_append_right _ h)) h3⟩

/-- The blocks of others, and of the objects that are left out. -/
def Xr (X : Nat → Prop) (φ : Nat → Addr) (o : Nat → Obj) (F : List Nat) (b : Nat) : Prop := X b ∨ ∃ id, id ∉ F ∧ excl (φ id) (o id) = true ∧ (φ id).block = b

theorem objR_in {id : Nat} (h : id ∈ F) : objR o F id = o id := by
  unfold objR; rw [hasN_iff.2 h]; rfl
theorem objR_out {id : Nat} (h : id ∉ F) : objR o F id = .none := by
  unfold objR
  cases e : hasN id F with
  | true => exact absurd (hasN_iff.1 e) h
  | false => rfl

theorem immR (b : Nat) : immB (Xr X φ o F) φ (objR o F) w b ↔ immB X φ o w b := by
  constructor
  · rintro ⟨h1, h2, h3⟩
    refine ⟨h1, fun h => h2 (.inl h), fun ⟨id, e1, e2⟩ => ?_⟩
    by_cases hi : id ∈ F
    · exact h3 ⟨id, by rw [objR_in hi]; exact e1, e2⟩
    · exact h2 (.inr ⟨id, hi, e1, e2⟩)
  · rintro ⟨h1, h2, h3⟩
    refine ⟨h1, ?_, fun ⟨id, e1, e2⟩ => ?_⟩
    · rintro (h | ⟨id, _, e1, e2⟩)
      · exact h2 h
      · exact h3 ⟨id, e1, e2⟩
    · by_cases hi : id ∈ F
      · rw [objR_in hi] at e1; exact h3 ⟨id, e1, e2⟩
      · rw [objR_out hi] at e1; exact (excl_none e1).elim

theorem relObj_sub {imm' : Nat → Prop} {id : Nat} {x : Obj} (hi : ∀ b, imm b → imm' b) (hs : ∀ j, j ∈ idsO x → o' j = o j) (h : relObj φ o imm w id x) : relObj φ o' imm' w id x := by
  have hk : ∀ x z, relVal φ o' imm w x z → relVal φ o' imm' w x z := fun x z h => relVal_up hi (fun _ _ => rfl) (fun _ => Up.same fun _ _ h => h) x z h
  cases x with
  | dead => trivial
  | none => trivial
  | box cs =>
    obtain ⟨h1, c, el, lo, hi', h2, h3, h4⟩ := h
    exact ⟨h1, c, el, lo, hi', h2, h3, relVs_all hk _ _ (relVs_sub cs _ hs h4)⟩
  | map k v m =>
    obtain ⟨es, clock, h1, h2⟩ := h
    exact ⟨es, clock, h1, relEs_mono (relV_mono hi (fun _ _ => rfl) _) (relV_mono hi (fun _ _ => rfl) _) h2⟩
  | iter l p => exact h
  | vec t ver fr s =>
    obtain ⟨h1, h2, h3⟩ := h
    refine ⟨h1, h2, fun hn => ?_⟩
    refine (h3 hn).imp (fun ⟨h4, ec, h5, h6, h7, h8, h9⟩ => ?_) fun g => g
    exact ⟨h4, ec, relR_mono (relC_mono hi (fun _ _ => rfl) t) h5, h6, h7, h8, fun hf => hi _ (h9 hf)⟩

theorem MRel.els_keep (hm : MRel C X φ o w) (id : Nat) (hb : excl (φ id) (o id) = true → ElKept w w' (φ id).block) (stays : ∀ b, immB X φ o w b → w'.heap[b]? = w.heap[b]?) : ElsAt C w' (φ id) (o id) := by
  refine (hm.els id).keep hb (fun ver s e hn => .same ?_) (hm.elsC id)
  have ho := hm.objs id
  rw [e] at ho
  obtain ⟨_, _, ho⟩ := ho
  rcases ho hn with ⟨_, _, _, _, _, _, g7⟩ | g7
  · exact stays _ (g7 rfl)
  · exact absurd rfl g7.2.2

/-- Only some of the objects. -/
theorem MRel.restrict (hm : MRel C X φ o w) (hc : ∀ id, id ∈ F → ∀ j, j ∈ idsO (o id) → j ∈ F) : MRel C (Xr X φ o F) φ (objR o F) w := by
  refine ⟨fun id => ?_, fun i j hi hj e => ?_, fun i hi => ?_, fun b hb => ?_, fun id => ?_, fun g t x hg => ?_⟩
  · by_cases h : id ∈ F
    · rw [objR_in h]
      exact relObj_sub (fun b hb => (immR b).2 hb) (fun j hj => objR_in (hc id h j hj)) (hm.objs id)
    · rw [objR_out h]; trivial
  · have h1 : i ∈ F := Classical.byContradiction fun h => by rw [objR_out h] at hi; exact excl_none hi
    have h2 : j ∈ F := Classical.byContradiction fun h => by rw [objR_out h] at hj; exact excl_none hj
    rw [objR_in h1] at hi
    rw [objR_in h2] at hj
    exact hm.inj i j hi hj e
  · have h1 : i ∈ F := Classical.byContradiction fun h => by rw [objR_out h] at hi; exact excl_none hi
    rw [objR_in h1] at hi
    refine ⟨(hm.sep i hi).1, ?_⟩
    rintro (h | ⟨id, h2, h3, h4⟩)
    · exact (hm.sep i hi).2 h
    · have := hm.inj id i h3 hi h4
      exact h2 (this ▸ h1)
  · rcases hb with hb | ⟨id, _, h3, h4⟩
    · exact hm.xs b hb
    · exact h4 ▸ (hm.sep id h3).1
  · by_cases h : id ∈ F
    · rw [objR_in h]; exact hm.els id
    · rw [objR_out h]; trivial
  · obtain ⟨a, cs, h1, h2, h3, h4, h5⟩ := hm.globs g t x hg
    exact ⟨a, cs, h1, h2, (immR _).2 h3, relC_mono (fun b hb => (immR b).2 hb) (fun _ _ => rfl) t x cs h4, h5⟩

theorem relVal_restrict {x : V} {z : Value} (hs : ∀ id, id ∈ idsV x → id ∈ F) (h : relVal φ o (immB X φ o w) w x z) :
    relVal φ (objR o F) (immB (Xr X φ o F) φ (objR o F) w) w x z :=
  relVal_up (fun b hb => (immR b).2 hb) (fun _ _ => rfl) (fun _ => Up.same fun _ _ h => h) x z (relVal_sub x z (fun id hi => objR_in (hs id hi)) h)

/-- The frame rule. -/
theorem Comes.unrestrict (hm : MRel C X φ o w) {u : List (Nat × Obj)} {v : V} {z : Value} (hu : ∀ id, id ∈ keysU u → id ∉ F → o id = .none)
    (h : Comes C (Xr X φ o F) φ φ' (objR o F) u w w' v z) : ∃ φ'', Comes C X φ φ'' o u w w' v z := by
  let ins : Nat → Prop := fun id => id ∈ F ∨ id ∈ keysU u
  refine ⟨fun id => bif hasN id F || hasN id (keysU u) then φ' id else φ id, ?_⟩
  generalize hφ : (fun id => bif hasN id F || hasN id (keysU u) then φ' id else φ id) = φ''
  have p1 : ∀ id, ins id → φ'' id = φ' id := fun id hi => by
    rw [← hφ]
    have : (hasN id F || hasN id (keysU u)) = true := by
      rw [Bool.or_eq_true]; exact hi.imp hasN_iff.2 hasN_iff.2
    simp only [this, cond_true]
  have p2 : ∀ id, ¬ ins id → φ'' id = φ id := fun id hi => by
    rw [← hφ]
    have : (hasN id F || hasN id (keysU u)) = false := by
      cases e : (hasN id F || hasN id (keysU u)) with
      | false => rfl
      | true => rw [Bool.or_eq_true] at e; exact absurd (e.imp hasN_iff.1 hasN_iff.1) hi
    simp only [this, cond_false]
  have q1 : ∀ id, ins id → upds o u id = upds (objR o F) u id := fun id hi => by
    by_cases hk : id ∈ keysU u
    · exact upds_in hk
    · rw [upds_not hk, upds_not hk, objR_in (hi.resolve_right hk)]
  have q2 : ∀ id, ¬ ins id → upds o u id = o id ∧ upds (objR o F) u id = .none := fun id hi =>
    ⟨upds_not fun hk => hi (.inr hk), by rw [upds_not fun hk => hi (.inr hk), objR_out fun hf => hi (.inl hf)]⟩
  have q3 : ∀ id, ins id → id ∉ F → o id = .none := fun id hi hf => hu id (hi.resolve_left hf) hf
  have himm : ∀ b, immB (Xr X φ o F) φ' (upds (objR o F) u) w' b ↔ immB X φ'' (upds o u) w' b := fun b => by
    constructor
    · rintro ⟨h1, h2, h3⟩
      refine ⟨h1, fun hx => h2 (.inl hx), fun ⟨id, e1, e2⟩ => ?_⟩
      by_cases hi : ins id
      · exact h3 ⟨id, by rw [← q1 id hi, ← p1 id hi]; exact e1, by rw [← p1 id hi]; exact e2⟩
      · rw [(q2 id hi).1, p2 id hi] at e1
        rw [p2 id hi] at e2
        exact h2 (.inr ⟨id, fun hf => hi (.inl hf), e1, e2⟩)
    · rintro ⟨h1, h2, h3⟩
      refine ⟨h1, ?_, fun ⟨id, e1, e2⟩ => ?_⟩
      · rintro (hx | ⟨id, hf, e1, e2⟩)
        · exact h2 hx
        · by_cases hi : ins id
          · rw [q3 id hi hf] at e1; exact (excl_none e1).elim
          · exact h3 ⟨id, by rw [(q2 id hi).1, p2 id hi]; exact e1, by rw [p2 id hi]; exact e2⟩
      · by_cases hi : ins id
        · exact h3 ⟨id, by rw [q1 id hi, p1 id hi]; exact e1, by rw [p1 id hi]; exact e2⟩
        · rw [(q2 id hi).2] at e1; exact (excl_none e1).elim
  have ext : ∀ x z, relVal φ' (upds (objR o F) u) (immB (Xr X φ o F) φ' (upds (objR o F) u) w') w' x z → relVal φ'' (upds o u) (immB X φ'' (upds o u) w') w' x z :=
    fun x z hx => relVal_up (fun b hb => (himm b).1 hb) (fun _ _ => rfl) (fun id => by
      by_cases hi : ins id
      · rw [q1 id hi, p1 id hi]; exact Up.same fun _ _ h => h
      · rw [(q2 id hi).2]; trivial) x z hx
  have bl : ∀ id, ¬ ins id → excl (φ id) (o id) = true → w'.heap[(φ id).block]? = w.heap[(φ id).block]? := fun id hi hx =>
    h.frame _ (hm.sep id hx).1 fun ⟨j, j1, j2, j3⟩ => by
      have hj : j ∈ F := Classical.byContradiction fun hf => by rw [objR_out hf] at j2; exact excl_none j2
      rw [objR_in hj] at j2
      have := hm.inj j id j2 hx j3
      exact hi (.inl (this ▸ hj))
  have stays : ∀ b, immB X φ o w b → w'.heap[b]? = w.heap[b]? := fun b hb => h.stays b ((immR b).2 hb)
  have imm : ∀ b, immB X φ o w b → immB X φ'' (upds o u) w' b := fun b hb => (himm b).1 (h.imm b ((immR b).2 hb))
  have ups : ∀ id, Up w w' (φ id) (φ'' id) (o id) (upds o u id) := fun id => by
    by_cases hi : ins id
    · by_cases hf : id ∈ F
      · have := h.up id
        rw [objR_in hf] at this
        rw [p1 id hi, q1 id hi]
        exact this
      · rw [q3 id hi hf]; trivial
    · rw [p2 id hi, (q2 id hi).1]
      exact Up.same fun hx n hr => room_congr (bl id hi hx) hr
  have keeps : ∀ x z, relVal φ o (immB X φ o w) w x z → relVal φ'' (upds o u) (immB X φ'' (upds o u) w') w' x z := fun x z hx => relVal_up imm stays ups x z hx
  refine ⟨⟨fun id => ?_, fun i j hi hj e => ?_, fun i hi => ?_, fun b hb => Nat.lt_of_lt_of_le (hm.xs b hb) h.size, fun id => ?_, fun g t x hg => ext _ _ (h.mem.globs g t x hg)⟩, ext _ _ h.val, ups, h.size, fun b hb hh => ?_, fun id hn hk => ?_, fun id hx => ?_, h.still⟩
  · by_cases hi : ins id
    · rw [q1 id hi]
      exact relObj_keep (fun b hb => (himm b).1 hb) (fun _ _ => rfl) ext (p1 id hi) (fun _ => rfl) (h.mem.objs id)
    · rw [(q2 id hi).1]
      exact relObj_keep imm stays keeps (p2 id hi) (bl id hi) (hm.objs id)
  · by_cases hi' : ins i <;> by_cases hj' : ins j
    · rw [q1 i hi', p1 i hi'] at hi; rw [q1 j hj', p1 j hj'] at hj; rw [p1 i hi', p1 j hj'] at e
      exact h.mem.inj i j hi hj e
    · rw [q1 i hi', p1 i hi'] at hi; rw [(q2 j hj').1, p2 j hj'] at hj; rw [p1 i hi', p2 j hj'] at e
      exact absurd (.inr ⟨j, fun hf => hj' (.inl hf), hj, e.symm⟩) (h.mem.sep i hi).2
    · rw [q1 j hj', p1 j hj'] at hj; rw [(q2 i hi').1, p2 i hi'] at hi; rw [p1 j hj', p2 i hi'] at e
      exact absurd (.inr ⟨i, fun hf => hi' (.inl hf), hi, e⟩) (h.mem.sep j hj).2
    · rw [(q2 i hi').1, p2 i hi'] at hi; rw [(q2 j hj').1, p2 j hj'] at hj; rw [p2 i hi', p2 j hj'] at e
      exact hm.inj i j hi hj e
  · by_cases hi' : ins i
    · rw [q1 i hi', p1 i hi'] at hi; rw [p1 i hi']
      exact ⟨(h.mem.sep i hi).1, fun hx => (h.mem.sep i hi).2 (.inl hx)⟩
    · rw [(q2 i hi').1, p2 i hi'] at hi; rw [p2 i hi']
      exact ⟨Nat.lt_of_lt_of_le (hm.sep i hi).1 h.size, (hm.sep i hi).2⟩
  · by_cases hi : ins id
    · rw [q1 id hi, p1 id hi]; exact h.mem.els id
    · rw [(q2 id hi).1, p2 id hi]; exact hm.els_keep id (fun hx => .same (bl id hi hx)) stays
  · refine h.frame b hb fun ⟨j, j1, j2, j3⟩ => hh ⟨j, j1, ?_, j3⟩
    have hj : j ∈ F := Classical.byContradiction fun hf => by rw [objR_out hf] at j2; exact excl_none j2
    rwa [objR_in hj] at j2
  · by_cases hf : id ∈ F
    · rw [p1 id (.inl hf)]
      exact h.phi id (by rw [objR_in hf]; exact hn) hk
    · exact p2 id fun hi => hi.elim hf hk
  · by_cases hi : ins id
    · rw [q1 id hi, p1 id hi] at hx; rw [p1 id hi]
      rcases h.news id hx with h1 | ⟨j, j1, j2⟩
      · exact .inl h1
      · have hj : j ∈ F := Classical.byContradiction fun hf => by rw [objR_out hf] at j1; exact excl_none j1
        rw [objR_in hj] at j1
        exact .inr ⟨j, j1, j2⟩
    · rw [(q2 id hi).1, p2 id hi] at hx; rw [p2 id hi]
      exact .inr ⟨id, hx, rfl⟩
end
end Ev

