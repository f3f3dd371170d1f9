/- Operations are sound: building, making, appending, storing, copying, comparing.
   A part of a verified evaluator of the model: no statement of its own about the program. -/
import Derived.Test.YtdekfefcpdejkaaGreatDoorEvC
namespace Ev
open Go

section
variable {P : Program} {C : Cx} {X : Nat → Prop} {φ φ' : Nat → Addr} {o o' : Nat → Obj} {w w' : World} {imm imm' : Nat → Prop}

def relPs (φ : Nat → Addr) (o : Nat → Obj) (imm : Nat → Prop) (w : World) : List (Nat × V) → List (Nat × Value) → Prop
  | [], zs => zs = []
  | p :: l, zs => ∃ z r, zs = (p.1, z) :: r ∧ relVal φ o imm w p.2 z ∧ relPs φ o imm w l r

theorem relPs_all (h : ∀ x z, relVal φ o imm w x z → relVal φ' o' imm' w' x z) : ∀ (l : List (Nat × V)) (zs : List (Nat × Value)), relPs φ o imm w l zs → relPs φ' o' imm' w' l zs
  | [], _, h1 => h1
  | _ :: l, _, ⟨a, r, h1, h2, h3⟩ => ⟨a, r, h1, h _ _ h2, relPs_all h l _ h3⟩

theorem setAt_rel {cs vs : List V} {zs ys : List Value} (off : Nat) (h : relVs φ o imm w cs zs) (h' : relVs φ o imm w vs ys) : relVs φ o imm w (setAt cs off vs) (ov zs off ys) := by
  unfold setAt ov
  rw [relVs_len h']
  exact relVs_app (relVs_app (relVs_take off h) h') (relVs_drop _ h)

theorem buildGo_rel {fs : List Field} {places : Array (Nat × Nat)} (hp : ∀ (i : Nat) fd b n, fs[i]? = some fd → kindOf C.P fd.type = some (b, n) → places[i]? = some (fd.offset, n)) :
    ∀ (parts : List (Nat × V)) (zparts : List (Nat × Value)) (cs cs' : List V) (cells : Array Value), relPs φ o imm w parts zparts → relVs φ o imm w cs cells.toList → buildGo C o fs parts cs = some cs' →
      ∃ cells', Instr.fill (places[·]?) cells zparts = some cells' ∧ relVs φ o imm w cs' cells'.toList := by
  intro parts
  induction parts with
  | nil => intro zparts cs cs' cells h1 h2 h; simp [relPs] at h1; subst h1; injection h with h; subst h; exact ⟨cells, rfl, h2⟩
  | cons p r ih =>
    intro zparts cs cs' cells ⟨z, zr, e, h1, h1'⟩ h2 h
    subst e
    simp only [buildGo] at h
    split at h
    · rename_i fd vs h3 h4
      split at h
      · rename_i b n hk
        cases hb : (Nat.beq vs.length n && Nat.ble (fd.offset + n) cs.length) with
        | false => rw [hb] at h; cases h
        | true =>
          rw [hb] at h
          rw [Bool.and_eq_true] at hb
          have hb1 := Nat.eq_of_beq_eq_true hb.1
          have hb2 := Nat.le_of_ble_eq_true hb.2
          obtain ⟨g1, g2⟩ := cellsOk_rel h1 h4
          have l1 := relVs_len g1
          have l2 := relVs_len h2
          simp only [Array.length_toList] at l1 l2
          have := ih zr _ _ (ov cells.toList fd.offset z.cells.toList).toArray h1' (by simpa using setAt_rel fd.offset h2 g1) h
          rw [← fill_cons (places[·]?) cells p.1 z zr (hp _ _ _ _ h3 hk) (by omega) (by omega)] at this
          exact this
      · cases h
    · cases h

theorem elemsGo_rel (hm : MRel C X φ o w) {ei : TypeId} {e : Ty} (hT : TyOk C ei e) :
    ∀ (parts : List (Nat × V)) (zparts : List (Nat × Value)) (l l' : List (den e)) (cells : Array Value), relPs φ o (immB X φ o w) w parts zparts → (∀ p, p ∈ parts → Frozen o p.2) →
      relR (relC (immB X φ o w) w e) l cells.toList → elemsGo lf o e parts l = some l' →
      ∃ cells', Instr.fill (fun i => some (i * csz e, csz e)) cells zparts = some cells' ∧ relR (relC (immB X φ o w) w e) l' cells'.toList ∧ l'.length = l.length := by
  intro parts
  induction parts with
  | nil => intro zparts l l' cells h1 _ h2 h; simp [relPs] at h1; subst h1; injection h with h; subst h; exact ⟨cells, rfl, h2, rfl⟩
  | cons p r ih =>
    intro zparts l l' cells ⟨z, zr, e1, h1, h1'⟩ hf h2 h
    subst e1
    simp only [elemsGo] at h
    split at h
    · rename_i x h3
      cases hb : Nat.blt p.1 l.length with
      | false => rw [hb] at h; cases h
      | true =>
        rw [hb] at h
        have hb1 : p.1 < l.length := Nat.le_of_ble_eq_true hb
        have hr := asDs_rel hm h1 (hf p (List.mem_cons_self ..)) h3
        have hc := relV_cells hT hr
        have l1 := relC_len _ _ _ hc
        have l2 := relR_len h2
        simp only [Array.length_toList] at l1 l2
        have hle : (p.1 + 1) * csz e ≤ l.length * csz e := Nat.mul_le_mul_right _ hb1
        rw [Nat.succ_mul] at hle
        have h4 : relR (relC (immB X φ o w) w e) (l.set p.1 x) (ov cells.toList (p.1 * csz e) z.cells.toList) := by
          have := relR_ov (i := p.1) (m := [x]) (by show p.1 + 1 ≤ l.length; exact hb1) h2 ⟨_, [], (List.append_nil _).symm, hc, rfl⟩
          rw [List.set_eq_take_append_cons_drop, if_pos hb1]
          simpa using this
        obtain ⟨cells', g1, g2, g3⟩ := ih zr _ _ (ov cells.toList (p.1 * csz e) z.cells.toList).toArray h1' (fun q hq => hf q (List.mem_cons_of_mem _ hq)) (by simpa using h4) h
        rw [← fill_cons (fun i => some (i * csz e, csz e)) cells p.1 z zr rfl l1 (by omega)] at g1
        exact ⟨cells', g1, g2, by simpa using g3⟩
    · cases h

theorem elemsGo_frz (ks : List Nat) (e : Ty) : ∀ (parts : List (Nat × V)) (l : List (den e)), elemsGo lf (upds o (frz o ks)) e parts l = elemsGo lf o e parts l := by
  intro parts
  induction parts with
  | nil => intro l; rfl
  | cons p r ih => intro l; simp only [elemsGo, asDs_frz, ih]

theorem lentP_mem : ∀ {parts : List (Nat × V)} {p : Nat × V}, p ∈ parts → ∀ id, id ∈ lentV o p.2 → id ∈ lentP o parts
  | q :: r, p, h, id, hi => by
    rcases List.mem_cons.1 h with rfl | h
    · exact List.mem_append_left _ hi
    · exact List.mem_append_right _ (lentP_mem h id hi)

theorem kindsOk_places : ∀ {fs : List Field}, kindsOk P fs = true → ∃ places, fs.mapM (fun f => (P.info? f.type).map fun i => (f.offset, i.size)) = some places ∧
    ∀ (i : Nat) fd b n, fs[i]? = some fd → kindOf P fd.type = some (b, n) → places[i]? = some (fd.offset, n)
  | [], _ => ⟨[], rfl, fun i fd b n h => by simp at h⟩
  | f :: r, h => by
    simp only [kindsOk] at h
    split at h
    · rename_i bn hk
      obtain ⟨b, n⟩ := bn
      obtain ⟨i, d, g1, g2, _⟩ := kindOf_spec hk
      obtain ⟨places, h1, h2⟩ := kindsOk_places h
      refine ⟨(f.offset, i.size) :: places, ?_, fun j fd b' n' hj hk' => ?_⟩
      · rw [List.mapM_cons, g1, h1]; rfl
      · cases j with
        | zero =>
          simp only [List.getElem?_cons_zero, Option.some.injEq] at hj
          subst hj
          rw [hk] at hk'
          injection hk' with hk'; injection hk' with _ hk'
          simp [g2, hk']
        | succ j => simpa using h2 j fd b' n' (by simpa using hj) hk'
    · cases h

theorem buildPk_ok (hC : CxOk C) (hm : MRel C X φ o w) {t : TypeId} {parts : List (Nat × V)} {zparts : Array (Nat × Value)} {v : V} {u : List (Nat × Obj)}
    (hx : relPs φ o (immB X φ o w) w parts zparts.toList) (h : (buildPk lf C o t parts).gives v u) : Res C X φ o w v u (Instr.build t zparts) := by
  unfold buildPk at h
  split at h
  · rename_i fs hd
    have hu := desc_spec hd
    rw [gives_when] at h
    obtain ⟨hk, h⟩ := h
    obtain ⟨places, hp1, hp2⟩ := kindsOk_places hk
    split at h
    · rename_i cs hcs
      split at h
      · rename_i cs' hb
        rw [gives_now] at h
        obtain ⟨rfl, rfl⟩ := h
        obtain ⟨i, z, k1, k2, rfl⟩ := zeroC_spec hcs
        obtain ⟨cells', g1, g2⟩ := buildGo_rel (places := places.toArray) (by simpa using hp2) _ _ _ _ z.cells hx (relVs_cst _) hb
        refine Res.of_pure hm ⟨rfl, .agg cells', ?_, aggOf_rel hm g2⟩
        have g1' : Instr.fill (fun x => places[x]?) z.cells zparts.toList = some cells' := by simpa using g1
        simp [Instr.build, run_underlying hu, run_zeroValue k1 k2, Array.mapM_eq_mapM_toList, run_places w _ _ hp1, g1']
      · cases h
    · cases h
  · rename_i n ei hd
    have hu := desc_spec hd
    split at h
    · rename_i n' e he
      rw [gives_when] at h
      obtain ⟨hn, h⟩ := h
      split at h
      · rename_i l hg
        rw [gives_now] at h
        obtain ⟨rfl, rfl⟩ := h
        have hT := hC.tab _ _ he
        obtain ⟨i, z, k1, _, k2, k3, k4, k5, k6⟩ := hT.info
        obtain ⟨d, d1, d2, d3⟩ := hT.desc
        rw [hd] at d1
        injection d1 with d1; subst d1
        simp only [descB, Bool.and_eq_true] at d3
        have hE := hC.tab _ _ (is_spec d3.2)
        obtain ⟨ii, zz, m1, _, m2, _⟩ := hE.info
        have hfz := frz_ok hm (lentP o parts)
        obtain ⟨hz1, hz2⟩ := k6 (immB X φ (upds o (frz o (lentP o parts))) w) w
        have hnn := Nat.eq_of_beq_eq_true d3.1
        subst hnn
        rw [← elemsGo_frz (lentP o parts)] at hg
        obtain ⟨cells', g1, g2, g3⟩ := elemsGo_rel hfz.mem hE parts zparts.toList _ l z.cells (relPs_all (fun x z h => hfz.keeps x z h) _ _ hx)
          (fun p hp => frz_frozen (fun id hi => lentP_mem hp id hi)) hz2 hg
        refine ⟨.agg cells', w, φ, ?_, { hfz with val := ?_ }⟩
        · simp [Instr.build, run_underlying hu, run_zeroValue k1 k4, run_sizeOf m1, m2, g1]
        · exact ⟨cells', rfl, g3.trans hz1, g2⟩
      · cases h
    · cases h
  · cases h

/-- Nil slices that are new. -/
theorem Comes.nils (hm : MRel C X φ o w) {ns : List (Nat × Obj)} (hns : ∀ p, p ∈ ns → (∃ e, p.2 = .vec e 0 false ⟨true, []⟩) ∧ o p.1 = .none) {v : V} {z : Value}
    (hval : (∀ y z, relVal φ o (immB X φ o w) w y z → relVal φ (upds o ns) (immB X φ (upds o ns) w) w y z) → relVal φ (upds o ns) (immB X φ (upds o ns) w) w v z) : Comes C X φ φ o ns w w v z := by
  have hkn : ∀ (ns : List (Nat × Obj)) id, id ∈ keysU ns → ∃ p, p ∈ ns ∧ p.1 = id := by
    intro ns
    induction ns with
    | nil => intro id h; cases h
    | cons p r ih =>
      intro id h
      rcases List.mem_cons.1 h with h | h
      · exact ⟨p, List.mem_cons_self .., h.symm⟩
      · obtain ⟨q, h1, h2⟩ := ih id h
        exact ⟨q, List.mem_cons_of_mem _ h1, h2⟩
  have hgn : ∀ id, id ∈ keysU ns → ∃ e, upds o ns id = .vec e 0 false ⟨true, []⟩ := fun id h => nils_get ns _ id (fun p hp => (hns p hp).1) h
  have hon : ∀ id, id ∈ keysU ns → o id = .none := fun id h => by
    obtain ⟨p, h1, h2⟩ := hkn ns _ h
    exact h2 ▸ (hns p h1).2
  have hx : ∀ id a, id ∈ keysU ns → excl a (upds o ns id) = true → False := fun id a hk hx => by
    obtain ⟨e, h⟩ := hgn id hk
    rw [h] at hx; simp [excl, live] at hx
  refine Comes.make hm (Nat.le_refl _) (fun _ _ _ => rfl) (fun _ _ => rfl) (fun _ _ _ => rfl) (fun id hk => ?_) (fun id hk h => (hx id _ hk h).elim) (fun i j hi _ h _ _ _ => (hx i _ hi h).elim) (fun _ _ _ id hk => ?_) (fun id hk => ?_) (fun _ _ h => hval h)
  · rw [hon id hk]; trivial
  · obtain ⟨e, h⟩ := hgn id hk
    rw [h]
    exact ⟨Nat.zero_le _, fun _ => rfl, fun h => by simp at h⟩
  · obtain ⟨e, h⟩ := hgn id hk
    rw [h]
    exact fun _ h => by simp at h

theorem ownAgg_ok (_hm : MRel C X φ o w) {fr : Nat} {t : TypeId} {b : Bool} {p : Pk} {s : Sem Value} (hp : ∀ v u, p.gives v u → Res C X φ o w v u s) {v : V} {u : List (Nat × Obj)}
    (h : (ownAgg C fr t b p).gives v u) (hf : Frees fr o u) : Res C X φ o w v u s := by
  unfold ownAgg at h
  split at h
  · rename_i cs
    cases hb : (b && hasNils cs && Nat.ble (countNils cs) 15) with
    | false =>
      rw [hb] at h
      exact hp v u h
    | true =>
      rw [hb] at h
      simp only [cond_true, gives_now] at h
      obtain ⟨rfl, rfl⟩ := h
      simp only [Bool.and_eq_true] at hb
      have hb := Nat.le_of_ble_eq_true hb.2
      obtain ⟨val, w', φ', g1, g2⟩ := hp _ _ ((gives_now (v := .agg cs) (u := [])).2 ⟨rfl, rfl⟩)
      have sp := fun p hp => (ownNils_spec (φ := φ) (o := o) (imm := immB X φ o w) (w := w) (φ' := φ) (o' := o) (imm' := immB X φ o w) (w' := w) cs (slotsC C 8 t) fr).1 p hp
      refine ⟨val, w', φ', g1, ?_⟩
      have g3 := Comes.trans g2 (v' := .agg (ownNils fr cs (slotsC C 8 t)).1) (z' := val) (Comes.nils (ns := (ownNils fr cs (slotsC C 8 t)).2) g2.mem (fun p hp => ?_) (fun hk => ?_))
      · exact g3
      · obtain ⟨g3, g4, g5⟩ := sp p hp
        exact ⟨g3, hf p hp g4 (by omega)⟩
      · obtain ⟨c, rfl, h1⟩ := g2.val
        exact ⟨c, rfl, (ownNils_spec cs (slotsC C 8 t) fr).2 _ h1 hk fun p hp => nils_get _ _ p.1 (fun q hq => (sp q hq).1) (keysU_mem hp)⟩
  · exact hp v u h

theorem range_flat (z : Array Value) : ∀ n, ((List.range (n * z.size)).map fun j => z[j % z.size]!) = (List.replicate n z.toList).flatten
  | 0 => by simp
  | n + 1 => by
    rw [Nat.succ_mul, Nat.add_comm, List.range_add, List.map_append, List.replicate_succ, List.flatten_cons, ← range_flat z n, List.map_map]
    congr 1
    · apply List.ext_getElem
      · simp
      · intro j h1 h2
        have hj : j < z.size := by simpa using h1
        simp [Nat.mod_eq_of_lt hj, hj]
    · apply List.map_congr_left
      intro j _
      simp [Function.comp]

theorem made_flat (z : Array Value) (n : Nat) : (madeCells z (n * z.size)).toList = (List.replicate n z.toList).flatten := by
  rw [← range_flat]
  simp [madeCells, Array.toList_range]

theorem relR_flat {α : Type} {f : α → List Value → Prop} {x : α} {c : List Value} (h : f x c) : ∀ n, relR f (List.replicate n x) (List.replicate n c).flatten
  | 0 => by simp [relR]
  | n + 1 => by
    rw [List.replicate_succ, List.replicate_succ, List.flatten_cons]
    exact ⟨c, _, rfl, h, relR_flat h n⟩

theorem made_rel {e : Ty} {z : Value} (h3 : ∀ imm w, relC imm w e (zero e) z.cells.toList) (n : Nat) :
    relR (relC imm w e) (List.replicate n (zero e)) (madeCells z.cells (n * csz e)).toList := by
  have := relC_len (imm := imm) (w := w) _ _ _ (h3 imm w)
  simp only [Array.length_toList] at this
  rw [← this, made_flat]
  exact relR_flat (h3 imm w) n

theorem buildSlicePk_ok (hC : CxOk C) (hm : MRel C X φ o w) {fr n : Nat} {t : TypeId} {parts : List (Nat × V)} {zparts : Array (Nat × Value)} {v : V} {u : List (Nat × Obj)}
    (hx : relPs φ o (immB X φ o w) w parts zparts.toList) (h : (buildSlicePk lf C o fr t n parts).gives v u) (hf : Frees fr o u) : Res C X φ o w v u (Instr.buildSlice t n zparts) := by
  unfold buildSlicePk at h
  split at h
  · rename_i e he
    rw [gives_when, Bool.and_eq_true] at h
    obtain ⟨⟨h1, h1'⟩, h⟩ := h
    have h1 := Nat.le_of_ble_eq_true h1
    have h1' : 0 < csz e := Nat.le_of_ble_eq_true h1'
    split at h
    · rename_i l hg
      rw [gives_now] at h
      obtain ⟨rfl, rfl⟩ := h
      obtain ⟨ei, hu, _, he⟩ := elemTy_some he
      have hT := hC.tab _ _ he
      obtain ⟨i, z, k1, _, k2, k3, k4, k5, k6⟩ := hT.info
      have hfz := frz_ok hm (lentP o parts)
      have hfr : o fr = .none := hf (fr, .vec e 0 false ⟨false, l⟩) (List.mem_append_right _ (List.mem_cons_self ..)) (Nat.le_refl _) (by show fr < fr + 16; omega)
      have hfr' : upds o (frz o (lentP o parts)) fr = .none := by
        rcases frz_get (o := o) (lentP o parts) fr with ⟨g1, _⟩ | ⟨_, _, _, _, g1, _⟩
        · rw [g1, hfr]
        · rw [hfr] at g1; cases g1
      rw [← elemsGo_frz (lentP o parts)] at hg
      have hcell : relR (relC (immB X φ (upds o (frz o (lentP o parts))) w) w e) (List.replicate n (zero e)) ((Array.range (n * csz e)).map ((if n * csz e = 0 then #[] else z.cells)[· % (if n * csz e = 0 then #[] else z.cells).size]!)).toList := by
        by_cases hn : n * csz e = 0
        · have : n = 0 := by
            rcases Nat.mul_eq_zero.1 hn with h | h
            · exact h
            · omega
          subst this
          simp [relR]
        · rw [if_neg hn]
          exact made_rel k6 n
      obtain ⟨cells', g1, g2, g3⟩ := elemsGo_rel hfz.mem hT parts zparts.toList _ l _ (relPs_all (fun x z h => hfz.keeps x z h) _ _ hx)
        (fun p hp => frz_frozen (fun id hi => lentP_mem hp id hi)) hcell hg
      have l2 := relR_len g2
      have hln : l.length = n := by rw [g3]; simp
      have hlen : n ≤ n * csz e := Nat.le_mul_of_pos_right n h1'
      refine ⟨.slice (some ⟨w.heap.size, 0, none⟩) l.length n, w.alloc (.cells cells' ei), _, ?_, hfz.trans (new_vec hfz.mem (c := cells') (el := ei) (lo := 0) (hi := 0) (cap := n) (ec := cells'.toList) (rest := []) rfl (up_none hfr') (by simp) g2 ?_ ?_ ?_ (.inl rfl) (u8_under hC he)).1⟩
      · have h5 : ¬ (16777216 < n * csz e) := by omega
        by_cases hn : n * csz e = 0
        · simp only [hn, if_true] at g1
          simp [Instr.buildSlice, run_underlying hu, run_sizeOf k1, k2, hn, hln, newRow] at g1 ⊢
          simp [g1]
        · simp only [if_neg hn] at g1
          simp [Instr.buildSlice, run_underlying hu, run_sizeOf k1, k2, h5, hn, hln, newRow, run_zeroValue k1 k4] at g1 ⊢
          simp [g1]
      · rw [hln] at l2; simpa using l2
      · omega
      · unfold maxL; omega
    · cases h
  · cases h
end
end Ev


namespace Ev
open Go

section
variable {P : Program} {C : Cx} {X : Nat → Prop} {φ φ' : Nat → Addr} {o o' : Nat → Obj} {w w' : World} {imm imm' : Nat → Prop}

theorem mkN_spec {n m : Int} {k : Nat} (h : mkN n m = some k) : 0 ≤ n ∧ n ≤ m ∧ m ≤ 2147483648 ∧ k = n.toNat := by
  unfold mkN at h
  split at h
  · rename_i h0; injection h with h; exact ⟨h0.1, h0.2.1, h0.2.2, h.symm⟩
  · cases h

theorem fit_spec {n : Int} {y : Unit} (h : fit n = some y) : n ≤ 2147483648 := by
  unfold fit at h
  split at h
  · assumption
  · cases h

theorem makeSlicePk_ok (hC : CxOk C) (hm : MRel C X φ o w) {fr : Nat} {t : TypeId} {l c : V} {zl zc : Value} {v : V} {u : List (Nat × Obj)} (hl : relVal φ o (immB X φ o w) w l zl) (hc : relVal φ o (immB X φ o w) w c zc)
    (h : (makeSlicePk lf C fr t l c).gives v u) (hf : Frees fr o u) : Res C X φ o w v u (Instr.makeSlice t zl zc) := by
  unfold makeSlicePk at h
  split at h
  · rename_i e k1 n k2 m he hn hm'
    rw [gives_when, gives_dyn] at h
    obtain ⟨h1, k, h2, h3⟩ := h
    simp only [Prod.mk.injEq] at h3
    obtain ⟨rfl, rfl⟩ := h3
    have hfr : o fr = .none := hf _ (List.mem_cons_self ..) (Nat.le_refl _) (by show fr < fr + 16; omega)
    obtain ⟨rfl, _⟩ := asInt_spec hn hl
    obtain ⟨rfl, _⟩ := asInt_spec hm' hc
    obtain ⟨ei, hu, _, he⟩ := elemTy_some he
    obtain ⟨i, z, g1, _, g2, g3, g4, g5, g6⟩ := (hC.tab _ _ he).info
    obtain ⟨a1, a2, a3, rfl⟩ := mkN_spec h2
    have hmn : m.toNat ≤ 2147483648 := by omega
    have hb : (i.bytes : Int) * m ≤ 281474976710656 := by
      have h7 : (i.bytes : Int) * m ≤ 65536 * m := Int.mul_le_mul_of_nonneg_right (by omega) (by omega)
      omega
    have hrun := run_make (P := C.P) w t ei i z hu g1 g4 k1 k2 n m a1 a2 hb (by omega)
    have hr := relR_split n.toNat (by simp; omega) (made_rel (imm := immB X φ o w) (w := w) g6 m.toNat)
    have e1 : (List.replicate m.toNat (zero e)).take n.toNat = List.replicate n.toNat (zero e) := by
      rw [List.take_replicate, Nat.min_eq_left (by omega)]
    rw [e1] at hr
    have := (new_vec hm (w' := w.alloc (.cells (madeCells z.cells (m.toNat * i.size)) ei)) (c := madeCells z.cells (m.toNat * i.size)) (el := ei) (lo := 0) (hi := 0) (ver := 0) (cap := m.toNat)
      (l := List.replicate n.toNat (zero e)) (rest := (madeCells z.cells (m.toNat * csz e)).toList.drop (n.toNat * csz e)) rfl (up_none hfr) (by rw [g2, List.take_append_drop]) hr.1 (by rw [g2, size_madeCells]) (by simp; omega) (by simp; unfold maxL; omega) (.inl rfl) (u8_under hC he)).1
    rw [List.length_replicate] at this
    exact ⟨_, _, _, hrun, this⟩
  · cases h

theorem isU8_spec {e : TypeId} (h : isU8 C e = true) : C.P.underlying e = some (.int .u8) := by
  unfold isU8 at h
  split at h
  · rename_i hd; exact desc_spec hd
  · cases h

/-- The cells of bytes. -/
theorem u8_cells : ∀ {l : List (den (.int .u8))} {ec : List Value}, relR (relC imm w (.int .u8)) l ec → ec = List.map (Value.int .u8) l ∧ ∀ (n : Int), n ∈ (l : List Int) → 0 ≤ n ∧ n ≤ 255
  | [], ec, h => by
    have h : ec = [] := h
    exact ⟨by rw [h]; rfl, (fun n hn => by cases hn)⟩
  | x :: l, ec, ⟨c, d, e, h1, h2⟩ => by
    obtain ⟨h1, h3⟩ := h1
    obtain ⟨h4, h5⟩ := u8_cells h2
    refine ⟨by rw [e, h1, h4]; rfl, fun n hn => ?_⟩
    rcases List.mem_cons.1 hn with rfl | hn
    · unfold inK IntKind.min IntKind.max at h3
      simp [IntKind.signed, IntKind.bits] at h3
      exact h3
    · exact h5 n hn

theorem bytes_u8 (s : List UInt8) : relR (relC imm w (.int .u8)) (s.map fun b => (b.toNat : Int)) (s.map fun b => Value.int .u8 (b.toNat : Int)) := by
  induction s with
  | nil => rfl
  | cons b s ih =>
    refine ⟨[_], _, rfl, ⟨rfl, ?_⟩, ih⟩
    have := b.toNat_lt
    unfold inK IntKind.min IntKind.max
    simp [IntKind.signed, IntKind.bits]; omega

theorem convertPk_ok (hC : CxOk C) (hm : MRel C X φ o w) {fr : Nat} {s t : TypeId} {x : V} {z : Value} {v : V} {u : List (Nat × Obj)} (hx : relVal φ o (immB X φ o w) w x z)
    (h : (convertPk lf C o fr s t x).gives v u) (hf : Frees fr o u) : Res C X φ o w v u (convert s t z) := by
  have _ := hC
  unfold convertPk at h
  split at h
  · cases h
  · rename_i ds hds
    have hs := desc_spec hds
    split at h
    · rename_i k hdt
      have ht := desc_spec hdt
      split at h
      · rw [gives_now] at h
        obtain ⟨rfl, rfl⟩ := h
        obtain ⟨rfl, _⟩ := rel_int hx
        refine Res.of_pure hm ⟨rfl, _, ?_, mk_int (wrap_in _ _)⟩
        simp [convert, run_underlying hs, run_underlying ht, Conv.intToInt]
        rfl
      · cases h
    · rename_i hdt
      have ht := desc_spec hdt
      split at h
      · rw [gives_now] at h
        obtain ⟨rfl, rfl⟩ := h
        refine Res.of_pure hm ⟨rfl, z, ?_, hx⟩
        obtain ⟨s', rfl, _, _⟩ := rel_str hx
        simp [convert, run_underlying hs, run_underlying ht]
      · split at h
        · rename_i e
          rw [gives_when, Bool.and_eq_true] at h
          obtain ⟨⟨h1, _⟩, h⟩ := h
          have he := isU8_spec h1
          split at h
          · rename_i sl hsl
            rw [gives_now] at h
            obtain ⟨rfl, rfl⟩ := h
            obtain ⟨g1, g2⟩ := reads_asD hm.objs hx hsl
            rcases g2 with ⟨_, g3, rfl⟩ | ⟨_, a, cap, ec, rfl, g4, g5, g6, g7⟩
            · refine Res.of_pure hm ⟨rfl, .string .empty, ?_, mk_str (by rw [g3]; rfl) (by unfold maxL; simp)⟩
              rw [run_convert_bytes_string _ _ _ _ _ _ _ hs he ht]
              simp [Conv.bytesToString]
            · obtain ⟨e1, e2⟩ := u8_cells g5
              have hl : (List.map (fun n : Int => UInt8.ofNat n.toNat) sl.l).length = List.length sl.l := by simp
              have back : ∀ n : Int, 0 ≤ n → n ≤ 255 → (((UInt8.ofNat n.toNat).toNat : Nat) : Int) = n := by
                intro n h0 h1
                rw [UInt8.toNat_ofNat', Nat.mod_eq_of_lt (by omega)]
                omega
              have hr := run_convert_bytes_back (P := C.P) w s t e a cap (List.map (fun n : Int => UInt8.ofNat n.toNat) sl.l) hs he ht (fun j hj => by
                have hj' : j < ec.length := by rw [e1]; simpa using hj
                have hc := g6 j hj'
                rw [add_spot g4, hc]
                simp only [e1, List.getElem_map, Option.some.injEq, Value.int.injEq, true_and]
                have hj2 : j < (sl.l : List Int).length := by simpa using hj
                obtain ⟨b1, b2⟩ := e2 (sl.l : List Int)[j] (List.getElem_mem hj2)
                exact (back _ b1 b2).symm)
              rw [hl] at hr
              refine Res.of_pure hm ⟨rfl, _, hr, mk_str ?_ ?_⟩
              · simp only [List.map_map]
                conv => rhs; rw [← List.map_id (l := (sl.l : List Int))]
                apply List.map_congr_left
                intro n hn
                obtain ⟨b1, b2⟩ := e2 n hn
                exact back n b1 b2
              · simpa [ByteArray.size] using g1
          · cases h
        · cases h
    · rename_i e hdt
      have ht := desc_spec hdt
      split at h
      · rename_i l
        split at h
        case h_2 => cases h
        rw [gives_when, gives_dyn] at h
        obtain ⟨h1, y, h2, h3⟩ := h
        simp only [Prod.mk.injEq] at h3
        obtain ⟨rfl, rfl⟩ := h3
        have he := isU8_spec h1
        obtain ⟨b, rfl, rfl, hb⟩ := rel_str hx
        have hfr : o fr = .none := hf _ (List.mem_cons_self ..) (Nat.le_refl _) (by show fr < fr + 16; omega)
        have hfit := fit_spec h2
        have hrun := run_bytes_of_string (P := C.P) w s t e b hs ht he
        have hcap : b.size ≤ grownCap w b.size 0 e := by
          exact Nat.le_add_right _ _
        have e1 : (b.data.toList.map fun c => (c.toNat : Int)).length = b.size := by simp
        have := (new_vec hm (w' := w.drew.alloc (.cells (bytesRow b (grownCap w b.size 0 e)) e ((bytesRow b (grownCap w b.size 0 e)).size, (bytesRow b (grownCap w b.size 0 e)).size + 1)))
          (l := b.data.toList.map fun c => (c.toNat : Int)) (e := .int .u8) (ver := 0) (cap := grownCap w b.size 0 e) (ec := b.data.toList.map fun c => Value.int .u8 (c.toNat : Int)) (rest := List.replicate (grownCap w b.size 0 e - b.size) (.int .u8 0))
          rfl (up_none hfr) (by simp [bytesRow]) (bytes_u8 _) (by simp [bytesRow, csz]; omega) (by rw [e1]; exact hcap) (by rw [e1]; exact hb) (.inr (Nat.le_refl _)) (fun _ => he)).1
        rw [e1] at this
        exact ⟨_, _, _, hrun, this⟩
      · rename_i id ver
        split at h
        · rename_i e'
          split at h
          · rename_i ver' b ho
            rw [gives_when, gives_dyn, Bool.and_eq_true, Bool.and_eq_true] at h
            obtain ⟨⟨⟨h1, hst⟩, hvv⟩, y, h2, h3⟩ := h
            simp only [Prod.mk.injEq] at h3
            obtain ⟨rfl, rfl⟩ := h3
            have he := isU8_spec h1
            have hst := Nat.eq_of_beq_eq_true hst
            have hvv := Nat.eq_of_beq_eq_true hvv
            subst hst hvv
            have hee : e' = e := by
              rw [hs] at ht
              injection ht with ht; injection ht
            subst hee
            have hn : b.nil = false := by
              have h2 : cnd b.nil none (some ()) = some y := h2
              cases hb : b.nil with
              | false => rfl
              | true => rw [hb] at h2; cases h2
            have hobj := hm.objs id
            have hels := hm.els id
            unfold relVal at hx
            rw [ho] at hx hobj hels
            obtain ⟨b1, b2, b3⟩ := hobj
            obtain ⟨b4, ec, b5, b6, b7, b8, _⟩ := (b3 hn).resolve_right fun g => g.2.2 rfl
            obtain ⟨c, el, fz, r1, hu8, hfz⟩ := hels rfl hn
            rcases hx.2 rfl with ⟨hn', _⟩ | ⟨_, cap, rfl, k1, k2, k3⟩
            · rw [hn] at hn'; cases hn'
            · obtain ⟨lo, hi⟩ := fz
              have hex : excl (φ id) (o id) = true := by rw [ho]; exact excl_vec hn b4
              generalize hw2 : w.freeze ⟨(φ id).block, c.size, none⟩ 1 = w2
              have hrow : ∃ hi', w2.heap[(φ id).block]? = some (.cells c el (c.size, hi')) := by
                rw [← hw2]
                simp only [World.freeze, Nat.one_ne_zero, if_false, Array.getElem?_modify, if_true, r1, Option.map_some]
                by_cases hlh : lo = hi
                · subst hlh
                  exact ⟨_, by simp; rfl⟩
                · have : c.size ≤ lo := hfz.resolve_left hlh
                  refine ⟨max hi (c.size + 1), ?_⟩
                  have hb : (lo == hi) = false := by simpa using hlh
                  simp [hb, Nat.min_eq_right this]
              obtain ⟨hi', hrow⟩ := hrow
              have hoth : ∀ b', b' ≠ (φ id).block → w2.heap[b']? = w.heap[b']? := fun b' hb' => by
                rw [← hw2]
                simp only [World.freeze, Nat.one_ne_zero, if_false, Array.getElem?_modify]
                rw [if_neg fun e => hb' e.symm]
              have hsz : w2.heap.size = w.heap.size := by rw [← hw2]; simp [World.freeze]
              have hroom : ∀ n, room w (φ id) n → room w2 (φ id) n := fun n ⟨c', el', lo', hi2, q1, q2, q3⟩ => by
                rw [r1] at q1
                injection q1 with q1; injection q1 with q4 q5 q6
                subst q4 q5
                exact ⟨c, el, c.size, hi', hrow, q2, .inr (.inr q2)⟩
              have hcells : cellsAt w2 (φ id) ec := fun j hj => by
                have := b6 j hj
                unfold World.cell? at this ⊢
                simp only [r1] at this
                simp only [hrow]
                exact this
              have hsh : w.shape? (bare (φ id)).block = some (el, c.size) := by
                have : w.heap[(bare (φ id)).block]? = some (.cells c el (lo, hi)) := r1
                rw [World.shape?, this]
              have hrun : (convert s s (.slice (some (bare (φ id))) b.l.length cap)).run C.P w = .ok (.slice (some (bare (φ id))) b.l.length cap) w2 := by
                rw [← hw2]
                simp [convert, run_underlying hs, run_underlying he, markStringish, hsh, freeze]
                rfl
              refine ⟨_, w2, φ, hrun, Comes.write hm _ (fun _ => hex) hsz (fun b' hb' => hoth b' fun e => hb' ⟨hex, e.symm⟩) ?_ (fun a1 a2 a3 => ?_) (fun _ _ => ⟨c, el, (c.size, hi'), hrow, hu8, .inr (Nat.le_refl _)⟩) (fun hid => ?_) (by rw [← hw2]; exact ⟨rfl, rfl⟩)⟩
              · rw [ho]
                exact .inr ⟨rfl, rfl, rfl, rfl, rfl, fun _ => ⟨rfl, fun _ _ n hr => hroom n hr⟩⟩
              · exact ⟨b1, b2, fun _ => .inl ⟨b4, ec, relR_mono (relC_mono a1 a2 _) b5, hcells, hroom _ b7, fun _ => hroom _ (b8 rfl), by simp⟩⟩
              · unfold relVal
                rw [hid]
                exact ⟨Nat.le_refl _, fun _ => .inr ⟨hn, cap, rfl, k1, k2, fun h1 h2 => hroom _ (k3 h1 h2)⟩⟩
          · cases h
        · cases h
      · cases h
    · cases h

/-! Appending, copying. -/
theorem relC_u8 {e : Ty} {l : List Int} {m : List (den e)} (h : asTy (.arr 0 e) (.arr 0 (.int .u8)) l = some m) : ∃ h : Ty.int .u8 = e, m = h ▸ l := by
  obtain ⟨h1, h2⟩ := asTy_some h
  injection h1 with _ h1
  subst h1
  exact ⟨rfl, h2⟩

/-- What is appended: its elements, as they are read. -/
theorem more_spec (hm : MRel C X φ o w) {e : Ty} {y : V} {zy : Value} {m : List (den e)} (hy : relVal φ o (immB X φ o w) w y zy) (h : moreOf lf o e y = some m) :
    ∃ news, relR (relC (immB X φ o w) w e) m news ∧ m.length ≤ maxL ∧ (∀ w' : World, (Builtin.lenOf zy).run P w' = .ok m.length w') ∧
      (∀ (w' : World) k, w'.heap = w.heap → k ≤ m.length → (Builtin.firstCells (csz e) k zy).run P w' = .ok (news.take (k * csz e)).toArray w') := by
  have cell : ∀ (w' : World) (a : Addr), w'.heap = w.heap → w'.cell? a = w.cell? a := fun w' a h => by unfold World.cell?; rw [h]
  by_cases hs : ∃ l, y = .d .str l
  · obtain ⟨l, rfl⟩ := hs
    obtain ⟨h1, h2⟩ := relC_u8 h
    subst h1 h2
    obtain ⟨b, rfl, rfl, hb⟩ := rel_str hy
    refine ⟨_, bytes_u8 _, by simpa using hb, fun w' => by simp [Builtin.lenOf], fun w' k _ hk => ?_⟩
    have hk : k ≤ b.size := by simpa using hk
    simp only [Builtin.firstCells, csz, Nat.mul_one, Sem.run_pure]
    congr 1
    apply Array.toList_inj.1
    simp
  · have h : ∃ s, asD lf o (.sl e) y = some s ∧ m = s.l := by
      have : moreOf lf o e y = (match asD lf o (.sl e) y with | some s => some s.l | none => none) := by
        cases y <;> try rfl
        rename_i t d
        cases t <;> first | rfl | exact absurd ⟨_, rfl⟩ hs
      rw [this] at h
      split at h
      · rename_i s e1; injection h with h; exact ⟨s, e1, h.symm⟩
      · cases h
    obtain ⟨s, h1, rfl⟩ := h
    obtain ⟨g1, g2⟩ := reads_asD hm.objs hy h1
    rcases g2 with ⟨_, g3, rfl⟩ | ⟨_, a, cap, ec, rfl, g4, g5, g6, g7⟩
    · refine ⟨[], by rw [g3]; rfl, g1, fun w' => by simp [Builtin.lenOf, g3], fun w' k _ hk => by simp [Builtin.firstCells]⟩
    · refine ⟨ec, g5, g1, fun w' => by simp [Builtin.lenOf], fun w' k hw hk => ?_⟩
      have hl := relR_len g5
      have hle : k * csz e ≤ ec.length := by rw [hl]; exact Nat.mul_le_mul_right _ hk
      refine run_firstCells_some w' _ _ _ _ _ _ (by simp; omega) (fun j v hj => ?_)
      rw [cell _ _ hw, add_spot g4]
      obtain ⟨hj1, hj2⟩ := List.getElem?_eq_some_iff.1 hj
      have := g6 j (by simp at hj1; omega)
      rw [this, ← hj2]
      simp

theorem size_zc (z : Array Value) (n : Nat) : (Builtin.zeroCells z n).size = n * z.size := size_zeroCells z n
end
end Ev


namespace Ev
open Go

theorem ov_get (l ds : List Value) (k j : Nat) (hk : k ≤ l.length) : (ov l k ds)[j]? = if j < k then l[j]? else if j < k + ds.length then ds[j - k]? else l[j]? := by
  unfold ov
  by_cases h1 : j < k
  · rw [if_pos h1, List.append_assoc, List.getElem?_append_left (by simp; omega), List.getElem?_take, if_pos h1]
  · rw [if_neg h1, List.append_assoc, List.getElem?_append_right (by simp; omega)]
    have e : (l.take k).length = k := by simp [Nat.min_eq_left hk]
    rw [e]
    by_cases h2 : j < k + ds.length
    · rw [if_pos h2, List.getElem?_append_left (by omega)]
    · rw [if_neg h2, List.getElem?_append_right (by omega), List.getElem?_drop]
      congr 1; omega

section
variable {P : Program} {C : Cx} {X : Nat → Prop} {φ φ' : Nat → Addr} {o o' : Nat → Obj} {w w' : World} {imm imm' : Nat → Prop}

theorem cellsAt_iff {a : Addr} {cs : List Value} : cellsAt w a cs ↔ ∀ j v, cs[j]? = some v → w.cell? ⟨a.block, a.off + j, none⟩ = some v := by
  constructor
  · intro h j v hj
    obtain ⟨h1, h2⟩ := List.getElem?_eq_some_iff.1 hj
    rw [h j h1, h2]
  · intro h j hj
    exact h j _ (List.getElem?_eq_getElem hj)

/-- What is written is there. -/
theorem cellsAt_ov {a : Addr} {ec ds : List Value} {k : Nat} {c : Array Value} {el : TypeId} {fz : Nat × Nat} (hh : w.heap[a.block]? = some (.cells c el fz)) (h : cellsAt w a ec) (hk : k ≤ ec.length)
    (hb : a.off + k + ds.length ≤ c.size) : cellsAt (w.setRow a.block (ov c.toList (a.off + k) ds).toArray) a (ov ec k ds) := by
  rw [cellsAt_iff] at h ⊢
  intro j v hj
  simp only [World.cell?, setRow_block hh, Option.isSome_none, Bool.false_eq_true, if_false, List.getElem?_toArray]
  rw [ov_get _ _ _ _ hk] at hj
  rw [ov_get _ _ _ _ (by simp; omega)]
  by_cases h1 : j < k
  · rw [if_pos h1] at hj
    rw [if_pos (by omega)]
    have := h j v hj
    simpa [World.cell?, hh] using this
  · rw [if_neg h1] at hj
    rw [if_neg (by omega)]
    by_cases h2 : j < k + ds.length
    · rw [if_pos h2] at hj
      rw [if_pos (by omega), ← hj]
      congr 1; omega
    · rw [if_neg h2] at hj
      rw [if_neg (by omega)]
      have := h j v hj
      simpa [World.cell?, hh] using this

def sliceStr (P : Program) (u : TypeId) : Prop := (∃ e, P.underlying u = some (.slice e)) ∨ P.underlying u = some .string

theorem run_append_in {t u ty ei : TypeId} {ts : List TypeId} {i : TypeInfo} (ht : P.underlying t = some (.slice ei)) (hu : sliceStr P u) (hi : P.info? ei = some i)
    {b off n cap m lo hi' : Nat} {zy : Value} {news : List Value} {cur : Array Value} {el : TypeId} (hn : (Builtin.lenOf zy).run P w = .ok m w) (hf : (Builtin.firstCells i.size m zy).run P w = .ok news.toArray w)
    (hg : w.heap[b]? = some (.cells cur el (lo, hi'))) (hroom : n + m ≤ cap) (hfit : off + n * i.size + news.length ≤ cur.size) (hfz : hi' ≤ lo ∨ hi' ≤ off + n * i.size ∨ off + n * i.size + news.length ≤ lo)
    (h1 : ∀ v ∈ news, v.oneCell' = true) :
    (Builtin.append_ (t :: u :: ts).toArray ty #[.slice (some ⟨b, off, none⟩) n cap, zy]).run P w =
      .ok (.slice (some ⟨b, off, none⟩) (n + m) cap) (w.setRow b (ov cur.toList (off + n * i.size) news).toArray) := by
  have hst := run_storeCells_ov (P := P) (b := b) (off := off + n * i.size) news 0 cur w hg hfit hfz h1
  simp only [Nat.add_zero] at hst
  have hadd : (⟨b, off, none⟩ : Addr).add (n * i.size) = ⟨b, off + n * i.size, none⟩ := add_spot rfl _
  rcases hu with ⟨e, hu⟩ | hu <;>
  simp [Builtin.append_, run_underlying ht, run_underlying hu, run_sizeOf hi, hn, hroom, hf, hadd, hst]

theorem run_append_zero {t u ty ei : TypeId} {ts : List TypeId} {i : TypeInfo} (ht : P.underlying t = some (.slice ei)) (hu : sliceStr P u) (hi : P.info? ei = some i)
    {zy : Value} {cs : Array Value} (hn : (Builtin.lenOf zy).run P w = .ok 0 w) (hf : (Builtin.firstCells i.size 0 zy).run P w = .ok cs w) :
    (Builtin.append_ (t :: u :: ts).toArray ty #[.slice none 0 0, zy]).run P w = .ok (.slice none 0 0) w := by
  rcases hu with ⟨e, hu⟩ | hu <;>
  simp [Builtin.append_, run_underlying ht, run_underlying hu, run_sizeOf hi, hn, hf]

theorem run_append_none {t u ty ei : TypeId} {ts : List TypeId} {i : TypeInfo} (ht : P.underlying t = some (.slice ei)) (hu : sliceStr P u) (hi : P.info? ei = some i)
    {base : Addr} {n cap : Nat} {zy : Value} (hn : (Builtin.lenOf zy).run P w = .ok 0 w) (hf : (Builtin.firstCells i.size 0 zy).run P w = .ok ([] : List Value).toArray w) (hc : n ≤ cap) :
    (Builtin.append_ (t :: u :: ts).toArray ty #[.slice (some base) n cap, zy]).run P w = .ok (.slice (some base) n cap) w := by
  rcases hu with ⟨e, hu⟩ | hu <;>
  simp [Builtin.append_, run_underlying ht, run_underlying hu, run_sizeOf hi, hn, hf, hc, storeCells]

theorem run_append_out {t u ty ei : TypeId} {ts : List TypeId} {i : TypeInfo} {z : Value} (ht : P.underlying t = some (.slice ei)) (hu : sliceStr P u) (hi : P.info? ei = some i) (hz : i.zero = some z)
    {base : Option Addr} {n cap m : Nat} {zy : Value} {olds news : List Value} (hn : (Builtin.lenOf zy).run P w = .ok m w) (hf : (Builtin.firstCells i.size m zy).run P w.drew = .ok news.toArray w.drew)
    (hfo : (Builtin.firstCells i.size n (.slice base n cap)).run P w.drew = .ok olds.toArray w.drew) (hg : cap < n + m) (h31 : n + m ≤ 2147483648) (hby : i.bytes ≤ 65536) :
    (Builtin.append_ (t :: u :: ts).toArray ty #[.slice base n cap, zy]).run P w =
      .ok (.slice (some ⟨w.heap.size, 0, none⟩) (n + m) (grownCap w (n + m) cap ei)) (w.drew.alloc (.cells (olds.toArray ++ news.toArray ++ Builtin.zeroCells z.cells (grownCap w (n + m) cap ei - (n + m))) ei)) := by
  have hn' : ¬ (n + m ≤ cap) := by omega
  have h63' : ¬ (9223372036854775807 < ((n : Int) + (m : Int))) := by omega
  have h48 : (n + m) * i.bytes ≤ 140737488355328 := Nat.le_trans (Nat.mul_le_mul h31 hby) (by omega)
  have h48' : ¬ (281474976710656 < Builtin.nextslicecap (n + m) cap * i.bytes) := by have := growslice_fits hg h48; omega
  rcases hu with ⟨e, hu⟩ | hu
  · simp [Builtin.append_, run_underlying ht, run_underlying hu, run_sizeOf hi, run_zeroValue hi hz, typeInfo, hi, hn, hn', h63', h48', Question.forced, hf, hfo, newRow, grownCap]
    congr 2
    apply Array.ext'
    simp [List.append_assoc]
  · simp [Builtin.append_, run_underlying ht, run_underlying hu, run_sizeOf hi, run_zeroValue hi hz, typeInfo, hi, hn, hn', h63', h48', Question.forced, hf, hfo, newRow, grownCap]
    congr 2
    apply Array.ext'
    simp [List.append_assoc]
end
end Ev


namespace Ev
open Go

section
variable {P : Program} {C : Cx} {X : Nat → Prop} {φ φ' : Nat → Addr} {o o' : Nat → Obj} {w w' : World} {imm imm' : Nat → Prop}

theorem room_setRow {a : Addr} {n off : Nat} {c : Array Value} {el : TypeId} {fz : Nat × Nat} {ds : List Value} (hh : w.heap[a.block]? = some (.cells c el fz)) (hb : off + ds.length ≤ c.size)
    (h : room w a n) : room (w.setRow a.block (ov c.toList off ds).toArray) a n := by
  obtain ⟨c', el', lo, hi, h1, h2, h3⟩ := h
  rw [hh] at h1
  injection h1 with h1; injection h1 with h1 h4 h5
  subst h1 h4 h5
  refine ⟨_, _, lo, hi, setRow_block hh _, ?_, h3⟩
  have := ov_length c.toList off ds (by simpa using hb)
  simp at this ⊢
  omega

theorem moreIs_spec {u : TypeId} (h : moreIs C u = true) : sliceStr C.P u := by
  unfold moreIs at h
  split at h
  · rename_i e hd; exact .inl ⟨e, desc_spec hd⟩
  · rename_i hd; exact .inr (desc_spec hd)
  · cases h

/-- What is appended finds no room: a new row. -/
theorem append_grow (hC : CxOk C) (hm : MRel C X φ o w) {t u ty ei : TypeId} {ts : List TypeId} {e : Ty} (he : C.ty ei = some e) (ht : C.P.underlying t = some (.slice ei)) (hu : sliceStr C.P u)
    {tid v' : Nat} {l m : List (den e)} {zx zy : Value} (hup : ∀ w' a' s, Up w w' (φ tid) a' (o tid) (.vec e v' false s))
    {news : List Value} (hr : relR (relC (immB X φ o w) w e) m news) (hlen : ∀ w' : World, (Builtin.lenOf zy).run C.P w' = .ok m.length w')
    (hfc : ∀ (w' : World) k, w'.heap = w.heap → k ≤ m.length → (Builtin.firstCells (csz e) k zy).run C.P w' = .ok (news.take (k * csz e)).toArray w') (hfit : l.length + m.length ≤ 2147483648)
    {base : Option Addr} {n cap : Nat} {olds : List Value} (hn : n = l.length) (hg : cap < n + m.length) (hzx : zx = .slice base n cap) (hro : relR (relC (immB X φ o w) w e) l olds)
    (hfo : (Builtin.firstCells (csz e) n zx).run C.P w.drew = .ok olds.toArray w.drew) :
    Res C X φ o w (.osl tid v') [(tid, .vec e v' false ⟨false, l ++ m⟩)] (Builtin.append_ (t :: u :: ts).toArray ty #[zx, zy]) := by
  obtain ⟨i, z, k1, _, k2, k3, k4, k5, k6⟩ := (hC.tab _ _ he).info
  have hzs : z.cells.size = csz e := by
    have := relC_len (imm := immB X φ o w) (w := w) _ _ _ (k6 _ w)
    simpa using this
  have nl' := relR_len hr
  have hml : (news.take (m.length * csz e)) = news := by rw [← nl', List.take_length]
  have hfull : ∀ w' : World, w'.heap = w.heap → (Builtin.firstCells i.size m.length zy).run C.P w' = .ok news.toArray w' := fun w' h => by
    have := hfc w' m.length h (Nat.le_refl _)
    rw [hml, ← k2] at this
    exact this
  subst hzx
  rw [← k2] at hfo
  have hrun := run_append_out (ts := ts) (ty := ty) (w := w) ht hu k1 k4 (hlen w) (hfull w.drew rfl) hfo hg (by omega) k3
  have hgc : n + m.length ≤ grownCap w (n + m.length) cap ei := Nat.le_add_right _ _
  have lo' := relR_len hro
  have := (new_vec hm (fr := tid) (ver := v') (w' := w.drew.alloc (.cells (olds.toArray ++ news.toArray ++ Builtin.zeroCells z.cells (grownCap w (n + m.length) cap ei - (n + m.length))) ei)) (lo := 0) (hi := 0) (e := e) (l := l ++ m)
    (cap := grownCap w (n + m.length) cap ei) (ec := olds ++ news) (rest := (Builtin.zeroCells z.cells (grownCap w (n + m.length) cap ei - (n + m.length))).toList)
    (c := olds.toArray ++ news.toArray ++ Builtin.zeroCells z.cells (grownCap w (n + m.length) cap ei - (n + m.length))) rfl (fun w' => hup w' _ _) (by simp) (relR_append hro hr)
    (by
      simp only [Array.size_append, List.size_toArray, size_zeroCells, hzs, lo', nl', ← hn]
      rw [← Nat.add_mul, ← Nat.add_mul]
      congr 1; omega)
    (by rw [List.length_append, ← hn]; exact hgc) (by rw [List.length_append]; unfold maxL; omega) (.inl rfl) (u8_under hC he)).1
  rw [List.length_append, ← hn] at this
  exact ⟨_, _, _, hrun, this⟩

theorem append_core (hC : CxOk C) (hm : MRel C X φ o w) {t u ty ei : TypeId} {ts : List TypeId} {e : Ty} (he : C.ty ei = some e) (ht : C.P.underlying t = some (.slice ei)) (hu : sliceStr C.P u)
    {tid v' : Nat} {nl : Bool} {l m : List (den e)} {zx zy : Value} (hup : ∀ w' a' s, Up w w' (φ tid) a' (o tid) (.vec e v' false s))
    (hx : (nl = true ∧ l = [] ∧ zx = .slice none 0 0) ∨ (nl = false ∧ ∃ n cap ver s, o tid = .vec e ver false s ∧ s.nil = false ∧ n = l.length ∧ n ≤ s.l.length ∧ l = s.l.take n ∧
      zx = .slice (some (bare (φ tid))) n cap ∧ n ≤ cap ∧ ((φ tid).spot.isSome = true → cap = 0) ∧ ((φ tid).spot = none → room w (φ tid) (cap * csz e))))
    {news : List Value} (hr : relR (relC (immB X φ o w) w e) m news) (hlen : ∀ w' : World, (Builtin.lenOf zy).run C.P w' = .ok m.length w')
    (hfc : ∀ (w' : World) k, w'.heap = w.heap → k ≤ m.length → (Builtin.firstCells (csz e) k zy).run C.P w' = .ok (news.take (k * csz e)).toArray w') (hfit : l.length + m.length ≤ 2147483648) :
    Res C X φ o w (.osl tid v') [(tid, .vec e v' false ⟨andB nl (isE m), l ++ m⟩)] (Builtin.append_ (t :: u :: ts).toArray ty #[zx, zy]) := by
  obtain ⟨i, z, k1, _, k2, k3, k4, k5, k6⟩ := (hC.tab _ _ he).info
  have hzs : z.cells.size = csz e := by
    have := relC_len (imm := immB X φ o w) (w := w) _ _ _ (k6 _ w)
    simpa using this
  have nl' := relR_len hr
  have hml : (news.take (m.length * csz e)) = news := by rw [← nl', List.take_length]
  have hfull : ∀ w' : World, w'.heap = w.heap → (Builtin.firstCells i.size m.length zy).run C.P w' = .ok news.toArray w' := fun w' h => by
    have := hfc w' m.length h (Nat.le_refl _)
    rw [hml, ← k2] at this
    exact this
  have grow : ∀ (base : Option Addr) (n cap : Nat) (olds : List Value), n = l.length → cap < n + m.length → zx = .slice base n cap → relR (relC (immB X φ o w) w e) l olds →
      (Builtin.firstCells i.size n zx).run C.P w.drew = .ok olds.toArray w.drew → andB nl (isE m) = false →
      Res C X φ o w (.osl tid v') [(tid, .vec e v' false ⟨andB nl (isE m), l ++ m⟩)] (Builtin.append_ (t :: u :: ts).toArray ty #[zx, zy]) := by
    intro base n cap olds hn hg hzx hro hfo hnl
    subst hzx
    have hrun := run_append_out (ts := ts) (ty := ty) (w := w) ht hu k1 k4 (hlen w) (hfull w.drew rfl) hfo hg (by omega) k3
    have hgc : n + m.length ≤ grownCap w (n + m.length) cap ei := Nat.le_add_right _ _
    have lo' := relR_len hro
    have := (new_vec hm (fr := tid) (ver := v') (w' := w.drew.alloc (.cells (olds.toArray ++ news.toArray ++ Builtin.zeroCells z.cells (grownCap w (n + m.length) cap ei - (n + m.length))) ei)) (lo := 0) (hi := 0) (e := e) (l := l ++ m)
      (cap := grownCap w (n + m.length) cap ei) (ec := olds ++ news) (rest := (Builtin.zeroCells z.cells (grownCap w (n + m.length) cap ei - (n + m.length))).toList)
      (c := olds.toArray ++ news.toArray ++ Builtin.zeroCells z.cells (grownCap w (n + m.length) cap ei - (n + m.length))) rfl (fun w' => hup w' _ _) (by simp) (relR_append hro hr)
      (by
        simp only [Array.size_append, List.size_toArray, size_zeroCells, hzs, lo', nl', ← hn]
        rw [← Nat.add_mul, ← Nat.add_mul]
        congr 1; omega)
      (by rw [List.length_append, ← hn]; exact hgc) (by rw [List.length_append]; unfold maxL; omega) (.inl rfl) (u8_under hC he)).1
    rw [List.length_append, ← hn] at this
    rw [hnl]
    exact ⟨_, _, _, hrun, this⟩
  rcases hx with ⟨rfl, rfl, rfl⟩ | ⟨rfl, n, cap, ver, s, ho, hsn, hn, hns, hl, rfl, hcap, hcl, hroom⟩
  · cases hmm : m with
    | nil =>
      subst hmm
      have hrun := run_append_zero (ts := ts) (ty := ty) (w := w) ht hu k1 (hlen w) (hfull w rfl)
      refine ⟨_, w, φ, hrun, ?_⟩
      refine Comes.write hm _ (by simp [excl, live, andB, isE]) rfl (fun _ _ => rfl) (hup w (φ tid) _) (fun _ _ _ => ⟨by simp, fun _ => rfl, fun h => by simp [andB, isE] at h⟩) (fun _ h => by simp [andB, isE] at h) (fun hid => ?_)
      unfold relVal
      rw [hid]
      exact ⟨Nat.le_refl _, fun _ => .inl ⟨rfl, rfl⟩⟩
    | cons y r =>
      rw [← hmm]
      exact grow none 0 0 [] rfl (by rw [hmm]; simp) rfl rfl (run_firstCells_none (P := C.P) w.drew i.size 0 0 0) (by rw [hmm]; rfl)
  · have hobj := hm.objs tid
    rw [ho] at hobj
    obtain ⟨g1, g2, g3⟩ := hobj
    rcases g3 hsn with ⟨g4, ec, g5, g6, g7, g8, _⟩ | ⟨g4, c1, c3⟩
    · have hex : excl (φ tid) (o tid) = true := by rw [ho]; exact excl_vec hsn g4
      have hsp := relR_split n hns g5
      have hec := relR_len g5
      have hle : n * csz e ≤ ec.length := by rw [hec]; exact Nat.mul_le_mul_right _ hns
      have hro : relR (relC (immB X φ o w) w e) l (ec.take (n * csz e)) := by rw [hl]; exact hsp.1
      by_cases hc : n + m.length ≤ cap
      · obtain ⟨c, el, lo, hi, r1, r2, r3⟩ := hroom g4
        have hmul : n * csz e + m.length * csz e ≤ cap * csz e := by rw [← Nat.add_mul]; exact Nat.mul_le_mul_right _ hc
        have hrun := run_append_in (ts := ts) (ty := ty) (w := w) (b := (φ tid).block) (off := (φ tid).off) (n := n) (cap := cap) (m := m.length) ht hu k1 (hlen w) (hfull w rfl) r1 hc (by rw [k2, nl']; omega) (by rw [k2, nl']; omega) (relR_one hr)
        rw [k2] at hrun
        have hnn : andB false (isE m) = false := rfl
        rw [hnn]
        have hlm : (l ++ m).length = n + m.length := by rw [List.length_append, ← hn]
        have hfits : (φ tid).off + n * csz e + news.length ≤ c.size := by rw [nl']; omega
        refine ⟨_, _, φ, hrun, ?_⟩
        have hrr : ∀ k, k ≤ cap * csz e → room (w.setRow (φ tid).block (ov c.toList ((φ tid).off + n * csz e) news).toArray) (φ tid) k := fun k hk =>
          room_setRow r1 hfits ⟨c, el, lo, hi, r1, by omega, by omega⟩
        refine Comes.write hm _ (fun _ => hex) (by simp) (fun b hb => setRow_other w _ b _ (fun e => hb ⟨hex, e.symm⟩)) (hup _ _ _) (fun h1 h2 h3 => ?_) (els_write hm ho hsn (.ov r1 hfits)) (fun hid => ?_)
        · refine ⟨by rw [hlm]; unfold maxL; omega, by simp, fun _ => .inl ⟨g4, ec.take (n * csz e) ++ news, relR_mono (relC_mono h1 h2 e) (relR_append hro hr), ?_, hrr 0 (Nat.zero_le _), fun _ => hrr _ ?_, by simp⟩⟩
          · have := cellsAt_ov (k := n * csz e) (ds := news) r1 (cellsAt_take (n * csz e) g6) (by simp [hle]) hfits
            have e1 : ov (ec.take (n * csz e)) (n * csz e) news = ec.take (n * csz e) ++ news := by
              unfold ov
              rw [List.take_take, Nat.min_self, List.drop_eq_nil_of_le (by simp; omega), List.append_nil]
            rw [e1] at this
            exact this
          · rw [hlm]; exact Nat.mul_le_mul_right _ hc
        · unfold relVal
          rw [hid]
          refine ⟨Nat.le_refl _, fun _ => .inr ⟨rfl, cap, (by rw [hlm]; rfl), (by rw [hlm]; exact hc), (fun h => by rw [g4] at h; cases h), fun _ _ => hrr _ (Nat.le_refl _)⟩⟩
      · have hfo : (Builtin.firstCells i.size n (.slice (some (bare (φ tid))) n cap)).run C.P w.drew = .ok (ec.take (n * csz e)).toArray w.drew := by
          refine run_firstCells_some w.drew i.size n (bare (φ tid)) n cap _ (by rw [k2]; simp; omega) (fun j v hj => ?_)
          rw [add_spot (a := bare (φ tid)) rfl]
          exact cellsAt_iff.1 (cellsAt_take _ g6) j v hj
        exact grow (some (bare (φ tid))) n cap _ hn (by omega) rfl hro hfo rfl
    · have hcap0 : cap = 0 := hcl (by cases h : (φ tid).spot with
        | none => exact absurd h g4
        | some _ => rfl)
      have hn0 : n = 0 := by omega
      have hl0 : l = [] := List.eq_nil_of_length_eq_zero (by omega)
      subst hl0
      cases hmm : m with
      | nil =>
        subst hmm
        have hnews : news = [] := List.eq_nil_of_length_eq_zero (by rw [nl']; simp)
        subst hnews
        have hrun := run_append_none (ts := ts) (ty := ty) (w := w) (base := bare (φ tid)) (n := n) (cap := cap) ht hu k1 (hlen w) (hfull w rfl) hcap
        refine ⟨_, w, φ, hrun, ?_⟩
        refine Comes.write hm _ (fun h => absurd (excl_spot h).2.2 g4) rfl (fun _ _ => rfl) (hup w (φ tid) _) (fun _ _ _ => ⟨by simp, by simp, fun _ => .inr ⟨g4, rfl, c3⟩⟩) (fun h => absurd h c3) (fun hid => ?_)
        unfold relVal
        rw [hid]
        refine ⟨Nat.le_refl _, fun _ => .inr ⟨rfl, cap, ?_, ?_, fun _ => hcap0, fun _ h => absurd h g4⟩⟩
        · rw [hn0]; rfl
        · simp
      | cons y r =>
        rw [← hmm]
        refine grow (some (bare (φ tid))) n cap [] (by simpa using hn0) (by rw [hmm, hn0, hcap0]; simp) rfl rfl ?_ rfl
        refine run_firstCells_some w.drew i.size n (bare (φ tid)) n cap _ (by rw [hn0]; simp) (fun j v hj => by simp at hj)

theorem catPk_gives {id ver : Nat} {e : Ty} {nil : Bool} {l m : List (den e)} {v : V} {u : List (Nat × Obj)} (h : (catPk lf id ver e nil l m).gives v u) :
    l.length + m.length ≤ 2147483648 ∧ v = .osl id ver ∧ u = [(id, .vec e ver false ⟨andB nil (isE m), l ++ m⟩)] := by
  unfold catPk at h
  rw [gives_dyn] at h
  obtain ⟨y, h1, h2⟩ := h
  simp only [Prod.mk.injEq] at h2
  obtain ⟨rfl, rfl⟩ := h2
  have := fit_spec h1
  have h3 : (l.length : Int) + (m.length : Int) ≤ 2147483648 := this
  exact ⟨by omega, rfl, rfl⟩

theorem appendPk_ok (hC : CxOk C) (hm : MRel C X φ o w) {fr : Nat} {t u ty : TypeId} {ts : List TypeId} {x y : V} {zx zy : Value} {v : V} {u' : List (Nat × Obj)} (hx : relVal φ o (immB X φ o w) w x zx) (hy : relVal φ o (immB X φ o w) w y zy)
    (h : (appendPk lf C o fr t u x y).gives v u') (hf : Frees fr o u') : Res C X φ o w v u' (Builtin.append_ (t :: u :: ts).toArray ty #[zx, zy]) := by
  unfold appendPk at h
  split at h
  · cases h
  · rename_i e he
    obtain ⟨ei, ht, _, he⟩ := elemTy_some he
    split at h
    · cases h
    · rename_i m hmo
      rw [gives_when, Bool.and_eq_true] at h
      obtain ⟨⟨h1, _⟩, h⟩ := h
      have hu := moreIs_spec h1
      obtain ⟨news, n1, n2, n3, n4⟩ := more_spec hm hy hmo
      cases x <;> try exact False.elim h
      · rename_i id ver
        simp only at h
        split at h
        · rename_i e' ver' s ho
          split at h
          · rename_i s' hs
            rw [gives_when] at h
            obtain ⟨hv, h⟩ := h
            obtain ⟨h3, h4⟩ := asTy_some hs
            injection h3 with h3
            subst h3 h4
            obtain ⟨g1, rfl, rfl⟩ := catPk_gives h
            have hobj := hm.objs id
            unfold relVal at hx
            rw [ho] at hx hobj
            have hv := Nat.eq_of_beq_eq_true hv
            have hx := hx.2 hv
            refine append_core hC hm he ht hu (fun _ _ _ => by rw [ho]; exact .inl (by omega)) ?_ n1 n3 n4 g1
            rcases hx with ⟨k1, rfl⟩ | ⟨k1, cap, rfl, k2, k4, k3⟩
            · exact .inl ⟨k1, hobj.2.1 k1, rfl⟩
            · exact .inr ⟨k1, s'.l.length, cap, _, s', ho, k1, rfl, Nat.le_refl _, (List.take_length).symm, rfl, k2, k4, k3 rfl⟩
          · cases h
        · cases h
      · rename_i id ver n cp
        simp only at h
        split at h
        · rename_i e' ver' fr' s ho
          split at h
          · rename_i s' hs
            rw [gives_when] at h
            obtain ⟨hv, h⟩ := h
            obtain ⟨h3, h4⟩ := asTy_some hs
            injection h3 with h3
            subst h3 h4
            split at h
            · obtain ⟨g1, rfl, rfl⟩ := catPk_gives h
              have hobj := hm.objs id
              unfold relVal at hx
              rw [ho] at hx hobj
              have hv := Nat.eq_of_beq_eq_true hv
              obtain ⟨hn, hx, _⟩ := hx.2 hv
              refine append_core hC hm he ht hu (fun _ _ _ => by rw [ho]; exact .inl (by omega)) ?_ n1 n3 n4 g1
              rcases hx with ⟨k1, rfl⟩ | ⟨k1, cap, rfl, k2, k3⟩
              · exact .inl ⟨k1, by simp [lf, takeL, hobj.2.1 k1], rfl⟩
              · exact .inr ⟨k1, n, cap, _, s', ho, k1, by simp [lf, takeL, Nat.min_eq_left hn], hn, rfl, rfl, k2, k3.1, k3.2 rfl⟩
            · rw [gives_dyn] at h
              obtain ⟨y, h2, h3⟩ := h
              simp only [Prod.mk.injEq] at h3
              obtain ⟨rfl, rfl⟩ := h3
              obtain ⟨_, hfit, hne⟩ := bnd_some h2
              have hfit := fit_spec hfit
              have hne : cnd (isE m) none (some ()) = some y := hne
              have hm0 : m ≠ [] := fun h => by rw [h] at hne; cases hne
              have hmp := List.length_pos_iff.2 hm0
              have hfr : o fr = .none := hf _ (List.mem_cons_self ..) (Nat.le_refl _) (by show fr < fr + 16; omega)
              have hobj := hm.objs id
              unfold relVal at hx
              rw [ho] at hx hobj
              have hv := Nat.eq_of_beq_eq_true hv
              obtain ⟨hn, hx, hcp⟩ := hx.2 hv
              have hcp := hcp rfl
              have e2 : (lf.takeL s'.l n).length = n := by simp [lf, takeL, Nat.min_eq_left hn]
              have hfit : ((lf.takeL s'.l n).length : Int) + (m.length : Int) ≤ 2147483648 := hfit
              rcases hx with ⟨k1, rfl⟩ | ⟨k1, cap, rfl, k2, k4, k3⟩
              · have hl0 := hobj.2.1 k1
                have hn0 : n = 0 := by rw [hl0] at hn; simpa using hn
                subst hn0
                have hlt : lf.takeL s'.l 0 = [] := by simp [lf, takeL]
                exact append_grow hC hm he ht hu (fun _ _ _ => by rw [hfr]; trivial) n1 n3 n4 (l := lf.takeL s'.l 0) (by omega) (base := none) (n := 0) (cap := 0) (olds := []) e2.symm (by omega) rfl (by rw [hlt]; rfl) (run_firstCells_none (P := C.P) w.drew _ 0 0 0)
              · have hcn : cap = n := hcp _ _ _ rfl
                subst hcn
                rcases hobj.2.2 k1 with ⟨g4, ec, g5, g6, _⟩ | ⟨_, g5, _⟩
                · refine append_grow hC hm he ht hu (fun _ _ _ => by rw [hfr]; trivial) n1 n3 n4 (l := lf.takeL s'.l cap) (by omega) (base := some (bare (φ id))) (n := cap) (cap := cap) (olds := ec.take (cap * csz e')) e2.symm (by omega) rfl (relR_split cap hn g5).1 ?_
                  have hec := relR_len g5
                  have hle := Nat.mul_le_mul_right (csz e') hn
                  refine run_firstCells_some w.drew (csz e') cap (bare (φ id)) cap cap _ (by simp; omega) (fun j v hj => ?_)
                  rw [add_spot (a := bare (φ id)) rfl]
                  exact cellsAt_iff.1 (cellsAt_take _ g6) j v hj
                · have hn0 : cap = 0 := by rw [g5] at hn; simpa using hn
                  have hlt : lf.takeL s'.l cap = [] := by rw [g5]; simp [lf, takeL]
                  refine append_grow hC hm he ht hu (fun _ _ _ => by rw [hfr]; trivial) n1 n3 n4 (l := lf.takeL s'.l cap) (by omega) (base := some (bare (φ id))) (n := cap) (cap := cap) (olds := []) e2.symm (by omega) rfl (by rw [hlt]; rfl) ?_
                  exact run_firstCells_some w.drew (csz e') cap (bare (φ id)) cap cap _ (by rw [hn0]; simp) (fun j v hj => by simp at hj)
            · cases h
          · cases h
        · cases h
      · obtain ⟨g1, rfl, rfl⟩ := catPk_gives h
        have hfr : o fr = .none := hf _ (List.mem_cons_self ..) (Nat.le_refl _) (by show fr < fr + 16; omega)
        exact append_core hC hm he ht hu (fun _ _ _ => by rw [hfr]; trivial) (.inl ⟨rfl, rfl, hx⟩) n1 n3 n4 g1
end
end Ev


namespace Ev
open Go

theorem ov_ov (l ds : List Value) (b k n : Nat) (hk : k + ds.length ≤ n) (hn : b + n ≤ l.length) : ov l b (ov ((l.drop b).take n) k ds) = ov l (b + k) ds := by
  have hl : ((l.drop b).take n).length = n := by simp; omega
  apply List.ext_getElem?
  intro j
  rw [ov_get l (ov ((l.drop b).take n) k ds) b j (by omega), ov_length _ _ _ (by omega), hl, ov_get l ds (b + k) j (by omega)]
  by_cases h1 : j < b
  · rw [if_pos h1, if_pos (by omega)]
  · rw [if_neg h1]
    by_cases h2 : j < b + n
    · rw [if_pos h2, ov_get ((l.drop b).take n) ds k (j - b) (by omega)]
      by_cases h3 : j < b + k
      · rw [if_pos h3, if_pos (by omega), List.getElem?_take, if_pos (by omega), List.getElem?_drop]
        congr 1; omega
      · rw [if_neg h3, if_neg (by omega)]
        by_cases h4 : j < b + k + ds.length
        · rw [if_pos h4, if_pos (by omega)]
          congr 1; omega
        · rw [if_neg h4, if_neg (by omega), List.getElem?_take, if_pos (by omega), List.getElem?_drop]
          congr 1; omega
    · rw [if_neg h2, if_neg (by omega), if_neg (by omega)]

theorem ov_zero (l ds : List Value) (h : l.length = ds.length) : ov l 0 ds = ds := by
  unfold ov
  rw [List.take_zero, List.nil_append, Nat.zero_add, List.drop_eq_nil_of_le (by omega), List.append_nil]

section
variable {P : Program} {C : Cx} {X : Nat → Prop} {φ φ' : Nat → Addr} {o o' : Nat → Obj} {w w' : World} {imm imm' : Nat → Prop}

/-- What is computed comes to a step that goes on with no value. -/
def ResU (C : Cx) (X : Nat → Prop) (φ : Nat → Addr) (o : Nat → Obj) (w : World) (v : V) (u : List (Nat × Obj)) (s : Sem Unit) : Prop :=
  ∃ w' φ', s.run C.P w = .ok () w' ∧ Comes C X φ φ' o u w w' v undef

theorem setF_spec : ∀ (p : Ty) (f : Nat) (x : den p) (g : (t : Ty) → den t → Option (den t)) {y : den p} {u : Ty}, setF p f x g = some y → tyF? p f = some u →
    ∃ (a b : den u), g u a = some b ∧ ∀ cs ds (imm : Nat → Prop) (w : World), relC imm w p x cs → (relC imm w u a ((cs.drop (offF p f)).take (csz u)) → relC imm w u b ds) → offF p f + csz u ≤ cs.length ∧ relC imm w u a ((cs.drop (offF p f)).take (csz u)) ∧ relC imm w p y (ov cs (offF p f) ds) := by
  have base : ∀ (t : Ty) (x y : den t) (g : (t : Ty) → den t → Option (den t)), g t x = some y →
      ∃ (a b : den t), g t a = some b ∧ ∀ cs ds (imm : Nat → Prop) (w : World), relC imm w t x cs → (relC imm w t a ((cs.drop 0).take (csz t)) → relC imm w t b ds) → 0 + csz t ≤ cs.length ∧ relC imm w t a ((cs.drop 0).take (csz t)) ∧ relC imm w t y (ov cs 0 ds) := by
    intro t x y g h
    refine ⟨x, y, h, fun cs ds imm w hc hd => ?_⟩
    have hl := relC_len _ _ _ hc
    have e : (cs.drop 0).take (csz t) = cs := by rw [List.drop_zero, ← hl, List.take_length]
    rw [e] at hd ⊢
    have hd := hd hc
    have hl2 := relC_len _ _ _ hd
    exact ⟨by omega, hc, by rw [ov_zero _ _ (by omega)]; exact hd⟩
  intro p
  induction p with
  | pair a b _ ihb =>
    intro f x g y u h ht
    cases f with
    | zero =>
      simp only [setF] at h
      split at h
      · rename_i y1 h1
        injection h with h; subst h
        have := Option.some.inj ht
        subst this
        refine ⟨x.1, y1, h1, fun cs ds imm w ⟨c, d, e, h2, h3⟩ hd => ?_⟩
        have hl := relC_len _ _ _ h2
        subst e
        have e1 : ((c ++ d).drop 0).take (csz a) = c := by rw [List.drop_zero, ← hl, List.take_left']; rfl
        simp only [offF] at hd ⊢
        rw [e1] at hd ⊢
        have hd := hd h2
        have hl2 := relC_len _ _ _ hd
        refine ⟨by simp; omega, h2, ds, d, ?_, hd, h3⟩
        unfold ov
        rw [List.take_zero, List.nil_append, Nat.zero_add, hl2, ← hl, List.drop_left']
        rfl
      · cases h
    | succ n =>
      simp only [setF] at h
      split at h
      · rename_i y1 h1
        injection h with h; subst h
        obtain ⟨a', b', g1, g2⟩ := ihb n x.2 g h1 ht
        refine ⟨a', b', g1, fun cs ds imm w ⟨c, d, e, h2, h3⟩ hd => ?_⟩
        have hl := relC_len _ _ _ h2
        subst e
        simp only [offF] at hd ⊢
        rw [← hl, List.drop_length_add_append] at hd ⊢
        obtain ⟨k1, k2, k3⟩ := g2 d ds imm w h3 hd
        refine ⟨by simp; omega, k2, c, ov d (offF b n) ds, ?_, h2, k3⟩
        unfold ov
        rw [List.take_length_add_append, Nat.add_assoc, List.drop_length_add_append]
        simp
      · cases h
  | unit => intro f x g y u h ht; cases f <;> cases ht
  | int k => intro f x g y u h ht; cases f with | zero => have := Option.some.inj ht; subst this; exact base _ _ _ _ h | succ n => cases ht
  | bool => intro f x g y u h ht; cases f with | zero => have := Option.some.inj ht; subst this; exact base _ _ _ _ h | succ n => cases ht
  | str => intro f x g y u h ht; cases f with | zero => have := Option.some.inj ht; subst this; exact base _ _ _ _ h | succ n => cases ht
  | sl e => intro f x g y u h ht; cases f with | zero => have := Option.some.inj ht; subst this; exact base _ _ _ _ h | succ n => cases ht
  | st q => intro f x g y u h ht; cases f with | zero => have := Option.some.inj ht; subst this; exact base _ _ _ _ h | succ n => cases ht
  | arr m e => intro f x g y u h ht; cases f with | zero => have := Option.some.inj ht; subst this; exact base _ _ _ _ h | succ n => cases ht

theorem setP_spec : ∀ (path : List Nat) (t : Ty) (x : den t) (g : (t : Ty) → den t → Option (den t)) {y : den t} {u : Ty}, setP path t x g = some y → tyPath path t = some u →
    ∃ (a b : den u), g u a = some b ∧ ∀ cs ds (imm : Nat → Prop) (w : World), relC imm w t x cs → relC imm w u b ds → pathOff path t + csz u ≤ cs.length ∧ relC imm w t y (ov cs (pathOff path t) ds)
  | [], t, x, g, y, u, h, ht => by
    have := Option.some.inj ht
    subst this
    refine ⟨x, y, h, fun cs ds imm w hc hd => ?_⟩
    have hl := relC_len _ _ _ hc
    have hl2 := relC_len _ _ _ hd
    exact ⟨by simp [pathOff]; omega, by rw [show pathOff [] t = 0 from rfl, ov_zero _ _ (by omega)]; exact hd⟩
  | f :: r, t, x, g, y, u, h, ht => by
    cases t <;> simp only [tyPath] at ht <;> try (cases ht; done)
    rename_i p
    split at ht
    · rename_i u1 h1
      obtain ⟨a, b, g1, g2⟩ := setF_spec p f x _ h h1
      obtain ⟨a', b', g3, g4⟩ := setP_spec r u1 a g g1 ht
      refine ⟨a', b', g3, fun cs ds imm w hc hd => ?_⟩
      have hl : relC imm w u1 a ((cs.drop (offF p f)).take (csz u1)) → pathOff r u1 + csz u ≤ csz u1 ∧ relC imm w u1 b (ov ((cs.drop (offF p f)).take (csz u1)) (pathOff r u1) ds) := fun ha => by
        obtain ⟨k1, k2⟩ := g4 _ ds imm w ha hd
        rw [relC_len _ _ _ ha] at k1
        exact ⟨k1, k2⟩
      obtain ⟨k1, k2, k3⟩ := g2 cs (ov ((cs.drop (offF p f)).take (csz u1)) (pathOff r u1) ds) imm w hc (fun ha => (hl ha).2)
      obtain ⟨k4, _⟩ := hl k2
      have hds := relC_len _ _ _ hd
      rw [ov_ov _ _ _ _ _ (by omega) k1] at k3
      simp only [pathOff, tyF_eq h1]
      exact ⟨by omega, k3⟩
    · cases ht

theorem notIn_spec {id : Nat} : ∀ {l : List Nat}, notIn id l = true → id ∉ l
  | [], _ => by simp
  | b :: r, h => by
    simp only [notIn] at h
    cases hb : Nat.beq b id with
    | true => rw [hb] at h; cases h
    | false =>
      rw [hb] at h
      have := notIn_spec h
      intro hm
      rcases List.mem_cons.1 hm with rfl | hm
      · rw [Nat.beq_refl] at hb; cases hb
      · exact this hm

theorem run_storeVar {t : TypeId} {i : TypeInfo} (hi : P.info? t = some i) {a : Addr} (hs : a.spot = none) {z : Value} (hz : z.cells.size = i.size) {c : Array Value} {el : TypeId} {lo hi' : Nat}
    (hh : w.heap[a.block]? = some (.cells c el (lo, hi'))) (hb : a.off + z.cells.size ≤ c.size) (hf : hi' ≤ lo ∨ hi' ≤ a.off ∨ a.off + z.cells.size ≤ lo) (h1 : ∀ v ∈ z.cells.toList, v.oneCell' = true) :
    (Instr.storeAt t (.pointer (some a)) z).run P w = .ok () (w.setRow a.block (ov c.toList a.off z.cells.toList).toArray) := by
  have hst := run_storeCells_ov (P := P) (b := a.block) (off := a.off) z.cells.toList 0 c w hh (by simpa using hb) (by simpa using hf) h1
  simp only [Nat.add_zero] at hst
  have ha : a = ⟨a.block, a.off, none⟩ := by rw [← hs]
  rw [← ha] at hst
  simp [Instr.storeAt, Instr.sureAddr, storeVar, run_sizeOf hi, hz, hst]

theorem storePk_ok (hC : CxOk C) (hm : MRel C X φ o w) {t : TypeId} {x y : V} {zx zy : Value} {v : V} {u : List (Nat × Obj)} (hx : relVal φ o (immB X φ o w) w x zx) (hy : relVal φ o (immB X φ o w) w y zy)
    (h : (storePk lf C o t x y).gives v u) : ResU C X φ o w v u (Instr.storeAt t zx zy) := by
  unfold storePk at h
  split at h
  · rename_i id off
    split at h
    · rename_i cs ho
      split at h
      · rename_i vs hvs
        split at h
        · rename_i b n hk
          rw [gives_when, gives_now, Bool.and_eq_true, Bool.and_eq_true] at h
          obtain ⟨⟨⟨h1, h2⟩, hsl⟩, rfl, rfl⟩ := h
          have hsl : isSlf vs = false := by simpa using hsl
          have h1 := Nat.eq_of_beq_eq_true h1
          have h2 := Nat.le_of_ble_eq_true h2
          obtain ⟨i, d, g1, g2, g3, g4⟩ := kindOf_spec hk
          obtain ⟨k1, k2⟩ := cellsOk_rel hy hvs
          have hobj := hm.objs id
          unfold relVal at hx
          rw [ho] at hx hobj
          simp only at hx
          subst hx
          obtain ⟨h0, c, el, lo, hi, r1, r2, r3⟩ := hobj
          have l1 := relVs_len k1
          have l2 := relVs_len r3
          simp only [Array.length_toList] at l1 l2
          have hex : excl (φ id) (o id) = true := by rw [ho]; rfl
          have hrun := run_storeVar (P := C.P) (w := w) g1 (a := ⟨(φ id).block, (φ id).off + off, none⟩) rfl (z := zy) (by omega) r1 (by simp only; omega) (.inl r2) k2
          refine ⟨_, φ, hrun, ?_⟩
          refine Comes.write hm _ (fun _ => hex) (by simp) (fun b hb => setRow_other w _ b _ (fun e => hb ⟨hex, e.symm⟩)) (by rw [ho]; exact rfl) (fun a1 a2 a3 => ?_) (els_box hm ho (fun h => isSlf_setAt h hsl) (.ov r1 (by simp only [Array.length_toList]; omega))) (fun _ => rfl)
          refine ⟨h0, _, el, lo, hi, setRow_block r1 _, r2, ?_⟩
          have := relVs_all a3 _ _ (setAt_rel off r3 k1)
          simpa [h0] using this
        · cases h
      · cases h
    · cases h
  · rename_i id ver i path
    split at h
    · rename_i e ver' s ho
      split at h
      · rename_i t' ht
        rw [gives_when, gives_dyn, Bool.and_eq_true, Bool.and_eq_true] at h
        obtain ⟨⟨⟨h1, h2⟩, h3⟩, y', h4, h5⟩ := h
        simp only [Prod.mk.injEq] at h5
        obtain ⟨rfl, rfl⟩ := h5
        obtain ⟨x0, h6, h7⟩ := bnd_some h4
        have h6 : s.l[i]? = some x0 := h6
        obtain ⟨a, b, g1, g2⟩ := setP_spec path e x0 _ h7 ht
        have hf := frz_ok hm (lentV o y)
        have hni : id ∉ lentV o y := notIn_spec h3
        have ho' : upds o (frz o (lentV o y)) id = .vec e ver' false s := by
          rcases frz_get (o := o) (lentV o y) id with ⟨k1, _⟩ | ⟨t1, v1, f1, s1, k1, k2⟩
          · rw [k1, ho]
          · have : id ∈ keysU (frz o (lentV o y)) := by
              by_cases hk : id ∈ keysU (frz o (lentV o y))
              · exact hk
              · rw [upds_not hk, ho] at k2; cases k2
            exfalso
            have key : ∀ ks : List Nat, id ∈ keysU (frz o ks) → id ∈ ks := by
              intro ks
              induction ks with
              | nil => intro h; cases h
              | cons q r ih =>
                intro h
                simp only [frz] at h
                split at h
                · rcases List.mem_cons.1 h with h | h
                  · exact h ▸ List.mem_cons_self ..
                  · exact List.mem_cons_of_mem _ (ih h)
                · exact List.mem_cons_of_mem _ (ih h)
            exact hni (key _ this)
        have hy' := hf.keeps _ _ hy
        have hx' := hf.keeps _ _ hx
        have hfz : Frozen (upds o (frz o (lentV o y))) y := frz_frozen (fun _ h => h)
        rw [← asDs_frz (lentV o y)] at g1
        have hd := asDs_rel hf.mem hy' hfz g1
        have hT := hC.tab _ _ (is_spec h2)
        have hdc := relV_cells hT hd
        obtain ⟨ii, zz, m1, _, m2, _⟩ := hT.info
        have hobj := hf.mem.objs id
        unfold relVal at hx'
        rw [ho'] at hx' hobj
        obtain ⟨hi, rfl⟩ := hx'.2 (Nat.eq_of_beq_eq_true h1)
        obtain ⟨b1, b2, b3⟩ := hobj
        have hn : s.nil = false := by
          cases hn : s.nil with
          | false => rfl
          | true => rw [b2 hn] at hi; simp at hi
        obtain ⟨b4, ec, b5, b6, b7, b8, _⟩ := (b3 hn).resolve_right fun g => by rw [g.2.1] at hi; simp at hi
        have hex : excl (φ id) (upds o (frz o (lentV o y)) id) = true := by rw [ho']; exact excl_vec hn b4
        obtain ⟨hi', hx0⟩ := List.getElem?_eq_some_iff.1 h6
        have hseg := relR_get b5 i hi'
        rw [hx0] at hseg
        have hlen := relR_len b5
        have hle : (i + 1) * csz e ≤ s.l.length * csz e := Nat.mul_le_mul_right _ hi'
        rw [Nat.succ_mul] at hle
        have hseglen := relC_len _ _ _ hseg
        obtain ⟨p1, p2⟩ := g2 _ zy.cells.toList _ w hseg hdc
        rw [hseglen] at p1
        have hdl := relC_len _ _ _ hdc
        simp only [Array.length_toList] at hdl
        obtain ⟨c, el, lo, hi2, r1, r2, r3⟩ := b8 rfl
        have hrun := run_storeVar (P := C.P) (w := w) m1 (a := ⟨(φ id).block, (φ id).off + i * csz e + pathOff path e, none⟩) rfl (z := zy) (by omega) r1 (by simp only; omega) (by simp only; omega) (relC_one _ _ _ hdc)
        refine ⟨_, φ, hrun, hf.trans ?_⟩
        have hbnd : (φ id).off + (i * csz e + pathOff path e) + zy.cells.toList.length ≤ c.size := by simp; omega
        refine Comes.write hf.mem _ (fun _ => hex) (by simp) (fun b hb => setRow_other w _ b _ (fun e => hb ⟨hex, e.symm⟩)) ?_ (fun a1 a2 a3 => ?_) (els_write hf.mem ho' hn (.ov r1 (by simp only [Array.length_toList]; omega))) (fun _ => rfl)
        · rw [ho']
          refine .inr ⟨rfl, rfl, rfl, by simp [lf, setL], rfl, fun _ => ⟨rfl, fun _ _ n hr => ?_⟩⟩
          have := room_setRow (off := (φ id).off + (i * csz e + pathOff path e)) (ds := zy.cells.toList) r1 hbnd hr
          simpa [Nat.add_assoc] using this
        · have hset : relR (relC (immB X φ (upds o (frz o (lentV o y))) w) w e) (s.l.set i y') (ov ec (i * csz e + pathOff path e) zy.cells.toList) := by
            have := relR_ov (i := i) (m := [y']) (by show i + 1 ≤ s.l.length; exact hi') b5 ⟨_, [], (List.append_nil _).symm, p2, rfl⟩
            rw [ov_ov _ _ _ _ _ (by simp; omega) (by omega)] at this
            rw [List.set_eq_take_append_cons_drop, if_pos hi']
            simpa using this
          refine ⟨by simpa [lf, setL] using b1, fun h => (by rw [hn] at h; cases h), fun _ => .inl ⟨b4, _, relR_mono (relC_mono a1 a2 e) hset, ?_, ?_, fun _ => ?_, by simp⟩⟩
          · have := cellsAt_ov (k := i * csz e + pathOff path e) (ds := zy.cells.toList) r1 b6 (by omega) hbnd
            simpa [Nat.add_assoc] using this
          · have := room_setRow (off := (φ id).off + (i * csz e + pathOff path e)) (ds := zy.cells.toList) r1 hbnd b7
            simpa [Nat.add_assoc] using this
          · have := room_setRow (off := (φ id).off + (i * csz e + pathOff path e)) (ds := zy.cells.toList) r1 hbnd (b8 rfl)
            simpa [Nat.add_assoc, lf, setL] using this
      · cases h
    · cases h
  · cases h
end
end Ev


namespace Ev
open Go

section
variable {P : Program} {C : Cx} {X : Nat → Prop} {φ φ' : Nat → Addr} {o o' : Nat → Obj} {w w' : World} {imm imm' : Nat → Prop}

theorem copyPk_ok (hC : CxOk C) (hm : MRel C X φ o w) {t ty : TypeId} {ts : List TypeId} {x y : V} {zx zy : Value} {v : V} {u : List (Nat × Obj)} (hx : relVal φ o (immB X φ o w) w x zx) (hy : relVal φ o (immB X φ o w) w y zy)
    (h : (copyPk lf C o t x y).gives v u) : Res C X φ o w v u (Builtin.copy_ (t :: ts).toArray ty #[zx, zy]) := by
  unfold copyPk at h
  split at h
  · rename_i id ver
    split at h
    · rename_i e ver' s ho
      split at h
      · rename_i m hmo
        rw [gives_when, gives_now, Bool.and_eq_true] at h
        obtain ⟨⟨h1, h2⟩, rfl, rfl⟩ := h
        have h1 := Nat.eq_of_beq_eq_true h1
        subst h1
        obtain ⟨ei, ht, _, he⟩ := elemTy_spec h2
        obtain ⟨i, z, k1, _, k2, k3, k4, k5, k6⟩ := (hC.tab _ _ he).info
        obtain ⟨news, n1, n2, n3, n4⟩ := more_spec (P := C.P) hm hy hmo
        have hobj := hm.objs id
        unfold relVal at hx
        rw [ho] at hx hobj
        obtain ⟨b1, b2, b3⟩ := hobj
        have hin : inK .i64 (lf.minI (lf.lenI s.l) (lf.lenI m)) := by
          simp only [lf, minI, lenI]
          unfold maxL at b1 n2
          unfold inK IntKind.min IntKind.max
          simp [IntKind.signed, IntKind.bits]
          split <;> omega
        have hmin : (lf.minI (lf.lenI s.l) (lf.lenI m)) = ((Nat.min m.length s.l.length : Nat) : Int) := by
          simp only [lf, minI, lenI]
          have : Nat.min m.length s.l.length = min m.length s.l.length := rfl
          rw [this]
          split <;> omega
        have hlen : (ovl s.l m).length = s.l.length := by
          unfold ovl
          simp; omega
        rcases hx.2 rfl with ⟨hn, rfl⟩ | ⟨hn, cap, rfl, c1, c4, c2⟩
        · have hl0 := b2 hn
          have hf0 := n4 w 0 rfl (Nat.zero_le _)
          rw [← k2] at hf0
          have hrun : (Builtin.copy_ (t :: ts).toArray ty #[.slice none 0 0, zy]).run C.P w = .ok (goInt 0) w := by
            simp [Builtin.copy_, run_underlying ht, n3 w, run_sizeOf k1, hf0]
          refine ⟨_, w, φ, hrun, Comes.write hm _ (by simp [excl, live, hn]) rfl (fun _ _ => rfl) (by rw [ho]; exact .inr ⟨rfl, rfl, rfl, hlen.symm, rfl, fun _ => ⟨rfl, fun _ _ _ h => h⟩⟩) (fun _ _ _ => ⟨?_, fun _ => ?_, fun h => (by rw [hn] at h; cases h)⟩) (fun _ h => (by have h : s.nil = false := h; rw [hn] at h; cases h)) (fun _ => ?_)⟩
          · show (ovl s.l m).length ≤ maxL
            omega
          · exact List.eq_nil_of_length_eq_zero (by show (ovl s.l m).length = 0; rw [hlen, hl0]; rfl)
          · rw [hmin] at hin ⊢
            rw [hl0] at hin ⊢
            have e0 : ((Nat.min m.length ([] : List (den e)).length : Nat) : Int) = 0 := by simp
            rw [e0] at hin ⊢
            exact mk_int hin
        · rcases b3 hn with ⟨b4, ec, b5, b6, b7, b8, _⟩ | ⟨b4, d1, d3⟩
          · have hex : excl (φ id) (o id) = true := by rw [ho]; exact excl_vec hn b4
            obtain ⟨c, el, lo, hi, r1, r2, r3⟩ := b8 rfl
            have hkm : Nat.min m.length s.l.length ≤ m.length := Nat.min_le_left _ _
            have hks : Nat.min m.length s.l.length ≤ s.l.length := Nat.min_le_right _ _
            have hks2 := Nat.mul_le_mul_right (csz e) hks
            have hf1 := n4 w (Nat.min m.length s.l.length) rfl hkm
            rw [← k2] at hf1
            have hnl := relR_len n1
            have hkm2 := Nat.mul_le_mul_right (csz e) hkm
            have hdl : (news.take (Nat.min m.length s.l.length * i.size)).length = Nat.min m.length s.l.length * csz e := by rw [k2]; simp only [List.length_take]; omega
            have hds := (relR_split (Nat.min m.length s.l.length) hkm n1).1
            rw [← k2] at hds
            have hst := run_storeCells_ov (P := C.P) (b := (φ id).block) (off := (φ id).off) (news.take (Nat.min m.length s.l.length * i.size)) 0 c w r1 (by rw [hdl]; omega) (by rw [hdl]; omega) (relR_one hds)
            simp only [Nat.add_zero] at hst
            have hφ : (⟨(φ id).block, (φ id).off, none⟩ : Addr) = bare (φ id) := rfl
            rw [hφ] at hst
            have hrun : (Builtin.copy_ (t :: ts).toArray ty #[.slice (some (bare (φ id))) s.l.length cap, zy]).run C.P w = .ok (goInt ((Nat.min m.length s.l.length : Nat) : Int)) (w.setRow (φ id).block (ov c.toList (φ id).off (news.take (Nat.min m.length s.l.length * i.size))).toArray) := by
              simp [Builtin.copy_, run_underlying ht, n3 w, run_sizeOf k1, hf1, hst]
            have hbnd : (φ id).off + (news.take (Nat.min m.length s.l.length * i.size)).length ≤ c.size := by rw [hdl]; omega
            have hovl : ovl s.l m = s.l.take 0 ++ m.take (Nat.min m.length s.l.length) ++ s.l.drop (0 + (m.take (Nat.min m.length s.l.length)).length) := by
              unfold ovl
              rw [List.take_zero, List.nil_append, Nat.zero_add, List.length_take, Nat.min_eq_left hkm]
              by_cases hle : m.length ≤ s.l.length
              · have : Nat.min m.length s.l.length = m.length := Nat.min_eq_left hle
                rw [this, List.take_length, List.take_of_length_le hle]
              · have : Nat.min m.length s.l.length = s.l.length := Nat.min_eq_right (by omega)
                rw [this, List.drop_eq_nil_of_le (Nat.le_refl _), List.drop_eq_nil_of_le (by omega)]
            have hro := relR_ov (i := 0) (m := m.take (Nat.min m.length s.l.length)) (by simp only [Nat.zero_add, List.length_take]; omega) b5 hds
            rw [← hovl, Nat.zero_mul] at hro
            refine ⟨_, _, φ, hrun, Comes.write hm _ (fun _ => hex) (by simp) (fun b hb => setRow_other w _ b _ (fun e => hb ⟨hex, e.symm⟩)) ?_ (fun a1 a2 a3 => ⟨?_, fun h => (by rw [hn] at h; cases h), fun _ => .inl ⟨b4, _, relR_mono (relC_mono a1 a2 e) hro, ?_, ?_, fun _ => ?_, by simp⟩⟩) (els_write hm ho hn (.ov r1 hbnd)) (fun _ => ?_)⟩
            · rw [ho]
              exact .inr ⟨rfl, rfl, rfl, hlen.symm, rfl, fun _ => ⟨rfl, fun _ _ n hr => room_setRow r1 hbnd hr⟩⟩
            · show (ovl s.l m).length ≤ maxL
              omega
            · have := cellsAt_ov (k := 0) (ds := news.take (Nat.min m.length s.l.length * i.size)) r1 b6 (Nat.zero_le _) (by simpa using hbnd)
              simpa using this
            · exact room_setRow r1 hbnd b7
            · show room _ _ ((ovl s.l m).length * csz e)
              rw [hlen]
              exact room_setRow r1 hbnd (b8 rfl)
            · rw [hmin] at hin ⊢
              exact mk_int hin
          · have hk0 : Nat.min m.length s.l.length = 0 := by rw [d1]; exact Nat.min_zero _
            have hf0 := n4 w 0 rfl (Nat.zero_le _)
            rw [← k2] at hf0
            have hl0 : ovl s.l m = [] := List.eq_nil_of_length_eq_zero (by rw [hlen, d1]; rfl)
            have hrun : (Builtin.copy_ (t :: ts).toArray ty #[.slice (some (bare (φ id))) s.l.length cap, zy]).run C.P w = .ok (goInt 0) w := by
              rw [d1]
              simp [Builtin.copy_, run_underlying ht, n3 w, run_sizeOf k1, hf0, storeCells]
            refine ⟨_, w, φ, hrun, Comes.write hm _ (fun h => absurd (excl_spot h).2.2 b4) rfl (fun _ _ => rfl) (by rw [ho]; exact .inr ⟨rfl, rfl, rfl, hlen.symm, rfl, fun _ => ⟨rfl, fun _ _ _ h => h⟩⟩) (fun _ _ _ => ⟨?_, fun h => (by rw [hn] at h; cases h), fun _ => .inr ⟨b4, hl0, d3⟩⟩) (fun h => absurd h d3) (fun _ => ?_)⟩
            · show (ovl s.l m).length ≤ maxL
              omega
            · rw [hmin, hk0] at hin ⊢
              exact mk_int hin
      · cases h
    · cases h
  · cases h


theorem run_clear {P : Program} {t ei : TypeId} {ts : List TypeId} {ty : TypeId} {i : TypeInfo} {z : Value} (ht : P.underlying t = some (.slice ei)) (hi : P.info? ei = some i) (hz : i.zero = some z)
    {a : Addr} {n cap : Nat} {w w' : World} (hn : n ≠ 0) (hst : (storeCells a (Builtin.zeroCells z.cells n).toList 0).run P w = .ok () w') :
    (Builtin.clear_ (t :: ts).toArray ty #[.slice (some a) n cap]).run P w = .ok (.tuple #[]) w' := by
  have h0 : ∀ m, n = m + 1 → (Builtin.clear_ (t :: ts).toArray ty #[.slice (some a) n cap]).run P w = .ok (.tuple #[]) w' := by
    rintro m rfl
    simp [Builtin.clear_, run_underlying ht, run_zeroValue hi hz, hst]
  exact h0 (n - 1) (by omega)
theorem run_clear_none {P : Program} {t ei : TypeId} {ts : List TypeId} {ty : TypeId} (ht : P.underlying t = some (.slice ei)) {a : Option Addr} {cap : Nat} {w : World} :
    (Builtin.clear_ (t :: ts).toArray ty #[.slice a 0 cap]).run P w = .ok (.tuple #[]) w := by
  cases a <;> simp [Builtin.clear_, run_underlying ht]

theorem zeros_rel {e : Ty} {imm : Nat → Prop} {w : World} {z : Value} (hz : relC imm w e (zero e) z.cells.toList) (n : Nat) : relR (relC imm w e) (List.replicate n (zero e)) (Builtin.zeroCells z.cells n).toList := by
  have h : (Builtin.zeroCells z.cells n).toList = (List.replicate n z.cells.toList).flatten := by
    rw [← range_flat]
    simp [Builtin.zeroCells]
  rw [h]
  exact relR_flat hz n

theorem clearPk_ok (hC : CxOk C) (hm : MRel C X φ o w) {t ty : TypeId} {ts : List TypeId} {x : V} {zx : Value} {v : V} {u : List (Nat × Obj)} (hx : relVal φ o (immB X φ o w) w x zx)
    (h : (clearPk lf C o t x).gives v u) : Res C X φ o w v u (Builtin.clear_ (t :: ts).toArray ty #[zx]) := by
  unfold clearPk at h
  split at h
  · rename_i id ver lo
    split at h
    · rename_i e ver' s ho
      rw [gives_when, gives_now, Bool.and_eq_true] at h
      obtain ⟨⟨h1, h2⟩, rfl, rfl⟩ := h
      have h1 := Nat.eq_of_beq_eq_true h1
      subst h1
      obtain ⟨ei, ht, _, he⟩ := elemTy_spec h2
      obtain ⟨i, z, k1, _, k2, k3, k4, k5, k6⟩ := (hC.tab _ _ he).info
      have hobj := hm.objs id
      unfold relVal at hx
      rw [ho] at hx hobj
      obtain ⟨b1, b2, b3⟩ := hobj
      obtain ⟨k, rfl, hk, hx⟩ := hx.2 rfl
      have e1 : lf.zerL s.l (k : Int) (zero e) = s.l.take k ++ List.replicate (s.l.length - k) (zero e) := by simp [lf, zerL]
      have hlen : (lf.zerL s.l (k : Int) (zero e)).length = s.l.length := by rw [e1]; simp; omega
      have same : s.l.length - k = 0 → lf.zerL s.l (k : Int) (zero e) = s.l := fun h => by
        rw [e1, h, List.replicate_zero, List.append_nil, List.take_of_length_le (by omega)]
      have nothing : s.l.length - k = 0 → (Builtin.clear_ (t :: ts).toArray ty #[zx]).run C.P w = .ok (.tuple #[]) w → Res C X φ o w (.tup []) [(id, .vec e ver false ⟨s.nil, lf.zerL s.l (k : Int) (zero e)⟩)] (Builtin.clear_ (t :: ts).toArray ty #[zx]) := by
        intro h0 hrun
        rw [same h0]
        refine ⟨_, w, φ, hrun, Comes.write hm _ (fun h => by rw [ho]; exact h) rfl (fun _ _ => rfl) (by rw [ho]; exact .inr ⟨rfl, rfl, rfl, rfl, rfl, fun _ => ⟨rfl, fun _ _ _ h => h⟩⟩) (fun a1 a2 a3 => ?_) ?_ (fun _ => ⟨#[], rfl, rfl⟩)⟩
        · exact relObj_keep a1 a2 a3 rfl (fun _ => rfl) (show relObj φ o (immB X φ o w) w id (.vec e ver false s) from ⟨b1, b2, b3⟩)
        · have := hm.els id
          rw [ho] at this
          exact this
      rcases hx with ⟨hn, rfl⟩ | ⟨hn, cap, rfl, hc⟩
      · exact nothing (by rw [b2 hn]; simp) (run_clear_none ht)
      · by_cases h0 : s.l.length - k = 0
        · rw [h0]
          rw [h0] at nothing
          exact nothing rfl (run_clear_none ht)
        · have hc0 : cap ≠ 0 := by omega
          rw [if_neg hc0]
          rcases b3 hn with ⟨b4, ec, b5, b6, b7, b8, _⟩ | ⟨_, b5, _⟩
          · have hex : excl (φ id) (o id) = true := by rw [ho]; exact excl_vec hn b4
            obtain ⟨c, el, lo', hi, r1, r2, r3⟩ := b8 rfl
            have hzs := zeros_rel (k6 (immB X φ o w) w) (s.l.length - k)
            have hzl := relR_len hzs
            rw [List.length_replicate] at hzl
            have hec := relR_len b5
            have hmul : k * csz e + (s.l.length - k) * csz e = s.l.length * csz e := by rw [← Nat.add_mul]; congr 1; omega
            have hst := run_storeCells_ov (P := C.P) (b := (φ id).block) (off := (φ id).off + k * csz e) (Builtin.zeroCells z.cells (s.l.length - k)).toList 0 c w r1 (by rw [hzl]; omega) (by rw [hzl]; omega) (relR_one hzs)
            simp only [Nat.add_zero] at hst
            have hrun := run_clear (ts := ts) (ty := ty) (cap := cap) ht k1 k4 h0 hst
            have hbnd : (φ id).off + k * csz e + (Builtin.zeroCells z.cells (s.l.length - k)).toList.length ≤ c.size := by rw [hzl]; omega
            refine ⟨_, _, φ, hrun, Comes.write hm _ (fun _ => hex) (by simp) (fun b hb => setRow_other w _ b _ (fun e => hb ⟨hex, e.symm⟩)) ?_ (fun a1 a2 a3 => ⟨by rw [hlen]; exact b1, fun h => (by rw [hn] at h; cases h), fun _ => .inl ⟨b4, ov ec (k * csz e) (Builtin.zeroCells z.cells (s.l.length - k)).toList, ?_, ?_, ?_, fun _ => ?_, by simp⟩⟩) (els_write hm ho hn (.ov r1 hbnd)) (fun _ => ⟨#[], rfl, rfl⟩)⟩
            · rw [ho]
              exact .inr ⟨rfl, rfl, rfl, hlen.symm, rfl, fun _ => ⟨rfl, fun _ _ n hr => room_setRow r1 hbnd hr⟩⟩
            · have hro := relR_ov (i := k) (m := List.replicate (s.l.length - k) (zero e)) (by rw [List.length_replicate]; omega) b5 hzs
              have e3 : s.l.take k ++ List.replicate (s.l.length - k) (zero e) ++ s.l.drop (k + (List.replicate (s.l.length - k) (zero e)).length) = s.l.take k ++ List.replicate (s.l.length - k) (zero e) := by
                rw [List.length_replicate, List.drop_eq_nil_of_le (by omega), List.append_nil]
              rw [e3, ← e1] at hro
              exact relR_mono (relC_mono a1 a2 e) hro
            · have := cellsAt_ov (k := k * csz e) (ds := (Builtin.zeroCells z.cells (s.l.length - k)).toList) r1 b6 (by omega) hbnd
              exact this
            · exact room_setRow r1 hbnd b7
            · rw [hlen]
              exact room_setRow r1 hbnd (b8 rfl)
          · exfalso; apply h0; rw [b5]; simp
    · cases h
  · cases h
end
end Ev


namespace Ev
open Go

section
variable {P : Program} {C : Cx} {X : Nat → Prop} {φ φ' : Nat → Addr} {o o' : Nat → Obj} {w w' : World} {imm imm' : Nat → Prop}

/-! Structs that are compared. -/
structure EqOk (C : Cx) : Prop where
  eq : ∀ (w : World) (imm : Nat → Prop) (t : TypeId) (p : Ty) (a b : den p) (xs ys : Array Value), hasN t C.eqs = true → C.ty t = some (.st p) → relC imm w p a xs.toList → relC imm w p b ys.toList →
      (Op.equal t (.agg xs) (.agg ys)).run C.P w = .ok (eqD lf p a b) w
  guard : ∀ t, hasN t C.eqs = true → C.P.eqGuardType C.P.depth t = false

def eqFieldOk (C : Cx) (f : Field) : Bool := (f.name != "_") && (match C.ty f.type with
  | some (.int _) => true
  | some .bool => true
  | some .str => true
  | some (.st _) => hasN f.type C.eqs
  | _ => false)

def eqFieldsOk (C : Cx) : List Field → Bool
  | [] => true
  | f :: r => eqFieldOk C f && eqFieldsOk C r

def nlev : Ty → Nat
  | .st p => nlev p + 1
  | .pair a b => nlev a + nlev b
  | _ => 0

def eqOne (C : Cx) (t : TypeId) : Bool := !(C.P.stoodInHeld t) && !(C.P.eqGuardType C.P.depth t) && (match desc C.P t with
  | some (.struct fs) => eqFieldsOk C fs.toList
  | _ => false) && (match C.ty t with
  | some T => Nat.ble (nlev T) 1000
  | none => false)

def eqChk (C : Cx) : List Nat → Bool
  | [] => true
  | t :: r => eqOne C t && eqChk C r

theorem eqChk_mem : ∀ {l : List Nat}, eqChk C l = true → ∀ {t}, hasN t l = true → eqOne C t = true
  | [], _, t, h => by cases h
  | b :: r, hc, t, h => by
    simp only [eqChk, Bool.and_eq_true] at hc
    simp only [hasN] at h
    cases hb : Nat.beq b t with
    | true => have := Nat.eq_of_beq_eq_true hb; subst this; exact hc.1
    | false => rw [hb] at h; exact eqChk_mem hc.2 h

theorem equalIn_ok (hC : CxOk C) (hq : eqChk C C.eqs = true) : ∀ (n d : Nat) (t : TypeId) (T : Ty) (a b : den T) (za zb : Value), n < d → nlev T ≤ n → C.ty t = some T →
    (match T with | .int _ => True | .bool => True | .str => True | .st _ => hasN t C.eqs = true | _ => False) → relV imm w T a za → relV imm w T b zb →
    (Op.equalIn d t za zb).run C.P w = .ok (eqD lf T a b) w := by
  intro n
  induction n with
  | zero =>
    intro d t T a b za zb hd hl ht hk ha hb
    obtain ⟨d, rfl⟩ : ∃ k, d = k + 1 := ⟨d - 1, by omega⟩
    obtain ⟨dd, _, hu, hdd⟩ := (hC.tab _ _ ht).desc
    cases T <;> simp only at hk
    · cases dd <;> simp only [descB] at hdd <;> try (cases hdd; done)
      have h1 : relVal (fun _ => ⟨0, 0, none⟩) (fun _ => Obj.none) imm w (.d _ a) za := ha
      have h2 : relVal (fun _ => ⟨0, 0, none⟩) (fun _ => Obj.none) imm w (.d _ b) zb := hb
      obtain ⟨rfl, _⟩ := rel_int h1
      obtain ⟨rfl, _⟩ := rel_int h2
      exact run_equalIn_int _ _ _ _ _ _ _ hu
    · cases dd <;> first | (simp only [descB] at hdd; cases hdd; done) | skip
      have h1 : relVal (fun _ => ⟨0, 0, none⟩) (fun _ => Obj.none) imm w (.d _ a) za := ha
      have h2 : relVal (fun _ => ⟨0, 0, none⟩) (fun _ => Obj.none) imm w (.d _ b) zb := hb
      have e1 := rel_bool h1
      have e2 := rel_bool h2
      subst e1 e2
      exact run_equalIn_bool' _ _ _ _ _ hu
    · cases dd <;> first | (simp only [descB] at hdd; cases hdd; done) | skip
      have h1 : relVal (fun _ => ⟨0, 0, none⟩) (fun _ => Obj.none) imm w (.d _ a) za := ha
      have h2 : relVal (fun _ => ⟨0, 0, none⟩) (fun _ => Obj.none) imm w (.d _ b) zb := hb
      obtain ⟨s, rfl, rfl, _⟩ := rel_str h1
      obtain ⟨s', rfl, rfl, _⟩ := rel_str h2
      have := eqS_bl s s'
      unfold bl at this
      show _ = Result.ok (eqS _ _) w
      rw [this]
      exact run_equalIn_string _ _ _ _ _ hu
    · simp [nlev] at hl
  | succ n ih =>
    intro d t T a b za zb hd hl ht hk ha hb
    by_cases hst : ∃ p, T = .st p
    · obtain ⟨p, rfl⟩ := hst
      simp only at hk
      obtain ⟨d, rfl⟩ : ∃ k, d = k + 1 := ⟨d - 1, by omega⟩
      have h1 := eqChk_mem hq hk
      unfold eqOne at h1
      simp only [Bool.and_eq_true, Bool.not_eq_true'] at h1
      obtain ⟨⟨⟨h1, h2⟩, h3⟩, h4⟩ := h1
      obtain ⟨fs, g1, g2, g3⟩ := st_fields hC ht
      rw [g1] at h3
      simp only at h3
      obtain ⟨xs, rfl, hxs⟩ := ha
      obtain ⟨ys, rfl, hys⟩ := hb
      have hfo : C.P.fieldsOf t = fs := by unfold Program.fieldsOf; rw [g2]
      rw [run_equalIn_struct w d t xs ys (by rw [hfo]; exact g2) h1, hfo]
      simp only [nlev] at hl
      have key : ∀ (fs : List Field) (p : Ty) (off : Nat) (a b : den p), nlev p ≤ n → fieldsB C fs p off = true → eqFieldsOk C fs = true → relC imm w p a ((xs.toList.drop off).take (csz p)) → relC imm w p b ((ys.toList.drop off).take (csz p)) →
          (Op.eqFields d xs ys fs).run C.P w = .ok (eqD lf p a b) w := by
        intro fs
        induction fs with
        | nil =>
          intro p off a b _ h _ _ _
          cases p <;> first | (simp only [fieldsB] at h; cases h; done) | skip
          simp [Op.eqFields, eqD]
        | cons f r ihf =>
          intro p off a b hn h hf ha hb
          simp only [eqFieldsOk, Bool.and_eq_true] at hf
          obtain ⟨hf1, hf2⟩ := hf
          unfold eqFieldOk at hf1
          rw [Bool.and_eq_true] at hf1
          obtain ⟨hnm, hf1⟩ := hf1
          have hnm : f.name ≠ "_" := by simpa using hnm
          have one : ∀ (q : Ty) (a b : den q), C.ty f.type = some q → nlev q ≤ n → f.offset = off → relC imm w q a ((xs.toList.drop off).take (csz q)) → relC imm w q b ((ys.toList.drop off).take (csz q)) →
              ∃ va vb, (part f.type xs f.offset).run C.P w = .ok va w ∧ (part f.type ys f.offset).run C.P w = .ok vb w ∧ (Op.equalIn d f.type va vb).run C.P w = .ok (eqD lf q a b) w := by
            intro q a b hq' hnq hoff ha hb
            obtain ⟨va, v1, v2⟩ := part_ok (w := w) (hC.tab _ _ hq') (cs := xs) (off := f.offset) (by rw [hoff]; exact ha)
            obtain ⟨vb, v3, v4⟩ := part_ok (w := w) (hC.tab _ _ hq') (cs := ys) (off := f.offset) (by rw [hoff]; exact hb)
            rw [hq'] at hf1
            exact ⟨va, vb, v1, v3, ih d f.type q a b va vb (by omega) hnq hq' (by cases q <;> first | trivial | exact hf1 | (simp at hf1; done)) v2 v4⟩
          cases r with
          | nil =>
            have h : (C.is f.type p && Nat.beq f.offset off) = true := by cases p <;> exact h
            rw [Bool.and_eq_true] at h
            obtain ⟨va, vb, v1, v2, v3⟩ := one p a b (is_spec h.1) hn (Nat.eq_of_beq_eq_true h.2) ha hb
            simp only [Op.eqFields, if_pos hnm, Sem.run_bind, v1, v2, v3, Result.andThen_ok]
            cases eqD lf p a b <;> simp
          | cons g r =>
            cases p <;> first | (simp only [fieldsB] at h; cases h; done) | skip
            rename_i s t
            simp only [fieldsB, Bool.and_eq_true] at h
            obtain ⟨c1, c2, e1, a1, a2⟩ := ha
            obtain ⟨d1, d2, e2, b1, b2⟩ := hb
            have cut : ∀ {l c1 c2 : List Value}, (l.drop off).take (csz s + csz t) = c1 ++ c2 → c1.length = csz s → c2.length = csz t → (l.drop off).take (csz s) = c1 ∧ (l.drop (off + csz s)).take (csz t) = c2 := by
              intro l c1 c2 e l1 l2
              have f1 := congrArg (List.take (csz s)) e
              rw [List.take_take, Nat.min_eq_left (by omega), ← l1, List.take_left'] at f1
              · have f2 := congrArg (List.drop (csz s)) e
                rw [← l1, List.drop_left', List.drop_take, List.drop_drop, l1, Nat.add_sub_cancel_left] at f2
                · rw [l1] at f1; exact ⟨f1, f2⟩
                · rfl
              · rfl
            simp only [csz] at e1 e2
            obtain ⟨f1, f2⟩ := cut e1 (relC_len _ _ _ a1) (relC_len _ _ _ a2)
            obtain ⟨f3, f4⟩ := cut e2 (relC_len _ _ _ b1) (relC_len _ _ _ b2)
            simp only [nlev] at hn
            obtain ⟨va, vb, v1, v2, v3⟩ := one s a.1 b.1 (is_spec h.1.1) (by omega) (Nat.eq_of_beq_eq_true h.1.2) (by rw [f1]; exact a1) (by rw [f3]; exact b1)
            have hrest := ihf t (off + csz s) a.2 b.2 (by omega) h.2 hf2 (by rw [f2]; exact a2) (by rw [f4]; exact b2)
            rw [Op.eqFields]
            simp only [if_pos hnm, Sem.run_bind, v1, v2, v3, Result.andThen_ok]
            show _ = Result.ok (andB (eqD lf s a.1 b.1) (eqD lf t a.2 b.2)) w
            cases eqD lf s a.1 b.1
            · simp [andB]
            · simp only [Bool.not_true, Bool.false_eq_true, if_false, hrest, andB, Bool.true_and]
      have hl1 := relC_len _ _ _ hxs
      have hl2 := relC_len _ _ _ hys
      exact key fs.toList p 0 a b (by omega) g3 h3 (by rw [List.drop_zero, ← hl1, List.take_length]; exact hxs) (by rw [List.drop_zero, ← hl2, List.take_length]; exact hys)
    · refine ih d t T a b za zb (by omega) ?_ ht hk ha hb
      cases T <;> first | exact Nat.zero_le _ | exact hk.elim | exact absurd ⟨_, rfl⟩ hst

theorem equal_any {t : TypeId} {a b : Value} {r : Bool} (h : ∀ d, 1000 < d → (Op.equalIn d t a b).run P w = .ok r w) : (Op.equal t a b).run P w = .ok r w := by
  unfold Op.equal
  exact h _ (by decide)

theorem eqOk_of (hC : CxOk C) (hq : eqChk C C.eqs = true) : EqOk C where
  eq := by
    intro w imm t p a b xs ys h1 h2 h3 h4
    have h5 := eqChk_mem hq h1
    unfold eqOne at h5
    simp only [Bool.and_eq_true, Bool.not_eq_true'] at h5
    have h6 := h5.2
    rw [h2] at h6
    have h6 : nlev (.st p) ≤ 1000 := Nat.le_of_ble_eq_true h6
    exact equal_any fun d hd => equalIn_ok (imm := imm) hC hq 1000 d t (.st p) a b _ _ hd h6 h2 h1 ⟨xs, rfl, h3⟩ ⟨ys, rfl, h4⟩
  guard := by
    intro t h1
    have h5 := eqChk_mem hq h1
    unfold eqOne at h5
    simp only [Bool.and_eq_true, Bool.not_eq_true'] at h5
    exact h5.1.1.2
end
end Ev


namespace Ev
open Go

section
variable {C : Cx} {X : Nat → Prop} {φ : Nat → Addr} {o : Nat → Obj} {w : World} {imm : Nat → Prop}

theorem mapTys_spec {t : TypeId} {tk tv : Ty} (h : mapTys C t = some (tk, tv)) : ∃ k v, C.P.underlying t = some (.map k v) ∧ C.ty k = some tk ∧ C.ty v = some tv := by
  unfold mapTys at h
  split at h
  · rename_i k v hd
    split at h
    · rename_i tk' tv' h1 h2
      injection h with h; injection h with h3 h4
      subst h3 h4
      exact ⟨k, v, desc_spec hd, h1, h2⟩
    · cases h
  · cases h

theorem mapIs_spec {t : TypeId} {tk tv : Ty} (h : mapIs C t tk tv = true) : ∃ k v, C.P.underlying t = some (.map k v) ∧ C.ty k = some tk ∧ C.ty v = some tv ∧ keyOk tk = true := by
  unfold mapIs at h
  split at h
  · rename_i k v hm
    simp only [Bool.and_eq_true] at h
    obtain ⟨⟨h1, h2⟩, h3⟩ := h
    have h1 := isTy_spec h1
    have h2 := isTy_spec h2
    injection h1 with h1; injection h2 with h2
    subst h1 h2
    obtain ⟨a, b, g1, g2, g3⟩ := mapTys_spec hm
    exact ⟨a, b, g1, g2, g3, h3⟩
  · cases h

/-- A key's type. -/
def keyD : TypeDesc → Ty → Bool
  | .int _, .int _ => true
  | .bool, .bool => true
  | .string, .str => true
  | _, _ => false

theorem key_desc (hC : CxOk C) {k : TypeId} {tk : Ty} (h : C.ty k = some tk) (hk : keyOk tk = true) : ∃ d, C.P.underlying k = some d ∧ keyD d tk = true := by
  obtain ⟨d, _, h1, h2⟩ := (hC.tab _ _ h).desc
  refine ⟨d, h1, ?_⟩
  cases tk <;> simp only [keyOk] at hk <;> try (cases hk; done)
  all_goals cases d <;> simp only [descB] at h2 <;> first | rfl | (cases h2; done)

theorem ba_beq (s s' : ByteArray) : (s == s') = (s.data == s'.data) := rfl
theorem ba_eq {s s' : ByteArray} (h : (s == s') = true) : s = s' := by
  rw [ba_beq] at h
  have : s.data = s'.data := by simpa using h
  cases s; cases s'; simp only at this; rw [this]
theorem ba_refl (s : ByteArray) : (s == s) = true := by rw [ba_beq]; simp

theorem sameNow_eq {d : TypeDesc} {tk : Ty} (hd : keyD d tk = true) {a b : den tk} {za zb : Value} (ha : relV imm w tk a za) (hb : relV imm w tk b zb) :
    Instr.sameNow d za zb = some (eqD lf tk a b) ∧ (eqD lf tk a b = true → Instr.sameBits 10000 zb za = true) := by
  cases tk <;> cases d <;> simp only [keyD] at hd <;> try (cases hd; done)
  · rename_i k k'
    have ha : relVal (fun _ => ⟨0, 0, none⟩) (fun _ => Obj.none) imm w (.d (.int k) a) za := ha
    have hb : relVal (fun _ => ⟨0, 0, none⟩) (fun _ => Obj.none) imm w (.d (.int k) b) zb := hb
    obtain ⟨rfl, _⟩ := rel_int ha
    obtain ⟨rfl, _⟩ := rel_int hb
    refine ⟨?_, fun h => ?_⟩
    · simp only [Instr.sameNow, if_pos]; rfl
    · have h : (a == b) = true := h
      have : a = b := by simpa using h
      subst this
      simp [Instr.sameBits]
  · have ha : relVal (fun _ => ⟨0, 0, none⟩) (fun _ => Obj.none) imm w (.d .bool a) za := ha
    have hb : relVal (fun _ => ⟨0, 0, none⟩) (fun _ => Obj.none) imm w (.d .bool b) zb := hb
    have := rel_bool ha; subst this
    have := rel_bool hb; subst this
    refine ⟨rfl, fun h => ?_⟩
    have h : (a == b) = true := h
    have : a = b := by simpa using h
    subst this
    simp [Instr.sameBits]
  · have ha : relVal (fun _ => ⟨0, 0, none⟩) (fun _ => Obj.none) imm w (.d .str a) za := ha
    have hb : relVal (fun _ => ⟨0, 0, none⟩) (fun _ => Obj.none) imm w (.d .str b) zb := hb
    obtain ⟨s, rfl, rfl, _⟩ := rel_str ha
    obtain ⟨s', rfl, rfl, _⟩ := rel_str hb
    have e : eqD lf .str (s.data.toList.map fun b => (b.toNat : Int)) (s'.data.toList.map fun b => (b.toNat : Int)) = (s == s') := by
      show eqS (bl s) (bl s') = _
      rw [eqS_bl, ba_beq, ByteArray.toList_eq, ByteArray.toList_eq, Bool.eq_iff_iff]
      simp only [beq_iff_eq]
      exact ⟨fun h => Array.toList_inj.1 h, fun h => by rw [h]⟩
    rw [e]
    refine ⟨rfl, fun h => ?_⟩
    have := ba_eq h
    subst this
    simp [Instr.sameBits, ba_refl]

theorem find_spec {d : TypeDesc} {tk tv : Ty} (hd : keyD d tk = true) {k : den tk} {zk : Value} (hk : relV imm w tk k zk) : ∀ (m : List (den tk × den tv)) (es : List MapEntry) (i : Nat), relEs (relV imm w tk) (relV imm w tv) m es →
    (∃ j zv e x, Instr.findNow d zk es i = some (some (i + j, zv)) ∧ es[j]? = some e ∧ Instr.sameBits 10000 e.key zk = true ∧ mget (eqD lf tk) k m = some x ∧ relV imm w tv x zv ∧
      ∀ y zy, relV imm w tv y zy → relEs (relV imm w tk) (relV imm w tv) (mset (eqD lf tk) k y m) (es.modify j fun e => { e with key := zk, val := zy })) ∨
    (Instr.findNow d zk es i = some none ∧ mget (eqD lf tk) k m = none ∧ ∀ y zy born, relV imm w tv y zy → relEs (relV imm w tk) (relV imm w tv) (mset (eqD lf tk) k y m) (es ++ [{ key := zk, val := zy, born := born }]))
  | [], es, i, h => by
    have h : es = [] := h
    subst h
    exact .inr ⟨rfl, rfl, fun y zy born hy => ⟨_, [], rfl, hk, hy, rfl⟩⟩
  | (k', v') :: m, es, i, ⟨e, r, he, h1, h2, h3⟩ => by
    subst he
    obtain ⟨g1, g2⟩ := sameNow_eq hd hk h1
    cases hb : eqD lf tk k k' with
    | true =>
      refine .inl ⟨0, e.val, e, v', ?_, rfl, g2 hb, ?_, h2, fun y zy hy => ?_⟩
      · simp only [Instr.findNow, g1, hb]; rfl
      · simp only [mget, hb]; rfl
      · simp only [mset, hb, cond_true]
        exact ⟨_, r, rfl, hk, hy, h3⟩
    | false =>
      have f1 : Instr.findNow d zk (e :: r) i = Instr.findNow d zk r (i + 1) := by simp only [Instr.findNow, g1, hb]
      have f2 : mget (eqD lf tk) k ((k', v') :: m) = mget (eqD lf tk) k m := by simp only [mget, hb]; rfl
      have f3 : ∀ y, mset (eqD lf tk) k y ((k', v') :: m) = (k', v') :: mset (eqD lf tk) k y m := fun y => by simp only [mset, hb]; rfl
      rcases find_spec hd hk m r (i + 1) h3 with ⟨j, zv, e', x, a1, a2, a3, a4, a5, a6⟩ | ⟨a1, a2, a3⟩
      · refine .inl ⟨j + 1, zv, e', x, ?_, by simpa using a2, a3, by rw [f2]; exact a4, a5, fun y zy hy => ?_⟩
        · rw [f1, a1]; simp only [Nat.add_assoc, Nat.add_comm 1 j]
        · rw [f3, List.modify_succ_cons]
          exact ⟨e, _, rfl, h1, h2, a6 y zy hy⟩
      · refine .inr ⟨by rw [f1]; exact a1, by rw [f2]; exact a2, fun y zy born hy => ?_⟩
        rw [f3]
        exact ⟨e, _, rfl, h1, h2, a3 y zy born hy⟩

theorem run_checkKey {P : Program} {d : TypeDesc} {tk : Ty} (hd : keyD d tk = true) {t : TypeId} (ht : P.underlying t = some d) (b : Bool) (v : Value) : (Instr.checkKey b 10000 t v).run P w = .ok () w := by
  rw [show (10000 : Nat) = 9999 + 1 from rfl]
  generalize 9999 = n
  unfold Instr.checkKey
  rw [Sem.run_bind, run_underlying ht w]
  simp only [Result.andThen_ok]
  cases d <;> cases tk <;> simp only [keyD] at hd <;> first | (cases hd; done) | (cases v <;> rfl)

theorem run_findKey {P : Program} {d : TypeDesc} {t : TypeId} (ht : P.underlying t = some d) {zk : Value} {es : List MapEntry} {r : Option (Nat × Value)} (h : Instr.findNow d zk es 0 = some r) : (Instr.findKey t zk es).run P w = .ok r w := by
  unfold Instr.findKey
  rw [Sem.run_bind, run_underlying ht w]
  simp only [Result.andThen_ok, h]
  rfl

theorem zero_rel (hC : CxOk C) {t : TypeId} {T : Ty} (h : C.ty t = some T) : ∃ z, (zeroValue t).run C.P w = .ok z w ∧ relV imm w T (zero T) z := by
  obtain ⟨i, z, g1, _, g2, g3, g4, g5, g6⟩ := (hC.tab _ _ h).info
  obtain ⟨d, _, _, hd⟩ := (hC.tab _ _ h).desc
  refine ⟨z, run_zeroValue g1 g4, ?_⟩
  obtain ⟨_, hk⟩ := descB_kind hd
  cases ha : aggT T with
  | true =>
    rw [ha] at g5
    cases z <;> simp only [isAggV] at g5 <;> try (cases g5; done)
    exact mk_agg ha (g6 imm w)
  | false =>
    rw [ha] at g5 hk
    obtain ⟨v, e, hv⟩ := relC_scal hk (g6 imm w)
    have : z.cells = #[z] := by cases z <;> first | rfl | (simp only [isAggV] at g5; cases g5; done)
    rw [this] at e
    injection e with e _
    rw [e]; exact hv

theorem asDs_noLent (hm : MRel C X φ o w) {t : Ty} {x : V} {d : den t} {z : Value} (hx : relVal φ o (immB X φ o w) w x z) (hn : lentV o x = []) (h : asDs lf o t x = some d) : relV (immB X φ o w) w t d z :=
  asDs_rel hm hx (fun id hi => by rw [hn] at hi; cases hi) h

theorem asDs_key {t : Ty} {x : V} {d : den t} (hk : keyOk t = true) (h : asDs lf o t x = some d) : x = .d t d := by
  have hx : asD lf o t x = some d := by
    by_cases hc : ∃ cs, x = .agg cs
    · obtain ⟨cs, rfl⟩ := hc
      cases t <;> simp only [keyOk] at hk <;> first | (cases hk; done) | (simp only [asDs] at h; cases h)
    · cases x <;> first | exact h | exact absurd ⟨_, rfl⟩ hc
  rcases asD_cases hx with rfl | ⟨e', ht, _⟩ | ⟨e', ht, _⟩
  · rfl
  · subst ht; cases hk
  · subst ht; cases hk

theorem map_get (hm : MRel C X φ o w) {id : Nat} {tk tv : Ty} {m : List (den tk × den tv)} (ho : o id = .map tk tv m) : ∃ es clock, w.heap[(φ id).block]? = some (.map es clock) ∧ relEs (relV (immB X φ o w) w tk) (relV (immB X φ o w) w tv) m es.toList := by
  have := hm.objs id
  rw [ho] at this
  exact this

theorem run_getMap {P : Program} {b : Nat} {es : Array MapEntry} {clock : Nat} (h : w.heap[b]? = some (.map es clock)) : (getObj b).run P w = .ok (.map es clock) w := by
  simp [getObj, Sem.run, h]

theorem run_setMap {P : Program} {b : Nat} {es : Array MapEntry} {clock : Nat} (x : Go.Obj) (h : w.heap[b]? = some (.map es clock)) : (setObj b x).run P w = .ok () { w with heap := w.heap.setIfInBounds b x } := by
  simp [setObj, Sem.run, h]

theorem lookupPk_ok (hC : CxOk C) (hm : MRel C X φ o w) {t : TypeId} {x k : V} {zx zk : Value} {ok : Bool} {v : V} {u : List (Nat × Obj)} (hx : relVal φ o (immB X φ o w) w x zx) (hk : relVal φ o (immB X φ o w) w k zk)
    (h : (lookupPk lf C o t x k ok).gives v u) : Res C X φ o w v u (Instr.lookup t zx zk ok) := by
  have fin : ∀ {tv : Ty} (b : Bool) (d : den tv) (z : Value), relV (immB X φ o w) w tv d z → (Instr.lookup t zx zk ok).run C.P w = .ok (if ok then .tuple #[z, .bool b] else z) w →
      Res C X φ o w (bif ok then .tup [.d tv d, .d .bool b] else .d tv d) [] (Instr.lookup t zx zk ok) := by
    intro tv b d z hz hr
    refine ⟨_, w, φ, hr, .same hm ?_⟩
    cases ok with
    | false => exact hz
    | true => exact ⟨#[z, .bool b], rfl, z, [.bool b], rfl, hz, .bool b, [], rfl, mk_bool, rfl⟩
  unfold lookupPk at h
  split at h
  · rename_i id
    split at h
    · rename_i tk tv m ho
      split at h
      · rename_i d hd
        rw [gives_when, gives_now] at h
        obtain ⟨h1, rfl, rfl⟩ := h
        obtain ⟨kt, vt, hu, c1, c2, hko⟩ := mapIs_spec h1
        have := asDs_key hko hd
        subst this
        have hk : relV (immB X φ o w) w tk d zk := hk
        obtain ⟨dd, hu2, hkd⟩ := key_desc hC c1 hko
        obtain ⟨es, clock, hb, hr⟩ := map_get hm ho
        unfold relVal at hx
        rw [ho] at hx
        simp only at hx
        subst hx
        rcases find_spec hkd hk m es.toList 0 hr with ⟨j, zv, e, y, a1, a2, a3, a4, a5, a6⟩ | ⟨a1, a2, a3⟩
        · have e1 : lf.mgetD (eqD lf tk) d m (zero tv) = y := by show (mget _ d m).getD _ = y; rw [a4]; rfl
          have e2 : lf.mhas (eqD lf tk) d m = true := by show (mget _ d m).isSome = true; rw [a4]; rfl
          rw [e1, e2]
          refine fin true y zv a5 ?_
          simp [Instr.lookup, run_underlying hu, run_getMap hb, run_checkKey hkd hu2, run_findKey hu2 a1]
        · have e1 : lf.mgetD (eqD lf tk) d m (zero tv) = zero tv := by show (mget _ d m).getD _ = _; rw [a2]; rfl
          have e2 : lf.mhas (eqD lf tk) d m = false := by show (mget _ d m).isSome = false; rw [a2]; rfl
          rw [e1, e2]
          obtain ⟨z, z1, z2⟩ := zero_rel (imm := immB X φ o w) (w := w) hC c2
          refine fin false _ z z2 ?_
          simp [Instr.lookup, run_underlying hu, run_getMap hb, run_checkKey hkd hu2, run_findKey hu2 a1, z1]
      · cases h
    · cases h
  · split at h
    · rename_i tk tv hmt
      split at h
      · rename_i d hd
        rw [gives_when, gives_now] at h
        obtain ⟨hko, rfl, rfl⟩ := h
        obtain ⟨kt, vt, hu, c1, c2⟩ := mapTys_spec hmt
        obtain ⟨dd, hu2, hkd⟩ := key_desc hC c1 hko
        have : zx = .map none := hx
        subst this
        obtain ⟨z, z1, z2⟩ := zero_rel (imm := immB X φ o w) (w := w) hC c2
        refine fin false _ z z2 ?_
        have a1 : Instr.findNow dd zk [] 0 = some none := rfl
        simp [Instr.lookup, run_underlying hu, run_checkKey hkd hu2, run_findKey hu2 a1, z1]
      · cases h
    · cases h
  · cases h

theorem makeMapPk_ok (hm : MRel C X φ o w) {fr : Nat} {t : TypeId} {v : V} {u : List (Nat × Obj)} (h : (makeMapPk C fr t).gives v u) (hf : Frees fr o u) : Res C X φ o w v u (Instr.makeMap t none) := by
  unfold makeMapPk at h
  split at h
  · rename_i tk tv hmt
    rw [gives_when, gives_now] at h
    obtain ⟨_, rfl, rfl⟩ := h
    have hfr : o fr = .none := hf _ (List.mem_cons_self ..) (Nat.le_refl _) (by show fr < fr + 16; omega)
    refine ⟨.map (some w.heap.size), w.alloc (.map #[] 0), upd φ fr ⟨w.heap.size, 0, none⟩, by simp [Instr.makeMap], ?_⟩
    refine Comes.fresh hm (B := .map #[] 0) rfl (.map tk tv []) (ns := []) (fun p hp => by cases hp) (fun _ => by rw [hfr]; trivial) (fun _ _ _ => ?_) trivial (fun h3 => ?_)
    · refine ⟨#[], 0, ?_, rfl⟩
      rw [upd_same]
      show (w.heap.push (Go.Obj.map #[] 0))[w.heap.size]? = some (Go.Obj.map #[] 0)
      simp
    · unfold relVal
      rw [h3, upd_same]
  · cases h

theorem mapUpdatePk_ok (hC : CxOk C) (hm : MRel C X φ o w) {t : TypeId} {x k y : V} {zx zk zy : Value} {v : V} {u : List (Nat × Obj)} (hx : relVal φ o (immB X φ o w) w x zx) (hk : relVal φ o (immB X φ o w) w k zk) (hy : relVal φ o (immB X φ o w) w y zy)
    (h : (mapUpdatePk lf C o t x k y).gives v u) : ResU C X φ o w v u (Instr.mapUpdate t zx zk zy) := by
  unfold mapUpdatePk at h
  split at h
  · rename_i id
    split at h
    · rename_i tk tv m ho
      split at h
      · rename_i d d' hd hd'
        rw [gives_when, gives_now, Bool.and_eq_true] at h
        obtain ⟨⟨h1, h2⟩, rfl, rfl⟩ := h
        obtain ⟨kt, vt, hu, c1, c2, hko⟩ := mapIs_spec h1
        have := asDs_key hko hd
        subst this
        have hk : relV (immB X φ o w) w tk d zk := hk
        have hy := asDs_noLent hm hy (by simpa using h2) hd'
        obtain ⟨dd, hu2, hkd⟩ := key_desc hC c1 hko
        obtain ⟨es, clock, hb, hr⟩ := map_get hm ho
        have hex : excl (φ id) (o id) = true := by rw [ho]; rfl
        unfold relVal at hx
        rw [ho] at hx
        simp only at hx
        subst hx
        have hlt : (φ id).block < w.heap.size := (hm.sep id hex).1
        have done : ∀ (es' : Array MapEntry) (clock' : Nat), relEs (relV (immB X φ o w) w tk) (relV (immB X φ o w) w tv) (mset (eqD lf tk) d d' m) es'.toList →
            (Instr.mapUpdate t (.map (some (φ id).block)) zk zy).run C.P w = .ok () { w with heap := w.heap.setIfInBounds (φ id).block (.map es' clock') } →
            ResU C X φ o w .undef [(id, .map tk tv (lf.mset (eqD lf tk) d d' m))] (Instr.mapUpdate t (.map (some (φ id).block)) zk zy) := by
          intro es' clock' he hrun
          refine ⟨_, φ, hrun, Comes.write hm _ (fun _ => hex) (by simp) (fun b hb => ?_) (by rw [ho]; exact rfl) (fun a1 a2 a3 => ?_) trivial (fun _ => rfl)⟩
          · show (w.heap.setIfInBounds _ _)[b]? = _
            rw [Array.getElem?_setIfInBounds_ne (fun e => hb ⟨hex, e⟩)]
          · refine ⟨es', clock', ?_, ?_⟩
            · show (w.heap.setIfInBounds _ _)[_]? = _
              rw [Array.getElem?_setIfInBounds_self_of_lt hlt]
            · exact relEs_mono (relV_mono a1 a2 _) (relV_mono a1 a2 _) he
        rcases find_spec hkd hk m es.toList 0 hr with ⟨j, zv, e, y', a1, a2, a3, a4, a5, a6⟩ | ⟨a1, a2, a3⟩
        · refine done (es.modify j fun e => { e with key := zk, val := zy }) clock (by rw [Array.toList_modify]; exact a6 _ _ hy) ?_
          have ha2 : es[j]? = some e := by rw [← Array.getElem?_toList]; exact a2
          rw [Nat.zero_add] at a1
          simp [Instr.mapUpdate, run_underlying hu, run_getMap hb, run_setMap _ hb, run_checkKey hkd hu2, run_findKey hu2 a1, Instr.keyThatStays, ha2, a3]
        · refine done (es.push { key := zk, val := zy, born := clock }) (clock + 1) (by rw [Array.toList_push]; exact a3 _ _ clock hy) ?_
          simp [Instr.mapUpdate, run_underlying hu, run_getMap hb, run_setMap _ hb, run_checkKey hkd hu2, run_findKey hu2 a1]
      · cases h
    · cases h
  · cases h
end
end Ev

