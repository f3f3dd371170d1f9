/- From what a row reads to data; calls as functions; numbers.
   A part of a verified evaluator of the model: no statement of its own about the program. -/
import Derived.Test.YtdekfefcpdejkaaGreatDoorEvH
import Derived.ChangeArms
import Derived.OpenShut
import Derived.ChangeSame
import Derived.ReadAgain
import Derived.ChangeStays
import Derived.WideShapes
import Derived.RowKit2
namespace Ev
open Go

/-! From what a row reads to data. -/

/-- Data that a datum tells. -/
def datAll {α β : Type} (f : α → Option β) : List α → Option (List β)
  | [] => some []
  | x :: r => match f x with
    | some y => match datAll f r with
      | some l => some (y :: l)
      | none => none
    | none => none

def dat {H : Type} : (T : Ty) → List (DataW H) → Option (den T)
  | .unit, l => match l with
    | [] => some ()
    | _ => none
  | .pair a b, l => match l with
    | d :: r => match dat a [d] with
      | some x => match dat b r with
        | some y => some (x, y)
        | none => none
      | none => none
    | [] => none
  | .st p, l => match l with
    | [.agg ps] => dat p ps
    | _ => none
  | .int k, l => match l with
    | [.lit (.int k' n)] => if k' = k then some n else none
    | _ => none
  | .bool, l => match l with
    | [.lit (.bool b)] => some b
    | _ => none
  | .str, l => match l with
    | [.lit (.string s)] => some (s.map fun b => (b.toNat : Int))
    | _ => none
  | .arr n e, l => match l with
    | [.agg ps] => match datAll (fun d => dat e [d]) ps with
      | some l => if l.length = n then some l else none
      | none => none
    | _ => none
  | .sl e, l => match l with
    | [.nil] => some (⟨true, []⟩ : Sl (den e))
    | [.slice es _] => match datAll (fun d => dat e [d]) es with
      | some l => some (⟨false, l⟩ : Sl (den e))
      | none => none
    | _ => none

theorem datAll_eq {α β : Type} {f : α → Option β} : ∀ {l : List α} {r : List β}, l.length = r.length → (∀ (i : Nat) (x : α) (y : β), l[i]? = some x → r[i]? = some y → f x = some y) → datAll f l = some r
  | [], [], _, _ => rfl
  | x :: l, y :: r, hl, h => by
    simp only [datAll]
    rw [h 0 x y rfl rfl, datAll_eq (l := l) (r := r) (by simpa using hl) (fun i a b h1 h2 => h (i + 1) a b (by simpa using h1) (by simpa using h2))]

/-- A slice's address is one of memory that no one writes. -/
def zok (imm : Nat → Prop) (v : Value) : Prop := ∀ a n c, v = .slice (some a) n c → a.spot = none ∧ imm a.block

/-- Is there a slice in what a slice holds? -/
def nested : Ty → Bool
  | .sl e => hasSlT e
  | .pair a b => nested a || nested b
  | .st p => nested p
  | .arr _ e => nested e
  | _ => false

theorem nested_sub : ∀ {e : Ty}, nested e = true → hasSlT e = true
  | .sl _, _ => rfl
  | .pair a b, h => by
    simp only [nested, Bool.or_eq_true] at h
    simp only [hasSlT, Bool.or_eq_true]
    exact h.imp nested_sub nested_sub
  | .st p, h => nested_sub (e := p) h
  | .arr _ e, h => nested_sub (e := e) h
  | .int _, h => by cases h
  | .bool, h => by cases h
  | .str, h => by cases h
  | .unit, h => by cases h

theorem cellsOf_ty {C : Cx} {t : TypeId} {T : Ty} (h : TyOk C t T) : C.P.cellsOf t = csz T := by
  obtain ⟨i, z, h1, _, h2, _⟩ := h.info
  unfold Program.cellsOf
  rw [h1]; exact h2

section
variable {H : Type} {enc : TypeId × Value → H} {C : Cx} {W : World} {base : Nat} {spare : Nat → Bool} {held : Bool} {imm : Nat → Prop}

/-- What is read of a type is its data. -/
def ReadsTy (C : Cx) (enc : TypeId × Value → H) (W : World) (base : Nat) (spare : Nat → Bool) (held : Bool) (imm : Nat → Prop) (T : Ty) : Prop :=
  ∀ t fuel cs y, C.ty t = some T → DataW.trod enc C.P W base spare held fuel t cs = some y → (hasSlT T = true → ∀ v, v ∈ cs → zok imm v) → ∃ x, relC imm W T x cs ∧ dat T [y.1] = some x

theorem relR_row {e : Ty} : ∀ (n : Nat) (xs : List (DataW H × List MemPlace)) (f : Nat → List Value), xs.length = n → (∀ i y, xs[i]? = some y → ∃ x, relC imm W e x (f i) ∧ dat e [y.1] = some x) →
    ∃ l : List (den e), l.length = n ∧ relR (relC imm W e) l ((List.range n).flatMap f) ∧ datAll (fun d => dat e [d]) (xs.map (·.1)) = some l := by
  intro n
  induction n with
  | zero =>
    intro xs f hl _
    have : xs = [] := List.eq_nil_of_length_eq_zero hl
    subst this
    exact ⟨[], rfl, rfl, rfl⟩
  | succ n ih =>
    intro xs f hl h
    cases xs with
    | nil => cases hl
    | cons y xs =>
      obtain ⟨x, h1, h2⟩ := h 0 y rfl
      obtain ⟨l, g1, g2, g3⟩ := ih xs (fun i => f (i + 1)) (by simpa using hl) (fun i z hz => h (i + 1) z (by simpa using hz))
      refine ⟨x :: l, by simp [g1], ?_, ?_⟩
      · rw [List.range_succ_eq_map, List.flatMap_cons, List.flatMap_map]
        exact ⟨_, _, rfl, h1, g2⟩
      · simp only [List.map_cons, datAll, h2, g3]

theorem flat_take {k : Nat} : ∀ (n : Nat) (cs : List Value), cs.length = n * k → (List.range n).flatMap (fun i => (cs.drop (i * k)).take k) = cs := by
  intro n
  induction n with
  | zero => intro cs h; simp at h; subst h; rfl
  | succ n ih =>
    intro cs h
    rw [List.range_succ_eq_map, List.flatMap_cons, List.flatMap_map]
    have h1 : ∀ i, (cs.drop ((i + 1) * k)).take k = ((cs.drop k).drop (i * k)).take k := fun i => by
      rw [List.drop_drop]; congr 2; rw [Nat.succ_mul]; omega
    simp only [Nat.succ_eq_add_one, h1]
    rw [ih (cs.drop k) (by rw [List.length_drop, h, Nat.succ_mul]; omega)]
    simp

theorem readsTy (hC : CxOk C) (T : Ty) : (nested T = true → ∀ a v, W.cell? a = some v → zok imm v) → ReadsTy C enc W base spare held imm T ∧
    (∀ (fs : List Field) (off : Nat) (n : Nat) (cs : List Value) (xs : List (DataW H × List MemPlace)), fieldsB C fs T off = true → (hasSlT T = true → ∀ v, v ∈ cs → zok imm v) → off + csz T ≤ cs.length → xs.length = fs.length →
      (∀ (i : Nat) (f : Field), fs[i]? = some f → DataW.trod enc C.P W base spare held n f.type ((cs.drop f.offset).take (C.P.cellsOf f.type)) = xs[i]?) →
      ∃ x, relC imm W T x ((cs.drop off).take (csz T)) ∧ dat T (xs.map (·.1)) = some x) := by
  have one : ∀ (T : Ty), ReadsTy C enc W base spare held imm T → ∀ (f : Field) (off : Nat) (n : Nat) (cs : List Value) (xs : List (DataW H × List MemPlace)), fieldsB C [f] T off = true → (hasSlT T = true → ∀ v, v ∈ cs → zok imm v) → off + csz T ≤ cs.length →
      xs.length = 1 → (∀ (i : Nat) (f' : Field), [f][i]? = some f' → DataW.trod enc C.P W base spare held n f'.type ((cs.drop f'.offset).take (C.P.cellsOf f'.type)) = xs[i]?) →
      ∃ x, relC imm W T x ((cs.drop off).take (csz T)) ∧ dat T (xs.map (·.1)) = some x := by
    intro T hT f off n cs xs hf hz _ hl h
    have hf : (C.is f.type T && Nat.beq f.offset off) = true := by
      cases T <;> exact hf
    rw [Bool.and_eq_true] at hf
    obtain ⟨y, rfl⟩ : ∃ y, xs = [y] := by
      match xs, hl with
      | [y], _ => exact ⟨y, rfl⟩
    have hty := is_spec hf.1
    have hof := Nat.eq_of_beq_eq_true hf.2
    have h0 := h 0 f rfl
    rw [cellsOf_ty (hC.tab _ _ hty), hof] at h0
    obtain ⟨x, h1, h2⟩ := hT _ _ _ _ hty h0 (fun hh v hv => hz hh v (List.mem_of_mem_drop (List.mem_of_mem_take hv)))
    exact ⟨x, h1, h2⟩
  have chain1 : ∀ (T : Ty), (∀ a b, T ≠ .pair a b) → T ≠ .unit → ReadsTy C enc W base spare held imm T → (∀ (fs : List Field) (off : Nat) (n : Nat) (cs : List Value) (xs : List (DataW H × List MemPlace)), fieldsB C fs T off = true → (hasSlT T = true → ∀ v, v ∈ cs → zok imm v) → off + csz T ≤ cs.length → xs.length = fs.length →
      (∀ (i : Nat) (f : Field), fs[i]? = some f → DataW.trod enc C.P W base spare held n f.type ((cs.drop f.offset).take (C.P.cellsOf f.type)) = xs[i]?) →
      ∃ x, relC imm W T x ((cs.drop off).take (csz T)) ∧ dat T (xs.map (·.1)) = some x) := by
    intro T hp hu hT fs off n cs xs hf hz hlen hl h
    cases fs with
    | nil => cases T <;> first | exact absurd rfl hu | cases hf
    | cons f fs =>
      cases fs with
      | nil => exact one T hT f off n cs xs hf hz hlen hl h
      | cons g r => cases T <;> first | exact absurd rfl (hp _ _) | cases hf
  induction T with
  | int k =>
    intro _
    have hT : ReadsTy C enc W base spare held imm (.int k) := by
      intro t fuel cs y hty h _
      obtain ⟨d, h1, h2, h3⟩ := (hC.tab _ _ hty).desc
      cases d <;> simp only [descB] at h3 <;> try (cases h3; done)
      have := kindN_inj h3
      subst this
      obtain ⟨n, rfl, rfl, hw⟩ := DataW.trod_int h2 h
      refine ⟨n, ⟨rfl, ?_⟩, by simp [dat]⟩
      simpa [Lit.wf, inK] using hw
    exact ⟨hT, chain1 _ (fun _ _ h => by cases h) (fun h => by cases h) hT⟩
  | bool =>
    intro _
    have hT : ReadsTy C enc W base spare held imm .bool := by
      intro t fuel cs y hty h _
      obtain ⟨d, h1, h2, h3⟩ := (hC.tab _ _ hty).desc
      cases d <;> simp only [descB] at h3 <;> try (cases h3; done)
      obtain ⟨n, rfl, rfl⟩ := DataW.trod_bool h2 h
      exact ⟨n, rfl, rfl⟩
    exact ⟨hT, chain1 _ (fun _ _ h => by cases h) (fun h => by cases h) hT⟩
  | str =>
    intro _
    have hT : ReadsTy C enc W base spare held imm .str := by
      intro t fuel cs y hty h _
      obtain ⟨d, h1, h2, h3⟩ := (hC.tab _ _ hty).desc
      cases d <;> simp only [descB] at h3 <;> try (cases h3; done)
      obtain ⟨s, rfl, rfl, hs⟩ := DataW.trod_string h2 h
      exact ⟨_, ⟨s, rfl, rfl, hs⟩, rfl⟩
    exact ⟨hT, chain1 _ (fun _ _ h => by cases h) (fun h => by cases h) hT⟩
  | unit =>
    intro _
    refine ⟨?_, ?_⟩
    · intro t fuel cs y hty h _
      obtain ⟨d, h1, h2, h3⟩ := (hC.tab _ _ hty).desc
      cases d <;> simp only [descB] at h3 <;> cases h3
    · intro fs off n cs xs hf _ _ hl _
      cases fs with
      | nil =>
        have : xs = [] := List.eq_nil_of_length_eq_zero hl
        subst this
        exact ⟨(), by simp [csz, relC], rfl⟩
      | cons f r =>
        cases r with
        | nil =>
          simp only [fieldsB, Bool.and_eq_true] at hf
          have hty := is_spec hf.1
          obtain ⟨d, h1, h2, h3⟩ := (hC.tab _ _ hty).desc
          cases d <;> simp only [descB] at h3 <;> cases h3
        | cons g r => cases hf
  | st p ih =>
    intro hn
    have hT : ReadsTy C enc W base spare held imm (.st p) := by
      intro t fuel cs y hty h hz
      have hok := hC.tab _ _ hty
      obtain ⟨d, h1, h2, h3⟩ := hok.desc
      cases d <;> simp only [descB] at h3 <;> try (cases h3; done)
      rename_i fs
      obtain ⟨xs, n, rfl, rfl, hl, hlen, hf⟩ := DataW.trod_struct h2 h
      rw [cellsOf_ty hok] at hl
      have hl : cs.length = csz p := hl
      obtain ⟨x, g1, g2⟩ := (ih hn).2 fs.toList 0 n cs xs h3 hz (by omega) (by simpa using hlen) (fun i f hi => hf i f (by rw [← Array.getElem?_toList]; exact hi))
      rw [List.drop_zero, List.take_of_length_le (by omega)] at g1
      exact ⟨x, g1, g2⟩
    exact ⟨hT, chain1 _ (fun _ _ h => by cases h) (fun h => by cases h) hT⟩
  | pair a b iha ihb =>
    intro hn
    simp only [nested, Bool.or_eq_true] at hn
    refine ⟨?_, ?_⟩
    · intro t fuel cs y hty h _
      obtain ⟨d, h1, h2, h3⟩ := (hC.tab _ _ hty).desc
      cases d <;> simp only [descB] at h3 <;> cases h3
    · intro fs off n cs xs hf hz hlen hl h
      cases fs with
      | nil => cases hf
      | cons f r =>
        cases r with
        | nil =>
          simp only [fieldsB, Bool.and_eq_true] at hf
          have hty := is_spec hf.1
          obtain ⟨d, h1, h2, h3⟩ := (hC.tab _ _ hty).desc
          cases d <;> simp only [descB] at h3 <;> cases h3
        | cons g r =>
          simp only [fieldsB, Bool.and_eq_true] at hf
          cases xs with
          | nil => cases hl
          | cons y xs =>
            simp only [csz] at hlen
            have hty := is_spec hf.1.1
            have hof := Nat.eq_of_beq_eq_true hf.1.2
            have h0 := h 0 f rfl
            rw [cellsOf_ty (hC.tab _ _ hty), hof] at h0
            obtain ⟨x1, g1, g2⟩ := (iha fun h => hn (.inl h)).1 _ _ _ _ hty h0 (fun hh v hv => hz (by simp only [hasSlT, hh, Bool.true_or]) v (List.mem_of_mem_drop (List.mem_of_mem_take hv)))
            obtain ⟨x2, g3, g4⟩ := (ihb fun h => hn (.inr h)).2 (g :: r) (off + csz a) n cs xs hf.2 (fun hh => hz (by simp only [hasSlT, hh, Bool.or_true])) (by omega) (by simpa using hl) (fun i f' hi => h (i + 1) f' (by simpa using hi))
            refine ⟨(x1, x2), ⟨_, _, ?_, g1, g3⟩, ?_⟩
            · show (cs.drop off).take (csz a + csz b) = _
              rw [List.take_add, List.drop_drop]
            · simp only [List.map_cons, dat, g2, g4]
  | arr n e ih =>
    intro hn
    have hT : ReadsTy C enc W base spare held imm (.arr n e) := by
      intro t fuel cs y hty h hz
      have hok := hC.tab _ _ hty
      obtain ⟨d, h1, h2, h3⟩ := hok.desc
      cases d <;> simp only [descB] at h3 <;> try (cases h3; done)
      rename_i m te
      rw [Bool.and_eq_true] at h3
      have := Nat.eq_of_beq_eq_true h3.1
      subst this
      have hte := is_spec h3.2
      obtain ⟨xs, k, rfl, rfl, hl, hlen, hf⟩ := DataW.trod_array h2 h
      rw [cellsOf_ty hok] at hl
      have hl : cs.length = m * csz e := hl
      rw [cellsOf_ty (hC.tab _ _ hte)] at hf
      obtain ⟨l, g1, g2, g3⟩ := relR_row (imm := imm) (W := W) (e := e) m xs (fun i => (cs.drop (i * csz e)).take (csz e)) hlen (fun i y hy => by
        have hi : i < m := by
          rcases Nat.lt_or_ge i m with h | h
          · exact h
          · rw [List.getElem?_eq_none (by omega)] at hy; cases hy
        have := hf i hi
        rw [hy] at this
        exact (ih hn).1 _ _ _ _ hte this (fun hh v hv => hz hh v (List.mem_of_mem_drop (List.mem_of_mem_take hv))))
      rw [flat_take m cs hl] at g2
      refine ⟨l, ⟨g1, g2⟩, ?_⟩
      simp only [dat, g3, g1, if_true]
    exact ⟨hT, chain1 _ (fun _ _ h => by cases h) (fun h => by cases h) hT⟩
  | sl e ih =>
    intro hn
    have hT : ReadsTy C enc W base spare held imm (.sl e) := by
      intro t fuel cs y hty h hz
      have hok := hC.tab _ _ hty
      obtain ⟨d, h1, h2, h3⟩ := hok.desc
      cases d <;> simp only [descB] at h3 <;> try (cases h3; done)
      rename_i te
      have hte := is_spec h3
      rcases DataW.trod_slice h2 h with ⟨rfl, rfl⟩ | ⟨a, len, cap, elems, rest, n, rfl, rfl, rfl, hb, hlc, hcm, hlen, hf, _⟩
      · exact ⟨⟨true, []⟩, ⟨_, rfl, Nat.zero_le _, .inl ⟨rfl, rfl, rfl⟩⟩, rfl⟩
      · rw [cellsOf_ty (hC.tab _ _ hte)] at hf
        obtain ⟨hs, hi⟩ := hz rfl _ (List.mem_singleton.2 rfl) a len cap rfl
        have hin : hasSlT e = true → ∀ a v, W.cell? a = some v → zok imm v := fun h => hn h
        have cellsEx : ∀ i, i < len → ∃ ci, W.cells? base (a.add (i * csz e)) (csz e) = some ci ∧ DataW.trod enc C.P W base spare held n te ci = elems[i]? := fun i hi => by
          have := hf i hi
          rw [List.getElem?_eq_getElem (by omega)] at this
          obtain ⟨ci, h1, h2⟩ := Option.bind_eq_some_iff.1 this
          exact ⟨ci, h1, by rw [h2, List.getElem?_eq_getElem (by omega)]⟩
        let f : Nat → List Value := fun i => (W.cells? base (a.add (i * csz e)) (csz e)).getD []
        obtain ⟨l, g1, g2, g3⟩ := relR_row (imm := imm) (W := W) (e := e) len elems f hlen (fun i y hy => by
          have hi : i < len := by
            rcases Nat.lt_or_ge i len with h | h
            · exact h
            · rw [List.getElem?_eq_none (by omega)] at hy; cases hy
          obtain ⟨ci, h1, h2⟩ := cellsEx i hi
          rw [hy] at h2
          show ∃ x, relC imm W e x ((W.cells? base (a.add (i * csz e)) (csz e)).getD []) ∧ _
          rw [h1, Option.getD_some]
          refine (ih fun h => hin (nested_sub h)).1 _ _ _ _ hte h2 (fun hsl v hv => ?_)
          obtain ⟨_, h4, h5⟩ := World.cells?_some h1
          obtain ⟨j, hj, rfl⟩ := List.mem_iff_getElem.1 hv
          have := h5 j (by omega)
          rw [List.getElem?_eq_getElem hj] at this
          exact hin hsl _ _ this)
        have hcl : ∀ i, i < len → (f i).length = csz e ∧ ∀ j (hj : j < (f i).length), W.cell? ⟨a.block, a.off + i * csz e + j, none⟩ = some (f i)[j] := fun i hi => by
          obtain ⟨ci, h1, _⟩ := cellsEx i hi
          have hfi : f i = ci := by show (W.cells? base (a.add (i * csz e)) (csz e)).getD [] = ci; rw [h1]; rfl
          obtain ⟨_, h4, h5⟩ := World.cells?_some h1
          rw [hfi]
          refine ⟨h4, fun j hj => ?_⟩
          have := h5 j (by omega)
          rw [List.getElem?_eq_getElem hj] at this
          rw [← this]
          have : (a.add (i * csz e)).add j = ⟨a.block, a.off + i * csz e + j, none⟩ := by
            obtain ⟨ab, ao, as⟩ := a
            have hs : as = none := hs
            subst hs
            simp only [Addr.add]
            by_cases h0 : i * csz e = 0
            · by_cases hj0 : j = 0
              · simp [h0, hj0]
              · simp [h0, hj0]
            · by_cases hj0 : j = 0
              · simp [h0, hj0]
              · simp [h0, hj0]
          rw [this]
        have hca : cellsAt W a ((List.range len).flatMap f) := by
          clear g2 g3 h hf
          have key : ∀ m, m ≤ len → cellsAt W a ((List.range m).flatMap f) ∧ ((List.range m).flatMap f).length = m * csz e := by
            intro m
            induction m with
            | zero => intro _; exact ⟨fun j hj => by simp at hj, by simp⟩
            | succ m ihm =>
              intro hm
              obtain ⟨k1, k2⟩ := ihm (by omega)
              obtain ⟨k3, k4⟩ := hcl m (by omega)
              rw [List.range_succ, List.flatMap_append, List.flatMap_singleton]
              refine ⟨fun j hj => ?_, by rw [List.length_append, k2, k3, Nat.succ_mul]⟩
              by_cases hjl : j < ((List.range m).flatMap f).length
              · rw [List.getElem_append_left hjl]; exact k1 j hjl
              · rw [List.getElem_append_right (by omega)]
                have hj2 : j - ((List.range m).flatMap f).length < (f m).length := by rw [List.length_append] at hj; omega
                have := k4 _ hj2
                rw [← this]
                congr 2
                omega
          exact (key len (Nat.le_refl _)).1
        refine ⟨⟨false, l⟩, ⟨_, rfl, ?_, .inr ⟨rfl, a, cap, _, ?_, hs, fun _ => hi, g2, hca, ?_⟩⟩, ?_⟩
        · show l.length ≤ maxL
          have : maxLen = maxL := rfl
          omega
        · show Value.slice (some a) len cap = Value.slice (some a) l.length cap
          rw [g1]
        · show l.length ≤ cap
          omega
        · simp only [dat, g3]
    exact ⟨hT, chain1 _ (fun _ _ h => by cases h) (fun h => by cases h) hT⟩
end
end Ev


namespace Ev
open Go Go.ChangeShapes Go.WideShapes Go.RowKit

/-! A law: from a call that gives 'true' to the row's contract. -/

/-- Data as memory holds it. -/
def good : (T : Ty) → den T → Prop
  | .int k, n => inK k n
  | .bool, _ => True
  | .str, l => List.length l ≤ maxL ∧ ∀ b, b ∈ (l : List Int) → 0 ≤ b ∧ b < 256
  | .unit, _ => True
  | .pair a b, x => good a x.1 ∧ good b x.2
  | .st p, x => good p x
  | .arr n e, l => List.length l = n ∧ ∀ x, x ∈ (l : List (den e)) → good e x
  | .sl e, s => s.l.length ≤ maxL ∧ (s.nil = true → s.l = []) ∧ ∀ x, x ∈ s.l → good e x

theorem relR_all {α : Type} {f : α → List Value → Prop} {g : α → Prop} (h : ∀ x c, f x c → g x) : ∀ {l : List α} {cs : List Value}, relR f l cs → ∀ x, x ∈ l → g x
  | y :: l, _, ⟨c, d, e, h1, h2⟩, x, hx => by
    rcases List.mem_cons.1 hx with rfl | hx
    · exact h _ _ h1
    · exact relR_all h h2 x hx

theorem relC_good {imm : Nat → Prop} {w : World} : ∀ (T : Ty) (x : den T) (cs : List Value), relC imm w T x cs → good T x
  | .int _, _, _, h => h.2
  | .bool, _, _, _ => trivial
  | .str, _, _, ⟨s, _, h2, h3⟩ => by
    subst h2
    refine ⟨by simpa using h3, fun b hb => ?_⟩
    obtain ⟨c, _, rfl⟩ := List.mem_map.1 hb
    have := c.toNat_lt
    omega
  | .unit, _, _, _ => trivial
  | .pair a b, x, _, ⟨c, d, _, h1, h2⟩ => ⟨relC_good a x.1 c h1, relC_good b x.2 d h2⟩
  | .st p, x, cs, h => relC_good p x cs h
  | .arr _ e, _, _, ⟨h1, h2⟩ => ⟨h1, relR_all (fun x c h => relC_good e x c h) h2⟩
  | .sl e, s, _, ⟨v, _, h2, h3⟩ => by
    rcases h3 with ⟨h3, h4, _⟩ | ⟨h3, a, cap, ec, _, _, _, h5, _⟩
    · exact ⟨h2, fun _ => h4, fun x hx => by rw [h4] at hx; cases hx⟩
    · exact ⟨h2, (fun h => by rw [h3] at h; cases h), relR_all (fun x c h => relC_good e x c h) h5⟩

/-- The data of a row of arguments. -/
abbrev denA (Ts : List Ty) : Type := denP (tyL (Ts.map Sh.d) [])
def goodA : (Ts : List Ty) → denA Ts → Prop
  | [], _ => True
  | T :: Ts, x => good T x.1 ∧ goodA Ts x.2
def datA {H : Type} : (Ts : List Ty) → List (DataW H) → Option (denA Ts)
  | [], [] => some ()
  | T :: Ts, d :: ds => match dat T [d] with
    | some x => match datA Ts ds with
      | some y => some (x, y)
      | none => none
    | none => none
  | _, _ => none
def tysIs (C : Cx) : List TypeId → List Ty → Bool
  | [], [] => true
  | t :: ts, T :: Ts => C.is t T && tysIs C ts Ts
  | _, _ => false

theorem datA_len {H : Type} : ∀ {Ts : List Ty} {ds : List (DataW H)} {x : denA Ts}, datA Ts ds = some x → ds.length = Ts.length := by
  intro Ts
  induction Ts with
  | nil => intro ds x h; cases ds with | nil => rfl | cons d ds => cases h
  | cons T Ts ih =>
    intro ds x h
    cases ds with
    | nil => cases h
    | cons d ds =>
      simp only [datA] at h
      split at h
      · split at h
        · rename_i y hy
          simp only [List.length_cons, ih hy]
        · cases h
      · cases h

theorem zok_cell {P : Program} {W : World} {base : Nat} {t : TypeId} {v : Value} (h : Cell.okWide P W .any base t v) : zok (fun b => b < W.heap.size) v := by
  intro a n c e
  subst e
  unfold Cell.okWide Cell.ok at h
  generalize P.underlying t = u at h
  cases u with
  | none => exact h.elim
  | some d =>
    cases d <;> try exact h.elim
    obtain ⟨_, _, _, h2, row, cells, h3, _⟩ := h
    refine ⟨h2, ?_⟩
    unfold World.shape? at h3
    rcases Nat.lt_or_ge a.block W.heap.size with h | h
    · exact h
    · rw [Array.getElem?_eq_none h] at h3; cases h3

section
variable {H : Type} {enc : TypeId × Value → H} {C : Cx} {W : World} {base : Nat} {imm : Nat → Prop} {φ : Nat → Addr} {o : Nat → Obj}

theorem cells_agg {v : Value} (h : isAggV v = false) : v.cells = #[v] := by
  cases v <;> first | rfl | cases h

/-- An argument that is read is data. -/
theorem openArg (hC : CxOk C) {T : Ty} {t : TypeId} {v : Value} {fuel : Nat} {y : DataW H × List MemPlace} {sp : Nat → Bool} {held : Bool} (hm : nested T = true → ∀ a v, W.cell? a = some v → zok (fun b => b < W.heap.size) v) (hty : C.ty t = some T) (h : DataW.trod enc C.P W 0 sp held fuel t v.cells.toList = some y)
    (hv : Value.okWide C.P W .any base t v) : ∃ x, relV (fun b => b < W.heap.size) W T x v ∧ dat T [y.1] = some x ∧ good T x := by
  have hz : ∀ u, u ∈ v.cells.toList → zok (fun b => b < W.heap.size) u := by
    intro u hu
    obtain ⟨d, h1, h2, h3⟩ := (hC.tab _ _ hty).desc
    unfold Value.okWide at hv
    rw [h2] at hv
    have row : (∃ cs, v = .agg cs ∧ cs.size = C.P.cellsOf t ∧ Row.okWide C.P W .any base t cs) → zok (fun b => b < W.heap.size) u := by
      rintro ⟨cs, rfl, _, ts, _, _, h4⟩
      obtain ⟨i, hi, rfl⟩ := List.mem_iff_getElem.1 hu
      have hi' : i < cs.size := by simpa [Value.cells] using hi
      obtain ⟨_, _, h5⟩ := h4 i _ (Array.getElem?_eq_getElem hi')
      have := zok_cell h5
      simpa [Value.cells] using this
    have cell : Cell.okWide C.P W .any base t v → zok (fun b => b < W.heap.size) u := by
      intro hc
      have h4 := zok_cell hc
      cases hagg : isAggV v with
      | false =>
        rw [cells_agg hagg] at hu
        have : u = v := by simpa using hu
        rw [this]; exact h4
      | true =>
        exfalso
        cases v <;> try (cases hagg; done)
        unfold Cell.okWide at hc
        rw [h2] at hc
        cases d <;> cases T <;> first | (cases h3; done) | (simp only at hc; unfold Cell.ok at hc; rw [h2] at hc; exact hc)
    cases d <;> first | exact row hv | exact cell hv
  obtain ⟨x, h1, h2⟩ := (readsTy hC T hm).1 t fuel _ y hty h (fun _ => hz)
  refine ⟨x, ?_, h2, relC_good _ _ _ h1⟩
  obtain ⟨d, h4, h5, h6⟩ := (hC.tab _ _ hty).desc
  unfold Value.okWide at hv
  rw [h5] at hv
  have flat : Cell.okWide C.P W .any base t v → isAggV v = false := by
    intro hc
    cases hagg : isAggV v with
    | false => rfl
    | true =>
      exfalso
      cases v <;> try (cases hagg; done)
      unfold Cell.okWide at hc
      rw [h5] at hc
      cases d <;> cases T <;> first | (cases h6; done) | (simp only at hc; unfold Cell.ok at hc; rw [h5] at hc; exact hc)
  cases T with
  | int k =>
    cases d <;> try (cases h6; done)
    rw [cells_agg (flat hv)] at h1; exact h1
  | bool =>
    cases d <;> try (cases h6; done)
    rw [cells_agg (flat hv)] at h1; exact h1
  | str =>
    cases d <;> try (cases h6; done)
    rw [cells_agg (flat hv)] at h1; exact h1
  | sl e =>
    cases d <;> try (cases h6; done)
    rw [cells_agg (flat hv)] at h1; exact h1
  | unit => cases d <;> cases h6
  | pair a b => cases d <;> cases h6
  | st p =>
    cases d <;> try (cases h6; done)
    obtain ⟨cs, rfl, _⟩ := hv
    exact ⟨cs, rfl, h1⟩
  | arr n e =>
    cases d <;> try (cases h6; done)
    obtain ⟨cs, rfl, _⟩ := hv
    exact ⟨cs, rfl, h1⟩

theorem openArgs (hC : CxOk C) (himm : ∀ b, b < W.heap.size → imm b) : ∀ (Ts : List Ty) (ts : List TypeId) (vs : List Value) (ds : List (DataW H)) (p : List MemPlace), tysIs C ts Ts = true →
    (∀ T, T ∈ Ts → nested T = true → ∀ a v, W.cell? a = some v → zok (fun b => b < W.heap.size) v) → DataW.TrodAll enc C.P W 0 (fun _ => true) true ts vs ds p → (∀ (j : Nat) t v, ts[j]? = some t → vs[j]? = some v → Value.okWide C.P W .any base t v) →
    ∃ x : denA Ts, relVs φ o imm W (fillL id0 ka0 (Ts.map Sh.d) [] x).1 vs ∧ datA Ts ds = some x ∧ goodA Ts x
  | [], ts, vs, ds, p, ht, _, h, _ => by
    cases ts with
    | cons t ts => cases ht
    | nil =>
      obtain ⟨rfl, rfl, rfl⟩ := trodAll_nil h
      exact ⟨(), rfl, rfl, trivial⟩
  | T :: Ts, ts, vs, ds, p, ht, hn, h, hv => by
    cases ts with
    | nil => cases ht
    | cons t ts =>
      simp only [tysIs, Bool.and_eq_true] at ht
      obtain ⟨v, vs1, d, ds1, p1, p2, rfl, rfl, rfl, ⟨fuel, h1⟩, h2⟩ := trodAll_cons h
      obtain ⟨x, g1, g2, g3⟩ := openArg hC (hn T (List.mem_cons_self ..)) (is_spec ht.1) h1 (hv 0 t v rfl rfl)
      obtain ⟨y, k1, k2, k3⟩ := openArgs hC himm Ts ts vs1 ds1 p2 ht.2 (fun S hS => hn S (List.mem_cons_of_mem _ hS)) h2 (fun j t v a b => hv (j + 1) t v (by simpa using a) (by simpa using b))
      refine ⟨(x, y), ⟨v, vs1, rfl, relV_mono himm (fun _ _ => rfl) T x v g1, k1⟩, ?_, g3, k3⟩
      simp only [datA, g2, k2]

/-- What the listed variables hold. -/
structure GlobOk (C : Cx) (laid : List (String × DataW Unit)) : Prop where
  plain : (laid.filter fun x => x.2.handleName?.isSome) = []
  globs : ∀ g t x, C.glob g = some ⟨t, x⟩ → ∃ n d tid, (n, d) ∈ laid ∧ C.P.globalNamed n = some g ∧ (C.P.globals[g]?).map (·.type) = some tid ∧ C.ty tid = some t ∧ hasSlT t = false ∧ dat t [d] = some x

theorem laidVars_mem : ∀ {laid : List (String × DataW Unit)} {ps : List MemPlace}, DataW.LaidVars C.P W laid ps → ∀ n d, (n, d) ∈ laid →
    ∃ g t cs fuel p, C.P.globalNamed n = some g ∧ (C.P.globals[g]?).map (·.type) = some t ∧ W.var? C.P n = some cs ∧ DataW.trod (fun _ => ()) C.P W 0 (fun _ => true) false fuel t cs.toList = some (d, p)
  | (n0, d0) :: r, ps, ⟨g, t, cs, fuel, p, q, h1, h2, h3, h4, h5, _⟩, n, d, hm => by
    rcases List.mem_cons.1 hm with h | h
    · injection h with e1 e2
      subst e1 e2
      exact ⟨g, t, cs, fuel, p, h1, h2, h3, h4⟩
    · exact laidVars_mem h5 n d h

theorem glob_rel (hC : CxOk C) {laid : List (String × DataW Unit)} (hG : GlobOk C laid) (hL : laidMetH C.P laid W) {g : Nat} {t : Ty} {x : den t} (h : C.glob g = some ⟨t, x⟩) (himm : ∀ b, b < W.heap.size → imm b) :
    relVal φ o imm W (.ref t x) (.pointer (some ⟨g, 0, none⟩)) := by
  unfold laidMetH at hL
  rw [hG.plain] at hL
  obtain ⟨ps, hl, _⟩ := hL
  obtain ⟨n, d, tid, h1, h2, h3, h4, h5, h6⟩ := hG.globs g t x h
  obtain ⟨g', t', cs, fuel, p, k1, k2, k3, k4⟩ := laidVars_mem hl n d h1
  rw [h2] at k1
  cases k1
  rw [h3] at k2
  cases k2
  obtain ⟨x', r1, r2⟩ := (readsTy (imm := imm) hC t (fun h => by have := nested_sub h; rw [h5] at this; cases this)).1 tid fuel _ _ h4 k4 (fun h => by rw [h5] at h; cases h)
  simp only at r2
  rw [h6] at r2
  cases r2
  unfold World.var? at k3
  rw [h2] at k3
  simp only [Option.bind_some] at k3
  split at k3
  · rename_i c el fz hb
    cases k3
    have hlt : g < W.heap.size := by
      rcases Nat.lt_or_ge g W.heap.size with h | h
      · exact h
      · rw [Array.getElem?_eq_none h] at hb; cases hb
    refine ⟨⟨g, 0, none⟩, cs.toList, rfl, rfl, himm _ hlt, r1, fun j hj => ?_⟩
    unfold World.cell?
    simp only [Nat.zero_add]
    rw [hb]
    have : j < cs.size := by simpa using hj
    simp [this]
  · cases k3

/-- What a function does at a signature that is given. -/
def FnOkS (C : Cx) (s : Sig) (x : denP s.ins.tys) (y : denP s.outs.tys) : Prop :=
  ∀ X φ w zs, MRel C X φ (canO s.ins x) w → relVs φ (canO s.ins x) (immB X φ (canO s.ins x) w) w (fill id0 ka0 s.ins x).1 zs →
    (∃ fn, C.P.funcs[s.f]? = some fn ∧ fn.body.isNone = false) ∧ Calls C.P s.f zs.toArray w fun e w' =>
      ∃ vals φ' X', e = .returned (oneOf vals) ∧ (∀ b, X b → X' b) ∧ MRel C X' φ' (canO s.outs y) w' ∧
        relVs φ' (canO s.outs y) (immB X' φ' (canO s.outs y) w') w' (fill id0 ka0 s.outs y).1 vals ∧ Hist s.keep φ (canO s.ins x) w φ' (canO s.outs y) w'

theorem FnOk.s {i : Nat} {x : denP (sigAt C.sigs i).ins.tys} {y : denP (sigAt C.sigs i).outs.tys} (h : FnOk C i x y) : FnOkS C (sigAt C.sigs i) x y := h

/-- Two worlds whose first blocks are the same. -/
theorem same_place {W W' : World} (h : ∀ b, b < W.heap.size → W'.heap[b]? = W.heap[b]?) {p : MemPlace} (hp : p.block < W.heap.size) : W.sameAt W' p := by
  cases p with
  | cell b off => exact cell?_congr (h b hp)
  | map b => exact h b hp

theorem trodAll_same {P : Program} {W' : World} (K : Kids P (· < P.types.size)) (hz : ∀ t e, t < P.types.size → P.underlying t = some (.slice e) → 0 < P.cellsOf e) (hs : ∀ b, b < W.heap.size → W'.heap[b]? = W.heap[b]?) :
    ∀ {ts : List TypeId} {vs : List Value} {ds : List (DataW H)} {ps : List MemPlace}, (∀ t, t ∈ ts → t < P.types.size) → DataW.TrodAll enc P W 0 (fun _ => true) true ts vs ds ps → (∀ p, p ∈ ps → p.block < W.heap.size) →
    DataW.TrodAll enc P W' 0 (fun b => decide (b < W.heap.size)) true ts vs ds ps
  | [], _, _, _, _, h, _ => by obtain ⟨rfl, rfl, rfl⟩ := trodAll_nil h; exact rfl
  | t :: ts, vs, ds, ps, ht, h, hp => by
    obtain ⟨v, vs1, d, ds1, p, q, rfl, rfl, rfl, ⟨n, h1⟩, h2⟩ := trodAll_cons h
    refine ⟨p, q, ⟨n, ?_⟩, trodAll_same K hz hs (fun t h => ht t (List.mem_cons_of_mem _ h)) h2 (fun x hx => hp x (List.mem_append_right _ hx)), rfl⟩
    exact DataW.trod_stays K (fun hT hu => hz _ _ hT hu) (fun h => by cases h) (ht t (List.mem_cons_self ..)) h1 (fun x hx => same_place hs (hp x (List.mem_append_left _ hx))) (fun x hx => by simpa using hp x (List.mem_append_left _ hx))

theorem kept_of_same {W W' : World} {may : MemPlace → Prop} (h : ∀ b, b < W.heap.size → W'.heap[b]? = W.heap[b]?) (hs : Still W W') : W.keptBut W' may := by
  refine ⟨hs.1, hs.2, fun i hi => ?_⟩
  rw [h i hi]
  split
  · rename_i h1 h2
    rw [h1] at h2
    cases h2
    exact ⟨rfl, rfl, rfl, fun _ _ => rfl⟩
  · rename_i h1 h2
    rw [h1] at h2
    cases h2
    exact .inr ⟨rfl, rfl⟩
  · rfl

/-- What a seat's programs share. -/
structure SeatOk (C : Cx) (laid : List (String × DataW Unit)) : Prop where
  cx : CxOk C
  glob : GlobOk C laid
  kids : Kids C.P (· < C.P.types.size)
  full : ∀ t e, t < C.P.types.size → C.P.underlying t = some (.slice e) → 0 < C.P.cellsOf e

theorem law_contract {laid : List (String × DataW Unit)} (hS : SeatOk C laid) {f : FuncId} {fn : Func} {s : ChangeSpec} (Ts : List Ty) (tb : TypeId) (hts : tysIs C fn.params.toList Ts = true) (hps : ∀ t, t ∈ fn.params.toList → t < C.P.types.size)
    (hres : fn.resultTypes = #[tb]) (htb : C.P.underlying tb = some .bool) (hn : ∀ T, T ∈ Ts → nested T = false) (hvars : s.vars = []) (hspec : ∀ ds : List (DataW H), ds.length = Ts.length → s.fn H ds = { results := [.lit (.bool true)], args := ds })
    {args : Array Value} {ds gs : List (DataW H)} {before : List MemPlace}
    (hval : ∀ (j : Nat) t v, fn.params[j]? = some t → args[j]? = some v → Value.okWide C.P W .any base t v) (hW : DataW.Whole enc C.P fn.params.toList s.vars false W args.toList ds gs before) (hL : laidMetH C.P laid W)
    (hlaw : ∀ x : denA Ts, goodA Ts x → datA Ts (ds ++ gs) = some x → FnOkS C ⟨f, ⟨Ts.map Sh.d, []⟩, ⟨[Sh.d .bool], []⟩, []⟩ x (true, ())) :
    Calls C.P f args W fun e W' => ∃ v, e = .returned v ∧ s.post enc C.P fn false true false false W args v W' := by
  have hlt := hW.lt
  have hW' := hW
  obtain ⟨p, q, hA, hV, rfl, hfz, hnd⟩ := hW
  rw [hvars] at hV
  obtain ⟨rfl, rfl⟩ : gs = [] ∧ q = [] := by
    cases gs with
    | nil => exact ⟨rfl, hV⟩
    | cons g gs => exact hV.elim
  simp only [List.append_nil] at hlt hW' hlaw
  obtain ⟨x, h1, h2, h3⟩ := openArgs (φ := fun _ => ⟨0, 0, none⟩) (o := fun _ => .none) (imm := immB (fun _ => False) (fun _ => ⟨0, 0, none⟩) (fun _ => .none) W) hS.cx (fun b hb => ⟨hb, id, fun ⟨_, h, _⟩ => by cases h⟩) Ts fn.params.toList args.toList ds p hts
    (fun T hT h => by rw [hn T hT] at h; cases h) hA (fun j t v h1 h2 => hval j t v (by rw [← Array.getElem?_toList]; exact h1) (by rw [← Array.getElem?_toList]; exact h2))
  have hm : MRel C (fun _ => False) (fun _ => ⟨0, 0, none⟩) (fun _ => Obj.none) W :=
    ⟨fun _ => trivial, (fun i j h => by cases h), (fun i h => by cases h), (fun b h => h.elim), fun _ => trivial, fun g t x hg => glob_rel hS.cx hS.glob hL hg (fun b hb => ⟨hb, id, fun ⟨_, h, _⟩ => by cases h⟩)⟩
  obtain ⟨_, hc⟩ := hlaw x h3 h2 (fun _ => False) (fun _ => ⟨0, 0, none⟩) W args.toList hm h1
  have e0 : args.toList.toArray = args := by simp
  rw [e0] at hc
  refine hc.mono fun e W' ⟨vals, φ', X', he, _, _, hr, hh⟩ => ?_
  have hr : ∃ v r, vals = v :: r ∧ v = .bool true ∧ r = [] := by
    obtain ⟨v, r, h1, h2, h3⟩ := hr
    have h2 : [v] = [Value.bool true] := h2
    injection h2 with h2
    exact ⟨v, r, h1, h2, h3⟩
  obtain ⟨_, _, rfl, rfl, rfl⟩ := hr
  have hsame : ∀ b, b < W.heap.size → W'.heap[b]? = W.heap[b]? := fun b hb => hh.frame b hb fun ⟨id, h, _⟩ => by cases h
  refine ⟨_, he, ds, [], p, [], p, [], hW', ?_, ?_, ?_, kept_of_same hsame hh.still, fun h => by cases h⟩
  · have hl : ds.length = Ts.length := by
      exact datA_len h2
    rw [List.append_nil, hspec ds hl, hres]
    exact trodAll_cons_mk (p' := []) (shut_bool htb true) rfl
  · have hl : ds.length = Ts.length := by
      exact datA_len h2
    rw [List.append_nil, hspec ds hl]
    exact trodAll_same hS.kids hS.full hsame hps hA hlt
  · rw [hvars]
    have hl : (s.fn H (ds ++ [])).vars = [] := by
      rw [List.append_nil, hspec ds (datA_len h2)]
    rw [hl]
    exact rfl
end
end Ev


namespace Ev
open Go

def nameOk (C : Cx) (f : Nat) : Bool := match C.P.funcs.toList[f]? with
  | some fn => !(fn.name == "runtime.NumGoroutine")
  | none => true
def namesOk (C : Cx) : List Sig → Bool
  | [] => nameOk C 0
  | s :: r => nameOk C s.f && namesOk C r

theorem nameOk_spec {C : Cx} {f : Nat} (h : nameOk C f = true) : ∀ fn, C.P.funcs[f]? = some fn → (fn.name == "runtime.NumGoroutine") = false := by
  intro fn hf
  unfold nameOk at h
  rw [Array.getElem?_toList, hf] at h
  simpa using h

theorem namesOk_spec {C : Cx} : ∀ {l : List Sig}, namesOk C l = true → ∀ i fn, C.P.funcs[(sigAt l i).f]? = some fn → (fn.name == "runtime.NumGoroutine") = false
  | [], h, _, fn, hf => nameOk_spec h fn hf
  | s :: r, h, i, fn, hf => by
    simp only [namesOk, Bool.and_eq_true] at h
    cases i with
    | zero => exact nameOk_spec h.1 fn hf
    | succ i => exact namesOk_spec h.2 i fn hf

/-- What a call gives is what the function does. -/
theorem calls_ok {C : Cx} (h1 : tabChk C C.tab = true) (h2 : eqChk C C.eqs = true) (h3 : namesOk C C.sigs = true) (h4 : C.P.follows .mixedOrders = true) :
    ∀ {i : Nat} {x : denP (sigAt C.sigs i).ins.tys} {y : denP (sigAt C.sigs i).outs.tys}, Call C i x y → FnOk C i x y := by
  have hC : CxOk C := ⟨fun t T h => tabChk_spec h1 t T h⟩
  have hE : EqOk C := eqOk_of hC h2
  have hL : CallLaw C := callLaw (namesOk_spec h3)
  intro i x y h
  exact h.ok hC hE hL (drawLaw hC hE hL h4)

theorem seatOk_of {C : Cx} {laid : List (String × DataW Unit)} (h1 : tabChk C C.tab = true) (h2 : laidOutB C.P = true) (h3 : mapsRowed C.P = true)
    (h4 : ((List.range C.P.types.size).all fun t => match C.P.underlying t with | some (.slice e) => decide (0 < C.P.cellsOf e) | _ => true) = true) (h5 : GlobOk C laid) : SeatOk C laid :=
  ⟨⟨fun t T h => tabChk_spec h1 t T h⟩, h5, kids_rows h2 h3, slices_full_of C.P h4⟩
end Ev


namespace Ev
open Go

/-! Functions as data, and calls of them. -/

/-- A function that calls itself: what it comes to, however often it may. -/
def recN {α β : Type} (F : (α → Option β) → α → Option β) : Nat → α → Option β
  | 0, _ => none
  | n + 1, x => F (recN F n) x

open Classical in
noncomputable def recR {α β : Type} (F : (α → Option β) → α → Option β) (x : α) : Option β :=
  if h : ∃ y n0, ∀ n, n0 ≤ n → recN F n x = some y then some (Classical.choose h) else none

theorem recR_some {α β : Type} {F : (α → Option β) → α → Option β} {x : α} {y : β} (h : recR F x = some y) : ∃ n, recN F n x = some y := by
  unfold recR at h
  split at h
  · rename_i hx
    injection h with h
    obtain ⟨n0, hn⟩ := Classical.choose_spec hx
    exact ⟨n0, by rw [← h]; exact hn n0 (Nat.le_refl _)⟩
  · cases h

theorem recR_eq {α β : Type} {F : (α → Option β) → α → Option β} {x : α} {y : β} (n0 : Nat) (h : ∀ n, n0 ≤ n → recN F n x = some y) : recR F x = some y := by
  unfold recR
  have hx : ∃ y n0, ∀ n, n0 ≤ n → recN F n x = some y := ⟨y, n0, h⟩
  rw [dif_pos hx]
  obtain ⟨n1, hn⟩ := Classical.choose_spec hx
  have h1 := hn (n0 + n1) (by omega)
  rw [h (n0 + n1) (by omega)] at h1
  exact h1.symm

/-- A function that is called gives what is told. -/
def CallsAs (C : Cx) (k : Nat) (f : denP (sigAt C.sigs k).ins.tys → Option (denP (sigAt C.sigs k).outs.tys)) : Prop := ∀ x y, f x = some y → Call C k x y

def OrcOk (C : Cx) (R : Oracle C.sigs) : Prop := ∀ j a b, R j a = some b → Call C j a b

def orc0 {sg : List Sig} : Oracle sg := fun _ _ => none
def orc1 {sg : List Sig} (j : Nat) (f : denP (sigAt sg j).ins.tys → Option (denP (sigAt sg j).outs.tys)) (R : Oracle sg) : Oracle sg := fun i => match Nat.decEq i j with
  | isTrue h => h ▸ f
  | isFalse _ => R i

theorem orc0_ok {C : Cx} : OrcOk C orc0 := fun _ _ _ h => by cases h
theorem orc1_ok {C : Cx} {j : Nat} {f : denP (sigAt C.sigs j).ins.tys → Option (denP (sigAt C.sigs j).outs.tys)} {R : Oracle C.sigs} (hf : CallsAs C j f) (hR : OrcOk C R) : OrcOk C (orc1 j f R) := by
  intro i a b h
  unfold orc1 at h
  cases hd : Nat.decEq i j with
  | isTrue e =>
    rw [hd] at h
    subst e
    exact hf a b h
  | isFalse e =>
    rw [hd] at h
    exact hR i a b h

theorem callRec {C : Cx} {k : Nat} {F : (denP (sigAt C.sigs k).ins.tys → Option (denP (sigAt C.sigs k).outs.tys)) → denP (sigAt C.sigs k).ins.tys → Option (denP (sigAt C.sigs k).outs.tys)}
    (h : ∀ g, CallsAs C k g → ∀ x y, F g x = some y → Call C k x y) : CallsAs C k (recR F) := by
  intro x y hx
  obtain ⟨n, hn⟩ := recR_some hx
  clear hx
  induction n generalizing x y with
  | zero => cases hn
  | succ n ih => exact h (recN F n) (fun a b hab => ih a b hab) x y hn

/-- A function that gives more seldom. -/
theorem CallsAs.of {C : Cx} {k : Nat} {f g : denP (sigAt C.sigs k).ins.tys → Option (denP (sigAt C.sigs k).outs.tys)} (h : CallsAs C k f) (hg : ∀ x y, g x = some y → f x = some y) : CallsAs C k g :=
  fun x y e => h x y (hg x y e)

/-! Loops. -/
theorem loopN_mono {σ ρ : Type} {f : σ → Option (σ ⊕ ρ)} : ∀ {n m : Nat} {s : σ} {r : ρ}, n ≤ m → loopN f n s = some r → loopN f m s = some r
  | 0, _, _, _, _, h => by cases h
  | n + 1, 0, _, _, hm, _ => by omega
  | n + 1, m + 1, s, r, hm, h => by
    simp only [loopN] at h ⊢
    cases hs : f s with
    | none => rw [hs] at h; cases h
    | some q =>
      rw [hs] at h
      cases q with
      | inl s' => exact loopN_mono (n := n) (m := m) (by omega) h
      | inr r' => exact h

theorem loopR_of {σ ρ : Type} {f : σ → Option (σ ⊕ ρ)} {s : σ} {r : ρ} (n : Nat) (h : loopN f n s = some r) : loopR f s = some r := by
  have hx : ∃ r n, loopN f n s = some r := ⟨r, n, h⟩
  unfold loopR
  rw [dif_pos hx]
  obtain ⟨m, hm⟩ := Classical.choose_spec hx
  have h1 := loopN_mono (Nat.le_max_left n m) h
  have h2 := loopN_mono (Nat.le_max_right n m) hm
  rw [h1] at h2
  exact h2.symm

/-- A loop, once round. -/
theorem loopR_step {σ ρ : Type} (f : σ → Option (σ ⊕ ρ)) (s : σ) : loopR f s = match f s with
    | some (.inl s') => loopR f s'
    | some (.inr r) => some r
    | none => none := by
  cases hf : f s with
  | none =>
    simp only
    cases hr : loopR f s with
    | none => rfl
    | some r =>
      obtain ⟨n, hn⟩ := loopR_some hr
      cases n with
      | zero => cases hn
      | succ n => simp only [loopN, hf] at hn; cases hn
  | some q =>
    cases q with
    | inr r => exact loopR_of 1 (by simp only [loopN, hf])
    | inl s' =>
      simp only
      cases hr : loopR f s' with
      | some r =>
        obtain ⟨n, hn⟩ := loopR_some hr
        exact loopR_of (n + 1) (by simp only [loopN, hf]; exact hn)
      | none =>
        cases hr2 : loopR f s with
        | none => rfl
        | some r =>
          obtain ⟨n, hn⟩ := loopR_some hr2
          cases n with
          | zero => cases hn
          | succ n =>
            simp only [loopN, hf] at hn
            rw [loopR_of n hn] at hr
            cases hr

theorem loopR_inl {σ ρ : Type} {f : σ → Option (σ ⊕ ρ)} {s s' : σ} (h : f s = some (.inl s')) : loopR f s = loopR f s' := by
  rw [loopR_step, h]
theorem loopR_inr {σ ρ : Type} {f : σ → Option (σ ⊕ ρ)} {s : σ} {r : ρ} (h : f s = some (.inr r)) : loopR f s = some r := by
  rw [loopR_step, h]

/-- A loop with what is kept and what falls. -/
theorem loopR_inv {σ ρ : Type} {f : σ → Option (σ ⊕ ρ)} {I : σ → Prop} {Q : ρ → Prop} (μ : σ → Nat) (h : ∀ s, I s → (∃ s', f s = some (.inl s') ∧ I s' ∧ μ s' < μ s) ∨ (∃ r, f s = some (.inr r) ∧ Q r)) :
    ∀ s, I s → ∃ r, loopR f s = some r ∧ Q r := by
  intro s
  generalize hn : μ s = n
  induction n using Nat.strongRecOn generalizing s with
  | _ n ih =>
    intro hs
    rcases h s hs with ⟨s', h1, h2, h3⟩ | ⟨r, h1, h2⟩
    · rw [loopR_inl h1]
      exact ih (μ s') (by omega) s' rfl h2
    · exact ⟨r, loopR_inr h1, h2⟩

/-! The leaves, for plain reckoning. -/
theorem bnd_some_eq {α β : Type} (a : α) (f : α → Option β) : bnd (some a) f = f a := id (Eq.refl (f a))
theorem bnd_none_eq {α β : Type} (f : α → Option β) : bnd none f = none := id (Eq.refl none)
theorem bnd_eq_some {α β : Type} {x : Option α} {f : α → Option β} {b : β} : bnd x f = some b ↔ ∃ a, x = some a ∧ f a = some b := by
  cases x <;> simp [bnd]
theorem cnd_true {α : Type} (a b : Option α) : cnd true a b = a := id (Eq.refl a)
theorem cnd_false {α : Type} (a b : Option α) : cnd false a b = b := id (Eq.refl b)
theorem cnd_ite {α : Type} (x : Bool) (a b : Option α) : cnd x a b = if x = true then a else b := by cases x <;> rfl
theorem cnd_bool (x a b : Bool) : cnd x (some a) (some b) = some (if x = true then a else b) := by cases x <;> rfl

end Ev


namespace Ev
open Go

/-! Numbers, for plain reckoning. -/
theorem wrap_i64 {n : Int} (h1 : -9223372036854775808 ≤ n) (h2 : n ≤ 9223372036854775807) : IntKind.i64.wrap n = n := by
  simp only [IntKind.wrap, IntKind.bits, IntKind.signed]
  simp
  split <;> omega
theorem wrap_u64 {n : Int} (h1 : 0 ≤ n) (h2 : n ≤ 18446744073709551615) : IntKind.u64.wrap n = n := by
  simp only [IntKind.wrap, IntKind.bits, IntKind.signed]
  simp
  omega
theorem wrap_u8 (n : Int) : IntKind.u8.wrap n = n % 256 := by
  simp only [IntKind.wrap, IntKind.bits, IntKind.signed]
  simp
theorem wrap_u32 (n : Int) : IntKind.u32.wrap n = n % 4294967296 := by
  simp only [IntKind.wrap, IntKind.bits, IntKind.signed]
  simp
theorem wrap_u16 (n : Int) : IntKind.u16.wrap n = n % 65536 := by
  simp only [IntKind.wrap, IntKind.bits, IntKind.signed]
  simp
theorem wrap_i8 (n : Int) : IntKind.i8.wrap n = if n % 256 < 128 then n % 256 else n % 256 - 256 := by
  simp only [IntKind.wrap, IntKind.bits, IntKind.signed]
  simp
  split <;> split <;> omega
theorem wrap_i32 (n : Int) : IntKind.i32.wrap n = if n % 4294967296 < 2147483648 then n % 4294967296 else n % 4294967296 - 4294967296 := by
  simp only [IntKind.wrap, IntKind.bits, IntKind.signed]
  simp
  split <;> split <;> omega

theorem addI_i64 {a b : Int} (h1 : -9223372036854775808 ≤ a + b) (h2 : a + b ≤ 9223372036854775807) : addI .i64 a b = a + b := wrap_i64 h1 h2
theorem subI_i64 {a b : Int} (h1 : -9223372036854775808 ≤ a - b) (h2 : a - b ≤ 9223372036854775807) : subI .i64 a b = a - b := wrap_i64 h1 h2
theorem mulI_i64 {a b : Int} (h1 : -9223372036854775808 ≤ a * b) (h2 : a * b ≤ 9223372036854775807) : mulI .i64 a b = a * b := wrap_i64 h1 h2
theorem cvI_i64 {a : Int} (h1 : -9223372036854775808 ≤ a) (h2 : a ≤ 9223372036854775807) : cvI .i64 a = a := wrap_i64 h1 h2
theorem cvI_u8 (a : Int) : cvI .u8 a = a % 256 := wrap_u8 a
theorem addI_u8 (a b : Int) : addI .u8 a b = (a + b) % 256 := wrap_u8 _
theorem cvI_u32 (a : Int) : cvI .u32 a = a % 4294967296 := wrap_u32 a

theorem inK_i64 {n : Int} : inK .i64 n ↔ -9223372036854775808 ≤ n ∧ n ≤ 9223372036854775807 := by
  simp [inK, IntKind.min, IntKind.max, IntKind.signed, IntKind.bits]
theorem inK_u8 {n : Int} : inK .u8 n ↔ 0 ≤ n ∧ n ≤ 255 := by
  simp [inK, IntKind.min, IntKind.max, IntKind.signed, IntKind.bits]
theorem inK_u16 {n : Int} : inK .u16 n ↔ 0 ≤ n ∧ n ≤ 65535 := by
  simp [inK, IntKind.min, IntKind.max, IntKind.signed, IntKind.bits]

theorem ofInt_toNat {n w : Nat} (h : n < 2 ^ w) : (BitVec.ofInt w (n : Int)).toNat = n := by
  rw [BitVec.toNat_ofInt]
  have h2 : ((n : Int) % ((2 ^ w : Nat) : Int)) = (n : Int) := Int.emod_eq_of_lt (by omega) (by exact_mod_cast h)
  rw [h2]; rfl

theorem wrap_bits {k : IntKind} {n : Nat} (h : n < 2 ^ (k.bits - 1)) : k.wrap (n : Int) = n := by
  have hb : (n : Int) < 2 ^ (k.bits - 1) := by exact_mod_cast h
  cases k <;> simp only [IntKind.wrap, IntKind.bits, IntKind.signed] at * <;> simp at * <;> (try split) <;> omega

theorem bits_lt {k : IntKind} {n : Nat} (h : n < 2 ^ (k.bits - 1)) : n < 2 ^ k.bits := Nat.lt_of_lt_of_le h (Nat.pow_le_pow_right (by omega) (by omega))

/-- 'and', 'or' of numbers that are not negative. -/
theorem andI_nat {k : IntKind} {a b : Nat} (ha : a < 2 ^ (k.bits - 1)) (hb : b < 2 ^ (k.bits - 1)) : andI k a b = ((a &&& b : Nat) : Int) := by
  unfold andI
  rw [BitVec.toNat_and, ofInt_toNat (bits_lt ha), ofInt_toNat (bits_lt hb)]
  exact wrap_bits (Nat.lt_of_le_of_lt Nat.and_le_left ha)
theorem orI_nat {k : IntKind} {a b : Nat} (ha : a < 2 ^ (k.bits - 1)) (hb : b < 2 ^ (k.bits - 1)) : orI k a b = ((a ||| b : Nat) : Int) := by
  unfold orI
  rw [BitVec.toNat_or, ofInt_toNat (bits_lt ha), ofInt_toNat (bits_lt hb)]
  exact wrap_bits (Nat.or_lt_two_pow ha hb)

/-- The low bits of a number. -/
theorem andI_low {k : IntKind} {a : Int} (s : Nat) (h0 : 0 ≤ a) (h1 : a < 2 ^ (k.bits - 1)) (hs : s < k.bits) : andI k a (2 ^ s - 1) = a % 2 ^ s := by
  obtain ⟨n, rfl⟩ := Int.eq_ofNat_of_zero_le h0
  have hn : n < 2 ^ (k.bits - 1) := by exact_mod_cast h1
  have h2 : (2 ^ s - 1 : Int) = ((2 ^ s - 1 : Nat) : Int) := by
    have := Nat.two_pow_pos s
    rw [Int.natCast_sub (by omega)]
    simp
  have h3 : 2 ^ s ≤ 2 ^ (k.bits - 1) := Nat.pow_le_pow_right (by omega) (by omega)
  rw [h2, andI_nat hn (by have := Nat.two_pow_pos s; omega), Nat.and_two_pow_sub_one_eq_mod]
  simp

/-- High bits beside low ones. -/
theorem orI_high {k : IntKind} {a b : Int} (s : Nat) (h0 : 0 ≤ a) (h1 : a < 2 ^ s) (hb : 0 ≤ b) (h2 : a + b * 2 ^ s < 2 ^ (k.bits - 1)) : orI k a (b * 2 ^ s) = a + b * 2 ^ s := by
  obtain ⟨n, rfl⟩ := Int.eq_ofNat_of_zero_le h0
  obtain ⟨m, rfl⟩ := Int.eq_ofNat_of_zero_le hb
  have hn : n < 2 ^ s := by exact_mod_cast h1
  have hm : n + m * 2 ^ s < 2 ^ (k.bits - 1) := by exact_mod_cast h2
  have e1 : ((m : Int) * 2 ^ s) = ((m * 2 ^ s : Nat) : Int) := by simp
  rw [e1, orI_nat (by omega) (by omega)]
  have := Nat.two_pow_add_eq_or_of_lt hn m
  rw [Nat.or_comm, Nat.mul_comm m, ← this]
  simp [Int.add_comm]

theorem shrI_i64 {a : Int} (s : Nat) (hs : s ≤ 64) : shrI .i64 a (s : Int) = some (a / 2 ^ s) := by
  unfold shrI
  rw [if_neg (by omega)]
  have : min (s : Int).toNat IntKind.i64.bits = s := by
    show min ((s : Int).toNat) 64 = s
    simp; omega
  rw [this, Int.fdiv_eq_ediv_of_nonneg _ (Int.pow_nonneg (by omega))]

theorem remI_pos {a b : Int} (ha : 0 ≤ a) (hb : 0 < b) : remI a b = some (a % b) := by
  unfold remI
  rw [if_neg (by omega), Int.tmod_eq_emod_of_nonneg ha]
theorem quoI_pos {k : IntKind} {a b : Int} (ha : 0 ≤ a) (hb : 0 < b) (h : inK k a) (h0 : k.min ≤ 0) : quoI k a b = some (a / b) := by
  unfold quoI
  rw [if_neg (by omega), Int.tdiv_eq_ediv_of_nonneg ha]
  have h1 : 0 ≤ a / b := Int.ediv_nonneg ha (by omega)
  have h2 : a / b ≤ a := Int.ediv_le_self _ ha
  have : inK k (a / b) := ⟨by omega, by have := h.2; omega⟩
  congr 1
  obtain ⟨g1, g2⟩ := this
  revert g1 g2
  cases k <;> simp only [IntKind.min, IntKind.max, IntKind.wrap, IntKind.signed, IntKind.bits] <;> intro g1 g2 <;> simp at g1 g2 ⊢ <;> (try split) <;> omega

/-! Tests. -/
theorem cnd_lt {α : Type} (a b : Int) (x y : Option α) : cnd (ltI a b) x y = if a < b then x else y := by
  unfold ltI; by_cases h : a < b <;> simp [h, cnd]
theorem cnd_le {α : Type} (a b : Int) (x y : Option α) : cnd (leI a b) x y = if a ≤ b then x else y := by
  unfold leI; by_cases h : a ≤ b <;> simp [h, cnd]
theorem cnd_eq {α : Type} (a b : Int) (x y : Option α) : cnd (eqI a b) x y = if a = b then x else y := by
  unfold eqI
  by_cases h : a = b
  · subst h; rw [if_pos rfl, beq_self_eq_true]; rfl
  · rw [if_neg h, beq_false_of_ne h]; rfl
theorem cnd_not {α : Type} (a : Bool) (x y : Option α) : cnd (notB a) x y = cnd a y x := by cases a <;> rfl
theorem cnd_eqS {α : Type} (a b : List Int) (x y : Option α) : cnd (eqS a b) x y = if a = b then x else y := by
  unfold eqS
  by_cases h : a = b
  · subst h; rw [if_pos rfl, beq_self_eq_true]; rfl
  · rw [if_neg h, beq_false_of_ne h]; rfl
theorem cnd_dec {α : Type} (p : Prop) [Decidable p] (x y : Option α) : cnd (decide p) x y = if p then x else y := by
  by_cases h : p <;> simp [h, cnd]
theorem bnd_ite {α β : Type} (p : Prop) [Decidable p] (x y : Option α) (f : α → Option β) : bnd (if p then x else y) f = if p then bnd x f else bnd y f := by
  by_cases h : p <;> simp [h]
theorem eqI_self (a : Int) : eqI a a = true := by simp [eqI]
theorem eqI_eq {a b : Int} : eqI a b = true ↔ a = b := by simp [eqI]
theorem eqI_ne {a b : Int} (h : a ≠ b) : eqI a b = false := by simp [eqI, h]
theorem eqS_self (a : List Int) : eqS a a = true := by simp [eqS]
theorem eqB_self (a : Bool) : eqB a a = true := by simp [eqB]

theorem at?_nat {α : Type} {l : List α} {i : Nat} {x : α} (h : l[i]? = some x) : at? l (i : Int) = some x := by
  unfold at?
  rw [if_pos (by omega)]
  simpa using h
theorem at?_get {α : Type} {l : List α} {i : Int} (h0 : 0 ≤ i) (h : i < l.length) : at? l i = some (l[i.toNat]'(by omega)) := by
  unfold at?
  rw [if_pos h0]
  exact List.getElem?_eq_getElem (by omega)
theorem fit_ok {n : Int} (h : n ≤ 2147483648) : fit n = some () := by unfold fit; rw [if_pos h]

theorem shlI_i64 {a : Int} (s : Nat) (hs : s ≤ 63) (h1 : -9223372036854775808 ≤ a * 2 ^ s) (h2 : a * 2 ^ s ≤ 9223372036854775807) : shlI .i64 a (s : Int) = some (a * 2 ^ s) := by
  unfold shlI
  rw [if_neg (by omega)]
  have : min (s : Int).toNat IntKind.i64.bits = s := by
    show min ((s : Int).toNat) 64 = s
    simp; omega
  rw [this, wrap_i64 h1 h2]
theorem shlI_u32 {a : Int} (s : Nat) (hs : s ≤ 31) (h1 : 0 ≤ a * 2 ^ s) (h2 : a * 2 ^ s < 4294967296) : shlI .u32 a (s : Int) = some (a * 2 ^ s) := by
  unfold shlI
  rw [if_neg (by omega)]
  have : min (s : Int).toNat IntKind.u32.bits = s := by
    show min ((s : Int).toNat) 32 = s
    simp; omega
  rw [this, wrap_u32, Int.emod_eq_of_lt h1 h2]
theorem orI_u32 {a b : Int} (s : Nat) (h0 : 0 ≤ a) (h1 : a < 2 ^ s) (hb : 0 ≤ b) (h2 : a + b * 2 ^ s < 4294967296) : orI .u32 a (b * 2 ^ s) = a + b * 2 ^ s := by
  obtain ⟨n, rfl⟩ := Int.eq_ofNat_of_zero_le h0
  obtain ⟨m, rfl⟩ := Int.eq_ofNat_of_zero_le hb
  have hn : n < 2 ^ s := by exact_mod_cast h1
  have hm : n + m * 2 ^ s < 4294967296 := by
    have h3 : ((n + m * 2 ^ s : Nat) : Int) < 4294967296 := by rw [Int.natCast_add, Int.natCast_mul, Int.natCast_pow]; exact h2
    omega
  have e1 : ((m : Int) * 2 ^ s) = ((m * 2 ^ s : Nat) : Int) := by rw [Int.natCast_mul, Int.natCast_pow]; rfl
  rw [e1]
  unfold orI
  have e2 : n < 2 ^ IntKind.u32.bits := by show n < 2 ^ 32; omega
  have e3 : m * 2 ^ s < 2 ^ IntKind.u32.bits := by show m * 2 ^ s < 2 ^ 32; omega
  rw [BitVec.toNat_or, ofInt_toNat e2, ofInt_toNat e3, wrap_u32]
  have := Nat.two_pow_add_eq_or_of_lt hn m
  rw [Nat.or_comm, Nat.mul_comm m, ← this]
  have e4 : 2 ^ s * m = m * 2 ^ s := Nat.mul_comm _ _
  rw [e4]
  have e5 : ((m * 2 ^ s + n : Nat) : Int) < 4294967296 := by omega
  rw [Int.emod_eq_of_lt (by omega) e5]
  omega
end Ev


namespace Ev
open Go

/-- A law's contract, by looks of the kernel. -/
theorem law_contractB {H : Type} {enc : TypeId × Value → H} {C : Cx} {W : World} {base : Nat} {laid : List (String × DataW Unit)} (hS : SeatOk C laid) {f : FuncId} {fn : Func} {s : ChangeSpec} (Ts : List Ty) (tb : TypeId) (hts : tysIs C fn.params.toList Ts = true)
    (hps : (fn.params.toList.all fun t => decide (t < C.P.types.size)) = true) (hres : fn.resultTypes = #[tb]) (htb : C.P.underlying tb = some .bool) (hn : (Ts.all fun T => !nested T) = true) (hvars : s.vars = [])
    (hspec : ∀ ds : List (DataW H), ds.length = Ts.length → s.fn H ds = { results := [.lit (.bool true)], args := ds }) {args : Array Value} {ds gs : List (DataW H)} {before : List MemPlace}
    (hval : ∀ (j : Nat) t v, fn.params[j]? = some t → args[j]? = some v → Value.okWide C.P W .any base t v) (hW : DataW.Whole enc C.P fn.params.toList s.vars false W args.toList ds gs before) (hL : laidMetH C.P laid W)
    (hlaw : ∀ x : denA Ts, goodA Ts x → datA Ts (ds ++ gs) = some x → FnOkS C ⟨f, ⟨Ts.map Sh.d, []⟩, ⟨[Sh.d .bool], []⟩, []⟩ x (true, ())) :
    Calls C.P f args W fun e W' => ∃ v, e = .returned v ∧ s.post enc C.P fn false true false false W args v W' :=
  law_contract hS Ts tb hts (fun t ht => by simpa using List.all_eq_true.1 hps t ht) hres htb (fun T hT => by simpa using List.all_eq_true.1 hn T hT) hvars hspec hval hW hL hlaw
end Ev


namespace Ev
open Go

/-! Constants of a pool: their order. -/
abbrev Thing := Bool × Int × List Int
/-- A constant as it is to be. -/
def goodT (x : Thing) : Bool := (x.1 || x.2.2.isEmpty) && (!x.1 || decide (x.2.1 = 0)) && decide (-9223372036854775808 ≤ x.2.1) && decide (x.2.1 ≤ 9223372036854775807) && x.2.2.all (fun b => decide (0 ≤ b) && decide (b ≤ 255)) && decide (x.2.2.length ≤ 9223372036854775807)
/-- The order of two constants. -/
def lessD (x y : Thing) : Bool := bif Bool.xor x.1 y.1 then y.1 else bif x.1 then Ev.strLt x.2.2 y.2.2 else decide (x.2.1 < y.2.1)
theorem good_iff (x : Thing) (h : goodT x = true) : (x.1 = false → x.2.2 = []) ∧ (x.1 = true → x.2.1 = 0) ∧ (-9223372036854775808 ≤ x.2.1 ∧ x.2.1 ≤ 9223372036854775807) ∧ (∀ b, b ∈ x.2.2 → 0 ≤ b ∧ b ≤ 255) ∧ x.2.2.length ≤ 9223372036854775807 := by
  unfold goodT at h
  simp only [Bool.and_eq_true, Bool.or_eq_true, decide_eq_true_eq, List.all_eq_true, Bool.not_eq_true', List.isEmpty_iff] at h
  obtain ⟨⟨⟨⟨⟨h1, h2⟩, h3⟩, h4⟩, h5⟩, h6⟩ := h
  refine ⟨fun e => h1.resolve_left (by rw [e]; exact Bool.false_ne_true), fun e => h2.resolve_left (by rw [e]; exact fun h => by cases h), ⟨h3, h4⟩, h5, h6⟩

theorem strLt_irrefl : ∀ s : List Int, strLt s s = false
  | [] => rfl
  | a :: s => by simp [strLt, strLt_irrefl s]
theorem strLt_trans : ∀ s t u : List Int, strLt s t = true → strLt t u = true → strLt s u = true
  | [], [], _, h, _ => by cases h
  | _ :: _, [], _, h, _ => by cases h
  | _, _ :: _, [], _, h => by cases h
  | [], _ :: _, _ :: _, _, _ => rfl
  | a :: s, b :: t, c :: u, h1, h2 => by
    simp only [strLt, Bool.or_eq_true, Bool.and_eq_true, decide_eq_true_eq] at h1 h2 ⊢
    rcases h1 with h1 | ⟨h1, h3⟩ <;> rcases h2 with h2 | ⟨h2, h4⟩
    · exact .inl (by omega)
    · exact .inl (by omega)
    · exact .inl (by omega)
    · exact .inr ⟨by omega, strLt_trans s t u h3 h4⟩
theorem strLt_total : ∀ s t : List Int, strLt s t = false → strLt t s = false → s = t
  | [], [], _, _ => rfl
  | [], _ :: _, h, _ => by cases h
  | _ :: _, [], _, h => by cases h
  | a :: s, b :: t, h1, h2 => by
    simp only [strLt, Bool.or_eq_false_iff, Bool.and_eq_false_iff, decide_eq_false_iff_not] at h1 h2
    obtain ⟨h1, h3⟩ := h1
    obtain ⟨h2, h4⟩ := h2
    have e : a = b := by omega
    subst e
    rw [strLt_total s t (h3.resolve_left fun h => h rfl) (h4.resolve_left fun h => h rfl)]

theorem lessD_irrefl (x : Thing) : lessD x x = false := by
  obtain ⟨b, n, s⟩ := x
  cases b <;> simp [lessD, strLt_irrefl]
theorem lessD_trans (x y z : Thing) (h1 : lessD x y = true) (h2 : lessD y z = true) : lessD x z = true := by
  obtain ⟨b, n, s⟩ := x
  obtain ⟨c, m, t⟩ := y
  obtain ⟨d, k, u⟩ := z
  cases b <;> cases c <;> cases d <;> simp [lessD] at h1 h2 ⊢
  · omega
  · exact strLt_trans s t u h1 h2
theorem lessD_total (x y : Thing) (hx : goodT x = true) (hy : goodT y = true) (h1 : lessD x y = false) (h2 : lessD y x = false) : x = y := by
  obtain ⟨b, n, s⟩ := x
  obtain ⟨c, m, t⟩ := y
  obtain ⟨gx1, gx2, _⟩ := good_iff _ hx
  obtain ⟨gy1, gy2, _⟩ := good_iff _ hy
  simp only at gx1 gx2 gy1 gy2
  cases b <;> cases c <;> simp [lessD] at h1 h2 ⊢
  · exact ⟨by omega, by rw [gx1 rfl, gy1 rfl]⟩
  · exact ⟨by rw [gx2 rfl, gy2 rfl], strLt_total s t h1 h2⟩

end Ev

