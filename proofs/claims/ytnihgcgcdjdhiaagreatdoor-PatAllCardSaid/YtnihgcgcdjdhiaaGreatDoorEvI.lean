/- From what a row reads to data; calls as functions; numbers. No statement of its own about the program. -/
import Derived.Test.YtnihgcgcdjdhiaaGreatDoorEvH
import Derived.ChangeArms
import Derived.OpenShut
import Derived.ChangeSame
import Derived.ReadAgain
import Derived.ChangeStays
import Derived.WideShapes
import Derived.RowKit2
import Derived.Lib.Bytealg
namespace Ev
open Go
def qi9 {α β : Type} (f : α → Option β) : List α → Option (List β)
 | [] => some []
 | x :: r => match f x with
  | some y => match qi9 f r with
   | some l => some (y :: l)
   | none => none
  | none => none
def dat {H : Type} : (T : Ty) → List (DataW H) → Option (den T)
 | .unit, l => match l with
  | [] => some ()
  | _ => none
 | .pair a b, l => match l with
  | d :: r => match dat a [d] with
   | some x => match dat b r with
    | some y => some (x, y)
    | none => none
   | none => none
  | [] => none
 | .st p, l => match l with
  | [.agg ps] => dat p ps
  | _ => none
 | .int k, l => match l with
  | [.lit (.int k' n)] => if k' = k then some n else none
  | _ => none
 | .bool, l => match l with
  | [.lit (.bool b)] => some b
  | _ => none
 | .str, l => match l with
  | [.lit (.string s)] => some (s.map fun b => (b.toNat : Int))
  | _ => none
 | .arr n e, l => match l with
  | [.agg ps] => match qi9 (fun d => dat e [d]) ps with
   | some l => if l.length = n then some l else none
   | none => none
  | _ => none
 | .sl e, l => match l with
  | [.nil] => some (⟨true, []⟩ : Sl (den e))
  | [.slice es _] => match qi9 (fun d => dat e [d]) es with
   | some l => some (⟨false, l⟩ : Sl (den e))
   | none => none
  | _ => none
theorem TyOk.lt {C : Cx} {t : TypeId} {T : Ty} (h : TyOk C t T) : t < C.P.types.size := by
 obtain ⟨i, _, _, h2, _⟩ := h.info
 have := (List.getElem?_eq_some_iff.1 h2).1
 simpa using this
theorem que {W : World} {a : Addr} {v : Value} (h : W.cell? a = some v) : a.block < W.heap.size := by
 unfold World.cell? at h
 rcases Nat.lt_or_ge a.block W.heap.size with h' | h'
 ·exact h'
 ·rw [Array.getElem?_eq_none h'] at h; cases h
theorem q4d {C : Cx} {t : TypeId} {T : Ty} (h : TyOk C t T) : C.P.cellsOf t = csz T := by
 obtain ⟨i, z, h1, _, h2, _⟩ := h.info
 unfold Program.cellsOf
 rw [h1]; exact h2
section
variable {H : Type} {enc : TypeId × Value → H} {C : Cx} {W : World} {base : Nat} {spare : Nat → Bool} {held : Bool} {imm : Nat → Prop}
def q6b (C : Cx) (enc : TypeId × Value → H) (W : World) (base : Nat) (spare : Nat → Bool) (held : Bool) (imm : Nat → Prop) (T : Ty) : Prop :=
 ∀ t fuel cs y, C.ty t = some T → DataW.trod enc C.P W base spare held fuel t cs = some y → ∃ x, relC imm W T x cs ∧ dat T [y.1] = some x
theorem qm8 {e : Ty} : ∀ (n : Nat) (xs : List (DataW H × List MemPlace)) (f : Nat → List Value), xs.length = n → (∀ i y, xs[i]? = some y → ∃ x, relC imm W e x (f i) ∧ dat e [y.1] = some x) →
  ∃ l : List (den e), l.length = n ∧ relR (relC imm W e) l ((List.range n).flatMap f) ∧ qi9 (fun d => dat e [d]) (xs.map (·.1)) = some l := by
 intro n
 induction n with
 | zero =>
  intro xs f hl _
  have : xs = [] := List.eq_nil_of_length_eq_zero hl
  subst this
  exact ⟨[], rfl, rfl, rfl⟩
 | succ n ih =>
  intro xs f hl h
  cases xs with
  | nil => cases hl
  | cons y xs =>
   obtain ⟨x, h1, h2⟩ := h 0 y rfl
   obtain ⟨l, g1, g2, g3⟩ := ih xs (fun i => f (i + 1)) (by simpa using hl) (fun i z hz => h (i + 1) z (by simpa using hz))
   refine ⟨x :: l, by simp [g1], ?_, ?_⟩
   ·rw [List.range_succ_eq_map, List.flatMap_cons, List.flatMap_map]
    exact ⟨_, _, rfl, h1, g2⟩
   ·simp only [List.map_cons, qi9, h2, g3]
theorem qrd {k : Nat} : ∀ (n : Nat) (cs : List Value), cs.length = n * k → (List.range n).flatMap (fun i => (cs.drop (i * k)).take k) = cs := by
 intro n
 induction n with
 | zero => intro cs h; simp at h; subst h; rfl
 | succ n ih =>
  intro cs h
  rw [List.range_succ_eq_map, List.flatMap_cons, List.flatMap_map]
  have h1 : ∀ i, (cs.drop ((i + 1) * k)).take k = ((cs.drop k).drop (i * k)).take k := fun i => by
   rw [List.drop_drop]; congr 2; rw [Nat.succ_mul]; omega
  simp only [Nat.succ_eq_add_one, h1]
  rw [ih (cs.drop k) (by rw [List.length_drop, h, Nat.succ_mul]; omega)]
  simp
theorem qre (hC : CxOk C) (hsp : ∀ b, spare b = true) (himm : ∀ b, b < W.heap.size → imm b) (hpos : ∀ t e, t < C.P.types.size → C.P.underlying t = some (.slice e) → 0 < C.P.cellsOf e) (T : Ty) : q6b C enc W base spare held imm T ∧
  (∀ (fs : List Field) (off : Nat) (n : Nat) (cs : List Value) (xs : List (DataW H × List MemPlace)), q2g C fs T off = true → off + csz T ≤ cs.length → xs.length = fs.length →
   (∀ (i : Nat) (f : Field), fs[i]? = some f → DataW.trod enc C.P W base spare held n f.type ((cs.drop f.offset).take (C.P.cellsOf f.type)) = xs[i]?) →
   ∃ x, relC imm W T x ((cs.drop off).take (csz T)) ∧ dat T (xs.map (·.1)) = some x) := by
 have one : ∀ (T : Ty), q6b C enc W base spare held imm T → ∀ (f : Field) (off : Nat) (n : Nat) (cs : List Value) (xs : List (DataW H × List MemPlace)), q2g C [f] T off = true → off + csz T ≤ cs.length →
   xs.length = 1 → (∀ (i : Nat) (f' : Field), [f][i]? = some f' → DataW.trod enc C.P W base spare held n f'.type ((cs.drop f'.offset).take (C.P.cellsOf f'.type)) = xs[i]?) →
   ∃ x, relC imm W T x ((cs.drop off).take (csz T)) ∧ dat T (xs.map (·.1)) = some x := by
  intro T hT f off n cs xs hf _ hl h
  have hf : (C.is f.type T && Nat.beq f.offset off) = true := by
   cases T <;> exact hf
  rw [Bool.and_eq_true] at hf
  obtain ⟨y, rfl⟩ : ∃ y, xs = [y] := by
   match xs, hl with
   | [y], _ => exact ⟨y, rfl⟩
  have hty := is_spec hf.1
  have hof := Nat.eq_of_beq_eq_true hf.2
  have h0 := h 0 f rfl
  rw [q4d (hC.tab _ _ hty), hof] at h0
  obtain ⟨x, h1, h2⟩ := hT _ _ _ _ hty h0
  exact ⟨x, h1, h2⟩
 have chain1 : ∀ (T : Ty), (∀ a b, T ≠ .pair a b) → T ≠ .unit → q6b C enc W base spare held imm T → (∀ (fs : List Field) (off : Nat) (n : Nat) (cs : List Value) (xs : List (DataW H × List MemPlace)), q2g C fs T off = true → off + csz T ≤ cs.length → xs.length = fs.length →
   (∀ (i : Nat) (f : Field), fs[i]? = some f → DataW.trod enc C.P W base spare held n f.type ((cs.drop f.offset).take (C.P.cellsOf f.type)) = xs[i]?) →
   ∃ x, relC imm W T x ((cs.drop off).take (csz T)) ∧ dat T (xs.map (·.1)) = some x) := by
  intro T hp hu hT fs off n cs xs hf hlen hl h
  cases fs with
  | nil => cases T <;> first | exact absurd rfl hu | cases hf
  | cons f fs =>
   cases fs with
   | nil => exact one T hT f off n cs xs hf hlen hl h
   | cons g r => cases T <;> first | exact absurd rfl (hp _ _) | cases hf
 induction T with
 | int k =>
  have hT : q6b C enc W base spare held imm (.int k) := by
   intro t fuel cs y hty h
   obtain ⟨d, h1, h2, h3⟩ := (hC.tab _ _ hty).desc
   cases d <;> simp only [q59] at h3 <;> try (cases h3; done)
   have := q71 h3
   subst this
   obtain ⟨n, rfl, rfl, hw⟩ := DataW.trod_int h2 h
   refine ⟨n, ⟨rfl, ?_⟩, by simp [dat]⟩
   simpa [Lit.wf, inK] using hw
  exact ⟨hT, chain1 _ (fun _ _ h => by cases h) (fun h => by cases h) hT⟩
 | bool =>
  have hT : q6b C enc W base spare held imm .bool := by
   intro t fuel cs y hty h
   obtain ⟨d, h1, h2, h3⟩ := (hC.tab _ _ hty).desc
   cases d <;> simp only [q59] at h3 <;> try (cases h3; done)
   obtain ⟨n, rfl, rfl⟩ := DataW.trod_bool h2 h
   exact ⟨n, rfl, rfl⟩
  exact ⟨hT, chain1 _ (fun _ _ h => by cases h) (fun h => by cases h) hT⟩
 | str =>
  have hT : q6b C enc W base spare held imm .str := by
   intro t fuel cs y hty h
   obtain ⟨d, h1, h2, h3⟩ := (hC.tab _ _ hty).desc
   cases d <;> simp only [q59] at h3 <;> try (cases h3; done)
   obtain ⟨s, rfl, rfl, hs⟩ := DataW.trod_string h2 h
   exact ⟨_, ⟨s, rfl, rfl, hs⟩, rfl⟩
  exact ⟨hT, chain1 _ (fun _ _ h => by cases h) (fun h => by cases h) hT⟩
 | unit =>
  refine ⟨?_, ?_⟩
  ·intro t fuel cs y hty h
   obtain ⟨d, h1, h2, h3⟩ := (hC.tab _ _ hty).desc
   cases d <;> simp only [q59] at h3 <;> cases h3
  ·intro fs off n cs xs hf _ hl _
   cases fs with
   | nil =>
    have : xs = [] := List.eq_nil_of_length_eq_zero hl
    subst this
    exact ⟨(), by simp [csz, relC], rfl⟩
   | cons f r =>
    cases r with
    | nil =>
     simp only [q2g, Bool.and_eq_true] at hf
     have hty := is_spec hf.1
     obtain ⟨d, h1, h2, h3⟩ := (hC.tab _ _ hty).desc
     cases d <;> simp only [q59] at h3 <;> cases h3
    | cons g r => cases hf
 | st p ih =>
  have hT : q6b C enc W base spare held imm (.st p) := by
   intro t fuel cs y hty h
   have hok := hC.tab _ _ hty
   obtain ⟨d, h1, h2, h3⟩ := hok.desc
   cases d <;> simp only [q59] at h3 <;> try (cases h3; done)
   rename_i fs
   obtain ⟨xs, n, rfl, rfl, hl, hlen, hf⟩ := DataW.trod_struct h2 h
   rw [q4d hok] at hl
   have hl : cs.length = csz p := hl
   obtain ⟨x, g1, g2⟩ := ih.2 fs.toList 0 n cs xs h3 (by omega) (by simpa using hlen) (fun i f hi => hf i f (by rw [← Array.getElem?_toList]; exact hi))
   rw [List.drop_zero, List.take_of_length_le (by omega)] at g1
   exact ⟨x, g1, g2⟩
  exact ⟨hT, chain1 _ (fun _ _ h => by cases h) (fun h => by cases h) hT⟩
 | pair a b iha ihb =>
  refine ⟨?_, ?_⟩
  ·intro t fuel cs y hty h
   obtain ⟨d, h1, h2, h3⟩ := (hC.tab _ _ hty).desc
   cases d <;> simp only [q59] at h3 <;> cases h3
  ·intro fs off n cs xs hf hlen hl h
   cases fs with
   | nil => cases hf
   | cons f r =>
    cases r with
    | nil =>
     simp only [q2g, Bool.and_eq_true] at hf
     have hty := is_spec hf.1
     obtain ⟨d, h1, h2, h3⟩ := (hC.tab _ _ hty).desc
     cases d <;> simp only [q59] at h3 <;> cases h3
    | cons g r =>
     simp only [q2g, Bool.and_eq_true] at hf
     cases xs with
     | nil => cases hl
     | cons y xs =>
      simp only [csz] at hlen
      have hty := is_spec hf.1.1
      have hof := Nat.eq_of_beq_eq_true hf.1.2
      have h0 := h 0 f rfl
      rw [q4d (hC.tab _ _ hty), hof] at h0
      obtain ⟨x1, g1, g2⟩ := iha.1 _ _ _ _ hty h0
      obtain ⟨x2, g3, g4⟩ := ihb.2 (g :: r) (off + csz a) n cs xs hf.2 (by omega) (by simpa using hl) (fun i f' hi => h (i + 1) f' (by simpa using hi))
      refine ⟨(x1, x2), ⟨_, _, ?_, g1, g3⟩, ?_⟩
      ·show (cs.drop off).take (csz a + csz b) = _
       rw [List.take_add, List.drop_drop]
      ·simp only [List.map_cons, dat, g2, g4]
 | arr n e ih =>
  have hT : q6b C enc W base spare held imm (.arr n e) := by
   intro t fuel cs y hty h
   have hok := hC.tab _ _ hty
   obtain ⟨d, h1, h2, h3⟩ := hok.desc
   cases d <;> simp only [q59] at h3 <;> try (cases h3; done)
   rename_i m te
   rw [Bool.and_eq_true] at h3
   have := Nat.eq_of_beq_eq_true h3.1
   subst this
   have hte := is_spec h3.2
   obtain ⟨xs, k, rfl, rfl, hl, hlen, hf⟩ := DataW.trod_array h2 h
   rw [q4d hok] at hl
   have hl : cs.length = m * csz e := hl
   rw [q4d (hC.tab _ _ hte)] at hf
   obtain ⟨l, g1, g2, g3⟩ := qm8 (imm := imm) (W := W) (e := e) m xs (fun i => (cs.drop (i * csz e)).take (csz e)) hlen (fun i y hy => by
    have hi : i < m := by
     rcases Nat.lt_or_ge i m with h | h
     ·exact h
     ·rw [List.getElem?_eq_none (by omega)] at hy; cases hy
    have := hf i hi
    rw [hy] at this
    exact ih.1 _ _ _ _ hte this)
   rw [qrd m cs hl] at g2
   refine ⟨l, ⟨g1, g2⟩, ?_⟩
   simp only [dat, g3, g1, if_true]
  exact ⟨hT, chain1 _ (fun _ _ h => by cases h) (fun h => by cases h) hT⟩
 | sl e ih =>
  have hT : q6b C enc W base spare held imm (.sl e) := by
   intro t fuel cs y hty h
   have hok := hC.tab _ _ hty
   obtain ⟨d, h1, h2, h3⟩ := hok.desc
   cases d <;> simp only [q59] at h3 <;> try (cases h3; done)
   rename_i te
   have hte := is_spec h3
   rcases DataW.trod_slice h2 h with ⟨rfl, rfl⟩ | ⟨a, len, cap, elems, rest, n, rfl, rfl, rfl, hb, hlc, hcm, hlen, hf, hr, _⟩
   ·exact ⟨⟨true, []⟩, ⟨_, rfl, Nat.zero_le _, .inl ⟨rfl, rfl, rfl⟩⟩, rfl⟩
   ·have hpe := hpos t te hok.lt h2
    have first : cap ≠ 0 → ∃ v, W.cell? a = some v := by
     intro hc
     have hex : ∃ y, (W.cells? base (a.add (0 * C.P.cellsOf te)) (C.P.cellsOf te)).bind (DataW.trod enc C.P W base spare held n te) = some y := by
      by_cases h0 : len = 0
      ·obtain ⟨r1, r2⟩ := hr (hsp _)
       have := r2 0 (by omega)
       rw [h0, Nat.add_zero, List.getElem?_eq_getElem (by omega)] at this
       exact ⟨_, this⟩
      ·have := hf 0 (by omega)
       rw [List.getElem?_eq_getElem (by omega)] at this
       exact ⟨_, this⟩
     obtain ⟨y, hy⟩ := hex
     obtain ⟨ci, h5, _⟩ := Option.bind_eq_some_iff.1 hy
     obtain ⟨_, h6, h7⟩ := World.cells?_some h5
     have h8 := h7 0 hpe
     rw [List.getElem?_eq_getElem (by omega), Nat.zero_mul, show (a.add 0).add 0 = a from rfl] at h8
     exact ⟨_, h8⟩
    have hs : cap ≠ 0 → a.spot = none := fun hc => by
     obtain ⟨v, hv⟩ := first hc
     exact World.cell?_spot hv
    have hi : len ≠ 0 → imm a.block := fun h0 => by
     obtain ⟨v, hv⟩ := first (by omega)
     exact himm _ (que hv)
    rw [q4d (hC.tab _ _ hte)] at hf
    have cellsEx : ∀ i, i < len → ∃ ci, W.cells? base (a.add (i * csz e)) (csz e) = some ci ∧ DataW.trod enc C.P W base spare held n te ci = elems[i]? := fun i hi => by
     have := hf i hi
     rw [List.getElem?_eq_getElem (by omega)] at this
     obtain ⟨ci, h1, h2⟩ := Option.bind_eq_some_iff.1 this
     exact ⟨ci, h1, by rw [h2, List.getElem?_eq_getElem (by omega)]⟩
    let f : Nat → List Value := fun i => (W.cells? base (a.add (i * csz e)) (csz e)).getD []
    obtain ⟨l, g1, g2, g3⟩ := qm8 (imm := imm) (W := W) (e := e) len elems f hlen (fun i y hy => by
     have hi : i < len := by
      rcases Nat.lt_or_ge i len with h | h
      ·exact h
      ·rw [List.getElem?_eq_none (by omega)] at hy; cases hy
     obtain ⟨ci, h1, h2⟩ := cellsEx i hi
     rw [hy] at h2
     show ∃ x, relC imm W e x ((W.cells? base (a.add (i * csz e)) (csz e)).getD []) ∧ _
     rw [h1, Option.getD_some]
     exact ih.1 _ _ _ _ hte h2)
    have hcl : ∀ i, i < len → (f i).length = csz e ∧ ∀ j (hj : j < (f i).length), W.cell? ⟨a.block, a.off + i * csz e + j, none⟩ = some (f i)[j] := fun i hi => by
     obtain ⟨ci, h1, _⟩ := cellsEx i hi
     have hfi : f i = ci := by show (W.cells? base (a.add (i * csz e)) (csz e)).getD [] = ci; rw [h1]; rfl
     obtain ⟨_, h4, h5⟩ := World.cells?_some h1
     rw [hfi]
     refine ⟨h4, fun j hj => ?_⟩
     have := h5 j (by omega)
     rw [List.getElem?_eq_getElem hj] at this
     rw [← this]
     have : (a.add (i * csz e)).add j = ⟨a.block, a.off + i * csz e + j, none⟩ := by
      obtain ⟨ab, ao, as⟩ := a
      have hs : as = none := hs (by omega)
      subst hs
      simp only [Addr.add]
      by_cases h0 : i * csz e = 0
      ·by_cases hj0 : j = 0
       ·simp [h0, hj0]
       ·simp [h0, hj0]
      ·by_cases hj0 : j = 0
       ·simp [h0, hj0]
       ·simp [h0, hj0]
     rw [this]
    have hca : q15 W a ((List.range len).flatMap f) := by
     clear g2 g3 h hf
     have key : ∀ m, m ≤ len → q15 W a ((List.range m).flatMap f) ∧ ((List.range m).flatMap f).length = m * csz e := by
      intro m
      induction m with
      | zero => intro _; exact ⟨fun j hj => by simp at hj, by simp⟩
      | succ m ihm =>
       intro hm
       obtain ⟨k1, k2⟩ := ihm (by omega)
       obtain ⟨k3, k4⟩ := hcl m (by omega)
       rw [List.range_succ, List.flatMap_append, List.flatMap_singleton]
       refine ⟨fun j hj => ?_, by rw [List.length_append, k2, k3, Nat.succ_mul]⟩
       by_cases hjl : j < ((List.range m).flatMap f).length
       ·rw [List.getElem_append_left hjl]; exact k1 j hjl
       ·rw [List.getElem_append_right (by omega)]
        have hj2 : j - ((List.range m).flatMap f).length < (f m).length := by rw [List.length_append] at hj; omega
        have := k4 _ hj2
        rw [← this]
        congr 2
        omega
     exact (key len (Nat.le_refl _)).1
    refine ⟨⟨false, l⟩, ⟨_, rfl, ?_, .inr ⟨rfl, a, cap, _, ?_, hs, fun h => hi fun h0 => h (List.eq_nil_of_length_eq_zero (g1.trans h0)), g2, hca, ?_⟩⟩, ?_⟩
    ·show l.length ≤ maxL
     have : maxLen = maxL := rfl
     omega
    ·show Value.slice (some a) len cap = Value.slice (some a) l.length cap
     rw [g1]
    ·show l.length ≤ cap
     omega
    ·simp only [dat, g3]
  exact ⟨hT, chain1 _ (fun _ _ h => by cases h) (fun h => by cases h) hT⟩
end
end Ev

namespace Ev
open Go Go.ChangeShapes Go.WideShapes Go.RowKit
def good : (T : Ty) → den T → Prop
 | .int k, n => inK k n
 | .bool, _ => True
 | .str, l => List.length l ≤ maxL ∧ ∀ b, b ∈ (l : List Int) → 0 ≤ b ∧ b < 256
 | .unit, _ => True
 | .pair a b, x => good a x.1 ∧ good b x.2
 | .st p, x => good p x
 | .arr n e, l => List.length l = n ∧ ∀ x, x ∈ (l : List (den e)) → good e x
 | .sl e, s => s.l.length ≤ maxL ∧ (s.nil = true → s.l = []) ∧ ∀ x, x ∈ s.l → good e x
theorem qg6 {α : Type} {f : α → List Value → Prop} {g : α → Prop} (h : ∀ x c, f x c → g x) : ∀ {l : List α} {cs : List Value}, relR f l cs → ∀ x, x ∈ l → g x
 | y :: l, _, ⟨c, d, e, h1, h2⟩, x, hx => by
  rcases List.mem_cons.1 hx with rfl | hx
  ·exact h _ _ h1
  ·exact qg6 h h2 x hx
theorem q5p {imm : Nat → Prop} {w : World} : ∀ (T : Ty) (x : den T) (cs : List Value), relC imm w T x cs → good T x
 | .int _, _, _, h => h.2
 | .bool, _, _, _ => trivial
 | .str, _, _, ⟨s, _, h2, h3⟩ => by
  subst h2
  refine ⟨by simpa using h3, fun b hb => ?_⟩
  obtain ⟨c, _, rfl⟩ := List.mem_map.1 hb
  have := c.toNat_lt
  omega
 | .unit, _, _, _ => trivial
 | .pair a b, x, _, ⟨c, d, _, h1, h2⟩ => ⟨q5p a x.1 c h1, q5p b x.2 d h2⟩
 | .st p, x, cs, h => q5p p x cs h
 | .arr _ e, _, _, ⟨h1, h2⟩ => ⟨h1, qg6 (fun x c h => q5p e x c h) h2⟩
 | .sl e, s, _, ⟨v, _, h2, h3⟩ => by
  rcases h3 with ⟨h3, h4, _⟩ | ⟨h3, a, cap, ec, _, _, _, h5, _⟩
  ·exact ⟨h2, fun _ => h4, fun x hx => by rw [h4] at hx; cases hx⟩
  ·exact ⟨h2, (fun h => by rw [h3] at h; cases h), qg6 (fun x c h => q5p e x c h) h5⟩
abbrev denA (Ts : List Ty) : Type := denP (tyL (Ts.map Sh.d) [])
def goodA : (Ts : List Ty) → denA Ts → Prop
 | [], _ => True
 | T :: Ts, x => good T x.1 ∧ goodA Ts x.2
def datA {H : Type} : (Ts : List Ty) → List (DataW H) → Option (denA Ts)
 | [], [] => some ()
 | T :: Ts, d :: ds => match dat T [d] with
  | some x => match datA Ts ds with
   | some y => some (x, y)
   | none => none
  | none => none
 | _, _ => none
def qrf (C : Cx) : List TypeId → List Ty → Bool
 | [], [] => true
 | t :: ts, T :: Ts => C.is t T && qrf C ts Ts
 | _, _ => false
theorem qg7 {H : Type} : ∀ {Ts : List Ty} {ds : List (DataW H)} {x : denA Ts}, datA Ts ds = some x → ds.length = Ts.length := by
 intro Ts
 induction Ts with
 | nil => intro ds x h; cases ds with | nil => rfl | cons d ds => cases h
 | cons T Ts ih =>
  intro ds x h
  cases ds with
  | nil => cases h
  | cons d ds =>
   simp only [datA] at h
   split at h
   ·split at h
    ·rename_i y hy
     simp only [List.length_cons, ih hy]
    ·cases h
   ·cases h
section
variable {H : Type} {enc : TypeId × Value → H} {C : Cx} {W : World} {base : Nat} {imm : Nat → Prop} {φ : Nat → Addr} {o : Nat → Obj}
theorem q9e {v : Value} (h : qbx v = false) : v.cells = #[v] := by
 cases v <;> first | rfl | cases h
theorem qxf (hC : CxOk C) (hpos : ∀ t e, t < C.P.types.size → C.P.underlying t = some (.slice e) → 0 < C.P.cellsOf e) {T : Ty} {t : TypeId} {v : Value} {fuel : Nat} {y : DataW H × List MemPlace} {sp : Nat → Bool} {held : Bool} (hsp : ∀ b, sp b = true) (hty : C.ty t = some T) (h : DataW.trod enc C.P W 0 sp held fuel t v.cells.toList = some y)
  (hv : Value.okWide C.P W .any base t v) : ∃ x, relV (fun b => b < W.heap.size) W T x v ∧ dat T [y.1] = some x ∧ good T x := by
 obtain ⟨x, h1, h2⟩ := (qre (imm := fun b => b < W.heap.size) hC hsp (fun _ h => h) hpos T).1 t fuel _ y hty h
 refine ⟨x, ?_, h2, q5p _ _ _ h1⟩
 obtain ⟨d, h4, h5, h6⟩ := (hC.tab _ _ hty).desc
 unfold Value.okWide at hv
 rw [h5] at hv
 have flat : Cell.okWide C.P W .any base t v → qbx v = false := by
  intro hc
  cases hagg : qbx v with
  | false => rfl
  | true =>
   exfalso
   cases v <;> try (cases hagg; done)
   unfold Cell.okWide at hc
   rw [h5] at hc
   cases d <;> cases T <;> first | (cases h6; done) | (simp only at hc; unfold Cell.ok at hc; rw [h5] at hc; exact hc)
 cases T with
 | int k =>
  cases d <;> try (cases h6; done)
  rw [q9e (flat hv)] at h1; exact h1
 | bool =>
  cases d <;> try (cases h6; done)
  rw [q9e (flat hv)] at h1; exact h1
 | str =>
  cases d <;> try (cases h6; done)
  rw [q9e (flat hv)] at h1; exact h1
 | sl e =>
  cases d <;> try (cases h6; done)
  rw [q9e (flat hv)] at h1; exact h1
 | unit => cases d <;> cases h6
 | pair a b => cases d <;> cases h6
 | st p =>
  cases d <;> try (cases h6; done)
  obtain ⟨cs, rfl, _⟩ := hv
  exact ⟨cs, rfl, h1⟩
 | arr n e =>
  cases d <;> try (cases h6; done)
  obtain ⟨cs, rfl, _⟩ := hv
  exact ⟨cs, rfl, h1⟩
theorem qm9 (hC : CxOk C) (hpos : ∀ t e, t < C.P.types.size → C.P.underlying t = some (.slice e) → 0 < C.P.cellsOf e) (himm : ∀ b, b < W.heap.size → imm b) : ∀ (Ts : List Ty) (ts : List TypeId) (vs : List Value) (ds : List (DataW H)) (p : List MemPlace), qrf C ts Ts = true →
  DataW.TrodAll enc C.P W 0 (fun _ => true) true ts vs ds p → (∀ (j : Nat) t v, ts[j]? = some t → vs[j]? = some v → Value.okWide C.P W .any base t v) →
  ∃ x : denA Ts, q0f φ o imm W (q1f id0 ka0 (Ts.map Sh.d) [] x).1 vs ∧ datA Ts ds = some x ∧ goodA Ts x
 | [], ts, vs, ds, p, ht, h, _ => by
  cases ts with
  | cons t ts => cases ht
  | nil =>
   obtain ⟨rfl, rfl, rfl⟩ := trodAll_nil h
   exact ⟨(), rfl, rfl, trivial⟩
 | T :: Ts, ts, vs, ds, p, ht, h, hv => by
  cases ts with
  | nil => cases ht
  | cons t ts =>
   simp only [qrf, Bool.and_eq_true] at ht
   obtain ⟨v, vs1, d, ds1, p1, p2, rfl, rfl, rfl, ⟨fuel, h1⟩, h2⟩ := trodAll_cons h
   obtain ⟨x, g1, g2, g3⟩ := qxf hC hpos (fun _ => rfl) (is_spec ht.1) h1 (hv 0 t v rfl rfl)
   obtain ⟨y, k1, k2, k3⟩ := qm9 hC hpos himm Ts ts vs1 ds1 p2 ht.2 h2 (fun j t v a b => hv (j + 1) t v (by simpa using a) (by simpa using b))
   refine ⟨(x, y), ⟨v, vs1, rfl, q18 himm (fun _ _ => rfl) T x v g1, k1⟩, ?_, g3, k3⟩
   simp only [datA, g2, k2]
structure qma (C : Cx) (laid : List (String × DataW Unit)) : Prop where
 plain : (laid.filter fun x => x.2.handleName?.isSome) = []
 globs : ∀ g t x, C.glob g = some ⟨t, x⟩ → ∃ n d tid, (n, d) ∈ laid ∧ C.P.globalNamed n = some g ∧ (C.P.globals[g]?).map (·.type) = some tid ∧ C.ty tid = some t ∧ q6o t = false ∧ dat t [d] = some x
theorem qb2 : ∀ {laid : List (String × DataW Unit)} {ps : List MemPlace}, DataW.LaidVars C.P W laid ps → ∀ n d, (n, d) ∈ laid →
  ∃ g t cs fuel p, C.P.globalNamed n = some g ∧ (C.P.globals[g]?).map (·.type) = some t ∧ W.var? C.P n = some cs ∧ DataW.trod (fun _ => ()) C.P W 0 (fun _ => true) false fuel t cs.toList = some (d, p)
 | (n0, d0) :: r, ps, ⟨g, t, cs, fuel, p, q, h1, h2, h3, h4, h5, _⟩, n, d, hm => by
  rcases List.mem_cons.1 hm with h | h
  ·injection h with e1 e2
   subst e1 e2
   exact ⟨g, t, cs, fuel, p, h1, h2, h3, h4⟩
  ·exact qb2 h5 n d h
theorem quf (hC : CxOk C) (hpos : ∀ t e, t < C.P.types.size → C.P.underlying t = some (.slice e) → 0 < C.P.cellsOf e) {laid : List (String × DataW Unit)} (hG : qma C laid) (hL : laidMetH C.P laid W) {g : Nat} {t : Ty} {x : den t} (h : C.glob g = some ⟨t, x⟩) (himm : ∀ b, b < W.heap.size → imm b) :
  q02 φ o imm W (.ref t x) (.pointer (some ⟨g, 0, none⟩)) := by
 unfold laidMetH at hL
 rw [hG.plain] at hL
 obtain ⟨ps, hl, _⟩ := hL
 obtain ⟨n, d, tid, h1, h2, h3, h4, h5, h6⟩ := hG.globs g t x h
 obtain ⟨g', t', cs, fuel, p, k1, k2, k3, k4⟩ := qb2 hl n d h1
 rw [h2] at k1
 cases k1
 rw [h3] at k2
 cases k2
 obtain ⟨x', r1, r2⟩ := (qre (imm := imm) hC (fun _ => rfl) himm hpos t).1 tid fuel _ _ h4 k4
 simp only at r2
 rw [h6] at r2
 cases r2
 unfold World.var? at k3
 rw [h2] at k3
 simp only [Option.bind_some] at k3
 split at k3
 ·rename_i c el fz hb
  cases k3
  have hlt : g < W.heap.size := by
   rcases Nat.lt_or_ge g W.heap.size with h | h
   ·exact h
   ·rw [Array.getElem?_eq_none h] at hb; cases hb
  refine ⟨⟨g, 0, none⟩, cs.toList, rfl, rfl, himm _ hlt, r1, fun j hj => ?_⟩
  unfold World.cell?
  simp only [Nat.zero_add]
  rw [hb]
  have : j < cs.size := by simpa using hj
  simp [this]
 ·cases k3
def qo3 (C : Cx) (s : Sig) (x : denP s.ins.tys) (y : denP s.outs.tys) : Prop :=
 ∀ X φ w zs, MRel C X φ (canO s.ins x) w → q0f φ (canO s.ins x) (immB X φ (canO s.ins x) w) w (fill id0 ka0 s.ins x).1 zs →
  (∃ fn, C.P.funcs[s.f]? = some fn ∧ fn.body.isNone = false) ∧ Calls C.P s.f zs.toArray w fun e w' =>
   ∃ vals φ' X', e = .returned (qhz vals) ∧ (∀ b, X b → X' b) ∧ MRel C X' φ' (canO s.outs y) w' ∧
    q0f φ' (canO s.outs y) (immB X' φ' (canO s.outs y) w') w' (fill id0 ka0 s.outs y).1 vals ∧ Hist s.keep φ (canO s.ins x) w φ' (canO s.outs y) w'
theorem FnOk.s {i : Nat} {x : denP (q0a C.sigs i).ins.tys} {y : denP (q0a C.sigs i).outs.tys} (h : FnOk C i x y) : qo3 C (q0a C.sigs i) x y := h
theorem qo4 {W W' : World} (h : ∀ b, b < W.heap.size → W'.heap[b]? = W.heap[b]?) {p : MemPlace} (hp : p.block < W.heap.size) : W.sameAt W' p := by
 cases p with
 | cell b off => exact qbt (h b hp)
 | map b => exact h b hp
theorem qb3 {P : Program} {W' : World} (K : Kids P (· < P.types.size)) (hz : ∀ t e, t < P.types.size → P.underlying t = some (.slice e) → 0 < P.cellsOf e) (hs : ∀ b, b < W.heap.size → W'.heap[b]? = W.heap[b]?) :
  ∀ {ts : List TypeId} {vs : List Value} {ds : List (DataW H)} {ps : List MemPlace}, (∀ t, t ∈ ts → t < P.types.size) → DataW.TrodAll enc P W 0 (fun _ => true) true ts vs ds ps → (∀ p, p ∈ ps → p.block < W.heap.size) →
  DataW.TrodAll enc P W' 0 (fun b => decide (b < W.heap.size)) true ts vs ds ps
 | [], _, _, _, _, h, _ => by obtain ⟨rfl, rfl, rfl⟩ := trodAll_nil h; exact rfl
 | t :: ts, vs, ds, ps, ht, h, hp => by
  obtain ⟨v, vs1, d, ds1, p, q, rfl, rfl, rfl, ⟨n, h1⟩, h2⟩ := trodAll_cons h
  refine ⟨p, q, ⟨n, ?_⟩, qb3 K hz hs (fun t h => ht t (List.mem_cons_of_mem _ h)) h2 (fun x hx => hp x (List.mem_append_right _ hx)), rfl⟩
  exact DataW.trod_stays K (fun hT hu => hz _ _ hT hu) (fun h => by cases h) (ht t (List.mem_cons_self ..)) h1 (fun x hx => qo4 hs (hp x (List.mem_append_left _ hx))) (fun x hx => by simpa using hp x (List.mem_append_left _ hx))
theorem qia {W W' : World} {may : MemPlace → Prop} (h : ∀ b, b < W.heap.size → W'.heap[b]? = W.heap[b]?) (hs : qfo W W') : W.keptBut W' may := by
 refine ⟨hs.1, hs.2, fun i hi => ?_⟩
 rw [h i hi]
 split
 ·rename_i h1 h2
  rw [h1] at h2
  cases h2
  exact ⟨rfl, rfl, rfl, fun _ _ => rfl⟩
 ·rename_i h1 h2
  rw [h1] at h2
  cases h2
  exact .inr ⟨rfl, rfl⟩
 ·rfl
structure qmb (C : Cx) (laid : List (String × DataW Unit)) : Prop where
 cx : CxOk C
 glob : qma C laid
 kids : Kids C.P (· < C.P.types.size)
 full : ∀ t e, t < C.P.types.size → C.P.underlying t = some (.slice e) → 0 < C.P.cellsOf e
theorem qib {laid : List (String × DataW Unit)} (hS : qmb C laid) {f : FuncId} {fn : Func} {s : ChangeSpec} (Ts : List Ty) (tb : TypeId) (hts : qrf C fn.params.toList Ts = true) (hps : ∀ t, t ∈ fn.params.toList → t < C.P.types.size)
  (hres : fn.resultTypes = #[tb]) (htb : C.P.underlying tb = some .bool) (hvars : s.vars = []) (hspec : ∀ ds : List (DataW H), ds.length = Ts.length → s.fn H ds = { results := [.lit (.bool true)], args := ds })
  {args : Array Value} {ds gs : List (DataW H)} {before : List MemPlace}
  (hval : ∀ (j : Nat) t v, fn.params[j]? = some t → args[j]? = some v → Value.okWide C.P W .any base t v) (hW : DataW.Whole enc C.P fn.params.toList s.vars false W args.toList ds gs before) (hL : laidMetH C.P laid W)
  (hlaw : ∀ x : denA Ts, goodA Ts x → datA Ts (ds ++ gs) = some x → qo3 C ⟨f, ⟨Ts.map Sh.d, []⟩, ⟨[Sh.d .bool], []⟩, []⟩ x (true, ())) :
  Calls C.P f args W fun e W' => ∃ v, e = .returned v ∧ s.post enc C.P fn false true false false W args v W' := by
 have hlt := hW.lt
 have hW' := hW
 obtain ⟨p, q, hA, hV, rfl, hfz, hnd⟩ := hW
 rw [hvars] at hV
 obtain ⟨rfl, rfl⟩ : gs = [] ∧ q = [] := by
  cases gs with
  | nil => exact ⟨rfl, hV⟩
  | cons g gs => exact hV.elim
 simp only [List.append_nil] at hlt hW' hlaw
 obtain ⟨x, h1, h2, h3⟩ := qm9 (φ := fun _ => ⟨0, 0, none⟩) (o := fun _ => .none) (imm := immB (fun _ => False) (fun _ => ⟨0, 0, none⟩) (fun _ => .none) W) hS.cx hS.full (fun b hb => ⟨hb, id, fun ⟨_, h, _⟩ => by cases h⟩) Ts fn.params.toList args.toList ds p hts
  hA (fun j t v h1 h2 => hval j t v (by rw [← Array.getElem?_toList]; exact h1) (by rw [← Array.getElem?_toList]; exact h2))
 have hm : MRel C (fun _ => False) (fun _ => ⟨0, 0, none⟩) (fun _ => Obj.none) W :=
  ⟨fun _ => trivial, (fun i j h => by cases h), (fun i h => by cases h), (fun b h => h.elim), fun _ => trivial, fun g t x hg => quf hS.cx hS.full hS.glob hL hg (fun b hb => ⟨hb, id, fun ⟨_, h, _⟩ => by cases h⟩)⟩
 obtain ⟨_, hc⟩ := hlaw x h3 h2 (fun _ => False) (fun _ => ⟨0, 0, none⟩) W args.toList hm h1
 have e0 : args.toList.toArray = args := by simp
 rw [e0] at hc
 refine hc.mono fun e W' ⟨vals, φ', X', he, _, _, hr, hh⟩ => ?_
 have hr : ∃ v r, vals = v :: r ∧ v = .bool true ∧ r = [] := by
  obtain ⟨v, r, h1, h2, h3⟩ := hr
  have h2 : [v] = [Value.bool true] := h2
  injection h2 with h2
  exact ⟨v, r, h1, h2, h3⟩
 obtain ⟨_, _, rfl, rfl, rfl⟩ := hr
 have hsame : ∀ b, b < W.heap.size → W'.heap[b]? = W.heap[b]? := fun b hb => hh.frame b hb fun ⟨id, h, _⟩ => by cases h
 refine ⟨_, he, ds, [], p, [], p, [], hW', ?_, ?_, ?_, qia hsame hh.still, fun h => by cases h⟩
 ·have hl : ds.length = Ts.length := by
   exact qg7 h2
  rw [List.append_nil, hspec ds hl, hres]
  exact trodAll_cons_mk (p' := []) (shut_bool htb true) rfl
 ·have hl : ds.length = Ts.length := by
   exact qg7 h2
  rw [List.append_nil, hspec ds hl]
  exact qb3 hS.kids hS.full hsame hps hA hlt
 ·rw [hvars]
  have hl : (s.fn H (ds ++ [])).vars = [] := by
   rw [List.append_nil, hspec ds (qg7 h2)]
  rw [hl]
  exact rfl
end
end Ev

namespace Ev
open Go
def nameOk (C : Cx) (f : Nat) : Bool := match C.P.funcs.toList[f]? with
 | some fn => !(fn.name == "runtime.NumGoroutine")
 | none => true
def qcw (C : Cx) : List Sig → Bool
 | [] => nameOk C 0
 | s :: r => nameOk C s.f && qcw C r
theorem qcx {C : Cx} {f : Nat} (h : nameOk C f = true) : ∀ fn, C.P.funcs[f]? = some fn → (fn.name == "runtime.NumGoroutine") = false := by
 intro fn hf
 unfold nameOk at h
 rw [Array.getElem?_toList, hf] at h
 simpa using h
theorem qb4 {C : Cx} : ∀ {l : List Sig}, qcw C l = true → ∀ i fn, C.P.funcs[(q0a l i).f]? = some fn → (fn.name == "runtime.NumGoroutine") = false
 | [], h, _, fn, hf => qcx h fn hf
 | s :: r, h, i, fn, hf => by
  simp only [qcw, Bool.and_eq_true] at h
  cases i with
  | zero => exact qcx h.1 fn hf
  | succ i => exact qb4 h.2 i fn hf
theorem qug {C : Cx} (h1 : qe5 C C.tab = true) (h2 : qk1 C C.eqs = true) (h3 : qcw C C.sigs = true) (h4 : C.P.follows .mixedOrders = true) :
  ∀ {i : Nat} {x : denP (q0a C.sigs i).ins.tys} {y : denP (q0a C.sigs i).outs.tys}, Call C i x y → FnOk C i x y := by
 have hC : CxOk C := ⟨fun t T h => q88 h1 t T h⟩
 have hE : EqOk C := qww hC h2
 have hL : qg1 C := qx9 (qb4 h3)
 intro i x y h
 exact h.ok hC hE hL (qxe hC hE hL h4)
theorem qrg {C : Cx} {laid : List (String × DataW Unit)} (h1 : qe5 C C.tab = true) (h2 : laidOutB C.P = true) (h3 : mapsRowed C.P = true)
  (h4 : ((List.range C.P.types.size).all fun t => match C.P.underlying t with | some (.slice e) => decide (0 < C.P.cellsOf e) | _ => true) = true) (h5 : qma C laid) : qmb C laid :=
 ⟨⟨fun t T h => q88 h1 t T h⟩, h5, kids_rows h2 h3, slices_full_of C.P h4⟩
end Ev

namespace Ev
open Go
def recN {α β : Type} (F : (α → Option β) → α → Option β) : Nat → α → Option β
 | 0, _ => none
 | n + 1, x => F (recN F n) x
open Classical in
noncomputable def recR {α β : Type} (F : (α → Option β) → α → Option β) (x : α) : Option β :=
 if h : ∃ y n0, ∀ n, n0 ≤ n → recN F n x = some y then some (Classical.choose h) else none
theorem qrh {α β : Type} {F : (α → Option β) → α → Option β} {x : α} {y : β} (h : recR F x = some y) : ∃ n, recN F n x = some y := by
 unfold recR at h
 split at h
 ·rename_i hx
  injection h with h
  obtain ⟨n0, hn⟩ := Classical.choose_spec hx
  exact ⟨n0, by rw [← h]; exact hn n0 (Nat.le_refl _)⟩
 ·cases h
theorem q8h {α β : Type} {F : (α → Option β) → α → Option β} {x : α} {y : β} (n0 : Nat) (h : ∀ n, n0 ≤ n → recN F n x = some y) : recR F x = some y := by
 unfold recR
 have hx : ∃ y n0, ∀ n, n0 ≤ n → recN F n x = some y := ⟨y, n0, h⟩
 rw [dif_pos hx]
 obtain ⟨n1, hn⟩ := Classical.choose_spec hx
 have h1 := hn (n0 + n1) (by omega)
 rw [h (n0 + n1) (by omega)] at h1
 exact h1.symm
def CallsAs (C : Cx) (k : Nat) (f : denP (q0a C.sigs k).ins.tys → Option (denP (q0a C.sigs k).outs.tys)) : Prop := ∀ x y, f x = some y → Call C k x y
def qri (C : Cx) (R : q1e C.sigs) : Prop := ∀ j a b, R j a = some b → Call C j a b
def orc0 {sg : List Sig} : q1e sg := fun _ _ => none
def orc1 {sg : List Sig} (j : Nat) (f : denP (q0a sg j).ins.tys → Option (denP (q0a sg j).outs.tys)) (R : q1e sg) : q1e sg := fun i => match Nat.decEq i j with
 | isTrue h => h ▸ f
 | isFalse _ => R i
theorem q06 {C : Cx} : qri C orc0 := fun _ _ _ h => by cases h
theorem q03 {C : Cx} {j : Nat} {f : denP (q0a C.sigs j).ins.tys → Option (denP (q0a C.sigs j).outs.tys)} {R : q1e C.sigs} (hf : CallsAs C j f) (hR : qri C R) : qri C (orc1 j f R) := by
 intro i a b h
 unfold orc1 at h
 cases hd : Nat.decEq i j with
 | isTrue e =>
  rw [hd] at h
  subst e
  exact hf a b h
 | isFalse e =>
  rw [hd] at h
  exact hR i a b h
theorem qxg {C : Cx} {k : Nat} {F : (denP (q0a C.sigs k).ins.tys → Option (denP (q0a C.sigs k).outs.tys)) → denP (q0a C.sigs k).ins.tys → Option (denP (q0a C.sigs k).outs.tys)}
  (h : ∀ g, CallsAs C k g → ∀ x y, F g x = some y → Call C k x y) : CallsAs C k (recR F) := by
 intro x y hx
 obtain ⟨n, hn⟩ := qrh hx
 clear hx
 induction n generalizing x y with
 | zero => cases hn
 | succ n ih => exact h (recN F n) (fun a b hab => ih a b hab) x y hn
theorem CallsAs.of {C : Cx} {k : Nat} {f g : denP (q0a C.sigs k).ins.tys → Option (denP (q0a C.sigs k).outs.tys)} (h : CallsAs C k f) (hg : ∀ x y, g x = some y → f x = some y) : CallsAs C k g :=
 fun x y e => h x y (hg x y e)
theorem qad {σ ρ : Type} {f : σ → Option (σ ⊕ ρ)} : ∀ {n m : Nat} {s : σ} {r : ρ}, n ≤ m → q3t f n s = some r → q3t f m s = some r
 | 0, _, _, _, _, h => by cases h
 | n + 1, 0, _, _, hm, _ => by omega
 | n + 1, m + 1, s, r, hm, h => by
  simp only [q3t] at h ⊢
  cases hs : f s with
  | none => rw [hs] at h; cases h
  | some q =>
   rw [hs] at h
   cases q with
   | inl s' => exact qad (n := n) (m := m) (by omega) h
   | inr r' => exact h
theorem q6c {σ ρ : Type} {f : σ → Option (σ ⊕ ρ)} {s : σ} {r : ρ} (n : Nat) (h : q3t f n s = some r) : loopR f s = some r := by
 have hx : ∃ r n, q3t f n s = some r := ⟨r, n, h⟩
 unfold loopR
 rw [dif_pos hx]
 obtain ⟨m, hm⟩ := Classical.choose_spec hx
 have h1 := qad (Nat.le_max_left n m) h
 have h2 := qad (Nat.le_max_right n m) hm
 rw [h1] at h2
 exact h2.symm
theorem qet {σ ρ : Type} (f : σ → Option (σ ⊕ ρ)) (s : σ) : loopR f s = match f s with
  | some (.inl s') => loopR f s'
  | some (.inr r) => some r
  | none => none := by
 cases hf : f s with
 | none =>
  simp only
  cases hr : loopR f s with
  | none => rfl
  | some r =>
   obtain ⟨n, hn⟩ := q4c hr
   cases n with
   | zero => cases hn
   | succ n => simp only [q3t, hf] at hn; cases hn
 | some q =>
  cases q with
  | inr r => exact q6c 1 (by simp only [q3t, hf])
  | inl s' =>
   simp only
   cases hr : loopR f s' with
   | some r =>
    obtain ⟨n, hn⟩ := q4c hr
    exact q6c (n + 1) (by simp only [q3t, hf]; exact hn)
   | none =>
    cases hr2 : loopR f s with
    | none => rfl
    | some r =>
     obtain ⟨n, hn⟩ := q4c hr2
     cases n with
     | zero => cases hn
     | succ n =>
      simp only [q3t, hf] at hn
      rw [q6c n hn] at hr
      cases hr
theorem q0i {σ ρ : Type} {f : σ → Option (σ ⊕ ρ)} {s s' : σ} (h : f s = some (.inl s')) : loopR f s = loopR f s' := by
 rw [qet, h]
theorem q0b {σ ρ : Type} {f : σ → Option (σ ⊕ ρ)} {s : σ} {r : ρ} (h : f s = some (.inr r)) : loopR f s = some r := by
 rw [qet, h]
theorem q29 {σ ρ : Type} {f : σ → Option (σ ⊕ ρ)} {I : σ → Prop} {Q : ρ → Prop} (μ : σ → Nat) (h : ∀ s, I s → (∃ s', f s = some (.inl s') ∧ I s' ∧ μ s' < μ s) ∨ (∃ r, f s = some (.inr r) ∧ Q r)) :
  ∀ s, I s → ∃ r, loopR f s = some r ∧ Q r := by
 intro s
 generalize hn : μ s = n
 induction n using Nat.strongRecOn generalizing s with
 | _ n ih =>
  intro hs
  rcases h s hs with ⟨s', h1, h2, h3⟩ | ⟨r, h1, h2⟩
  ·rw [q0i h1]
   exact ih (μ s') (by omega) s' rfl h2
  ·exact ⟨r, q0b h1, h2⟩
theorem q00 {α β : Type} (a : α) (f : α → Option β) : bnd (some a) f = f a := id (Eq.refl (f a))
theorem q04 {α : Type} (a b : Option α) : cnd true a b = a := id (Eq.refl a)
theorem q01 {α : Type} (a b : Option α) : cnd false a b = b := id (Eq.refl b)
end Ev

namespace Ev
open Go
theorem qmc {n : Int} (h1 : -9223372036854775808 ≤ n) (h2 : n ≤ 9223372036854775807) : IntKind.i64.wrap n = n := by
 simp only [IntKind.wrap, IntKind.bits, IntKind.signed]
 simp
 split <;> omega
theorem qxh (n : Int) : IntKind.u8.wrap n = n % 256 := by
 simp only [IntKind.wrap, IntKind.bits, IntKind.signed]
 simp
theorem q6d {a b : Int} (h1 : -9223372036854775808 ≤ a + b) (h2 : a + b ≤ 9223372036854775807) : addI .i64 a b = a + b := qmc h1 h2
theorem q43 {a b : Int} (h1 : -9223372036854775808 ≤ a - b) (h2 : a - b ≤ 9223372036854775807) : subI .i64 a b = a - b := qmc h1 h2
theorem qvt (a : Int) : cvI .u8 a = a % 256 := qxh a
theorem inK_i64 {n : Int} : inK .i64 n ↔ -9223372036854775808 ≤ n ∧ n ≤ 9223372036854775807 := by
 simp [inK, IntKind.min, IntKind.max, IntKind.signed, IntKind.bits]
theorem quh {a : Int} (s : Nat) (hs : s ≤ 64) : shrI .i64 a (s : Int) = some (a / 2 ^ s) := by
 unfold shrI
 rw [if_neg (by omega)]
 have : min (s : Int).toNat IntKind.i64.bits = s := by
  show min ((s : Int).toNat) 64 = s
  simp; omega
 rw [this, Int.fdiv_eq_ediv_of_nonneg _ (Int.pow_nonneg (by omega))]
theorem qmd {a b : Int} (ha : 0 ≤ a) (hb : 0 < b) : remI a b = some (a % b) := by
 unfold remI
 rw [if_neg (by omega), Int.tmod_eq_emod_of_nonneg ha]
theorem q0z {α : Type} (a b : Int) (x y : Option α) : cnd (ltI a b) x y = if a < b then x else y := by
 unfold ltI; by_cases h : a < b <;> simp [h, cnd]
theorem qme {α : Type} (a b : Int) (x y : Option α) : cnd (eqI a b) x y = if a = b then x else y := by
 unfold eqI
 by_cases h : a = b
 ·subst h; rw [if_pos rfl, beq_self_eq_true]; rfl
 ·rw [if_neg h, beq_false_of_ne h]; rfl
theorem qg8 {α : Type} (a b : List Int) (x y : Option α) : cnd (eqS a b) x y = if a = b then x else y := by
 unfold eqS
 by_cases h : a = b
 ·subst h; rw [if_pos rfl, beq_self_eq_true]; rfl
 ·rw [if_neg h, beq_false_of_ne h]; rfl
theorem q4z (a : Int) : eqI a a = true := by simp [eqI]
theorem eqI_eq {a b : Int} : eqI a b = true ↔ a = b := by simp [eqI]
theorem q1r {a b : Int} (h : a ≠ b) : eqI a b = false := by simp [eqI, h]
theorem q50 (a : List Int) : eqS a a = true := by simp [eqS]
theorem q07 {α : Type} {l : List α} {i : Nat} {x : α} (h : l[i]? = some x) : at? l (i : Int) = some x := by
 unfold at?
 rw [if_pos (by omega)]
 simpa using h
theorem qvu {n : Int} (h : n ≤ 2147483648) : fit n = some () := by unfold fit; rw [if_pos h]
end Ev

namespace Ev
open Go
theorem law_contractB {H : Type} {enc : TypeId × Value → H} {C : Cx} {W : World} {base : Nat} {laid : List (String × DataW Unit)} (hS : qmb C laid) {f : FuncId} {fn : Func} {s : ChangeSpec} (Ts : List Ty) (tb : TypeId) (hts : qrf C fn.params.toList Ts = true)
  (hps : (fn.params.toList.all fun t => decide (t < C.P.types.size)) = true) (hres : fn.resultTypes = #[tb]) (htb : C.P.underlying tb = some .bool) (hvars : s.vars = [])
  (hspec : ∀ ds : List (DataW H), ds.length = Ts.length → s.fn H ds = { results := [.lit (.bool true)], args := ds }) {args : Array Value} {ds gs : List (DataW H)} {before : List MemPlace}
  (hval : ∀ (j : Nat) t v, fn.params[j]? = some t → args[j]? = some v → Value.okWide C.P W .any base t v) (hW : DataW.Whole enc C.P fn.params.toList s.vars false W args.toList ds gs before) (hL : laidMetH C.P laid W)
  (hlaw : ∀ x : denA Ts, goodA Ts x → datA Ts (ds ++ gs) = some x → qo3 C ⟨f, ⟨Ts.map Sh.d, []⟩, ⟨[Sh.d .bool], []⟩, []⟩ x (true, ())) :
  Calls C.P f args W fun e W' => ∃ v, e = .returned v ∧ s.post enc C.P fn false true false false W args v W' :=
 qib hS Ts tb hts (fun t ht => by simpa using List.all_eq_true.1 hps t ht) hres htb hvars hspec hval hW hL hlaw
end Ev

namespace Ev
open Go
theorem qb5 : ∀ s : List Int, strLt s s = false
 | [] => rfl
 | a :: s => by simp [strLt, qb5 s]
theorem q8i : ∀ s t u : List Int, strLt s t = true → strLt t u = true → strLt s u = true
 | [], [], _, h, _ => by cases h
 | _ :: _, [], _, h, _ => by cases h
 | _, _ :: _, [], _, h => by cases h
 | [], _ :: _, _ :: _, _, _ => rfl
 | a :: s, b :: t, c :: u, h1, h2 => by
  simp only [strLt, Bool.or_eq_true, Bool.and_eq_true, decide_eq_true_eq] at h1 h2 ⊢
  rcases h1 with h1 | ⟨h1, h3⟩ <;> rcases h2 with h2 | ⟨h2, h4⟩
  ·exact .inl (by omega)
  ·exact .inl (by omega)
  ·exact .inl (by omega)
  ·exact .inr ⟨by omega, q8i s t u h3 h4⟩
theorem q8j : ∀ s t : List Int, strLt s t = false → strLt t s = false → s = t
 | [], [], _, _ => rfl
 | [], _ :: _, h, _ => by cases h
 | _ :: _, [], _, h => by cases h
 | a :: s, b :: t, h1, h2 => by
  simp only [strLt, Bool.or_eq_false_iff, Bool.and_eq_false_iff, decide_eq_false_iff_not] at h1 h2
  obtain ⟨h1, h3⟩ := h1
  obtain ⟨h2, h4⟩ := h2
  have e : a = b := by omega
  subst e
  rw [q8j s t (h3.resolve_left fun h => h rfl) (h4.resolve_left fun h => h rfl)]
end Ev

namespace Ev
def qae (l : List Int) : Bool := l.all (fun b => decide (0 ≤ b ∧ b ≤ 255)) && decide (l.length ≤ 9223372036854775807)
theorem qrj {l : List Int} (h : qae l = true) : (∀ b, b ∈ l → 0 ≤ b ∧ b ≤ 255) ∧ l.length ≤ 9223372036854775807 := by
 unfold qae at h
 simp only [Bool.and_eq_true, decide_eq_true_eq, List.all_eq_true] at h
 exact h
end Ev

namespace Ev
open Go
def noO : Nat → Obj := fun _ => .none
def ixB (c : Int) : List Int → Int
 | [] => -1
 | b :: r => if b = c then 0 else if ixB c r < 0 then -1 else ixB c r + 1
theorem qrk (c : Int) : ∀ l, -1 ≤ ixB c l ∧ ixB c l ≤ l.length
 | [] => ⟨Int.le_refl _, (by show (-1 : Int) ≤ 0; decide)⟩
 | b :: r => by
  have := qrk c r
  unfold ixB
  rw [List.length_cons]
  split
  ·omega
  ·split <;> omega
theorem qic (c : UInt8) : ∀ l : List UInt8, Lib.indexByte l c = ixB (c.toNat : Int) (l.map fun b => (b.toNat : Int))
 | [] => rfl
 | b :: r => by
  have ih := qic c r
  have hg := qrk (c.toNat : Int) (r.map fun b => (b.toNat : Int))
  rw [List.map_cons]
  unfold Lib.indexByte ixB
  rw [ih]
  by_cases h : b = c
  ·subst h; simp
  ·have h1 : (b == c) = false := by simpa using h
   have h2 : ¬ (b.toNat : Int) = (c.toNat : Int) := fun e => h (UInt8.toNat_inj.1 (by omega))
   rw [h1, if_neg h2]
   simp only [Bool.false_eq_true, if_false, beq_iff_eq]
   by_cases h3 : ixB (c.toNat : Int) (r.map fun b => (b.toNat : Int)) = -1
   ·rw [if_pos h3, if_pos (by omega)]
   ·rw [if_neg h3, if_neg (by omega)]
def qzv (f : Nat) : Sig := ⟨f, ⟨[.d .str, .d (.int .u8)], []⟩, ⟨[.d (.int .i64)], []⟩, []⟩
theorem qyv {C : Cx} {f : Nat} (hfn : ∃ fn, C.P.funcs[f]? = some fn ∧ fn.body.isNone = false)
  (h0 : ∀ (s : ByteArray) (c : Int) w, Calls C.P f #[.string s, .int .u8 c] w fun e w' => e = .returned (.int .i64 (Lib.indexByte s.data.toList c.toNat.toUInt8)) ∧ w' = w)
  (l : List Int) (c : Int) : qo3 C (qzv f) (l, c, ()) (ixB c l, ()) := by
 intro X φ w zs hm hz
 have hm : MRel C X φ noO w := hm
 have hz : q0f φ noO (immB X φ noO w) w [.d .str l, .d (.int .u8) c] zs := hz
 refine ⟨hfn, ?_⟩
 obtain ⟨z0, r0, rfl, g1, z1, r1, rfl, g2, g3⟩ := hz
 have g3 : r1 = [] := g3
 subst g3
 obtain ⟨s, rfl, hs, hl⟩ := q2n g1
 obtain ⟨rfl, hc⟩ := q25 g2
 refine Calls.mono (h0 s c w) fun e w' ⟨e1, e2⟩ => ?_
 subst e1 e2
 have hc0 : 0 ≤ c ∧ c ≤ 255 := hc
 have ec : ((c.toNat.toUInt8).toNat : Int) = c := by
  have : (c.toNat.toUInt8).toNat = c.toNat % 256 := rfl
  rw [this]; omega
 have hv : Lib.indexByte s.data.toList c.toNat.toUInt8 = ixB c l := by rw [qic, ec, hs]
 have hg := qrk c l
 have hlen : l.length = s.size := by rw [← hs]; simp
 unfold maxL at hl
 rw [hv]
 refine ⟨[.int .i64 (ixB c l)], φ, X, rfl, fun _ h => h, hm, ⟨_, [], rfl, q26 ?_, rfl⟩, Hist.refl _ _ _ _⟩
 show (-9223372036854775808 : Int) ≤ _ ∧ _ ≤ (9223372036854775807 : Int)
 omega
end Ev

namespace Ev
open Go
theorem mkC {C : Cx} {k : Nat} {O : q1e C.sigs} (b : Lf → q1e C.sigs → denP (q0a C.sigs k).ins.tys → Option (denP (q0a C.sigs k).outs.tys)) {f : denP (q0a C.sigs k).ins.tys → Option (denP (q0a C.sigs k).outs.tys)}
  (hO : qri C O) (e : ∀ L R x, qh0 L C R k x = b L R x) (o : ∀ x, b lf O x = f x) : CallsAs C k f := fun x y h => Call.mk (C := C) O hO k x y (((e lf O x).trans (o x)).trans h)
theorem mkG {C : Cx} {k : Nat} (b : Lf → q1e C.sigs → denP (q0a C.sigs k).ins.tys → Option (denP (q0a C.sigs k).outs.tys)) {F : (denP (q0a C.sigs k).ins.tys → Option (denP (q0a C.sigs k).outs.tys)) → denP (q0a C.sigs k).ins.tys → Option (denP (q0a C.sigs k).outs.tys)}
  {O : (denP (q0a C.sigs k).ins.tys → Option (denP (q0a C.sigs k).outs.tys)) → q1e C.sigs} (hO : ∀ g, CallsAs C k g → qri C (O g)) (e : ∀ L R x, qh0 L C R k x = b L R x) (o : ∀ g x, b lf (O g) x = F g x) : CallsAs C k (recR F) :=
 qxg fun g hg x y h => Call.mk (C := C) (O g) (hO g hg) k x y (((e lf (O g) x).trans (o g x)).trans h)
end Ev

