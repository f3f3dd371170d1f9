/- slices.SortFunc's call.
   A part of a verified evaluator of the model: no statement of its own about the program. -/
import Derived.Test.YtkfbakajbeifgaaDoorEvI
import Derived.Shelf.SlSortCmp.NoneTotal
namespace Ev
open Go Go.Shelf Go.RowKit Go.Proofs Go.Sort

/-! slices.SortFunc over an own row of structs: by the library's contract. -/
theorem flatten_get {α : Type} {enc : α → List Value} {k : Nat} (hk : ∀ x, (enc x).length = k) : ∀ (l : List α) (i : Nat) (hi : i < l.length) (j : Nat), j < k → (l.map enc).flatten[i * k + j]? = (enc l[i])[j]?
  | x :: r, 0, _, j, hj => by
    simp only [List.map_cons, List.flatten_cons, Nat.zero_mul, Nat.zero_add, List.getElem_cons_zero]
    rw [List.getElem?_append_left (by rw [hk]; exact hj)]
  | x :: r, i + 1, hi, j, hj => by
    simp only [List.map_cons, List.flatten_cons, List.getElem_cons_succ]
    rw [List.getElem?_append_right (by rw [hk, Nat.add_mul, Nat.one_mul]; omega), hk]
    have : (i + 1) * k + j - k = i * k + j := by rw [Nat.add_mul, Nat.one_mul]; omega
    rw [this]
    exact flatten_get hk r i (by simpa using hi) j hj

theorem flatten_len {α : Type} {enc : α → List Value} {k : Nat} (hk : ∀ x, (enc x).length = k) : ∀ l : List α, (l.map enc).flatten.length = l.length * k
  | [] => by simp
  | x :: r => by simp only [List.map_cons, List.flatten_cons, List.length_append, hk, flatten_len hk r, List.length_cons, Nat.add_mul, Nat.one_mul]; omega

theorem relR_enc {α β : Type} {enc : α → List Value} {dat : α → β} {R : β → List Value → Prop} (hrel : ∀ x cs, R (dat x) cs ↔ cs = enc x) : ∀ (l : List α) (ec : List Value), relR R (l.map dat) ec ↔ ec = (l.map enc).flatten
  | [], ec => Iff.rfl
  | x :: r, ec => by
    simp only [List.map_cons, List.flatten_cons]
    constructor
    · rintro ⟨c, d, e, h1, h2⟩
      rw [e, (hrel x c).1 h1, (relR_enc hrel r d).1 h2]
    · intro e
      exact ⟨_, _, e, (hrel x _).2 rfl, (relR_enc hrel r _).2 rfl⟩

theorem flatK_get {α : Type} [Inhabited α] {enc : α → List Value} {k : Nat} (hk : ∀ x, (enc x).length = k) (l : List α) (t : Nat) (ht : t < l.length * k) : (l.map enc).flatten[t]? = some (flatK enc k l.toArray)[t]! := by
  have hk0 : 0 < k := by
    rcases Nat.eq_zero_or_pos k with h | h
    · rw [h, Nat.mul_zero] at ht; exact absurd ht (Nat.not_lt_zero _)
    · exact h
  have hi : t / k < l.length := (Nat.div_lt_iff_lt_mul hk0).2 ht
  have hm : t % k < k := Nat.mod_lt _ hk0
  have e : t / k * k + t % k = t := Nat.div_add_mod' t k
  rw [get_flatK enc k l.toArray t (by simpa using ht)]
  have h := flatten_get hk l (t / k) hi (t % k) hm
  rw [e] at h
  rw [h]
  have e1 : (l.toArray)[t / k]! = l[t / k] := by simp [hi]
  rw [e1]
  have hlt : t % k < (enc l[t / k]).length := by rw [hk]; exact hm
  rw [List.getElem?_eq_getElem hlt]
  congr 1
  simp [hlt]

/-- A world of the sort's. -/
theorem sortWorld_heap {α : Type} [Inhabited α] {enc : α → List Value} {k : Nat} {w : World} {blk off n : Nat} {d : Array α} {os : Array Go.Obj} (hb : blk < w.heap.size) :
    w.heap.size ≤ (sortWorldK enc k w blk off n d os).heap.size ∧ (∀ b, b < w.heap.size → b ≠ blk → (sortWorldK enc k w blk off n d os).heap[b]? = w.heap[b]?) ∧
    (∀ c el fz, w.heap[blk]? = some (.cells c el fz) → (sortWorldK enc k w blk off n d os).heap[blk]? = some (.cells (putCells id off (flatK enc k d) c) el fz)) := by
  have hsz : (putRowK enc k (Sort.ahead w n) blk off d).heap.size = w.heap.size := Go.Proofs.size_putRow _ _ _ _ _
  have hlow : ∀ b, b < w.heap.size → (sortWorldK enc k w blk off n d os).heap[b]? = (putRowK enc k (Sort.ahead w n) blk off d).heap[b]? := by
    intro b hb
    show ((putRowK enc k (Sort.ahead w n) blk off d).heap ++ os)[b]? = _
    rw [Array.getElem?_append_left (by rw [hsz]; exact hb)]
  refine ⟨?_, fun b hb hne => ?_, fun c el fz h => ?_⟩
  · show w.heap.size ≤ ((putRowK enc k (Sort.ahead w n) blk off d).heap ++ os).size
    rw [Array.size_append, hsz]; exact Nat.le_add_right _ _
  · rw [hlow b hb]
    show (w.heap.modify blk _)[b]? = _
    rw [Array.getElem?_modify, if_neg (Ne.symm hne)]
  · rw [hlow blk hb]
    show (w.heap.modify blk _)[blk]? = _
    rw [Array.getElem?_modify, if_pos rfl, h]
    rfl

def sortSig (f g : Nat) (t : Ty) : Sig := ⟨f, ⟨[.osl 0, .fn g []], [.vec t]⟩, ⟨[], [.vec t]⟩, [0]⟩
def rowO {t : Ty} (s : Sl (den t)) : Nat → Obj := upds (fun _ => Obj.none) [(0, .vec t 0 false s)]
theorem rowO_0 {t : Ty} {s : Sl (den t)} : rowO s 0 = .vec t 0 false s := rfl
theorem rowO_ne {t : Ty} {s : Sl (den t)} {id : Nat} (h : id ≠ 0) : rowO s id = .none := by
  show upd (fun _ => Obj.none) 0 _ id = _
  rw [upd_other h]
theorem rowO_upd {t : Ty} {s s' : Sl (den t)} : upds (rowO s) [(0, .vec t 0 false s')] = rowO s' := by
  funext id
  show upd (rowO s) 0 _ id = _
  by_cases h : id = 0
  · subst h; rw [upd_same]; rfl
  · rw [upd_other h, rowO_ne h, rowO_ne h]

theorem sort_okS {C : Cx} {f g : Nat} {t : Ty} {α : Type} [Inhabited α] (enc : α → List Value) (dat : α → den t) (srt : List α → List α) (ht : t ≠ .int .u8)
    (hrel : ∀ imm w x cs, relC imm w t (dat x) cs ↔ cs = enc x) (hk : ∀ x, (enc x).length = csz t) (hlen : ∀ l, (srt l).length = l.length)
    (hfn : ∃ fn, C.P.funcs[f]? = some fn ∧ fn.body.isNone = false)
    (h0 : ∀ p cap fv w, Calls C.P f #[.slice p 0 cap, fv] w fun e w' => e = .returned (.tuple #[]) ∧ w' = w)
    (hs : ∀ blk off cap (d : Array α) w, HoldsK enc (csz t) w blk off d → blk < w.heap.size → d.size < 4611686018427387904 →
      Calls C.P f #[.slice (some ⟨blk, off, none⟩) d.size cap, .func (.func g) #[] #[]] w fun e w' => e = .returned (.tuple #[]) ∧ ∃ n os, w' = sortWorldK enc (csz t) w blk off n (srt d.toList).toArray os)
    (nil : Bool) (l : List α) (hl : l.length < 4611686018427387904) : FnOkS C (sortSig f g t) (⟨nil, l.map dat⟩, ()) (⟨nil, (srt l).map dat⟩, ()) := by
  intro X φ w zs hm hz
  have hm : MRel C X φ (rowO ⟨nil, l.map dat⟩) w := hm
  have hz : relVs φ (rowO ⟨nil, l.map dat⟩) (immB X φ (rowO ⟨nil, l.map dat⟩) w) w [.osl 0 0, .fn g []] zs := hz
  refine ⟨hfn, ?_⟩
  obtain ⟨z0, r0, rfl, g1, z1, r1, rfl, g2, g3⟩ := hz
  have g3 : r1 = [] := g3
  subst g3
  obtain ⟨cb, rfl, g4⟩ := g2
  have g4 : cb.toList = [] := g4
  have hcb : cb = #[] := Array.toList_inj.1 g4
  subst hcb
  have ho := hm.objs 0
  rw [rowO_0] at ho
  obtain ⟨k1, k2, k3⟩ := ho
  unfold relVal at g1
  rw [rowO_0] at g1
  have g1 := g1.2 rfl
  show Calls C.P f [z0, .func (.func g) #[] #[]].toArray w _
  by_cases hl0 : l = []
  · subst hl0
    have hsrt : srt [] = [] := List.length_eq_zero_iff.1 (by rw [hlen]; rfl)
    have hz0 : ∃ p cap, z0 = .slice p 0 cap := by
      rcases g1 with ⟨_, e⟩ | ⟨_, cap, e, _⟩
      · exact ⟨_, _, e⟩
      · exact ⟨_, _, e⟩
    obtain ⟨p, cap, rfl⟩ := hz0
    refine Calls.mono (h0 p cap (.func (.func g) #[] #[]) w) fun e w' ⟨e1, e2⟩ => ?_
    subst e1 e2
    rw [hsrt]
    exact ⟨[], φ, X, rfl, fun _ h => h, hm, rfl, Hist.refl _ _ _ _⟩
  · have hne : l.map dat ≠ [] := fun e => hl0 (List.map_eq_nil_iff.1 e)
    have hn : nil = false := by
      cases nil with
      | false => rfl
      | true => exact absurd (k2 rfl) hne
    subst hn
    obtain ⟨m1, ec, m2, m3, m4, m5, _⟩ := (k3 rfl).resolve_right fun g => hne g.2.1
    have hec : ec = (l.map enc).flatten := (relR_enc (fun x cs => hrel _ _ x cs) l ec).1 m2
    obtain ⟨cap, hz0, hcap⟩ : ∃ cap, z0 = .slice (some (φ 0)) l.length cap ∧ l.length ≤ cap := by
      rcases g1 with ⟨e, _⟩ | ⟨_, cap, e, h1, h2, h3⟩
      · cases e
      · rw [bare_of m1, List.length_map] at e
        rw [List.length_map] at h1
        exact ⟨cap, e, h1⟩
    subst hz0
    obtain ⟨c, el, lo, hi, r1, r2, r3⟩ := m5 rfl
    have hex : excl (φ 0) (rowO (t := t) ⟨false, l.map dat⟩ 0) = true := by rw [rowO_0]; exact excl_vec rfl m1
    obtain ⟨hb, hbX⟩ := hm.sep 0 hex
    have hlm : (l.map dat).length = l.length := List.length_map ..
    have r2 : (φ 0).off + l.length * csz t ≤ c.size := by rw [← hlm]; exact r2
    have r3 : hi ≤ lo ∨ hi ≤ (φ 0).off ∨ (φ 0).off + l.length * csz t ≤ lo := by rw [← hlm]; exact r3
    have eφ : (⟨(φ 0).block, (φ 0).off, none⟩ : Addr) = φ 0 := bare_of m1
    have hH : HoldsK enc (csz t) w (φ 0).block (φ 0).off l.toArray := by
      intro j hj
      rw [size_flatK] at hj
      have hj : j < l.length * csz t := by simpa using hj
      have hj' : j < ec.length := by rw [hec, flatten_len hk]; exact hj
      refine ⟨?_, ?_⟩
      · rw [m3 j hj']
        have := flatK_get hk l j hj
        rw [← hec, List.getElem?_eq_getElem hj'] at this
        exact this
      · rw [World.frozen?, r1]
        simp only [Bool.and_eq_false_iff, decide_eq_false_iff_not]
        omega
    have hcall := hs (φ 0).block (φ 0).off cap l.toArray w hH hb (by simpa using hl)
    rw [eφ] at hcall
    have esz : l.toArray.size = l.length := List.size_toArray ..
    rw [esz] at hcall
    refine Calls.mono hcall fun e w' ⟨e1, n, os, e2⟩ => ?_
    subst e1
    have etl : l.toArray.toList = l := rfl
    rw [etl] at e2
    obtain ⟨q1, q2, q3⟩ := sortWorld_heap (enc := enc) (k := csz t) (off := (φ 0).off) (n := n) (d := (srt l).toArray) (os := os) hb
    rw [← e2] at q1 q2 q3
    have q3 := q3 c el (lo, hi) r1
    have hsl : (srt l).length = l.length := hlen l
    have hsz' : (putCells id (φ 0).off (flatK enc (csz t) (srt l).toArray) c).size = c.size := by simp [putCells]
    have hroom : ∀ m, room w (φ 0) m → room w' (φ 0) m := by
      intro m ⟨c', el', lo', hi', h1, h2, h3⟩
      rw [r1] at h1
      injection h1 with h1; injection h1 with h4 h5 h6
      injection h6 with h6 h7
      subst h4 h5 h6 h7
      exact ⟨_, _, lo, hi, q3, by rw [hsz']; exact h2, h3⟩
    have hst : Still w w' := by rw [e2]; exact ⟨rfl, rfl⟩
    have hc : Comes C X φ φ (rowO (t := t) ⟨false, l.map dat⟩) [(0, .vec t 0 false ⟨false, (srt l).map dat⟩)] w w' .undef undef := by
      have hid : upds (rowO (t := t) ⟨false, l.map dat⟩) [(0, .vec t 0 false ⟨false, (srt l).map dat⟩)] 0 = .vec t 0 false ⟨false, (srt l).map dat⟩ := by rw [rowO_upd]; rfl
      have hk1 : ∀ i, i ∈ keysU [((0 : Nat), Obj.vec t 0 false ⟨false, (srt l).map dat⟩)] → i = 0 := fun i hi => by simpa [keysU] using hi
      refine Comes.make hm q1 (fun b hb hh => q2 b hb fun e => hh ⟨0, by simp [keysU], hex, e.symm⟩) (fun _ _ => rfl) (fun _ _ _ => rfl) (fun i hik => ?_) (fun i hik h => ?_) (fun i j hik hjk _ _ _ _ => ?_) (fun h1 h2 h3 i hik => ?_) (fun i hik => ?_) (fun _ _ _ => rfl) hst
      · rw [hk1 i hik, hid, rowO_0]
        exact .inr ⟨rfl, rfl, rfl, by simp [hsl], rfl, fun _ => ⟨rfl, fun _ _ m => hroom m⟩⟩
      · rw [hk1 i hik]; exact .inr ⟨hex, rfl⟩
      · rw [hk1 i hik, hk1 j hjk]
      · rw [hk1 i hik, hid]
        refine ⟨(by rw [List.length_map, hsl, ← hlm]; exact k1), (fun h => by cases h), fun _ => .inl ⟨m1, _, (relR_enc (fun x cs => hrel _ _ x cs) (srt l) _).2 rfl, fun j hj => ?_, hroom 0 m4, fun _ => ?_, (fun h => by cases h)⟩⟩
        · rw [flatten_len hk, hsl] at hj
          have hget := flatK_get hk (srt l) j (by rw [hsl]; exact hj)
          rw [List.getElem?_eq_getElem (by rw [flatten_len hk, hsl]; exact hj)] at hget
          injection hget with hget
          rw [hget]
          rw [World.cell?]
          simp only
          rw [q3]
          simp only
          have hlt : (φ 0).off + j < c.size := by omega
          rw [if_neg (by decide)]
          show (putCells id (φ 0).off (flatK enc (csz t) (srt l).toArray) c)[(φ 0).off + j]? = _
          unfold putCells
          rw [Array.getElem?_mapIdx, Array.getElem?_eq_getElem hlt, Option.map_some]
          have hfs : (flatK enc (csz t) (srt l).toArray).size = l.length * csz t := by rw [size_flatK]; simp [hsl]
          rw [if_pos ⟨by omega, by rw [hfs]; omega⟩]
          have : (φ 0).off + j - (φ 0).off = j := by omega
          rw [this]; rfl
        · show room w' (φ 0) (((srt l).map dat).length * csz t)
          rw [List.length_map, hsl]
          exact hroom _ ⟨c, el, lo, hi, r1, r2, r3⟩
      · rw [hk1 i hik, hid]; exact fun h => absurd h ht
    have hm' := hc.mem
    have hh := (Hist.refl [0] φ (rowO (t := t) ⟨false, l.map dat⟩) w).step hc
    rw [rowO_upd] at hm' hh
    exact ⟨[], φ, X, rfl, fun _ h => h, hm', rfl, hh⟩
end Ev

