/- strings.Builder's calls, slices.SortFunc.
   A part of a verified evaluator of the model: no statement of its own about the program. -/
import Derived.Test.YtdekfefcpdejkaaGreatDoorEvI
import Derived.Shelf.Strings.Builder1
import Derived.Shelf.SlSortCmp.NoneTotal
namespace Ev
open Go

/-! strings.Builder's copyCheck, and what a builder holds as a string. -/
def bldSh : List OSh := [.box [.slf 0, .osl 1], .vec (.int .u8)]
def ckSig (f : Nat) : Sig := ⟨f, ⟨[.ptr 0 0], [.box [.slf 0, .osl 1], .vec (.int .u8)]⟩, ⟨[], [.box [.slf 0, .osl 1], .vec (.int .u8)]⟩, [0, 1]⟩

/-- A builder's objects. -/
def bldO (b : Bool) (s : Sl (den (.int .u8))) : Nat → Obj := upds (fun _ => Obj.none) [(0, .box [.slf 0 b, .osl 1 0]), (1, .vec (.int .u8) 0 false s)]

theorem bldO_0 {b : Bool} {s : Sl (den (.int .u8))} : bldO b s 0 = .box [.slf 0 b, .osl 1 0] := rfl
theorem bldO_1 {b : Bool} {s : Sl (den (.int .u8))} : bldO b s 1 = .vec (.int .u8) 0 false s := rfl

theorem bldO_used {b : Bool} {s : Sl (den (.int .u8))} : upds (bldO b s) [(0, .box [.slf 0 true, .osl 1 0])] = bldO true s := by
  funext id
  show upd (bldO b s) 0 _ id = _
  by_cases h : id = 0
  · subst h; rw [upd_same]; rfl
  · rw [upd_other h]
    show upd (upd _ 0 _) 1 _ id = upd (upd _ 0 _) 1 _ id
    by_cases h1 : id = 1
    · subst h1; rw [upd_same, upd_same]
    · rw [upd_other h1, upd_other h1, upd_other h, upd_other h]

theorem bld_at {C : Cx} {X : Nat → Prop} {φ : Nat → Addr} {w : World} {b : Bool} {s : Sl (den (.int .u8))} (hm : MRel C X φ (bldO b s) w) :
    (φ 0).off = 0 ∧ ∃ c z lo hi, w.heap[(φ 0).block]? = some (.cells c C.bld (lo, hi)) ∧ hi ≤ lo ∧ c = #[.pointer (bif b then some ⟨(φ 0).block, 0, none⟩ else none), z] ∧
      relVal φ (bldO b s) (immB X φ (bldO b s) w) w (.osl 1 0) z := by
  have ho := hm.objs 0
  have he := hm.els 0
  rw [bldO_0] at ho he
  obtain ⟨h0, c, el, lo, hi, h1, h2, z0, r, e1, h3, z1, r1, e2, h4, h5⟩ := ho
  obtain ⟨c', fz, h6⟩ := he rfl
  rw [h6] at h1
  injection h1 with h1; injection h1 with g1 g2 g3
  have h5 : r1 = [] := h5
  have h3 : z0 = .pointer (bif b then some ⟨(φ 0).block, (φ 0).off, none⟩ else none) := h3
  subst h5 e2
  refine ⟨h0, c, z1, lo, hi, by rw [h6, g1, ← g3], h2, ?_, h4⟩
  rw [h0] at h3
  rw [← h3]
  exact Array.toList_inj.1 e1

theorem ck_okS {C : Cx} {f : Nat} (hfn : ∃ fn, C.P.funcs[f]? = some fn ∧ fn.body.isNone = false)
    (hu : ∀ (b : Nat) (w : World), w.cell? ⟨b, 0, none⟩ = some (.pointer (some ⟨b, 0, none⟩)) → Calls C.P f #[.pointer (some ⟨b, 0, none⟩)] w fun e w' => e = .returned (.tuple #[]) ∧ w' = w)
    (hf : ∀ (b : Nat) (w : World), w.cell? ⟨b, 0, none⟩ = some (.pointer none) → w.shape? b = some (C.bld, 2) → w.frozen? ⟨b, 0, none⟩ = false →
      Calls C.P f #[.pointer (some ⟨b, 0, none⟩)] w fun e w' => e = .returned (.tuple #[]) ∧ w' = w.setCell ⟨b, 0, none⟩ (.pointer (some ⟨b, 0, none⟩)))
    (b : Bool) (s : Sl (den (.int .u8))) : FnOkS C (ckSig f) (b, s, ()) (true, s, ()) := by
  intro X φ w zs hm hz
  have hm : MRel C X φ (bldO b s) w := hm
  have hz : relVs φ (bldO b s) (immB X φ (bldO b s) w) w [.ptr 0 0] zs := hz
  refine ⟨hfn, ?_⟩
  obtain ⟨h0, c, z, lo, hi, h1, h2, rfl, h3⟩ := bld_at hm
  obtain ⟨z0, r, rfl, g1, g2⟩ := hz
  have g2 : r = [] := g2
  have g1 : z0 = .pointer (some ⟨(φ 0).block, (φ 0).off + 0, none⟩) := g1
  rw [h0] at g1
  subst g1 g2
  cases b with
  | true =>
    refine Calls.mono (hu (φ 0).block w (by rw [World.cell?, h1]; rfl)) fun e w' ⟨e1, e2⟩ => ?_
    subst e1 e2
    exact ⟨[], φ, X, rfl, fun _ h => h, hm, rfl, Hist.refl _ _ _ _⟩
  | false =>
    refine Calls.mono (hf (φ 0).block w (by rw [World.cell?, h1]; rfl) (by rw [World.shape?, h1]; rfl) ?_) fun e w' ⟨e1, e2⟩ => ?_
    · rw [World.frozen?, h1]
      simp only [Bool.and_eq_false_iff, decide_eq_false_iff_not]
      omega
    · subst e1
      have hblk : w'.heap[(φ 0).block]? = some (.cells #[.pointer (some ⟨(φ 0).block, 0, none⟩), z] C.bld (lo, hi)) := by
        rw [e2]
        simp [World.setCell, Array.getElem?_modify, h1]
      have hoth : ∀ b, b ≠ (φ 0).block → w'.heap[b]? = w.heap[b]? := fun b hb => by
        rw [e2]
        simp [World.setCell, Array.getElem?_modify, Ne.symm hb]
      have hex : excl (φ 0) (bldO false s 0) = true := rfl
      have hc : Comes C X φ φ (bldO false s) [(0, .box [.slf 0 true, .osl 1 0])] w w' .undef undef := by
        refine Comes.write hm (.box [.slf 0 true, .osl 1 0]) (fun _ => hex) (by rw [e2]; simp [World.setCell]) (fun b hb => hoth b fun e => hb ⟨hex, e.symm⟩) rfl (fun a1 a2 a3 => ?_) (fun _ => ⟨_, _, hblk⟩) (fun _ => rfl) ⟨by rw [e2]; rfl, by rw [e2]; rfl⟩
        refine ⟨h0, _, C.bld, lo, hi, hblk, h2, _, _, rfl, ?_, z, [], rfl, a3 _ _ h3, rfl⟩
        show Value.pointer (some ⟨(φ 0).block, 0, none⟩) = .pointer (some ⟨(φ 0).block, (φ 0).off, none⟩)
        rw [h0]
      have hm' := hc.mem
      have hh := (Hist.refl [0, 1] φ (bldO false s) w).step hc
      rw [bldO_used] at hm' hh
      exact ⟨[], φ, X, rfl, fun _ h => h, hm', rfl, hh⟩
end Ev


namespace Ev
open Go Go.Shelf Go.RowKit Go.Proofs

theorem lies_u8 {P : Program} {e u : TypeId} (he : P.underlying e = some (.int .u8)) (hu : P.underlying u = some (.int .u8)) (hc : P.cellsOf e = 1) (count off n : Nat) (hn : off + n ≤ count) : liesAt P P.depth e count off u n = true := by
  have hd : P.depth = (2 * (P.types.size + Made.depth) + 1) + 1 := rfl
  rw [hd]
  simp only [liesAt, Bool.or_eq_true]
  left
  rw [hd]
  simp [rowAt, hc, sameLayout, he, hu]
  omega

theorem run_unsafeString_at {P : Program} {w : World} (pt it ty u e : TypeId) (hp : P.underlying pt = some (.pointer u)) (hu : P.underlying u = some (.int .u8)) (he : P.underlying e = some (.int .u8)) (hc : P.cellsOf e = 1) (a : Addr) (cells : Nat) (hsh : w.shape? a.block = some (e, cells)) (l : List UInt8) (h0 : l ≠ []) (hn : a.off + l.length ≤ cells) (hl63 : (l.length : Int) ≤ 9223372036854775807)
    (hcell : ∀ j x, l[j]? = some x → w.cell? (a.add j) = some (.int .u8 x.toNat)) :
    (Builtin.unsafeString_ #[pt, it] ty #[.pointer (some a), .int .i64 l.length]).run P w = .ok (.string ⟨l.toArray⟩) (w.freeze a l.length) := by
  have hl : l.length ≠ 0 := by simpa using h0
  have hlb := Lib.run_loadBytes (P := P) w l a .empty hcell
  have hlies := lies_u8 (P := P) he hu hc (cells / P.cellsOf e) a.off l.length (by rw [hc]; simpa using hn)
  have h63' : ¬ (9223372036854775807 : Int) < (l.length : Int) := by omega
  obtain ⟨sS1, sS2, sS3, hdef⟩ : ∃ sS1 sS2 sS3 : String, Builtin.unsafeString_ #[pt, it] ty #[.pointer (some a), .int .i64 l.length] =
      (do
        let n ← Go.asInt (Value.int .i64 l.length)
        if n < 0 then runtimePanic (.error sS1)
        if n > IntKind.i64.max then unsupported (.unsafePointer sS2)
        if n = 0 then pure (.string .empty)
        else if ← variablesAt a (← elemOf pt) n.toNat then do
          let s ← loadBytes a .empty n.toNat
          freeze a n.toNat
          pure (.string s)
        else unsupported (.unsafePointer sS3)) := ⟨_, _, _, rfl⟩
  rw [hdef]
  have hmax : IntKind.i64.max = 9223372036854775807 := rfl
  have hneg : ¬ (l.length : Int) < 0 := by omega
  simp [Go.asInt, asIntOf, hmax, h63', hneg, hl, variablesAt, hsh, elemOf, run_underlying hp, hlies, hlb]
end Ev


namespace Ev
open Go Go.Shelf Go.RowKit Go.Proofs Go.Sort

/-! slices.SortFunc over an own row of structs: by the library's contract. -/
theorem flatten_get {α : Type} {enc : α → List Value} {k : Nat} (hk : ∀ x, (enc x).length = k) : ∀ (l : List α) (i : Nat) (hi : i < l.length) (j : Nat), j < k → (l.map enc).flatten[i * k + j]? = (enc l[i])[j]?
  | x :: r, 0, _, j, hj => by
    simp only [List.map_cons, List.flatten_cons, Nat.zero_mul, Nat.zero_add, List.getElem_cons_zero]
    rw [List.getElem?_append_left (by rw [hk]; exact hj)]
  | x :: r, i + 1, hi, j, hj => by
    simp only [List.map_cons, List.flatten_cons, List.getElem_cons_succ]
    rw [List.getElem?_append_right (by rw [hk, Nat.add_mul, Nat.one_mul]; omega), hk]
    have : (i + 1) * k + j - k = i * k + j := by rw [Nat.add_mul, Nat.one_mul]; omega
    rw [this]
    exact flatten_get hk r i (by simpa using hi) j hj

theorem flatten_len {α : Type} {enc : α → List Value} {k : Nat} (hk : ∀ x, (enc x).length = k) : ∀ l : List α, (l.map enc).flatten.length = l.length * k
  | [] => by simp
  | x :: r => by simp only [List.map_cons, List.flatten_cons, List.length_append, hk, flatten_len hk r, List.length_cons, Nat.add_mul, Nat.one_mul]; omega

theorem relR_enc {α β : Type} {enc : α → List Value} {dat : α → β} {R : β → List Value → Prop} (hrel : ∀ x cs, R (dat x) cs ↔ cs = enc x) : ∀ (l : List α) (ec : List Value), relR R (l.map dat) ec ↔ ec = (l.map enc).flatten
  | [], ec => Iff.rfl
  | x :: r, ec => by
    simp only [List.map_cons, List.flatten_cons]
    constructor
    · rintro ⟨c, d, e, h1, h2⟩
      rw [e, (hrel x c).1 h1, (relR_enc hrel r d).1 h2]
    · intro e
      exact ⟨_, _, e, (hrel x _).2 rfl, (relR_enc hrel r _).2 rfl⟩

theorem flatK_get {α : Type} [Inhabited α] {enc : α → List Value} {k : Nat} (hk : ∀ x, (enc x).length = k) (l : List α) (t : Nat) (ht : t < l.length * k) : (l.map enc).flatten[t]? = some (flatK enc k l.toArray)[t]! := by
  have hk0 : 0 < k := by
    rcases Nat.eq_zero_or_pos k with h | h
    · rw [h, Nat.mul_zero] at ht; exact absurd ht (Nat.not_lt_zero _)
    · exact h
  have hi : t / k < l.length := (Nat.div_lt_iff_lt_mul hk0).2 ht
  have hm : t % k < k := Nat.mod_lt _ hk0
  have e : t / k * k + t % k = t := Nat.div_add_mod' t k
  rw [get_flatK enc k l.toArray t (by simpa using ht)]
  have h := flatten_get hk l (t / k) hi (t % k) hm
  rw [e] at h
  rw [h]
  have e1 : (l.toArray)[t / k]! = l[t / k] := by simp [hi]
  rw [e1]
  have hlt : t % k < (enc l[t / k]).length := by rw [hk]; exact hm
  rw [List.getElem?_eq_getElem hlt]
  congr 1
  simp [hlt]

/-- A world of the sort's. -/
theorem sortWorld_heap {α : Type} [Inhabited α] {enc : α → List Value} {k : Nat} {w : World} {blk off n : Nat} {d : Array α} {os : Array Go.Obj} (hb : blk < w.heap.size) :
    w.heap.size ≤ (sortWorldK enc k w blk off n d os).heap.size ∧ (∀ b, b < w.heap.size → b ≠ blk → (sortWorldK enc k w blk off n d os).heap[b]? = w.heap[b]?) ∧
    (∀ c el fz, w.heap[blk]? = some (.cells c el fz) → (sortWorldK enc k w blk off n d os).heap[blk]? = some (.cells (putCells id off (flatK enc k d) c) el fz)) := by
  have hsz : (putRowK enc k (Sort.ahead w n) blk off d).heap.size = w.heap.size := Go.Proofs.size_putRow _ _ _ _ _
  have hlow : ∀ b, b < w.heap.size → (sortWorldK enc k w blk off n d os).heap[b]? = (putRowK enc k (Sort.ahead w n) blk off d).heap[b]? := by
    intro b hb
    show ((putRowK enc k (Sort.ahead w n) blk off d).heap ++ os)[b]? = _
    rw [Array.getElem?_append_left (by rw [hsz]; exact hb)]
  refine ⟨?_, fun b hb hne => ?_, fun c el fz h => ?_⟩
  · show w.heap.size ≤ ((putRowK enc k (Sort.ahead w n) blk off d).heap ++ os).size
    rw [Array.size_append, hsz]; exact Nat.le_add_right _ _
  · rw [hlow b hb]
    show (w.heap.modify blk _)[b]? = _
    rw [Array.getElem?_modify, if_neg (Ne.symm hne)]
  · rw [hlow blk hb]
    show (w.heap.modify blk _)[blk]? = _
    rw [Array.getElem?_modify, if_pos rfl, h]
    rfl

def sortSig (f g : Nat) (t : Ty) : Sig := ⟨f, ⟨[.osl 0, .fn g []], [.vec t]⟩, ⟨[], [.vec t]⟩, [0]⟩
def rowO {t : Ty} (s : Sl (den t)) : Nat → Obj := upds (fun _ => Obj.none) [(0, .vec t 0 false s)]
theorem rowO_0 {t : Ty} {s : Sl (den t)} : rowO s 0 = .vec t 0 false s := rfl
theorem rowO_ne {t : Ty} {s : Sl (den t)} {id : Nat} (h : id ≠ 0) : rowO s id = .none := by
  show upd (fun _ => Obj.none) 0 _ id = _
  rw [upd_other h]
theorem rowO_upd {t : Ty} {s s' : Sl (den t)} : upds (rowO s) [(0, .vec t 0 false s')] = rowO s' := by
  funext id
  show upd (rowO s) 0 _ id = _
  by_cases h : id = 0
  · subst h; rw [upd_same]; rfl
  · rw [upd_other h, rowO_ne h, rowO_ne h]

theorem sort_okS {C : Cx} {f g : Nat} {t : Ty} {α : Type} [Inhabited α] (enc : α → List Value) (dat : α → den t) (srt : List α → List α) (ht : t ≠ .int .u8)
    (hrel : ∀ imm w x cs, relC imm w t (dat x) cs ↔ cs = enc x) (hk : ∀ x, (enc x).length = csz t) (hlen : ∀ l, (srt l).length = l.length)
    (hfn : ∃ fn, C.P.funcs[f]? = some fn ∧ fn.body.isNone = false)
    (h0 : ∀ p cap fv w, Calls C.P f #[.slice p 0 cap, fv] w fun e w' => e = .returned (.tuple #[]) ∧ w' = w)
    (hs : ∀ blk off cap (d : Array α) w, HoldsK enc (csz t) w blk off d → blk < w.heap.size → d.size < 4611686018427387904 →
      Calls C.P f #[.slice (some ⟨blk, off, none⟩) d.size cap, .func (.func g) #[] #[]] w fun e w' => e = .returned (.tuple #[]) ∧ ∃ n os, w' = sortWorldK enc (csz t) w blk off n (srt d.toList).toArray os)
    (nil : Bool) (l : List α) (hl : l.length < 4611686018427387904) : FnOkS C (sortSig f g t) (⟨nil, l.map dat⟩, ()) (⟨nil, (srt l).map dat⟩, ()) := by
  intro X φ w zs hm hz
  have hm : MRel C X φ (rowO ⟨nil, l.map dat⟩) w := hm
  have hz : relVs φ (rowO ⟨nil, l.map dat⟩) (immB X φ (rowO ⟨nil, l.map dat⟩) w) w [.osl 0 0, .fn g []] zs := hz
  refine ⟨hfn, ?_⟩
  obtain ⟨z0, r0, rfl, g1, z1, r1, rfl, g2, g3⟩ := hz
  have g3 : r1 = [] := g3
  subst g3
  obtain ⟨cb, rfl, g4⟩ := g2
  have g4 : cb.toList = [] := g4
  have hcb : cb = #[] := Array.toList_inj.1 g4
  subst hcb
  have ho := hm.objs 0
  rw [rowO_0] at ho
  obtain ⟨k1, k2, k3⟩ := ho
  unfold relVal at g1
  rw [rowO_0] at g1
  have g1 := g1.2 rfl
  show Calls C.P f [z0, .func (.func g) #[] #[]].toArray w _
  by_cases hl0 : l = []
  · subst hl0
    have hsrt : srt [] = [] := List.length_eq_zero_iff.1 (by rw [hlen]; rfl)
    have hz0 : ∃ p cap, z0 = .slice p 0 cap := by
      rcases g1 with ⟨_, e⟩ | ⟨_, cap, e, _⟩
      · exact ⟨_, _, e⟩
      · exact ⟨_, _, e⟩
    obtain ⟨p, cap, rfl⟩ := hz0
    refine Calls.mono (h0 p cap (.func (.func g) #[] #[]) w) fun e w' ⟨e1, e2⟩ => ?_
    subst e1 e2
    rw [hsrt]
    exact ⟨[], φ, X, rfl, fun _ h => h, hm, rfl, Hist.refl _ _ _ _⟩
  · have hne : l.map dat ≠ [] := fun e => hl0 (List.map_eq_nil_iff.1 e)
    have hn : nil = false := by
      cases nil with
      | false => rfl
      | true => exact absurd (k2 rfl) hne
    subst hn
    obtain ⟨m1, ec, m2, m3, m4, m5, _⟩ := (k3 rfl).resolve_right fun g => hne g.2.1
    have hec : ec = (l.map enc).flatten := (relR_enc (fun x cs => hrel _ _ x cs) l ec).1 m2
    obtain ⟨cap, hz0, hcap⟩ : ∃ cap, z0 = .slice (some (φ 0)) l.length cap ∧ l.length ≤ cap := by
      rcases g1 with ⟨e, _⟩ | ⟨_, cap, e, h1, h2, h3⟩
      · cases e
      · rw [bare_of m1, List.length_map] at e
        rw [List.length_map] at h1
        exact ⟨cap, e, h1⟩
    subst hz0
    obtain ⟨c, el, lo, hi, r1, r2, r3⟩ := m5 rfl
    have hex : excl (φ 0) (rowO (t := t) ⟨false, l.map dat⟩ 0) = true := by rw [rowO_0]; exact excl_vec rfl m1
    obtain ⟨hb, hbX⟩ := hm.sep 0 hex
    have hlm : (l.map dat).length = l.length := List.length_map ..
    have r2 : (φ 0).off + l.length * csz t ≤ c.size := by rw [← hlm]; exact r2
    have r3 : hi ≤ lo ∨ hi ≤ (φ 0).off ∨ (φ 0).off + l.length * csz t ≤ lo := by rw [← hlm]; exact r3
    have eφ : (⟨(φ 0).block, (φ 0).off, none⟩ : Addr) = φ 0 := bare_of m1
    have hH : HoldsK enc (csz t) w (φ 0).block (φ 0).off l.toArray := by
      intro j hj
      rw [size_flatK] at hj
      have hj : j < l.length * csz t := by simpa using hj
      have hj' : j < ec.length := by rw [hec, flatten_len hk]; exact hj
      refine ⟨?_, ?_⟩
      · rw [m3 j hj']
        have := flatK_get hk l j hj
        rw [← hec, List.getElem?_eq_getElem hj'] at this
        exact this
      · rw [World.frozen?, r1]
        simp only [Bool.and_eq_false_iff, decide_eq_false_iff_not]
        omega
    have hcall := hs (φ 0).block (φ 0).off cap l.toArray w hH hb (by simpa using hl)
    rw [eφ] at hcall
    have esz : l.toArray.size = l.length := List.size_toArray ..
    rw [esz] at hcall
    refine Calls.mono hcall fun e w' ⟨e1, n, os, e2⟩ => ?_
    subst e1
    have etl : l.toArray.toList = l := rfl
    rw [etl] at e2
    obtain ⟨q1, q2, q3⟩ := sortWorld_heap (enc := enc) (k := csz t) (off := (φ 0).off) (n := n) (d := (srt l).toArray) (os := os) hb
    rw [← e2] at q1 q2 q3
    have q3 := q3 c el (lo, hi) r1
    have hsl : (srt l).length = l.length := hlen l
    have hsz' : (putCells id (φ 0).off (flatK enc (csz t) (srt l).toArray) c).size = c.size := by simp [putCells]
    have hroom : ∀ m, room w (φ 0) m → room w' (φ 0) m := by
      intro m ⟨c', el', lo', hi', h1, h2, h3⟩
      rw [r1] at h1
      injection h1 with h1; injection h1 with h4 h5 h6
      injection h6 with h6 h7
      subst h4 h5 h6 h7
      exact ⟨_, _, lo, hi, q3, by rw [hsz']; exact h2, h3⟩
    have hst : Still w w' := by rw [e2]; exact ⟨rfl, rfl⟩
    have hc : Comes C X φ φ (rowO (t := t) ⟨false, l.map dat⟩) [(0, .vec t 0 false ⟨false, (srt l).map dat⟩)] w w' .undef undef := by
      have hid : upds (rowO (t := t) ⟨false, l.map dat⟩) [(0, .vec t 0 false ⟨false, (srt l).map dat⟩)] 0 = .vec t 0 false ⟨false, (srt l).map dat⟩ := by rw [rowO_upd]; rfl
      have hk1 : ∀ i, i ∈ keysU [((0 : Nat), Obj.vec t 0 false ⟨false, (srt l).map dat⟩)] → i = 0 := fun i hi => by simpa [keysU] using hi
      refine Comes.make hm q1 (fun b hb hh => q2 b hb fun e => hh ⟨0, by simp [keysU], hex, e.symm⟩) (fun _ _ => rfl) (fun _ _ _ => rfl) (fun i hik => ?_) (fun i hik h => ?_) (fun i j hik hjk _ _ _ _ => ?_) (fun h1 h2 h3 i hik => ?_) (fun i hik => ?_) (fun _ _ _ => rfl) hst
      · rw [hk1 i hik, hid, rowO_0]
        exact .inr ⟨rfl, rfl, rfl, by simp [hsl], rfl, fun _ => ⟨rfl, fun _ _ m => hroom m⟩⟩
      · rw [hk1 i hik]; exact .inr ⟨hex, rfl⟩
      · rw [hk1 i hik, hk1 j hjk]
      · rw [hk1 i hik, hid]
        refine ⟨(by rw [List.length_map, hsl, ← hlm]; exact k1), (fun h => by cases h), fun _ => .inl ⟨m1, _, (relR_enc (fun x cs => hrel _ _ x cs) (srt l) _).2 rfl, fun j hj => ?_, hroom 0 m4, fun _ => ?_, (fun h => by cases h)⟩⟩
        · rw [flatten_len hk, hsl] at hj
          have hget := flatK_get hk (srt l) j (by rw [hsl]; exact hj)
          rw [List.getElem?_eq_getElem (by rw [flatten_len hk, hsl]; exact hj)] at hget
          injection hget with hget
          rw [hget]
          rw [World.cell?]
          simp only
          rw [q3]
          simp only
          have hlt : (φ 0).off + j < c.size := by omega
          rw [if_neg (by decide)]
          show (putCells id (φ 0).off (flatK enc (csz t) (srt l).toArray) c)[(φ 0).off + j]? = _
          unfold putCells
          rw [Array.getElem?_mapIdx, Array.getElem?_eq_getElem hlt, Option.map_some]
          have hfs : (flatK enc (csz t) (srt l).toArray).size = l.length * csz t := by rw [size_flatK]; simp [hsl]
          rw [if_pos ⟨by omega, by rw [hfs]; omega⟩]
          have : (φ 0).off + j - (φ 0).off = j := by omega
          rw [this]; rfl
        · show room w' (φ 0) (((srt l).map dat).length * csz t)
          rw [List.length_map, hsl]
          exact hroom _ ⟨c, el, lo, hi, r1, r2, r3⟩
      · rw [hk1 i hik, hid]; exact fun h => absurd h ht
    have hm' := hc.mem
    have hh := (Hist.refl [0] φ (rowO (t := t) ⟨false, l.map dat⟩) w).step hc
    rw [rowO_upd] at hm' hh
    exact ⟨[], φ, X, rfl, fun _ h => h, hm', rfl, hh⟩
end Ev


namespace Ev
open Go Go.Shelf Go.RowKit Go.Proofs

def strSig (f : Nat) : Sig := ⟨f, ⟨[.ptr 0 0], [.box [.slf 0, .osl 1], .vec (.int .u8)]⟩, ⟨[.d .str], [.gone, .gone]⟩, []⟩

/-- What a builder's String comes to. -/
structure StrWalk (P : Program) (f sl pt it st u : Nat) : Prop where
  walk : ∀ (b : Nat) (base q : Option Addr) (n cap : Nat) (bs : ByteArray) (w w2 : World), w.drew.cell? ⟨b, 1, none⟩ = some (.slice base n cap) →
    (Builtin.unsafeSliceData_ #[sl] pt #[.slice base n cap]).run P w.drew = .ok (.pointer q) w.drew →
    (Builtin.unsafeString_ #[pt, it] st #[.pointer q, .int .i64 n]).run P w.drew = .ok (.string bs) w2 →
    Calls P f #[.pointer (some ⟨b, 0, none⟩)] w fun e w' => e = .returned (.string bs) ∧ w' = w2
  walk0 : ∀ (b : Nat) (a : Addr) (cs : Array Value) (el : TypeId) (fz : Nat × Nat) (w : World), w.heap[b]? = some (.cells cs el fz) → cs[1]? = some (.slice (some a) 0 0) →
    ∀ (sh : TypeId × Nat), w.drew.shape? a.block = some sh →
    Calls P f #[.pointer (some ⟨b, 0, none⟩)] w fun e w' => e = .returned (.string .empty) ∧ w' = w.drew.alloc (.view a u)

theorem str_okS {C : Cx} {f sl pt it st u : Nat} (W : StrWalk C.P f sl pt it st u) (hpt : C.P.underlying pt = some (.pointer u)) (hfn : ∃ fn, C.P.funcs[f]? = some fn ∧ fn.body.isNone = false) (hu8 : C.P.underlying u = some (.int .u8))
    (hcells : ∀ el, C.P.underlying el = some (.int .u8) → C.P.cellsOf el = 1) (b : Bool) (s : Sl (den (.int .u8))) : FnOkS C (strSig f) (b, s, ()) (s.l, ()) := by
  intro Y φ w zs hm hz
  have hm : MRel C Y φ (bldO b s) w := hm
  have hz : relVs φ (bldO b s) (immB Y φ (bldO b s) w) w [.ptr 0 0] zs := hz
  refine ⟨hfn, ?_⟩
  obtain ⟨h0, c, z, lo, hi, h1, h2, rfl, h3⟩ := bld_at hm
  obtain ⟨z0, r, rfl, g1, g2⟩ := hz
  have g2 : r = [] := g2
  have g1 : z0 = .pointer (some ⟨(φ 0).block, (φ 0).off + 0, none⟩) := g1
  rw [h0] at g1
  subst g1 g2
  have fin : ∀ (bs : ByteArray) (w' : World), (bs.data.toList.map fun b => (b.toNat : Int)) = s.l → s.l.length ≤ maxL → w.heap.size ≤ w'.heap.size → Still w w' → (∀ b', b' < w.heap.size → ¬ owned φ (bldO b s) b' → w'.heap[b']? = w.heap[b']?) →
      ∃ vals φ' X', Ending.returned (.string bs) = .returned (oneOf vals) ∧ (∀ b, Y b → X' b) ∧ MRel C X' φ' (canO (strSig f).outs (s.l, ())) w' ∧
        relVs φ' (canO (strSig f).outs (s.l, ())) (immB X' φ' (canO (strSig f).outs (s.l, ())) w') w' (fill id0 ka0 (strSig f).outs (s.l, ())).1 vals ∧ Hist (strSig f).keep φ (canO (strSig f).ins (b, s, ())) w φ' (canO (strSig f).outs (s.l, ())) w' := by
    intro bs w' hbs hlen hsz hst hsame
    have hdead : ∀ id, canO (strSig f).outs (s.l, ()) id = .dead ∨ (bldO b s id = .none ∧ canO (strSig f).outs (s.l, ()) id = .none) := fun id => by
      show upd (upd _ 0 _) 1 _ id = _ ∨ (upd (upd _ 0 _) 1 _ id = _ ∧ upd (upd _ 0 _) 1 _ id = _)
      by_cases h : id = 1
      · subst h; exact .inl rfl
      · by_cases h' : id = 0
        · subst h'; exact .inl rfl
        · refine .inr ⟨?_, ?_⟩ <;> rw [upd_other h, upd_other h']
    have hex : ∀ id a, excl a (canO (strSig f).outs (s.l, ()) id) = false := fun id a => by
      rcases hdead id with h | ⟨_, h⟩ <;> rw [h] <;> rfl
    have himm : ∀ b', immB Y φ (bldO b s) w b' → immB Y φ (canO (strSig f).outs (s.l, ())) w' b' := fun b' hb => ⟨Nat.lt_of_lt_of_le hb.1 hsz, hb.2.1, fun ⟨id, e, _⟩ => by rw [hex id] at e; cases e⟩
    refine ⟨[.string bs], φ, Y, rfl, fun _ h => h, ⟨fun id => ?_, fun i j hi => ?_, fun i hi => ?_, fun b' hb => Nat.lt_of_lt_of_le (hm.xs b' hb) hsz, fun id => ?_, fun g t x hg => ?_⟩, ⟨.string bs, [], rfl, mk_str hbs ?_, rfl⟩, ⟨hsz, hsame, fun b' ⟨id, e, _⟩ => ?_, hst, fun id hi => by cases hi⟩⟩
    · rcases hdead id with h | ⟨_, h⟩ <;> rw [h] <;> trivial
    · rw [hex i] at hi; cases hi
    · rw [hex i] at hi; cases hi
    · rcases hdead id with h | ⟨_, h⟩ <;> rw [h] <;> trivial
    · refine relVal_up himm (fun b' hb => hsame b' hb.1 hb.2.2) (fun id => ?_) _ _ (hm.globs g t x hg)
      rcases hdead id with h | ⟨h, h'⟩
      · rw [h]; cases bldO b s id <;> trivial
      · rw [h]; trivial
    · rw [← hbs] at hlen
      simpa using hlen
    · rw [hex id] at e; cases e
  have ho1 := hm.objs 1
  have he1 := hm.els 1
  rw [bldO_1] at ho1 he1
  obtain ⟨k1, k2, k3⟩ := ho1
  unfold relVal at h3
  rw [bldO_1] at h3
  have cell : ∀ z', z = z' → w.drew.cell? ⟨(φ 0).block, 1, none⟩ = some z' := fun z' e => by
    have : w.drew.heap[(φ 0).block]? = _ := h1
    rw [World.cell?, this, e]; rfl
  have hst : Still w w.drew := ⟨rfl, rfl⟩
  have hnone : (Builtin.unsafeString_ #[pt, it] st #[.pointer none, .int .i64 (0 : Nat)]).run C.P w.drew = .ok (.string .empty) w.drew := Lib.run_unsafeString_none w.drew _ _ _ none
  rcases h3.2 rfl with ⟨hn, hzn⟩ | ⟨hn, cap, hzn, hcap, hcl, hroom⟩
  · have hl := k2 hn
    have := W.walk (φ 0).block none none 0 0 .empty w w.drew (cell _ hzn) (Lib.run_unsafeSliceData_nil _ _ _ _ _) hnone
    refine Calls.mono this fun e w' ⟨e1, e2⟩ => ?_
    subst e1 e2
    exact fin .empty w.drew (by rw [hl]; rfl) k1 (Nat.le_refl _) hst (fun _ _ _ => rfl)
  · obtain ⟨m1, ec, m2, m3, m4, m5, _⟩ := (k3 hn).resolve_right fun g => g.2.2 rfl
    rw [bare_of m1] at hzn
    obtain ⟨c0, el, fz, q1, q2⟩ := he1 rfl hn
    have hsh : w.drew.shape? (φ 1).block = some (el, c0.size) := by
      have : w.drew.heap[(φ 1).block]? = _ := q1
      rw [World.shape?, this]
    have hown : owned φ (bldO b s) (φ 1).block := ⟨1, by rw [bldO_1]; exact excl_vec hn m1, rfl⟩
    by_cases hl : s.l = []
    · have hln : s.l.length = 0 := by rw [hl]; rfl
      rw [hln] at hzn
      by_cases hc0 : cap = 0
      · subst hc0
        have := W.walk0 (φ 0).block (φ 1) _ C.bld (lo, hi) w h1 (by rw [hzn]; rfl) _ hsh
        refine Calls.mono this fun e w' ⟨e1, e2⟩ => ?_
        subst e1 e2
        refine fin .empty _ (by rw [hl]; rfl) k1 (by show w.heap.size ≤ (w.heap.push _).size; simp) ⟨rfl, rfl⟩ (fun b' hb _ => ?_)
        exact Lib.alloc_old w.drew _ b' hb
      · have := W.walk (φ 0).block (some (φ 1)) (some (φ 1)) 0 cap .empty w w.drew (cell _ hzn) (Lib.run_unsafeSliceData_row _ _ _ _ _ _ hc0) (Lib.run_unsafeString_none w.drew _ _ _ _)
        refine Calls.mono this fun e w' ⟨e1, e2⟩ => ?_
        subst e1 e2
        exact fin .empty w.drew (by rw [hl]; rfl) k1 (Nat.le_refl _) hst (fun _ _ _ => rfl)
    · obtain ⟨u1, u2⟩ := u8_cells m2
      have back : ∀ n : Int, 0 ≤ n → n ≤ 255 → (((UInt8.ofNat n.toNat).toNat : Nat) : Int) = n := by
        intro n h0 h1
        rw [UInt8.toNat_ofNat', Nat.mod_eq_of_lt (by omega)]
        omega
      generalize hl8 : List.map (fun n : Int => UInt8.ofNat n.toNat) s.l = l8
      have hlen8 : l8.length = s.l.length := by rw [← hl8]; simp
      have hb8 : l8.map (fun b => (b.toNat : Int)) = s.l := by
        rw [← hl8, List.map_map]
        have : ∀ l : List Int, (∀ n, n ∈ l → 0 ≤ n ∧ n ≤ 255) → List.map ((fun b : UInt8 => (b.toNat : Int)) ∘ fun n : Int => UInt8.ofNat n.toNat) l = l := by
          intro l
          induction l with
          | nil => intro _; rfl
          | cons a l ih =>
            intro h
            rw [List.map_cons, ih fun n hn => h n (List.mem_cons_of_mem _ hn)]
            have := h a (List.mem_cons_self ..)
            show _ :: l = a :: l
            simp only [Function.comp]
            rw [back a this.1 this.2]
        exact this _ u2
      have hne8 : l8 ≠ [] := fun e => hl (by rw [← hb8, e]; rfl)
      have hpos : 0 < s.l.length := List.length_pos_iff.2 hl
      obtain ⟨c5, el5, lo5, hi5, r1, r2, r3⟩ := m5 rfl
      rw [q1] at r1
      injection r1 with r1; injection r1 with r4 r5 r6
      subst r4
      have hcs1 : csz (.int .u8) = 1 := rfl
      rw [hcs1, Nat.mul_one] at r2
      have hUS := run_unsafeString_at (P := C.P) (w := w.drew) pt it st u el hpt hu8 q2.1 (hcells el q2.1) (φ 1) c0.size hsh l8 hne8 (by rw [hlen8]; exact r2) (by rw [hlen8]; unfold maxL at k1; omega) (fun j x hx => by
        have hb : (s.l)[j]? = some (x.toNat : Int) := by rw [← hb8, List.getElem?_map, hx]; rfl
        have hec : ec[j]? = some (.int .u8 (x.toNat : Int)) := by rw [u1, List.getElem?_map, hb]; rfl
        obtain ⟨hj, e⟩ := List.getElem?_eq_some_iff.1 hec
        have := m3 j hj
        rw [e] at this
        rw [add_spot m1]
        exact this)
      rw [hlen8] at hUS
      have := W.walk (φ 0).block (some (φ 1)) (some (φ 1)) s.l.length cap ⟨l8.toArray⟩ w (w.drew.freeze (φ 1) s.l.length) (cell _ hzn) (Lib.run_unsafeSliceData_row _ _ _ _ _ _ (by omega)) hUS
      refine Calls.mono this fun e w' ⟨e1, e2⟩ => ?_
      subst e1 e2
      refine fin ⟨l8.toArray⟩ _ (by simpa using hb8) k1 ?_ ?_ ?_
      · unfold World.freeze; split
        · exact Nat.le_refl _
        · show w.heap.size ≤ (w.heap.modify _ _).size; simp
      · unfold World.freeze; split <;> exact ⟨rfl, rfl⟩
      · intro b' hb hno
        have hne : b' ≠ (φ 1).block := fun e => hno (e ▸ hown)
        unfold World.freeze
        split
        · rfl
        · show (w.heap.modify _ _)[b']? = _
          simp [Array.getElem?_modify, Ne.symm hne]
end Ev


namespace Ev
open Go
def noInt : TypeDesc → Bool
  | .int _ => false
  | .named _ _ => false
  | _ => true
theorem reckonStruct_noInt {info : TypeId → Option TypeInfo} {fs : Array Field} {i : TypeInfo} (h : Made.reckonStruct info fs = some i) : noInt i.desc = true := by
  unfold Made.reckonStruct at h
  simp only [Option.bind_eq_bind, Option.bind_eq_some_iff, Option.pure_def] at h
  obtain ⟨_, _, h⟩ := h
  split at h <;> (injection h with h; subst h; rfl)
theorem reckon_noInt {info : TypeId → Option TypeInfo} {d : TypeDesc} {i : TypeInfo} (h : Made.reckon info d = some i) : noInt i.desc = true := by
  cases d <;> simp only [Made.reckon, Option.bind_eq_bind, Option.bind_eq_some_iff, Option.pure_def, Option.some.injEq] at h
  case struct fs => exact reckonStruct_noInt h
  case pointer e =>
    obtain ⟨a, _, h⟩ := h
    split at h
    · cases h
    · split at h
      · cases h
      · simp only [Option.bind_eq_some_iff, Option.some.injEq] at h
        obtain ⟨_, _, rfl⟩ := h; rfl
    · simp only [Option.bind_eq_some_iff, Option.some.injEq] at h
      obtain ⟨_, _, rfl⟩ := h; rfl
  case slice => obtain ⟨_, _, _, _, rfl⟩ := h; rfl
  case array => obtain ⟨_, _, _, _, rfl⟩ := h; rfl
  case map => obtain ⟨_, _, _, _, _, _, _, _, rfl⟩ := h; rfl
  case chan => obtain ⟨_, _, _, _, rfl⟩ := h; rfl
  case func => obtain ⟨_, _, rfl⟩ := h; rfl
  all_goals cases h

def isB : Option TypeDesc → Bool
  | some (.int .u8) => true
  | _ => false
/-- Every type of bytes is one cell. -/
def bytesChk (P : Program) : Nat → Bool
  | 0 => true
  | n + 1 => (!isB (P.underlying n) || Nat.beq (P.cellsOf n) 1) && bytesChk P n

theorem bytesChk_spec {P : Program} : ∀ (n : Nat), bytesChk P n = true → ∀ el, el < n → P.underlying el = some (.int .u8) → P.cellsOf el = 1
  | 0, _, el, h, _ => absurd h (by omega)
  | n + 1, h, el, hl, hu => by
    simp only [bytesChk, Bool.and_eq_true, Bool.or_eq_true] at h
    by_cases e : el = n
    · subst e
      rcases h.1 with h1 | h1
      · rw [hu] at h1; simp [isB] at h1
      · exact Nat.eq_of_beq_eq_true h1
    · exact bytesChk_spec n h.2 el (by omega) hu

theorem bytes_all {P : Program} (h : bytesChk P P.types.size = true) (el : TypeId) (hu : P.underlying el = some (.int .u8)) : P.cellsOf el = 1 := by
  refine bytesChk_spec _ h el ?_ hu
  refine Classical.byContradiction fun hn => ?_
  cases e : P.info? el with
  | none => simp [Program.underlying, e] at hu
  | some i =>
    have hi : noInt i.desc = true := by
      unfold Tables.info? at e
      rw [if_neg hn] at e
      have e : Made.infoAt P.toTables (99 + 1) el = some i := e
      unfold Made.infoAt at e
      rw [if_neg hn] at e
      obtain ⟨d, _, hd⟩ := Option.bind_eq_some_iff.1 e
      exact reckon_noInt hd
    unfold Program.underlying at hu
    rw [e] at hu
    obtain ⟨d, _, _, _, _, _, _, _, _, _⟩ := i
    cases d <;> simp only [noInt] at hi <;> first | (cases hi; done) | (simp at hu; done)
end Ev

