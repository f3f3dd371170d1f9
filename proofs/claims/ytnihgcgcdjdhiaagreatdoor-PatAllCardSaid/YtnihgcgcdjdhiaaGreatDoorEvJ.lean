/- The calls of slices.Sort, slices.Grow. No statement of its own about the program. -/
import Derived.Test.YtnihgcgcdjdhiaaGreatDoorEvI
import Derived.Shelf.SlSortCmp.NoneTotal
import Derived.Shelf.Slices.In.SortNone
namespace Ev
open Go Go.Shelf Go.RowKit Go.Proofs Go.Sort
def rowO {t : Ty} (s : Sl (den t)) : Nat → Obj := upds (fun _ => Obj.none) [(0, .vec t 0 false s)]
theorem qmf {t : Ty} {s : Sl (den t)} : rowO s 0 = .vec t 0 false s := rfl
theorem qrl {t : Ty} {s : Sl (den t)} {id : Nat} (h : id ≠ 0) : rowO s id = .none := by
 show upd (fun _ => Obj.none) 0 _ id = _
 rw [q0t h]
theorem qmg {t : Ty} {s s' : Sl (den t)} : upds (rowO s) [(0, .vec t 0 false s')] = rowO s' := by
 funext id
 show upd (rowO s) 0 _ id = _
 by_cases h : id = 0
 ·subst h; rw [q0c]; rfl
 ·rw [q0t h, qrl h, qrl h]
end Ev

namespace Ev
open Go Go.Shelf Go.RowKit Go.Proofs Go.Sort
theorem q9f {α β : Type} {enc : α → Value} {dat : α → β} {R : β → List Value → Prop} : ∀ (l : List α) (_hrel : ∀ x, x ∈ l → ∀ cs, R (dat x) cs ↔ cs = [enc x]) (ec : List Value), relR R (l.map dat) ec ↔ ec = l.map enc
 | [], _, ec => Iff.rfl
 | x :: r, hrel, ec => by
  simp only [List.map_cons]
  constructor
  ·rintro ⟨c, d, e, h1, h2⟩
   rw [e, (hrel x (List.mem_cons_self ..) c).1 h1, (q9f r (fun y hy => hrel y (List.mem_cons_of_mem _ hy)) d).1 h2]
   rfl
  ·intro e
   exact ⟨[enc x], r.map enc, e, (hrel x (List.mem_cons_self ..) _).2 rfl, (q9f r (fun y hy => hrel y (List.mem_cons_of_mem _ hy)) _).2 rfl⟩
theorem qcy {α : Type} [Inhabited α] {enc : α → Value} {w : World} {blk off n : Nat} {d : Array α} {os : Array Go.Obj} (hb : blk < w.heap.size) :
  w.heap.size ≤ (grow (putRow enc (Sort.ahead w n) blk off d) os).heap.size ∧ (∀ b, b < w.heap.size → b ≠ blk → (grow (putRow enc (Sort.ahead w n) blk off d) os).heap[b]? = w.heap[b]?) ∧
  (∀ c el fz, w.heap[blk]? = some (.cells c el fz) → (grow (putRow enc (Sort.ahead w n) blk off d) os).heap[blk]? = some (.cells (putCells enc off d c) el fz)) := by
 have hsz : (putRow enc (Sort.ahead w n) blk off d).heap.size = w.heap.size := Go.Proofs.size_putRow _ _ _ _ _
 have hlow : ∀ b, b < w.heap.size → (grow (putRow enc (Sort.ahead w n) blk off d) os).heap[b]? = (putRow enc (Sort.ahead w n) blk off d).heap[b]? := by
  intro b hb
  show ((putRow enc (Sort.ahead w n) blk off d).heap ++ os)[b]? = _
  rw [Array.getElem?_append_left (by rw [hsz]; exact hb)]
 refine ⟨?_, fun b hb hne => ?_, fun c el fz h => ?_⟩
 ·show w.heap.size ≤ ((putRow enc (Sort.ahead w n) blk off d).heap ++ os).size
  rw [Array.size_append, hsz]; exact Nat.le_add_right _ _
 ·rw [hlow b hb]
  show (w.heap.modify blk _)[b]? = _
  rw [Array.getElem?_modify, if_neg (Ne.symm hne)]
 ·rw [hlow blk hb]
  show (w.heap.modify blk _)[blk]? = _
  rw [Array.getElem?_modify, if_pos rfl, h]
  rfl
def qui (f : Nat) (t : Ty) : Sig := ⟨f, ⟨[.osl 0], [.vec t]⟩, ⟨[], [.vec t]⟩, [0]⟩
theorem qrm {C : Cx} {f : Nat} {t : Ty} {α : Type} [Inhabited α] (enc : α → Value) (dat : α → den t) (P : α → Prop) (srt : List α → List α) (ht : t ≠ .int .u8) (hc1 : csz t = 1)
  (hrel : ∀ imm w x, P x → ∀ cs, relC imm w t (dat x) cs ↔ cs = [enc x]) (hlen : ∀ l, (srt l).length = l.length) (hmem : ∀ l x, x ∈ srt l → x ∈ l)
  (hfn : ∃ fn, C.P.funcs[f]? = some fn ∧ fn.body.isNone = false)
  (h0 : ∀ p cap w, Calls C.P f #[.slice p 0 cap] w fun e w' => e = .returned (.tuple #[]) ∧ w' = w)
  (hs : ∀ blk off cap (l : List α) w, Holds enc w blk off l.toArray → blk < w.heap.size → l.length < 4611686018427387904 →
   Calls C.P f #[.slice (some ⟨blk, off, none⟩) l.length cap] w fun e w' => e = .returned (.tuple #[]) ∧ ∃ n os, w' = grow (putRow enc (Sort.ahead w n) blk off (srt l).toArray) os)
  (nil : Bool) (l : List α) (hP : ∀ x, x ∈ l → P x) (hl : l.length < 4611686018427387904) : qo3 C (qui f t) (⟨nil, l.map dat⟩, ()) (⟨nil, (srt l).map dat⟩, ()) := by
 intro X φ w zs hm hz
 have hm : MRel C X φ (rowO ⟨nil, l.map dat⟩) w := hm
 have hz : q0f φ (rowO ⟨nil, l.map dat⟩) (immB X φ (rowO ⟨nil, l.map dat⟩) w) w [.osl 0 0] zs := hz
 refine ⟨hfn, ?_⟩
 obtain ⟨z0, r0, rfl, g1, g3⟩ := hz
 have g3 : r0 = [] := g3
 subst g3
 have ho := hm.objs 0
 rw [qmf] at ho
 obtain ⟨k1, k2, k3⟩ := ho
 unfold q02 at g1
 rw [qmf] at g1
 have g1 := g1.2 rfl
 show Calls C.P f [z0].toArray w _
 by_cases hl0 : l = []
 ·subst hl0
  have hsrt : srt [] = [] := List.length_eq_zero_iff.1 (by rw [hlen]; rfl)
  have hz0 : ∃ p cap, z0 = .slice p 0 cap := by
   rcases g1 with ⟨_, e⟩ | ⟨_, cap, e, _⟩
   ·exact ⟨_, _, e⟩
   ·exact ⟨_, _, e⟩
  obtain ⟨p, cap, rfl⟩ := hz0
  refine Calls.mono (h0 p cap w) fun e w' ⟨e1, e2⟩ => ?_
  subst e1 e2
  rw [hsrt]
  exact ⟨[], φ, X, rfl, fun _ h => h, hm, rfl, Hist.refl _ _ _ _⟩
 ·have hne : l.map dat ≠ [] := fun e => hl0 (List.map_eq_nil_iff.1 e)
  have hn : nil = false := by
   cases nil with
   | false => rfl
   | true => exact absurd (k2 rfl) hne
  subst hn
  obtain ⟨m1, ec, m2, m3, m4, m5, _⟩ := (k3 rfl).resolve_right fun g => hne g.2.1
  have hec : ec = l.map enc := (q9f l (fun x hx cs => hrel _ _ x (hP x hx) cs) ec).1 m2
  obtain ⟨cap, hz0, hcap⟩ : ∃ cap, z0 = .slice (some (φ 0)) l.length cap ∧ l.length ≤ cap := by
   rcases g1 with ⟨e, _⟩ | ⟨_, cap, e, h1, h2, h3⟩
   ·cases e
   ·rw [qjp m1, List.length_map] at e
    rw [List.length_map] at h1
    exact ⟨cap, e, h1⟩
  subst hz0
  obtain ⟨c, el, lo, hi, r1, r2, r3⟩ := m5 rfl
  have hex : excl (φ 0) (rowO (t := t) ⟨false, l.map dat⟩ 0) = true := by rw [qmf]; exact q2d rfl m1
  obtain ⟨hb, hbX⟩ := hm.sep 0 hex
  have hlm : (l.map dat).length = l.length := List.length_map ..
  have r2 : (φ 0).off + l.length * csz t ≤ c.size := by rw [← hlm]; exact r2
  have r3 : hi ≤ lo ∨ hi ≤ (φ 0).off ∨ (φ 0).off + l.length * csz t ≤ lo := by rw [← hlm]; exact r3
  rw [hc1, Nat.mul_one] at r2 r3
  have eφ : (⟨(φ 0).block, (φ 0).off, none⟩ : Addr) = φ 0 := (qto m1).symm.trans (qjp m1)
  have hH : Holds enc w (φ 0).block (φ 0).off l.toArray := by
   intro j hj
   have hj : j < l.length := by simpa using hj
   have hj' : j < ec.length := by rw [hec, List.length_map]; exact hj
   refine ⟨?_, ?_⟩
   ·rw [m3 j hj']
    have e1 : (l.toArray)[j]! = l[j] := by simp [hj]
    rw [e1]
    simp [hec]
   ·rw [World.frozen?, r1]
    simp only [Bool.and_eq_false_iff, decide_eq_false_iff_not]
    omega
  have hcall := hs (φ 0).block (φ 0).off cap l w hH hb hl
  rw [eφ] at hcall
  refine Calls.mono hcall fun e w' ⟨e1, n, os, e2⟩ => ?_
  subst e1
  obtain ⟨q1, q2, q3⟩ := qcy (enc := enc) (off := (φ 0).off) (n := n) (d := (srt l).toArray) (os := os) hb
  rw [← e2] at q1 q2 q3
  have q3 := q3 c el (lo, hi) r1
  have hsl : (srt l).length = l.length := hlen l
  have hsz' : (putCells enc (φ 0).off (srt l).toArray c).size = c.size := by simp [putCells]
  have hroom : ∀ m, room w (φ 0) m → room w' (φ 0) m := by
   intro m ⟨c', el', lo', hi', h1, h2, h3⟩
   rw [r1] at h1
   injection h1 with h1; injection h1 with h4 h5 h6
   injection h6 with h6 h7
   subst h4 h5 h6 h7
   exact ⟨_, _, lo, hi, q3, by rw [hsz']; exact h2, h3⟩
  have hst : qfo w w' := by rw [e2]; exact ⟨rfl, rfl⟩
  have hc : Comes C X φ φ (rowO (t := t) ⟨false, l.map dat⟩) [(0, .vec t 0 false ⟨false, (srt l).map dat⟩)] w w' .undef undef := by
   have hid : upds (rowO (t := t) ⟨false, l.map dat⟩) [(0, .vec t 0 false ⟨false, (srt l).map dat⟩)] 0 = .vec t 0 false ⟨false, (srt l).map dat⟩ := by rw [qmg]; rfl
   have hk1 : ∀ i, i ∈ q0d [((0 : Nat), Obj.vec t 0 false ⟨false, (srt l).map dat⟩)] → i = 0 := fun i hi => by simpa [q0d] using hi
   refine Comes.make hm q1 (fun b hb hh => q2 b hb fun e => hh ⟨0, by simp [q0d], hex, e.symm⟩) (fun _ _ => rfl) (fun _ _ _ => rfl) (fun i hik => ?_) (fun i hik h => ?_) (fun i j hik hjk _ _ _ _ => ?_) (fun h1 h2 h3 i hik => ?_) (fun i hik => ?_) (fun _ _ _ => rfl) hst
   ·rw [hk1 i hik, hid, qmf]
    exact .inr ⟨rfl, rfl, rfl, by simp [hsl], rfl, fun _ => ⟨rfl, fun _ _ m => hroom m⟩⟩
   ·rw [hk1 i hik]; exact .inr ⟨hex, rfl⟩
   ·rw [hk1 i hik, hk1 j hjk]
   ·rw [hk1 i hik, hid]
    refine ⟨(by rw [List.length_map, hsl, ← hlm]; exact k1), (fun h => by cases h), fun _ => .inl ⟨m1, _, (q9f (srt l) (fun x hx cs => hrel _ _ x (hP x (hmem l x hx)) cs) _).2 rfl, fun j hj => ?_, hroom 0 m4, fun _ => ?_, (fun h => by cases h)⟩⟩
    ·rw [List.length_map, hsl] at hj
     rw [World.cell?]
     simp only
     rw [q3]
     simp only
     have hlt : (φ 0).off + j < c.size := by omega
     rw [if_neg (by decide)]
     show (putCells enc (φ 0).off (srt l).toArray c)[(φ 0).off + j]? = _
     unfold putCells
     rw [Array.getElem?_mapIdx, Array.getElem?_eq_getElem hlt, Option.map_some]
     rw [if_pos ⟨by omega, by simp [hsl]; omega⟩]
     have e4 : (φ 0).off + j - (φ 0).off = j := by omega
     rw [e4]
     have hj2 : j < (srt l).length := by omega
     have e1 : ((srt l).toArray)[j]! = (srt l)[j] := by simp [hj2]
     rw [e1]
     simp
    ·show room w' (φ 0) (((srt l).map dat).length * csz t)
     rw [List.length_map, hsl, hc1, Nat.mul_one]
     exact hroom _ ⟨c, el, lo, hi, r1, r2, r3⟩
   ·rw [hk1 i hik, hid]; exact fun h => absurd h ht
  have hm' := hc.mem
  have hh := (Hist.refl [0] φ (rowO (t := t) ⟨false, l.map dat⟩) w).step hc
  rw [qmg] at hm' hh
  exact ⟨[], φ, X, rfl, fun _ h => h, hm', rfl, hh⟩
def q7o (f : Nat) (t : Ty) : Sig := ⟨f, ⟨[.d (.sl t), .d (.int .i64)], []⟩, ⟨[.osl 0], [.vec t]⟩, []⟩
theorem qrn {C : Cx} {f : Nat} {t : Ty} (ht : t ≠ .int .u8) (hfn : ∃ fn, C.P.funcs[f]? = some fn ∧ fn.body.isNone = false)
  (h0 : ∀ w, Calls C.P f #[.slice none 0 0, .int .i64 0] w fun e w' => e = .returned (.slice none 0 0) ∧ w' = w)
  (h1 : ∀ (n : Nat) w, 0 < n → n ≤ 1000000 → Calls C.P f #[.slice none 0 0, .int .i64 n] w fun e w' => ∃ cap el cs, e = .returned (.slice (some ⟨w.heap.size, 0, none⟩) 0 cap) ∧ w' = w.drew.alloc (.cells cs el) ∧ cap * csz t ≤ cs.size)
  (n : Nat) (hn : n ≤ 1000000) : qo3 C (q7o f t) (⟨true, []⟩, (n : Int), ()) (⟨decide (n = 0), []⟩, ()) := by
 intro X φ w zs hm hz
 have hm : MRel C X φ noO w := hm
 have hz : q0f φ noO (immB X φ noO w) w [.d (.sl t) (⟨true, []⟩ : Sl (den t)), .d (.int .i64) (n : Int)] zs := hz
 refine ⟨hfn, ?_⟩
 obtain ⟨z0, r0, rfl, g1, z1, r1, rfl, g2, g3⟩ := hz
 have g3 : r1 = [] := g3
 subst g3
 obtain ⟨rfl, _⟩ := q25 g2
 obtain ⟨_, g1⟩ := qas g1
 obtain rfl : z0 = .slice none 0 0 := by
  rcases g1 with ⟨_, _, e⟩ | ⟨e, _⟩
  ·exact e
  ·cases e
 have fin : ∀ (s : Sl (den t)) (val : Value) (φ' : Nat → Addr) (w' : World), Comes C X φ φ' noO [(0, .vec t 0 false s)] w w' (.osl 0 0) val →
   ∃ vals φ' X', Ending.returned val = .returned (qhz vals) ∧ (∀ b, X b → X' b) ∧ MRel C X' φ' (canO (q7o f t).outs (s, ())) w' ∧
    q0f φ' (canO (q7o f t).outs (s, ())) (immB X' φ' (canO (q7o f t).outs (s, ())) w') w' (fill id0 ka0 (q7o f t).outs (s, ())).1 vals ∧ Hist [] φ noO w φ' (canO (q7o f t).outs (s, ())) w' := by
  intro s val φ' w' hc
  exact ⟨[val], φ', X, rfl, fun _ h => h, hc.mem, ⟨val, [], rfl, hc.val, rfl⟩, (Hist.refl [] φ noO w).step hc⟩
 by_cases h : n = 0
 ·subst h
  refine Calls.mono (h0 w) fun e w' ⟨e1, e2⟩ => ?_
  subst e1 e2
  have hd : decide (0 = 0) = true := rfl
  rw [hd]
  refine fin ⟨true, []⟩ _ φ w' ?_
  refine Comes.nils hm (fun p hp => ?_) (fun hk => ?_)
  ·rw [List.mem_singleton.1 hp]; exact ⟨⟨t, rfl⟩, rfl⟩
  ·exact ⟨Nat.le_refl _, fun _ => .inl ⟨rfl, rfl⟩⟩
 ·refine Calls.mono (h1 n w (by omega) hn) fun e w' ⟨cap, el, cs, e1, e2, e3⟩ => ?_
  subst e1
  have hd : decide (n = 0) = false := decide_eq_false h
  rw [hd]
  refine fin ⟨false, []⟩ _ (upd φ 0 ⟨w.heap.size, 0, none⟩) w' ?_
  have hw' : w'.heap = w.heap.push (.cells cs el) := by rw [e2]; rfl
  have hnew : w'.heap[w.heap.size]? = some (.cells cs el) := by rw [hw']; simp
  have hroom : ∀ m, m ≤ cs.size → room w' ⟨w.heap.size, 0, none⟩ m := fun m hm => ⟨cs, el, 0, 0, hnew, by simpa using hm, .inl (Nat.le_refl _)⟩
  refine Comes.fresh hm (B := .cells cs el) hw' (.vec t 0 false (⟨false, []⟩ : Sl (den t))) (ns := []) (fun p hp => by cases hp) (fun _ => trivial) (fun _ _ _ => ?_) (fun h _ => absurd h ht) (fun h3 => ?_) (by rw [e2]; exact ⟨rfl, rfl⟩)
  ·refine ⟨Nat.zero_le _, fun h => (by cases h), fun _ => .inl ?_⟩
   rw [q0c]
   refine ⟨rfl, [], rfl, fun j hj => by simp at hj, hroom 0 (Nat.zero_le _), fun _ => hroom _ (by show 0 * _ ≤ _; omega), fun h => by cases h⟩
  ·unfold q02
   rw [h3, q0c]
   refine ⟨Nat.le_refl _, fun _ => .inr ⟨rfl, cap, rfl, Nat.zero_le _, fun h => (by cases h), fun _ _ => hroom _ (by show cap * _ ≤ _; omega)⟩⟩
end Ev

