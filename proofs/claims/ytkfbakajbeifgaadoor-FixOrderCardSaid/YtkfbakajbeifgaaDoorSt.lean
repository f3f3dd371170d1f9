/- The functions of this seat as data: each is what the model's code gives, by the kernel's reckoning over the verified evaluator. No statement of its own about the program. -/
import Derived.Test.YtkfbakajbeifgaaDoorFn
import Derived.Test.YtkfbakajbeifgaaDoorWalk
import Derived.Test.YtkfbakajbeifgaaDoorRows
import Derived.KernelRfl
namespace Go.Proofs.YtkfbakajbeifgaaDoor.Seat
open Go Go.Proofs Go.Shelf Go.RowKit Go.Sort Ev Ev.Fn
def sigs : List Sig := [
  ⟨3, ⟨[.d (.sl (.st (.pair .str (.pair (.int .i64) (.int .i64))))), .d (.st (.pair .str (.pair (.int .i64) (.int .i64)))), .d .str], []⟩, ⟨[.d .bool], []⟩, []⟩,
  ⟨4, ⟨[.d (.sl (.st (.pair .str (.pair (.int .i64) (.int .i64))))), .d (.sl .str)], []⟩, ⟨[.d .bool], []⟩, []⟩,
  ⟨5, ⟨[.d (.sl (.int .i64))], []⟩, ⟨[.d .bool], []⟩, []⟩,
  ⟨6, ⟨[.d (.sl (.st (.pair .str (.pair (.int .i64) (.int .i64))))), .d (.sl .str)], []⟩, ⟨[.d .bool], []⟩, []⟩,
  ⟨7, ⟨[.d (.sl (.st (.pair .str (.pair (.int .i64) (.int .i64))))), .d (.sl .str)], []⟩, ⟨[.d .bool], []⟩, []⟩,
  ⟨8, ⟨[.d (.st (.pair .str (.pair (.int .i64) (.int .i64)))), .d (.int .i64)], []⟩, ⟨[.d .bool], []⟩, []⟩,
  ⟨9, ⟨[.d (.sl (.st (.pair .str (.pair (.int .i64) (.int .i64))))), .d (.st (.pair .str (.pair (.int .i64) (.int .i64)))), .d (.st (.pair .str (.pair (.int .i64) (.int .i64))))], []⟩, ⟨[.d .bool], []⟩, []⟩,
  ⟨10, ⟨[], []⟩, ⟨[.d .bool], []⟩, []⟩,
  ⟨11, ⟨[.d (.sl (.st (.pair .str (.pair (.int .i64) (.int .i64))))), .d (.sl .str)], []⟩, ⟨[.d .bool], []⟩, []⟩,
  ⟨12, ⟨[.d (.sl (.st (.pair .str (.pair (.int .i64) (.int .i64))))), .d (.st (.pair .str (.pair (.int .i64) (.int .i64))))], []⟩, ⟨[.d (.sl (.st (.pair .str (.pair (.int .i64) (.int .i64))))), .d (.int .i64)], []⟩, []⟩,
  ⟨13, ⟨[.d (.sl (.st (.pair .str (.pair (.int .i64) (.int .i64)))))], []⟩, ⟨[.osl 0], [.vec (.st (.pair .str (.pair (.int .i64) (.int .i64))))]⟩, []⟩,
  ⟨14, ⟨[.d (.sl (.st (.pair .str (.pair (.int .i64) (.int .i64))))), .d (.st (.pair .str (.pair (.int .i64) (.int .i64))))], []⟩, ⟨[.d (.sl (.st (.pair .str (.pair (.int .i64) (.int .i64))))), .d (.int .i64)], []⟩, []⟩,
  ⟨15, ⟨[.d (.sl (.st (.pair .str (.pair (.int .i64) (.int .i64))))), .d .str], []⟩, ⟨[.d (.st (.pair .str (.pair (.int .i64) (.int .i64)))), .d .bool], []⟩, []⟩,
  ⟨16, ⟨[.d (.sl (.st (.pair .str (.pair (.int .i64) (.int .i64))))), .d .str], []⟩, ⟨[.d (.st (.pair .str (.pair (.int .i64) (.int .i64)))), .d .bool], []⟩, []⟩,
  ⟨17, ⟨[.d (.st (.pair .str (.pair (.int .i64) (.int .i64))))], []⟩, ⟨[.d .bool], []⟩, []⟩,
  ⟨18, ⟨[.d (.st (.pair .str (.pair (.int .i64) (.int .i64))))], []⟩, ⟨[.d .bool], []⟩, []⟩,
  ⟨19, ⟨[.d (.sl (.st (.pair .str (.pair (.int .i64) (.int .i64)))))], []⟩, ⟨[.d (.int .i64)], []⟩, []⟩,
  ⟨20, ⟨[.d (.sl (.st (.pair .str (.pair (.int .i64) (.int .i64)))))], []⟩, ⟨[.d (.int .i64)], []⟩, []⟩,
  ⟨21, ⟨[.d (.sl (.st (.pair .str (.pair (.int .i64) (.int .i64))))), .d (.sl (.st (.pair .str (.pair (.int .i64) (.int .i64)))))], []⟩, ⟨[.d .bool], []⟩, []⟩,
  ⟨22, ⟨[.d (.sl (.st (.pair .str (.pair (.int .i64) (.int .i64))))), .d (.sl .str)], []⟩, ⟨[.d (.sl (.int .i64)), .d (.int .i64)], []⟩, []⟩,
  ⟨23, ⟨[.d (.sl (.st (.pair .str (.pair (.int .i64) (.int .i64))))), .d (.sl .str)], []⟩, ⟨[.d (.sl (.int .i64)), .d (.int .i64)], []⟩, []⟩,
  ⟨24, ⟨[.d (.sl (.int .i64)), .d (.sl (.int .i64))], []⟩, ⟨[.d .bool], []⟩, []⟩,
  ⟨25, ⟨[.d (.sl (.int .i64))], []⟩, ⟨[.d (.sl (.int .i64)), .d .bool], []⟩, []⟩,
  ⟨26, ⟨[.d (.sl (.int .i64))], []⟩, ⟨[.d (.sl (.int .i64)), .d .bool], []⟩, []⟩,
  ⟨27, ⟨[.d (.sl (.st (.pair .str (.pair (.int .i64) (.int .i64))))), .d (.sl .str), .d (.sl (.int .i64)), .d (.int .i64)], []⟩, ⟨[.d (.int .i64)], []⟩, []⟩,
  ⟨28, ⟨[.osl 0, .fn 30 [.ref (.st (.pair .str (.pair (.int .i64) (.int .i64))))]], [.vec (.st (.pair .str (.pair (.int .i64) (.int .i64))))]⟩, ⟨[.osl 1], [.gone, .vec (.st (.pair .str (.pair (.int .i64) (.int .i64))))]⟩, []⟩,
  ⟨29, ⟨[.d (.sl (.st (.pair .str (.pair (.int .i64) (.int .i64)))))], []⟩, ⟨[.osl 0], [.vec (.st (.pair .str (.pair (.int .i64) (.int .i64))))]⟩, []⟩,
  ⟨30, ⟨[.d (.st (.pair .str (.pair (.int .i64) (.int .i64)))), .ref (.st (.pair .str (.pair (.int .i64) (.int .i64))))], []⟩, ⟨[.d .bool], []⟩, []⟩,
  ⟨31, ⟨[.osl 0, .fn 32 []], [.vec (.st (.pair .str (.pair (.int .i64) (.int .i64))))]⟩, ⟨[], [.vec (.st (.pair .str (.pair (.int .i64) (.int .i64))))]⟩, [0]⟩,
  ⟨32, ⟨[.d (.st (.pair .str (.pair (.int .i64) (.int .i64)))), .d (.st (.pair .str (.pair (.int .i64) (.int .i64))))], []⟩, ⟨[.d (.int .i64)], []⟩, []⟩,
  ⟨33, ⟨[.d .str, .d .str], []⟩, ⟨[.d (.int .i64)], []⟩, []⟩,
  ⟨34, ⟨[.d (.sl (.st (.pair .str (.pair (.int .i64) (.int .i64))))), .fn 39 []], []⟩, ⟨[.d (.int .i64)], []⟩, []⟩,
  ⟨34, ⟨[.d (.sl (.st (.pair .str (.pair (.int .i64) (.int .i64))))), .fn 35 [.ref .str]], []⟩, ⟨[.d (.int .i64)], []⟩, []⟩,
  ⟨34, ⟨[.d (.sl (.st (.pair .str (.pair (.int .i64) (.int .i64))))), .fn 30 [.ref (.st (.pair .str (.pair (.int .i64) (.int .i64))))]], []⟩, ⟨[.d (.int .i64)], []⟩, []⟩,
  ⟨35, ⟨[.d (.st (.pair .str (.pair (.int .i64) (.int .i64)))), .ref .str], []⟩, ⟨[.d .bool], []⟩, []⟩,
  ⟨36, ⟨[.d (.st (.pair (.int .i64) (.pair .str (.pair (.int .i64) (.int .i64)))))], []⟩, ⟨[.d .bool], []⟩, []⟩,
  ⟨37, ⟨[.d (.st (.pair (.int .i64) (.pair .str (.pair (.int .i64) (.int .i64)))))], []⟩, ⟨[.d .bool], []⟩, []⟩,
  ⟨38, ⟨[.d (.sl (.st (.pair .str (.pair (.int .i64) (.int .i64))))), .fn 39 []], []⟩, ⟨[.d .bool], []⟩, []⟩,
  ⟨39, ⟨[.d (.st (.pair .str (.pair (.int .i64) (.int .i64))))], []⟩, ⟨[.d .bool], []⟩, []⟩,
  ⟨40, ⟨[.ptr 0 0, .ptr 1 0], [.box [.osl 2], .box [.osl 3], .vec (.int .i64), .vec (.sl (.int .i64))]⟩, ⟨[], [.box [.osl 4], .box [.osl 5], .gone, .gone, .vec (.int .i64), .vec (.sl (.int .i64))]⟩, [0, 1]⟩,
  ⟨41, ⟨[.d (.sl (.sl (.int .i64)))], []⟩, ⟨[.osl 0], [.vec (.int .i64)]⟩, []⟩,
  ⟨42, ⟨[.d (.sl (.st (.pair .str (.pair (.int .i64) (.int .i64))))), .d (.int .i64), .d (.int .i64)], []⟩, ⟨[.d (.sl (.int .i64)), .d .bool], []⟩, []⟩,
  ⟨43, ⟨[.ptr 0 0, .ptr 4 0, .ptr 1 0, .ptr 2 0], [.box [.d (.int .i64)], .box [.osl 3], .box [.fn 43 [.ptr 0 0, .ptr 4 0, .ptr 1 0, .ptr 2 0]], .vec (.int .i64), .box [.d (.sl (.int .i64))]]⟩, ⟨[.d .bool], [.box [.d (.int .i64)], .box [.osl 5], .box [.fn 43 [.ptr 0 0, .ptr 4 0, .ptr 1 0, .ptr 2 0]], .gone, .box [.d (.sl (.int .i64))], .vec (.int .i64)]⟩, [0, 1, 2, 4]⟩,
  ⟨44, ⟨[.d (.sl (.int .i64)), .d (.int .i64)], []⟩, ⟨[.osl 0, .d (.int .i64)], [.vec (.int .i64)]⟩, []⟩,
  ⟨47, ⟨[.d .str], []⟩, ⟨[.d .bool], []⟩, []⟩,
  ⟨48, ⟨[.fn 52 [], .ref (.st (.pair (.int .i64) (.pair .str (.pair (.int .i64) (.int .i64)))))], []⟩, ⟨[.d .bool], []⟩, []⟩,
  ⟨48, ⟨[.fn 53 [], .ref (.st (.pair (.int .i64) (.pair .str (.pair (.int .i64) (.int .i64)))))], []⟩, ⟨[.d .bool], []⟩, []⟩,
  ⟨49, ⟨[.d .str, .fn 50 []], []⟩, ⟨[.d .bool], []⟩, []⟩,
  ⟨49, ⟨[.d .str, .fn 55 []], []⟩, ⟨[.d .bool], []⟩, []⟩,
  ⟨50, ⟨[.d (.int .u8)], []⟩, ⟨[.d .bool], []⟩, []⟩,
  ⟨51, ⟨[.d .str], []⟩, ⟨[.d .bool], []⟩, []⟩,
  ⟨52, ⟨[.d (.int .u8)], []⟩, ⟨[.d .bool], []⟩, []⟩,
  ⟨53, ⟨[.d (.int .u8)], []⟩, ⟨[.d .bool], []⟩, []⟩,
  ⟨54, ⟨[.d (.int .i64)], []⟩, ⟨[.d (.int .i64)], []⟩, []⟩,
  ⟨55, ⟨[.d (.int .u8)], []⟩, ⟨[.d .bool], []⟩, []⟩,
  ⟨56, ⟨[.d (.int .u8)], []⟩, ⟨[.d (.int .i64)], []⟩, []⟩,
  ⟨57, ⟨[.d .str, .d (.int .i64), .d (.int .i64), .d (.int .i64)], []⟩, ⟨[.d (.int .i64)], []⟩, []⟩,
  ⟨58, ⟨[.d .str], []⟩, ⟨[.d .bool], []⟩, []⟩,
  ⟨59, ⟨[.d (.int .i64)], []⟩, ⟨[.d (.int .i64)], []⟩, []⟩,
  ⟨60, ⟨[.d (.sl (.int .i64)), .d (.int .i64)], []⟩, ⟨[.osl 0], [.vec (.int .i64)]⟩, []⟩,
  ⟨71, ⟨[.d (.int .u8)], []⟩, ⟨[.d .bool], []⟩, []⟩,
  ⟨72, ⟨[.d (.sl .str), .d .str], []⟩, ⟨[.d .bool], []⟩, []⟩,
  ⟨73, ⟨[], []⟩, ⟨[.d (.sl .str)], []⟩, []⟩,
  ⟨74, ⟨[.d .str, .d (.int .u8)], []⟩, ⟨[.d (.int .i64)], []⟩, []⟩,
  ⟨75, ⟨[], []⟩, ⟨[.d (.sl .str)], []⟩, []⟩,
  ⟨76, ⟨[.d (.int .u64)], []⟩, ⟨[.d (.int .i64)], []⟩, []⟩,
  ⟨82, ⟨[.d (.sl .str), .d .str], []⟩, ⟨[.d (.int .i64)], []⟩, []⟩,
  ⟨83, ⟨[.d .str], []⟩, ⟨[.d (.sl .str)], []⟩, []⟩]
def spaces : List Int := [0, 0, 0, 0, 0, 0, 0, 0, 0, 1, 1, 1, 1, 1, 0, 0, 0, 0, 0, 0, 0, 0, 0, 0, 0, 0, 0, 0, 0, 0, 0, 0, 1, 0, 0, 0, 0, 0, 0, 0, 0, 0, 0, 0, 0, 0, 0, 0, 0, 0, 0, 0, 0, 0, 0, 0, 0, 0, 0, 0, 0, 0, 0, 0, 0, 0, 0, 0, 0, 0, 0, 0, 0, 0, 0, 0, 0, 0, 0, 0, 0, 0, 0, 0, 0, 0, 0, 0, 0, 0, 0, 0, 0, 0, 0, 0, 0, 0, 0, 0, 0, 0, 0, 0, 0, 0, 0, 0, 0, 0, 0, 0, 0, 0, 0, 0, 0, 0, 0, 0, 0, 0, 0, 0, 0, 0, 0, 0, 0, 0, 0, 0, 0, 0, 0, 0, 0, 0, 0, 0, 0, 0, 0, 0, 0, 0, 0, 0, 0, 0, 0, 0, 0, 0, 0, 0, 0, 0, 0, 0, 0, 0, 0, 0, 0, 0, 0, 0, 0, 0, 0, 0, 0, 0, 0, 0, 0, 0, 0, 0, 0, 0, 0, 0, 0, 0, 0, 0, 0, 0, 0, 0, 0, 0, 0, 0, 0, 0, 0, 0, 0, 0, 0, 0, 0, 0, 0, 0, 0, 0, 0, 0, 0, 0, 0, 0, 0, 0, 0, 0, 0, 0, 0, 0, 0, 0, 0, 0, 0, 0, 0, 0, 0, 0, 0, 0, 0, 0, 0, 0, 0, 0, 0, 0, 0, 0, 0, 0, 0, 0, 0, 0, 0, 0, 0, 0]
def glob : Nat → Option ((t : Ty) × den t)
  | 0 => some ⟨.arr 256 (.int .u8), spaces⟩
  | _ => none
def tab : List (Nat × Ty) := [
  (2, (.int .i64)),
  (3, (.int .i64)),
  (4, .bool),
  (5, (.int .u8)),
  (6, (.int .u8)),
  (7, (.st (.pair (.int .i64) (.pair (.int .i64) (.pair .bool (.int .u8)))))),
  (8, (.st (.pair (.int .i64) (.pair (.int .i64) (.pair .bool (.int .u8)))))),
  (9, .str),
  (10, .str),
  (11, .str),
  (12, (.int .u64)),
  (13, (.st (.pair .str (.int .u64)))),
  (14, (.st (.pair .str (.int .u64)))),
  (21, (.int .i32)),
  (22, (.sl (.st (.pair .str (.pair (.int .i64) (.int .i64)))))),
  (23, (.st (.pair .str (.pair (.int .i64) (.int .i64))))),
  (24, (.st (.pair .str (.pair (.int .i64) (.int .i64))))),
  (27, (.sl .str)),
  (28, (.int .i64)),
  (38, (.sl (.int .i64))),
  (53, (.int .i64)),
  (54, (.st (.pair (.int .i64) (.pair .str (.pair (.int .i64) (.int .i64)))))),
  (55, (.st (.pair (.int .i64) (.pair .str (.pair (.int .i64) (.int .i64)))))),
  (58, (.sl (.sl (.int .i64)))),
  (65, (.int .u64)),
  (75, (.int .i64)),
  (83, (.int .u32)),
  (85, (.int .u64)),
  (90, (.int .u64)),
  (101, (.arr 256 (.int .u8))),
  (104, (.sl (.st (.pair (.int .i64) (.int .i64))))),
  (105, (.st (.pair (.int .i64) (.int .i64)))),
  (106, (.st (.pair (.int .i64) (.int .i64)))),
  (109, (.sl (.st (.pair (.int .u16) (.pair (.int .u16) (.int .u16)))))),
  (110, (.sl (.st (.pair (.int .u32) (.pair (.int .u32) (.int .u32)))))),
  (111, (.st (.pair (.sl (.st (.pair (.int .u16) (.pair (.int .u16) (.int .u16))))) (.pair (.sl (.st (.pair (.int .u32) (.pair (.int .u32) (.int .u32))))) (.int .i64))))),
  (112, (.st (.pair (.sl (.st (.pair (.int .u16) (.pair (.int .u16) (.int .u16))))) (.pair (.sl (.st (.pair (.int .u32) (.pair (.int .u32) (.int .u32))))) (.int .i64))))),
  (113, (.int .u16)),
  (114, (.st (.pair (.int .u16) (.pair (.int .u16) (.int .u16))))),
  (115, (.st (.pair (.int .u16) (.pair (.int .u16) (.int .u16))))),
  (117, (.st (.pair (.int .u32) (.pair (.int .u32) (.int .u32))))),
  (118, (.st (.pair (.int .u32) (.pair (.int .u32) (.int .u32))))),
  (129, (.int .u8)),
  (130, (.int .u8)),
  (133, (.int .i32)),
  (134, (.int .i32))]
def eqs : List Nat := [23, 24]
noncomputable def C : Cx := ⟨Tryd.prog, sigs, glob, tab, eqs, 9999⟩

def g_sort : denP (sigAt C.sigs 28).ins.tys → Option (denP (sigAt C.sigs 28).outs.tys) := fun x =>
  bif x.1.l.all goodF && uniqF x.1.l && decide (x.1.l.length < 4611686018427387904) then some ((⟨x.1.nil, x.1.l.mergeSort fun a b => !lessF b a⟩ : Sl Fix1), ()) else none
def g_ix : denP (sigAt C.sigs 63).ins.tys → Option (denP (sigAt C.sigs 63).outs.tys) := fun x => some (ixB x.2.1 x.1, ())
def g_grow : denP (sigAt C.sigs 59).ins.tys → Option (denP (sigAt C.sigs 59).outs.tys) := fun x =>
  bif x.1.nil && x.1.l.isEmpty && decide (0 ≤ x.2.1) && decide (x.2.1 ≤ 1000000) then some ((⟨decide (x.2.1 = 0), ([] : List Int)⟩ : Sl Int), ()) else none

theorem c_ix : CallsAs C 63 g_ix := by
  intro x y h
  obtain ⟨l, c, u⟩ := x
  have h : some ((ixB c l, ()) : Int × Unit) = some y := h
  injection h with h
  subst h
  exact Call.prim 63 _ _ (ix_okS (C := C) (f := 74) ⟨_, Tryd.func74, by kernel_rfl⟩ (fun s c w => Any.strings_IndexByte Tryd.ixL s c w) l c)

theorem c_grow : CallsAs C 59 g_grow := by
  intro x y h
  obtain ⟨⟨nil, l⟩, n, u⟩ := x
  have h : (bif nil && l.isEmpty && decide (0 ≤ n) && decide (n ≤ 1000000) then some ((⟨decide (n = 0), ([] : List Int)⟩, ()) : Sl Int × Unit) else none) = some y := h
  cases hb : (nil && l.isEmpty && decide (0 ≤ n) && decide (n ≤ 1000000)) with
  | false => rw [hb] at h; cases h
  | true =>
    rw [hb] at h
    injection h with h
    subst h
    simp only [Bool.and_eq_true, decide_eq_true_eq] at hb
    obtain ⟨⟨⟨h1, h2⟩, h3⟩, h4⟩ := hb
    subst h1
    obtain rfl : l = [] := List.isEmpty_iff.1 h2
    obtain ⟨k, rfl⟩ := Int.eq_ofNat_of_zero_le h3
    have h4 : (k : Int) ≤ 1000000 := h4
    have hmi : (Tryd.prog.info? (Tryd.growL_ren.t 25)).map (fun i => (i.zero, i.size, i.bytes)) = some (some (.int .i64 0), 1, 8) := by kernel_rfl
    obtain ⟨i0, i1, i2⟩ := Option.map_eq_some_iff.1 hmi
    injection i2 with i2 i3
    injection i3 with i3 i4
    have key := grow_okS (C := C) (f := 60) ⟨_, Tryd.func60, by kernel_rfl⟩
      (fun w => Any8.slices_Grow_room Tryd.growL none 0 0 0 w (Nat.le_refl _) (by decide) (by decide) (Nat.le_refl _))
      (fun n w hn hn2 => by
        have g := Any8.slices_Grow_grow Tryd.growL i0 (.int .i64 0) i1 i2 (by omega) none 0 0 n [] w (Nat.le_refl _) (by omega) (by rw [i4]; omega) (by omega) (by rw [i3]; rfl) (fun _ => rfl) (fun a h => by cases h)
        refine Calls.mono g fun e w' ⟨e1, e2⟩ => ⟨_, _, _, e1, e2, ?_⟩
        simp [Builtin.zeroCells]
        have hs : (Value.int IntKind.i64 0).cells.size = 1 := rfl
        rw [hs]
        omega) k (by omega)
    have e : decide ((k : Int) = 0) = decide (k = 0) := decide_eq_decide.2 (by omega)
    rw [e]
    exact Call.prim 59 _ _ key

theorem c_sort : CallsAs C 28 g_sort := by
  intro x y h
  obtain ⟨⟨nil, l⟩, u⟩ := x
  have h : (bif l.all goodF && uniqF l && decide (l.length < 4611686018427387904) then some ((⟨nil, l.mergeSort fun a b => !lessF b a⟩ : Sl Fix1), ()) else none) = some y := h
  cases hg : (l.all goodF && uniqF l && decide (l.length < 4611686018427387904)) with
  | false => rw [hg] at h; cases h
  | true =>
    rw [hg] at h
    injection h with h
    subst h
    simp only [Bool.and_eq_true, decide_eq_true_eq] at hg
    obtain ⟨⟨g1, g2⟩, g3⟩ := hg
    have main : ∀ (m : List Fix1) (hm : ∀ x, x ∈ m → goodF x = true) (hu : ∀ x y, x ∈ m → y ∈ m → x.1 = y.1 → x = y) (d : Fix1) (hd : d ∈ m) (l' : List (FT m)), l'.length < 4611686018427387904 →
        FnOkS C (sortSig 31 32 tyFix) (⟨nil, l'.map (·.1)⟩, ()) (⟨nil, (l'.map (·.1)).mergeSort fun a b => !lessF b a⟩, ()) := by
      intro m hm hu d hd l' hl'
      letI : Inhabited (FT m) := ⟨⟨d, hd⟩⟩
      have hs : ∀ (blk off cap : Nat) (a : Array (FT m)) (w : World), HoldsK (fun x : FT m => encF x.1) (csz tyFix) w blk off a → blk < w.heap.size → a.size < 4611686018427387904 →
          Calls C.P 31 #[.slice (some ⟨blk, off, none⟩) a.size cap, .func (.func 32) #[] #[]] w fun e w' => e = .returned (.tuple #[]) ∧ ∃ n os, w' = sortWorldK (fun x : FT m => encF x.1) (csz tyFix) w blk off n (a.toList.mergeSort fun x y => !lessF y.1 x.1).toArray os := by
        intro blk off cap a w hH hb hsz
        have := AnyQ.slices_SortFunc_total Tryd.sortL 3 Tryd.isAgg24 Tryd.sizeOf24 (fun x : FT m => encF x.1) (fun _ => rfl) (fun x v hv => by
          simp only [encF, List.mem_cons, List.not_mem_nil, or_false] at hv
          rcases hv with rfl | rfl | rfl <;> rfl) (cfF m) (swoF hm) 32 #[] blk off cap a w (enters_of Tryd.func32 (by kernel_rfl) rfl) (fun _ _ _ _ x y => compare_at _ _ _ _ _ _ _) hH hb hsz
          (fun x y h1 h2 => by rw [ltOf_cf hm] at h1 h2; exact Subtype.ext (hu _ _ x.2 y.2 (strLt_total _ _ h1 h2)))
        simp only [ltOf_cf hm] at this
        exact this
      have key := sort_okS (C := C) (f := 31) (g := 32) (t := tyFix) (fun x : FT m => encF x.1) (·.1) (fun l => l.mergeSort fun x y => !lessF y.1 x.1) (by intro h; cases h) (fun imm w x cs => relF imm w x.1 (hm _ x.2) cs) (fun _ => rfl) (fun l => List.length_mergeSort l)
        ⟨_, Tryd.func31, by kernel_rfl⟩ (fun p cap fv w => AnyF.slices_SortFunc_none Tryd.sortL p cap fv w) hs nil l' hl'
      have e : (l'.mergeSort fun x y => !lessF y.1 x.1).map (·.1) = (l'.map (·.1)).mergeSort fun a b => !lessF b a := List.map_mergeSort (fun a _ b _ => rfl)
      rw [e] at key
      exact key
    cases l with
    | nil => exact Call.prim 28 _ _ (main [([], 0, 0)] (fun x hx => by rw [List.mem_singleton.1 hx]; decide) (fun x y hx hy _ => by rw [List.mem_singleton.1 hx, List.mem_singleton.1 hy]) _ (List.mem_singleton.2 rfl) [] (by decide))
    | cons a r =>
      have key := main (a :: r) (fun x hx => List.all_eq_true.1 g1 x hx) (fun x y hx hy e => uniqF_spec g2 hx hy e) a (List.mem_cons_self ..) (a :: r).attach (by rw [List.length_attach]; exact g3)
      rw [List.attach_map_subtype_val] at key
      exact Call.prim 28 _ _ key

theorem e_lex_small (L : Lf) (R : Oracle C.sigs) (x : denP (sigAt C.sigs 51).ins.tys) : evalFn L C R 51 x = b_lex_small L  x := by kernel_rfl
theorem o_lex_small (x : denP (sigAt C.sigs 51).ins.tys) : evalFn lf C orc0 51 x = f_lex_small x := (e_lex_small lf _ x).trans (by kernel_rfl)
theorem c_lex_small : CallsAs C 51 f_lex_small :=
  fun x y h => Ev.Call.mk (C := C) _ orc0_ok 51 x y ((o_lex_small x).trans h)
theorem e_lex_great (L : Lf) (R : Oracle C.sigs) (x : denP (sigAt C.sigs 52).ins.tys) : evalFn L C R 52 x = b_lex_great L  x := by kernel_rfl
theorem o_lex_great (x : denP (sigAt C.sigs 52).ins.tys) : evalFn lf C orc0 52 x = f_lex_great x := (e_lex_great lf _ x).trans (by kernel_rfl)
theorem c_lex_great : CallsAs C 52 f_lex_great :=
  fun x y h => Ev.Call.mk (C := C) _ orc0_ok 52 x y ((o_lex_great x).trans h)
theorem e_lex_digit (L : Lf) (R : Oracle C.sigs) (x : denP (sigAt C.sigs 60).ins.tys) : evalFn L C R 60 x = b_lex_digit L  x := by kernel_rfl
theorem o_lex_digit (x : denP (sigAt C.sigs 60).ins.tys) : evalFn lf C orc0 60 x = f_lex_digit x := (e_lex_digit lf _ x).trans (by kernel_rfl)
theorem c_lex_digit : CallsAs C 60 f_lex_digit :=
  fun x y h => Ev.Call.mk (C := C) _ orc0_ok 60 x y ((o_lex_digit x).trans h)
theorem e_lex_inner (L : Lf) (R : Oracle C.sigs) (x : denP (sigAt C.sigs 49).ins.tys) : evalFn L C R 49 x = b_lex_inner L (R 51) (R 52) (R 60) x := by kernel_rfl
theorem o_lex_inner (x : denP (sigAt C.sigs 49).ins.tys) : evalFn lf C (orc1 51 f_lex_small (orc1 52 f_lex_great (orc1 60 f_lex_digit orc0))) 49 x = f_lex_inner x := (e_lex_inner lf _ x).trans (by kernel_rfl)
theorem c_lex_inner : CallsAs C 49 f_lex_inner :=
  fun x y h => Ev.Call.mk (C := C) _ (orc1_ok c_lex_small (orc1_ok c_lex_great (orc1_ok c_lex_digit orc0_ok))) 49 x y ((o_lex_inner x).trans h)
theorem e_lex_all (L : Lf) (R : Oracle C.sigs) (x : denP (sigAt C.sigs 47).ins.tys) : evalFn L C R 47 x = b_lex_all L (R 49) x := by kernel_rfl
theorem o_lex_all (x : denP (sigAt C.sigs 47).ins.tys) : evalFn lf C (orc1 49 f_lex_inner orc0) 47 x = f_lex_all x := (e_lex_all lf _ x).trans (by kernel_rfl)
theorem c_lex_all : CallsAs C 47 f_lex_all :=
  fun x y h => Ev.Call.mk (C := C) _ (orc1_ok c_lex_inner orc0_ok) 47 x y ((o_lex_all x).trans h)
theorem e_slices_Index (L : Lf) (R : Oracle C.sigs) (x : denP (sigAt C.sigs 66).ins.tys) : evalFn L C R 66 x = b_slices_Index L  x := by kernel_rfl
theorem o_slices_Index (x : denP (sigAt C.sigs 66).ins.tys) : evalFn lf C orc0 66 x = f_slices_Index x := (e_slices_Index lf _ x).trans (by kernel_rfl)
theorem c_slices_Index : CallsAs C 66 f_slices_Index :=
  fun x y h => Ev.Call.mk (C := C) _ orc0_ok 66 x y ((o_slices_Index x).trans h)
theorem e_slices_Contains (L : Lf) (R : Oracle C.sigs) (x : denP (sigAt C.sigs 61).ins.tys) : evalFn L C R 61 x = b_slices_Contains L (R 66) x := by kernel_rfl
theorem o_slices_Contains (x : denP (sigAt C.sigs 61).ins.tys) : evalFn lf C (orc1 66 f_slices_Index orc0) 61 x = f_slices_Contains x := (e_slices_Contains lf _ x).trans (by kernel_rfl)
theorem c_slices_Contains : CallsAs C 61 f_slices_Contains :=
  fun x y h => Ev.Call.mk (C := C) _ (orc1_ok c_slices_Index orc0_ok) 61 x y ((o_slices_Contains x).trans h)
theorem e_strings_Fields (L : Lf) (R : Oracle C.sigs) (x : denP (sigAt C.sigs 67).ins.tys) : evalFn L C R 67 x = b_strings_Fields L  x := by kernel_rfl
theorem o_strings_Fields (x : denP (sigAt C.sigs 67).ins.tys) : evalFn lf C orc0 67 x = f_strings_Fields x := (e_strings_Fields lf _ x).trans (by kernel_rfl)
theorem c_strings_Fields : CallsAs C 67 f_strings_Fields :=
  fun x y h => Ev.Call.mk (C := C) _ orc0_ok 67 x y ((o_strings_Fields x).trans h)
theorem e_lex_words (L : Lf) (R : Oracle C.sigs) (x : denP (sigAt C.sigs 62).ins.tys) : evalFn L C R 62 x = b_lex_words L (R 67) x := by kernel_rfl
theorem o_lex_words (x : denP (sigAt C.sigs 62).ins.tys) : evalFn lf C (orc1 67 f_strings_Fields orc0) 62 x = f_lex_words x := (e_lex_words lf _ x).trans (by kernel_rfl)
theorem c_lex_words : CallsAs C 62 f_lex_words :=
  fun x y h => Ev.Call.mk (C := C) _ (orc1_ok c_strings_Fields orc0_ok) 62 x y ((o_lex_words x).trans h)
theorem e_lex_Key (L : Lf) (R : Oracle C.sigs) (x : denP (sigAt C.sigs 50).ins.tys) : evalFn L C R 50 x = b_lex_Key L (R 61) (R 62) x := by kernel_rfl
theorem o_lex_Key (x : denP (sigAt C.sigs 50).ins.tys) : evalFn lf C (orc1 61 f_slices_Contains (orc1 62 f_lex_words orc0)) 50 x = f_lex_Key x := (e_lex_Key lf _ x).trans (by kernel_rfl)
theorem c_lex_Key : CallsAs C 50 f_lex_Key :=
  fun x y h => Ev.Call.mk (C := C) _ (orc1_ok c_slices_Contains (orc1_ok c_lex_words orc0_ok)) 50 x y ((o_lex_Key x).trans h)
theorem e_lex_Right_1 (L : Lf) (R : Oracle C.sigs) (x : denP (sigAt C.sigs 45).ins.tys) : evalFn L C R 45 x = b_lex_Right_1 L (R 47) (R 50) (R 51) x := by kernel_rfl
theorem o_lex_Right_1 (x : denP (sigAt C.sigs 45).ins.tys) : evalFn lf C (orc1 47 f_lex_all (orc1 50 f_lex_Key (orc1 51 f_lex_small orc0))) 45 x = f_lex_Right_1 x := (e_lex_Right_1 lf _ x).trans (by kernel_rfl)
theorem c_lex_Right_1 : CallsAs C 45 f_lex_Right_1 :=
  fun x y h => Ev.Call.mk (C := C) _ (orc1_ok c_lex_all (orc1_ok c_lex_Key (orc1_ok c_lex_small orc0_ok))) 45 x y ((o_lex_Right_1 x).trans h)
theorem e_lex_Right_1_v2 (L : Lf) (R : Oracle C.sigs) (x : denP (sigAt C.sigs 46).ins.tys) : evalFn L C R 46 x = b_lex_Right_1_v2 L (R 47) (R 50) (R 52) x := by kernel_rfl
theorem o_lex_Right_1_v2 (x : denP (sigAt C.sigs 46).ins.tys) : evalFn lf C (orc1 47 f_lex_all (orc1 50 f_lex_Key (orc1 52 f_lex_great orc0))) 46 x = f_lex_Right_1_v2 x := (e_lex_Right_1_v2 lf _ x).trans (by kernel_rfl)
theorem c_lex_Right_1_v2 : CallsAs C 46 f_lex_Right_1_v2 :=
  fun x y h => Ev.Call.mk (C := C) _ (orc1_ok c_lex_all (orc1_ok c_lex_Key (orc1_ok c_lex_great orc0_ok))) 46 x y ((o_lex_Right_1_v2 x).trans h)
theorem c_strings_IndexByte : CallsAs C 63 f_strings_IndexByte := c_ix
theorem e_lex_sign (L : Lf) (R : Oracle C.sigs) (x : denP (sigAt C.sigs 54).ins.tys) : evalFn L C R 54 x = b_lex_sign L (R 63) x := by kernel_rfl
theorem o_lex_sign (x : denP (sigAt C.sigs 54).ins.tys) : evalFn lf C (orc1 63 f_strings_IndexByte orc0) 54 x = f_lex_sign x := (e_lex_sign lf _ x).trans (by kernel_rfl)
theorem c_lex_sign : CallsAs C 54 f_lex_sign :=
  fun x y h => Ev.Call.mk (C := C) _ (orc1_ok c_strings_IndexByte orc0_ok) 54 x y ((o_lex_sign x).trans h)
theorem e_lex_all_v2 (L : Lf) (R : Oracle C.sigs) (x : denP (sigAt C.sigs 48).ins.tys) : evalFn L C R 48 x = b_lex_all_v2 L (R 54) x := by kernel_rfl
theorem o_lex_all_v2 (x : denP (sigAt C.sigs 48).ins.tys) : evalFn lf C (orc1 54 f_lex_sign orc0) 48 x = f_lex_all_v2 x := (e_lex_all_v2 lf _ x).trans (by kernel_rfl)
theorem c_lex_all_v2 : CallsAs C 48 f_lex_all_v2 :=
  fun x y h => Ev.Call.mk (C := C) _ (orc1_ok c_lex_sign orc0_ok) 48 x y ((o_lex_all_v2 x).trans h)
theorem e_word_Wrap (L : Lf) (R : Oracle C.sigs) (x : denP (sigAt C.sigs 53).ins.tys) : evalFn L C R 53 x = b_word_Wrap L  x := by kernel_rfl
theorem o_word_Wrap (x : denP (sigAt C.sigs 53).ins.tys) : evalFn lf C orc0 53 x = f_word_Wrap x := (e_word_Wrap lf _ x).trans (by kernel_rfl)
theorem c_word_Wrap : CallsAs C 53 f_word_Wrap :=
  fun x y h => Ev.Call.mk (C := C) _ orc0_ok 53 x y ((o_word_Wrap x).trans h)
theorem e_lex_Right (L : Lf) (R : Oracle C.sigs) (x : denP (sigAt C.sigs 35).ins.tys) : evalFn L C R 35 x = b_lex_Right L (R 45) (R 46) (R 48) (R 50) (R 53) x := by kernel_rfl
theorem o_lex_Right (x : denP (sigAt C.sigs 35).ins.tys) : evalFn lf C (orc1 45 f_lex_Right_1 (orc1 46 f_lex_Right_1_v2 (orc1 48 f_lex_all_v2 (orc1 50 f_lex_Key (orc1 53 f_word_Wrap orc0))))) 35 x = f_lex_Right x := (e_lex_Right lf _ x).trans (by kernel_rfl)
theorem c_lex_Right : CallsAs C 35 f_lex_Right :=
  fun x y h => Ev.Call.mk (C := C) _ (orc1_ok c_lex_Right_1 (orc1_ok c_lex_Right_1_v2 (orc1_ok c_lex_all_v2 (orc1_ok c_lex_Key (orc1_ok c_word_Wrap orc0_ok))))) 35 x y ((o_lex_Right x).trans h)
theorem e_fix_Right (L : Lf) (R : Oracle C.sigs) (x : denP (sigAt C.sigs 14).ins.tys) : evalFn L C R 14 x = b_fix_Right L (R 35) x := by kernel_rfl
theorem o_fix_Right (x : denP (sigAt C.sigs 14).ins.tys) : evalFn lf C (orc1 35 f_lex_Right orc0) 14 x = f_fix_Right x := (e_fix_Right lf _ x).trans (by kernel_rfl)
theorem c_fix_Right : CallsAs C 14 f_fix_Right :=
  fun x y h => Ev.Call.mk (C := C) _ (orc1_ok c_lex_Right orc0_ok) 14 x y ((o_fix_Right x).trans h)
theorem e_fix_Find_1 (L : Lf) (R : Oracle C.sigs) (x : denP (sigAt C.sigs 34).ins.tys) : evalFn L C R 34 x = b_fix_Find_1 L  x := by kernel_rfl
theorem o_fix_Find_1 (x : denP (sigAt C.sigs 34).ins.tys) : evalFn lf C orc0 34 x = f_fix_Find_1 x := (e_fix_Find_1 lf _ x).trans (by kernel_rfl)
theorem c_fix_Find_1 : CallsAs C 34 f_fix_Find_1 :=
  fun x y h => Ev.Call.mk (C := C) _ orc0_ok 34 x y ((o_fix_Find_1 x).trans h)
theorem e_slices_IndexFunc_v2 (L : Lf) (R : Oracle C.sigs) (x : denP (sigAt C.sigs 32).ins.tys) : evalFn L C R 32 x = b_slices_IndexFunc_v2 L (R 34) x := by kernel_rfl
theorem o_slices_IndexFunc_v2 (x : denP (sigAt C.sigs 32).ins.tys) : evalFn lf C (orc1 34 f_fix_Find_1 orc0) 32 x = f_slices_IndexFunc_v2 x := (e_slices_IndexFunc_v2 lf _ x).trans (by kernel_rfl)
theorem c_slices_IndexFunc_v2 : CallsAs C 32 f_slices_IndexFunc_v2 :=
  fun x y h => Ev.Call.mk (C := C) _ (orc1_ok c_fix_Find_1 orc0_ok) 32 x y ((o_slices_IndexFunc_v2 x).trans h)
theorem e_fix_Find (L : Lf) (R : Oracle C.sigs) (x : denP (sigAt C.sigs 12).ins.tys) : evalFn L C R 12 x = b_fix_Find L (R 32) x := by kernel_rfl
theorem o_fix_Find (x : denP (sigAt C.sigs 12).ins.tys) : evalFn lf C (orc1 32 f_slices_IndexFunc_v2 orc0) 12 x = f_fix_Find x := (e_fix_Find lf _ x).trans (by kernel_rfl)
theorem c_fix_Find : CallsAs C 12 f_fix_Find :=
  fun x y h => Ev.Call.mk (C := C) _ (orc1_ok c_slices_IndexFunc_v2 orc0_ok) 12 x y ((o_fix_Find x).trans h)
theorem e_fix_Check_1 (L : Lf) (R : Oracle C.sigs) (x : denP (sigAt C.sigs 38).ins.tys) : evalFn L C R 38 x = b_fix_Check_1 L (R 14) x := by kernel_rfl
theorem o_fix_Check_1 (x : denP (sigAt C.sigs 38).ins.tys) : evalFn lf C (orc1 14 f_fix_Right orc0) 38 x = f_fix_Check_1 x := (e_fix_Check_1 lf _ x).trans (by kernel_rfl)
theorem c_fix_Check_1 : CallsAs C 38 f_fix_Check_1 :=
  fun x y h => Ev.Call.mk (C := C) _ (orc1_ok c_fix_Right orc0_ok) 38 x y ((o_fix_Check_1 x).trans h)
theorem e_slices_IndexFunc (L : Lf) (R : Oracle C.sigs) (x : denP (sigAt C.sigs 31).ins.tys) : evalFn L C R 31 x = b_slices_IndexFunc L (R 38) x := by kernel_rfl
theorem o_slices_IndexFunc (x : denP (sigAt C.sigs 31).ins.tys) : evalFn lf C (orc1 38 f_fix_Check_1 orc0) 31 x = f_slices_IndexFunc x := (e_slices_IndexFunc lf _ x).trans (by kernel_rfl)
theorem c_slices_IndexFunc : CallsAs C 31 f_slices_IndexFunc :=
  fun x y h => Ev.Call.mk (C := C) _ (orc1_ok c_fix_Check_1 orc0_ok) 31 x y ((o_slices_IndexFunc x).trans h)
theorem e_slices_ContainsFunc (L : Lf) (R : Oracle C.sigs) (x : denP (sigAt C.sigs 37).ins.tys) : evalFn L C R 37 x = b_slices_ContainsFunc L (R 31) x := by kernel_rfl
theorem o_slices_ContainsFunc (x : denP (sigAt C.sigs 37).ins.tys) : evalFn lf C (orc1 31 f_slices_IndexFunc orc0) 37 x = f_slices_ContainsFunc x := (e_slices_ContainsFunc lf _ x).trans (by kernel_rfl)
theorem c_slices_ContainsFunc : CallsAs C 37 f_slices_ContainsFunc :=
  fun x y h => Ev.Call.mk (C := C) _ (orc1_ok c_slices_IndexFunc orc0_ok) 37 x y ((o_slices_ContainsFunc x).trans h)
theorem e_fix_Check (L : Lf) (R : Oracle C.sigs) (x : denP (sigAt C.sigs 16).ins.tys) : evalFn L C R 16 x = b_fix_Check L (R 12) (R 37) x := by kernel_rfl
theorem o_fix_Check (x : denP (sigAt C.sigs 16).ins.tys) : evalFn lf C (orc1 12 f_fix_Find (orc1 37 f_slices_ContainsFunc orc0)) 16 x = f_fix_Check x := (e_fix_Check lf _ x).trans (by kernel_rfl)
theorem c_fix_Check : CallsAs C 16 f_fix_Check :=
  fun x y h => Ev.Call.mk (C := C) _ (orc1_ok c_fix_Find (orc1_ok c_slices_ContainsFunc orc0_ok)) 16 x y ((o_fix_Check x).trans h)
theorem e_fix_Set_1 (L : Lf) (R : Oracle C.sigs) (x : denP (sigAt C.sigs 27).ins.tys) : evalFn L C R 27 x = b_fix_Set_1 L  x := by kernel_rfl
theorem o_fix_Set_1 (x : denP (sigAt C.sigs 27).ins.tys) : evalFn lf C orc0 27 x = f_fix_Set_1 x := (e_fix_Set_1 lf _ x).trans (by kernel_rfl)
theorem c_fix_Set_1 : CallsAs C 27 f_fix_Set_1 :=
  fun x y h => Ev.Call.mk (C := C) _ orc0_ok 27 x y ((o_fix_Set_1 x).trans h)
theorem e_slices_IndexFunc_v3 (L : Lf) (R : Oracle C.sigs) (x : denP (sigAt C.sigs 33).ins.tys) : evalFn L C R 33 x = b_slices_IndexFunc_v3 L (R 27) x := by kernel_rfl
theorem o_slices_IndexFunc_v3 (x : denP (sigAt C.sigs 33).ins.tys) : evalFn lf C (orc1 27 f_fix_Set_1 orc0) 33 x = f_slices_IndexFunc_v3 x := (e_slices_IndexFunc_v3 lf _ x).trans (by kernel_rfl)
theorem c_slices_IndexFunc_v3 : CallsAs C 33 f_slices_IndexFunc_v3 :=
  fun x y h => Ev.Call.mk (C := C) _ (orc1_ok c_fix_Set_1 orc0_ok) 33 x y ((o_slices_IndexFunc_v3 x).trans h)
theorem e_slices_DeleteFunc (L : Lf) (R : Oracle C.sigs) (x : denP (sigAt C.sigs 25).ins.tys) : evalFn L C R 25 x = b_slices_DeleteFunc L (R 27) (R 33) x := by kernel_rfl
theorem o_slices_DeleteFunc (x : denP (sigAt C.sigs 25).ins.tys) : evalFn lf C (orc1 27 f_fix_Set_1 (orc1 33 f_slices_IndexFunc_v3 orc0)) 25 x = f_slices_DeleteFunc x := (e_slices_DeleteFunc lf _ x).trans (by kernel_rfl)
theorem c_slices_DeleteFunc : CallsAs C 25 f_slices_DeleteFunc :=
  fun x y h => Ev.Call.mk (C := C) _ (orc1_ok c_fix_Set_1 (orc1_ok c_slices_IndexFunc_v3 orc0_ok)) 25 x y ((o_slices_DeleteFunc x).trans h)
theorem e_slices_Clone (L : Lf) (R : Oracle C.sigs) (x : denP (sigAt C.sigs 26).ins.tys) : evalFn L C R 26 x = b_slices_Clone L  x := by kernel_rfl
theorem o_slices_Clone (x : denP (sigAt C.sigs 26).ins.tys) : evalFn lf C orc0 26 x = f_slices_Clone x := (e_slices_Clone lf _ x).trans (by kernel_rfl)
theorem c_slices_Clone : CallsAs C 26 f_slices_Clone :=
  fun x y h => Ev.Call.mk (C := C) _ orc0_ok 26 x y ((o_slices_Clone x).trans h)
theorem c_slices_SortFunc : CallsAs C 28 f_slices_SortFunc := c_sort
theorem e_fix_Set (L : Lf) (R : Oracle C.sigs) (x : denP (sigAt C.sigs 9).ins.tys) : evalFn L C R 9 x = b_fix_Set L (R 14) (R 16) (R 25) (R 26) (R 28) x := by kernel_rfl
theorem o_fix_Set (x : denP (sigAt C.sigs 9).ins.tys) : evalFn lf C (orc1 14 f_fix_Right (orc1 16 f_fix_Check (orc1 25 f_slices_DeleteFunc (orc1 26 f_slices_Clone (orc1 28 f_slices_SortFunc orc0))))) 9 x = f_fix_Set x := (e_fix_Set lf _ x).trans (by kernel_rfl)
theorem c_fix_Set : CallsAs C 9 f_fix_Set :=
  fun x y h => Ev.Call.mk (C := C) _ (orc1_ok c_fix_Right (orc1_ok c_fix_Check (orc1_ok c_slices_DeleteFunc (orc1_ok c_slices_Clone (orc1_ok c_slices_SortFunc orc0_ok))))) 9 x y ((o_fix_Set x).trans h)
theorem c_slices_Grow : CallsAs C 59 f_slices_Grow := c_grow
theorem e_slices_Concat (L : Lf) (R : Oracle C.sigs) (x : denP (sigAt C.sigs 40).ins.tys) : evalFn L C R 40 x = b_slices_Concat L (R 59) x := by kernel_rfl
theorem o_slices_Concat (x : denP (sigAt C.sigs 40).ins.tys) : evalFn lf C (orc1 59 f_slices_Grow orc0) 40 x = f_slices_Concat x := (e_slices_Concat lf _ x).trans (by kernel_rfl)
theorem c_slices_Concat : CallsAs C 40 f_slices_Concat :=
  fun x y h => Ev.Call.mk (C := C) _ (orc1_ok c_slices_Grow orc0_ok) 40 x y ((o_slices_Concat x).trans h)
theorem e_fix_Climb_1 (L : Lf) (R : Oracle C.sigs) (x : denP (sigAt C.sigs 39).ins.tys) : evalFn L C R 39 x = b_fix_Climb_1 L (R 40) x := by kernel_rfl
theorem o_fix_Climb_1 (x : denP (sigAt C.sigs 39).ins.tys) : evalFn lf C (orc1 40 f_slices_Concat orc0) 39 x = f_fix_Climb_1 x := (e_fix_Climb_1 lf _ x).trans (by kernel_rfl)
theorem c_fix_Climb_1 : CallsAs C 39 f_fix_Climb_1 :=
  fun x y h => Ev.Call.mk (C := C) _ (orc1_ok c_slices_Concat orc0_ok) 39 x y ((o_fix_Climb_1 x).trans h)
theorem e_fix_Climb (L : Lf) (R : Oracle C.sigs) (x : denP (sigAt C.sigs 19).ins.tys) : evalFn L C R 19 x = b_fix_Climb L (R 12) (R 16) (R 39) x := by kernel_rfl
theorem o_fix_Climb (x : denP (sigAt C.sigs 19).ins.tys) : evalFn lf C (orc1 12 f_fix_Find (orc1 16 f_fix_Check (orc1 39 f_fix_Climb_1 orc0))) 19 x = f_fix_Climb x := (e_fix_Climb lf _ x).trans (by kernel_rfl)
theorem c_fix_Climb : CallsAs C 19 f_fix_Climb :=
  fun x y h => Ev.Call.mk (C := C) _ (orc1_ok c_fix_Find (orc1_ok c_fix_Check (orc1_ok c_fix_Climb_1 orc0_ok))) 19 x y ((o_fix_Climb x).trans h)
theorem e_ref02_Row (L : Lf) (R : Oracle C.sigs) (x : denP (sigAt C.sigs 21).ins.tys) : evalFn L C R 21 x = b_ref02_Row L  x := by kernel_rfl
theorem o_ref02_Row (x : denP (sigAt C.sigs 21).ins.tys) : evalFn lf C orc0 21 x = f_ref02_Row x := (e_ref02_Row lf _ x).trans (by kernel_rfl)
theorem c_ref02_Row : CallsAs C 21 f_ref02_Row :=
  fun x y h => Ev.Call.mk (C := C) _ orc0_ok 21 x y ((o_ref02_Row x).trans h)
theorem e_fix_Flat_1 (L : Lf) (R : Oracle C.sigs) (x : denP (sigAt C.sigs 42).ins.tys) : evalFn L C R 42 x = b_fix_Flat_1 L (R 42) x := by kernel_rfl
theorem o_fix_Flat_1 (g : denP (sigAt C.sigs 42).ins.tys → Option (denP (sigAt C.sigs 42).outs.tys)) (x : denP (sigAt C.sigs 42).ins.tys) : evalFn lf C (orc1 42 g orc0) 42 x = g_fix_Flat_1 g x := (e_fix_Flat_1 lf _ x).trans (by kernel_rfl)
theorem c_fix_Flat_1 : CallsAs C 42 f_fix_Flat_1 :=
  callRec fun g hg x y h => Ev.Call.mk (C := C) _ (orc1_ok hg orc0_ok) 42 x y ((o_fix_Flat_1 g x).trans h)
theorem e_fix_Flat (L : Lf) (R : Oracle C.sigs) (x : denP (sigAt C.sigs 22).ins.tys) : evalFn L C R 22 x = b_fix_Flat L (R 42) x := by kernel_rfl
theorem o_fix_Flat (x : denP (sigAt C.sigs 22).ins.tys) : evalFn lf C (orc1 42 f_fix_Flat_1 orc0) 22 x = f_fix_Flat x := (e_fix_Flat lf _ x).trans (by kernel_rfl)
theorem c_fix_Flat : CallsAs C 22 f_fix_Flat :=
  fun x y h => Ev.Call.mk (C := C) _ (orc1_ok c_fix_Flat_1 orc0_ok) 22 x y ((o_fix_Flat x).trans h)
theorem e_law04_awake (L : Lf) (R : Oracle C.sigs) (x : denP (sigAt C.sigs 7).ins.tys) : evalFn L C R 7 x = b_law04_awake L (R 9) (R 12) (R 14) (R 16) (R 19) (R 21) (R 22) x := by kernel_rfl
theorem o_law04_awake (x : denP (sigAt C.sigs 7).ins.tys) : evalFn lf C (orc1 9 f_fix_Set (orc1 12 f_fix_Find (orc1 14 f_fix_Right (orc1 16 f_fix_Check (orc1 19 f_fix_Climb (orc1 21 f_ref02_Row (orc1 22 f_fix_Flat orc0))))))) 7 x = f_law04_awake x := (e_law04_awake lf _ x).trans (by kernel_rfl)
theorem c_law04_awake : CallsAs C 7 f_law04_awake :=
  fun x y h => Ev.Call.mk (C := C) _ (orc1_ok c_fix_Set (orc1_ok c_fix_Find (orc1_ok c_fix_Right (orc1_ok c_fix_Check (orc1_ok c_fix_Climb (orc1_ok c_ref02_Row (orc1_ok c_fix_Flat orc0_ok))))))) 7 x y ((o_law04_awake x).trans h)
theorem e_law04_few (L : Lf) (R : Oracle C.sigs) (x : denP (sigAt C.sigs 8).ins.tys) : evalFn L C R 8 x = b_law04_few L  x := by kernel_rfl
theorem o_law04_few (x : denP (sigAt C.sigs 8).ins.tys) : evalFn lf C orc0 8 x = f_law04_few x := (e_law04_few lf _ x).trans (by kernel_rfl)
theorem c_law04_few : CallsAs C 8 f_law04_few :=
  fun x y h => Ev.Call.mk (C := C) _ orc0_ok 8 x y ((o_law04_few x).trans h)
theorem e_law04_own (L : Lf) (R : Oracle C.sigs) (x : denP (sigAt C.sigs 10).ins.tys) : evalFn L C R 10 x = b_law04_own L  x := by kernel_rfl
theorem o_law04_own (x : denP (sigAt C.sigs 10).ins.tys) : evalFn lf C orc0 10 x = f_law04_own x := (e_law04_own lf _ x).trans (by kernel_rfl)
theorem c_law04_own : CallsAs C 10 f_law04_own :=
  fun x y h => Ev.Call.mk (C := C) _ orc0_ok 10 x y ((o_law04_own x).trans h)
theorem e_ref03_is (L : Lf) (R : Oracle C.sigs) (x : denP (sigAt C.sigs 55).ins.tys) : evalFn L C R 55 x = b_ref03_is L  x := by kernel_rfl
theorem o_ref03_is (x : denP (sigAt C.sigs 55).ins.tys) : evalFn lf C orc0 55 x = f_ref03_is x := (e_ref03_is lf _ x).trans (by kernel_rfl)
theorem c_ref03_is : CallsAs C 55 f_ref03_is :=
  fun x y h => Ev.Call.mk (C := C) _ orc0_ok 55 x y ((o_ref03_is x).trans h)
theorem e_ref03_while (L : Lf) (R : Oracle C.sigs) (x : denP (sigAt C.sigs 56).ins.tys) : evalFn L C R 56 x = b_ref03_while L (R 55) x := by kernel_rfl
theorem o_ref03_while (x : denP (sigAt C.sigs 56).ins.tys) : evalFn lf C (orc1 55 f_ref03_is orc0) 56 x = f_ref03_while x := (e_ref03_while lf _ x).trans (by kernel_rfl)
theorem c_ref03_while : CallsAs C 56 f_ref03_while :=
  fun x y h => Ev.Call.mk (C := C) _ (orc1_ok c_ref03_is orc0_ok) 56 x y ((o_ref03_while x).trans h)
theorem e_ref03_words (L : Lf) (R : Oracle C.sigs) (x : denP (sigAt C.sigs 64).ins.tys) : evalFn L C R 64 x = b_ref03_words L  x := by kernel_rfl
theorem o_ref03_words (x : denP (sigAt C.sigs 64).ins.tys) : evalFn lf C orc0 64 x = f_ref03_words x := (e_ref03_words lf _ x).trans (by kernel_rfl)
theorem c_ref03_words : CallsAs C 64 f_ref03_words :=
  fun x y h => Ev.Call.mk (C := C) _ orc0_ok 64 x y ((o_ref03_words x).trans h)
theorem e_ref03_Key (L : Lf) (R : Oracle C.sigs) (x : denP (sigAt C.sigs 57).ins.tys) : evalFn L C R 57 x = b_ref03_Key L (R 64) x := by kernel_rfl
theorem o_ref03_Key (x : denP (sigAt C.sigs 57).ins.tys) : evalFn lf C (orc1 64 f_ref03_words orc0) 57 x = f_ref03_Key x := (e_ref03_Key lf _ x).trans (by kernel_rfl)
theorem c_ref03_Key : CallsAs C 57 f_ref03_Key :=
  fun x y h => Ev.Call.mk (C := C) _ (orc1_ok c_ref03_words orc0_ok) 57 x y ((o_ref03_Key x).trans h)
theorem e_ref01_back (L : Lf) (R : Oracle C.sigs) (x : denP (sigAt C.sigs 65).ins.tys) : evalFn L C R 65 x = b_ref01_back L  x := by kernel_rfl
theorem o_ref01_back (x : denP (sigAt C.sigs 65).ins.tys) : evalFn lf C orc0 65 x = f_ref01_back x := (e_ref01_back lf _ x).trans (by kernel_rfl)
theorem c_ref01_back : CallsAs C 65 f_ref01_back :=
  fun x y h => Ev.Call.mk (C := C) _ orc0_ok 65 x y ((o_ref01_back x).trans h)
theorem e_ref01_Wrap (L : Lf) (R : Oracle C.sigs) (x : denP (sigAt C.sigs 58).ins.tys) : evalFn L C R 58 x = b_ref01_Wrap L (R 65) x := by kernel_rfl
theorem o_ref01_Wrap (x : denP (sigAt C.sigs 58).ins.tys) : evalFn lf C (orc1 65 f_ref01_back orc0) 58 x = f_ref01_Wrap x := (e_ref01_Wrap lf _ x).trans (by kernel_rfl)
theorem c_ref01_Wrap : CallsAs C 58 f_ref01_Wrap :=
  fun x y h => Ev.Call.mk (C := C) _ (orc1_ok c_ref01_back orc0_ok) 58 x y ((o_ref01_Wrap x).trans h)
theorem e_ref03_Right (L : Lf) (R : Oracle C.sigs) (x : denP (sigAt C.sigs 36).ins.tys) : evalFn L C R 36 x = b_ref03_Right L (R 55) (R 56) (R 57) (R 58) x := by kernel_rfl
theorem o_ref03_Right (x : denP (sigAt C.sigs 36).ins.tys) : evalFn lf C (orc1 55 f_ref03_is (orc1 56 f_ref03_while (orc1 57 f_ref03_Key (orc1 58 f_ref01_Wrap orc0)))) 36 x = f_ref03_Right x := (e_ref03_Right lf _ x).trans (by kernel_rfl)
theorem c_ref03_Right : CallsAs C 36 f_ref03_Right :=
  fun x y h => Ev.Call.mk (C := C) _ (orc1_ok c_ref03_is (orc1_ok c_ref03_while (orc1_ok c_ref03_Key (orc1_ok c_ref01_Wrap orc0_ok)))) 36 x y ((o_ref03_Right x).trans h)
theorem e_ref04_Right (L : Lf) (R : Oracle C.sigs) (x : denP (sigAt C.sigs 15).ins.tys) : evalFn L C R 15 x = b_ref04_Right L (R 36) x := by kernel_rfl
theorem o_ref04_Right (x : denP (sigAt C.sigs 15).ins.tys) : evalFn lf C (orc1 36 f_ref03_Right orc0) 15 x = f_ref04_Right x := (e_ref04_Right lf _ x).trans (by kernel_rfl)
theorem c_ref04_Right : CallsAs C 15 f_ref04_Right :=
  fun x y h => Ev.Call.mk (C := C) _ (orc1_ok c_ref03_Right orc0_ok) 15 x y ((o_ref04_Right x).trans h)
theorem e_ref04_Check (L : Lf) (R : Oracle C.sigs) (x : denP (sigAt C.sigs 17).ins.tys) : evalFn L C R 17 x = b_ref04_Check L (R 15) x := by kernel_rfl
theorem o_ref04_Check (x : denP (sigAt C.sigs 17).ins.tys) : evalFn lf C (orc1 15 f_ref04_Right orc0) 17 x = f_ref04_Check x := (e_ref04_Check lf _ x).trans (by kernel_rfl)
theorem c_ref04_Check : CallsAs C 17 f_ref04_Check :=
  fun x y h => Ev.Call.mk (C := C) _ (orc1_ok c_ref04_Right orc0_ok) 17 x y ((o_ref04_Check x).trans h)
theorem e_ref04_Set (L : Lf) (R : Oracle C.sigs) (x : denP (sigAt C.sigs 11).ins.tys) : evalFn L C R 11 x = b_ref04_Set L (R 15) (R 17) x := by kernel_rfl
theorem o_ref04_Set (x : denP (sigAt C.sigs 11).ins.tys) : evalFn lf C (orc1 15 f_ref04_Right (orc1 17 f_ref04_Check orc0)) 11 x = f_ref04_Set x := (e_ref04_Set lf _ x).trans (by kernel_rfl)
theorem c_ref04_Set : CallsAs C 11 f_ref04_Set :=
  fun x y h => Ev.Call.mk (C := C) _ (orc1_ok c_ref04_Right (orc1_ok c_ref04_Check orc0_ok)) 11 x y ((o_ref04_Set x).trans h)
theorem e_ref04_Find (L : Lf) (R : Oracle C.sigs) (x : denP (sigAt C.sigs 13).ins.tys) : evalFn L C R 13 x = b_ref04_Find L  x := by kernel_rfl
theorem o_ref04_Find (x : denP (sigAt C.sigs 13).ins.tys) : evalFn lf C orc0 13 x = f_ref04_Find x := (e_ref04_Find lf _ x).trans (by kernel_rfl)
theorem c_ref04_Find : CallsAs C 13 f_ref04_Find :=
  fun x y h => Ev.Call.mk (C := C) _ orc0_ok 13 x y ((o_ref04_Find x).trans h)
theorem e_ref04_Same (L : Lf) (R : Oracle C.sigs) (x : denP (sigAt C.sigs 18).ins.tys) : evalFn L C R 18 x = b_ref04_Same L  x := by kernel_rfl
theorem o_ref04_Same (x : denP (sigAt C.sigs 18).ins.tys) : evalFn lf C orc0 18 x = f_ref04_Same x := (e_ref04_Same lf _ x).trans (by kernel_rfl)
theorem c_ref04_Same : CallsAs C 18 f_ref04_Same :=
  fun x y h => Ev.Call.mk (C := C) _ orc0_ok 18 x y ((o_ref04_Same x).trans h)
theorem e_law04_FixSets (L : Lf) (R : Oracle C.sigs) (x : denP (sigAt C.sigs 0).ins.tys) : evalFn L C R 0 x = b_law04_FixSets L (R 7) (R 8) (R 9) (R 10) (R 11) (R 12) (R 13) (R 14) (R 15) (R 16) (R 17) (R 18) x := by kernel_rfl
theorem o_law04_FixSets (x : denP (sigAt C.sigs 0).ins.tys) : evalFn lf C (orc1 7 f_law04_awake (orc1 8 f_law04_few (orc1 9 f_fix_Set (orc1 10 f_law04_own (orc1 11 f_ref04_Set (orc1 12 f_fix_Find (orc1 13 f_ref04_Find (orc1 14 f_fix_Right (orc1 15 f_ref04_Right (orc1 16 f_fix_Check (orc1 17 f_ref04_Check (orc1 18 f_ref04_Same orc0)))))))))))) 0 x = f_law04_FixSets x := (e_law04_FixSets lf _ x).trans (by kernel_rfl)
theorem c_law04_FixSets : CallsAs C 0 f_law04_FixSets :=
  fun x y h => Ev.Call.mk (C := C) _ (orc1_ok c_law04_awake (orc1_ok c_law04_few (orc1_ok c_fix_Set (orc1_ok c_law04_own (orc1_ok c_ref04_Set (orc1_ok c_fix_Find (orc1_ok c_ref04_Find (orc1_ok c_fix_Right (orc1_ok c_ref04_Right (orc1_ok c_fix_Check (orc1_ok c_ref04_Check (orc1_ok c_ref04_Same orc0_ok)))))))))))) 0 x y ((o_law04_FixSets x).trans h)
theorem e_ref04_bind (L : Lf) (R : Oracle C.sigs) (x : denP (sigAt C.sigs 41).ins.tys) : evalFn L C R 41 x = b_ref04_bind L (R 41) x := by kernel_rfl
theorem o_ref04_bind (g : denP (sigAt C.sigs 41).ins.tys → Option (denP (sigAt C.sigs 41).outs.tys)) (x : denP (sigAt C.sigs 41).ins.tys) : evalFn lf C (orc1 41 g orc0) 41 x = g_ref04_bind g x := (e_ref04_bind lf _ x).trans (by kernel_rfl)
theorem c_ref04_bind : CallsAs C 41 f_ref04_bind :=
  callRec fun g hg x y h => Ev.Call.mk (C := C) _ (orc1_ok hg orc0_ok) 41 x y ((o_ref04_bind g x).trans h)
theorem e_ref04_Climb (L : Lf) (R : Oracle C.sigs) (x : denP (sigAt C.sigs 20).ins.tys) : evalFn L C R 20 x = b_ref04_Climb L (R 13) (R 17) (R 41) x := by kernel_rfl
theorem o_ref04_Climb (x : denP (sigAt C.sigs 20).ins.tys) : evalFn lf C (orc1 13 f_ref04_Find (orc1 17 f_ref04_Check (orc1 41 f_ref04_bind orc0))) 20 x = f_ref04_Climb x := (e_ref04_Climb lf _ x).trans (by kernel_rfl)
theorem c_ref04_Climb : CallsAs C 20 f_ref04_Climb :=
  fun x y h => Ev.Call.mk (C := C) _ (orc1_ok c_ref04_Find (orc1_ok c_ref04_Check (orc1_ok c_ref04_bind orc0_ok))) 20 x y ((o_ref04_Climb x).trans h)
theorem e_law04_FixClimbs (L : Lf) (R : Oracle C.sigs) (x : denP (sigAt C.sigs 1).ins.tys) : evalFn L C R 1 x = b_law04_FixClimbs L (R 7) (R 8) (R 10) (R 19) (R 20) (R 21) x := by kernel_rfl
theorem o_law04_FixClimbs (x : denP (sigAt C.sigs 1).ins.tys) : evalFn lf C (orc1 7 f_law04_awake (orc1 8 f_law04_few (orc1 10 f_law04_own (orc1 19 f_fix_Climb (orc1 20 f_ref04_Climb (orc1 21 f_ref02_Row orc0)))))) 1 x = f_law04_FixClimbs x := (e_law04_FixClimbs lf _ x).trans (by kernel_rfl)
theorem c_law04_FixClimbs : CallsAs C 1 f_law04_FixClimbs :=
  fun x y h => Ev.Call.mk (C := C) _ (orc1_ok c_law04_awake (orc1_ok c_law04_few (orc1_ok c_law04_own (orc1_ok c_fix_Climb (orc1_ok c_ref04_Climb (orc1_ok c_ref02_Row orc0_ok)))))) 1 x y ((o_law04_FixClimbs x).trans h)
theorem e_ref04_flat (L : Lf) (R : Oracle C.sigs) (x : denP (sigAt C.sigs 43).ins.tys) : evalFn L C R 43 x = b_ref04_flat L (R 43) x := by kernel_rfl
theorem o_ref04_flat (g : denP (sigAt C.sigs 43).ins.tys → Option (denP (sigAt C.sigs 43).outs.tys)) (x : denP (sigAt C.sigs 43).ins.tys) : evalFn lf C (orc1 43 g orc0) 43 x = g_ref04_flat g x := (e_ref04_flat lf _ x).trans (by kernel_rfl)
theorem c_ref04_flat : CallsAs C 43 f_ref04_flat :=
  callRec fun g hg x y h => Ev.Call.mk (C := C) _ (orc1_ok hg orc0_ok) 43 x y ((o_ref04_flat g x).trans h)
theorem e_ref04_Flat (L : Lf) (R : Oracle C.sigs) (x : denP (sigAt C.sigs 23).ins.tys) : evalFn L C R 23 x = b_ref04_Flat L (R 43) x := by kernel_rfl
theorem o_ref04_Flat (x : denP (sigAt C.sigs 23).ins.tys) : evalFn lf C (orc1 43 f_ref04_flat orc0) 23 x = f_ref04_Flat x := (e_ref04_Flat lf _ x).trans (by kernel_rfl)
theorem c_ref04_Flat : CallsAs C 23 f_ref04_Flat :=
  fun x y h => Ev.Call.mk (C := C) _ (orc1_ok c_ref04_flat orc0_ok) 23 x y ((o_ref04_Flat x).trans h)
theorem e_law04_FixFlats (L : Lf) (R : Oracle C.sigs) (x : denP (sigAt C.sigs 2).ins.tys) : evalFn L C R 2 x = b_law04_FixFlats L (R 7) (R 21) (R 22) (R 23) x := by kernel_rfl
theorem o_law04_FixFlats (x : denP (sigAt C.sigs 2).ins.tys) : evalFn lf C (orc1 7 f_law04_awake (orc1 21 f_ref02_Row (orc1 22 f_fix_Flat (orc1 23 f_ref04_Flat orc0)))) 2 x = f_law04_FixFlats x := (e_law04_FixFlats lf _ x).trans (by kernel_rfl)
theorem c_law04_FixFlats : CallsAs C 2 f_law04_FixFlats :=
  fun x y h => Ev.Call.mk (C := C) _ (orc1_ok c_law04_awake (orc1_ok c_ref02_Row (orc1_ok c_fix_Flat (orc1_ok c_ref04_Flat orc0_ok)))) 2 x y ((o_law04_FixFlats x).trans h)
theorem e_law04_FixRows (L : Lf) (R : Oracle C.sigs) (x : denP (sigAt C.sigs 3).ins.tys) : evalFn L C R 3 x = b_law04_FixRows L (R 7) (R 8) (R 10) (R 19) (R 22) x := by kernel_rfl
theorem o_law04_FixRows (x : denP (sigAt C.sigs 3).ins.tys) : evalFn lf C (orc1 7 f_law04_awake (orc1 8 f_law04_few (orc1 10 f_law04_own (orc1 19 f_fix_Climb (orc1 22 f_fix_Flat orc0))))) 3 x = f_law04_FixRows x := (e_law04_FixRows lf _ x).trans (by kernel_rfl)
theorem c_law04_FixRows : CallsAs C 3 f_law04_FixRows :=
  fun x y h => Ev.Call.mk (C := C) _ (orc1_ok c_law04_awake (orc1_ok c_law04_few (orc1_ok c_law04_own (orc1_ok c_fix_Climb (orc1_ok c_fix_Flat orc0_ok))))) 3 x y ((o_law04_FixRows x).trans h)
theorem e_law04_holds (L : Lf) (R : Oracle C.sigs) (x : denP (sigAt C.sigs 24).ins.tys) : evalFn L C R 24 x = b_law04_holds L (R 13) (R 24) x := by kernel_rfl
theorem o_law04_holds (g : denP (sigAt C.sigs 24).ins.tys → Option (denP (sigAt C.sigs 24).outs.tys)) (x : denP (sigAt C.sigs 24).ins.tys) : evalFn lf C (orc1 13 f_ref04_Find (orc1 24 g orc0)) 24 x = g_law04_holds g x := (e_law04_holds lf _ x).trans (by kernel_rfl)
theorem c_law04_holds : CallsAs C 24 f_law04_holds :=
  callRec fun g hg x y h => Ev.Call.mk (C := C) _ (orc1_ok c_ref04_Find (orc1_ok hg orc0_ok)) 24 x y ((o_law04_holds g x).trans h)
theorem e_law04_FixBinds (L : Lf) (R : Oracle C.sigs) (x : denP (sigAt C.sigs 4).ins.tys) : evalFn L C R 4 x = b_law04_FixBinds L (R 7) (R 8) (R 10) (R 19) (R 24) x := by kernel_rfl
theorem o_law04_FixBinds (x : denP (sigAt C.sigs 4).ins.tys) : evalFn lf C (orc1 7 f_law04_awake (orc1 8 f_law04_few (orc1 10 f_law04_own (orc1 19 f_fix_Climb (orc1 24 f_law04_holds orc0))))) 4 x = f_law04_FixBinds x := (e_law04_FixBinds lf _ x).trans (by kernel_rfl)
theorem c_law04_FixBinds : CallsAs C 4 f_law04_FixBinds :=
  fun x y h => Ev.Call.mk (C := C) _ (orc1_ok c_law04_awake (orc1_ok c_law04_few (orc1_ok c_law04_own (orc1_ok c_fix_Climb (orc1_ok c_law04_holds orc0_ok))))) 4 x y ((o_law04_FixBinds x).trans h)
theorem e_law04_FixOne (L : Lf) (R : Oracle C.sigs) (x : denP (sigAt C.sigs 5).ins.tys) : evalFn L C R 5 x = b_law04_FixOne L (R 7) (R 14) (R 19) x := by kernel_rfl
theorem o_law04_FixOne (x : denP (sigAt C.sigs 5).ins.tys) : evalFn lf C (orc1 7 f_law04_awake (orc1 14 f_fix_Right (orc1 19 f_fix_Climb orc0))) 5 x = f_law04_FixOne x := (e_law04_FixOne lf _ x).trans (by kernel_rfl)
theorem c_law04_FixOne : CallsAs C 5 f_law04_FixOne :=
  fun x y h => Ev.Call.mk (C := C) _ (orc1_ok c_law04_awake (orc1_ok c_fix_Right (orc1_ok c_fix_Climb orc0_ok))) 5 x y ((o_law04_FixOne x).trans h)
theorem e_law04_FixOrder (L : Lf) (R : Oracle C.sigs) (x : denP (sigAt C.sigs 6).ins.tys) : evalFn L C R 6 x = b_law04_FixOrder L (R 7) (R 8) (R 9) (R 10) (R 16) (R 18) x := by kernel_rfl
theorem o_law04_FixOrder (x : denP (sigAt C.sigs 6).ins.tys) : evalFn lf C (orc1 7 f_law04_awake (orc1 8 f_law04_few (orc1 9 f_fix_Set (orc1 10 f_law04_own (orc1 16 f_fix_Check (orc1 18 f_ref04_Same orc0)))))) 6 x = f_law04_FixOrder x := (e_law04_FixOrder lf _ x).trans (by kernel_rfl)
theorem c_law04_FixOrder : CallsAs C 6 f_law04_FixOrder :=
  fun x y h => Ev.Call.mk (C := C) _ (orc1_ok c_law04_awake (orc1_ok c_law04_few (orc1_ok c_fix_Set (orc1_ok c_law04_own (orc1_ok c_fix_Check (orc1_ok c_ref04_Same orc0_ok)))))) 6 x y ((o_law04_FixOrder x).trans h)

theorem tabOk : tabChk C C.tab = true := by kernel_rfl
theorem eqsOk : eqChk C C.eqs = true := by kernel_rfl
theorem namesGood : namesOk C C.sigs = true := by kernel_rfl
theorem mixed : C.P.follows .mixedOrders = true := by kernel_rfl
theorem calls {i : Nat} {x : denP (sigAt C.sigs i).ins.tys} {y : denP (sigAt C.sigs i).outs.tys} (h : Ev.Call C i x y) : FnOk C i x y := calls_ok tabOk eqsOk namesGood mixed h
theorem globOk : GlobOk C Rows.fixSetsRow.laid := by
  refine ⟨by kernel_rfl, fun g t x h => ?_⟩
  match g with
  | 0 =>
    cases h
    exact ⟨_, _, 101, List.Mem.tail _ (List.Mem.head _), by kernel_rfl, by kernel_rfl, by kernel_rfl, rfl, by kernel_rfl⟩
  | n + 1 => cases h
theorem seatOk : SeatOk C Rows.fixSetsRow.laid := seatOk_of tabOk (by kernel_rfl) (by kernel_rfl) (by kernel_rfl) globOk
end Go.Proofs.YtkfbakajbeifgaaDoor.Seat
