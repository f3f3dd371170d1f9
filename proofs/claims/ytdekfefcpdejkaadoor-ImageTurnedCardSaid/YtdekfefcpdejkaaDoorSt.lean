/- The functions of this seat as data: each is what the model's code gives, by the kernel's reckoning over the verified evaluator. No statement of its own about the program. -/
import Derived.Test.YtdekfefcpdejkaaDoorFn
import Derived.Test.YtdekfefcpdejkaaDoorWalk
import Derived.Test.YtdekfefcpdejkaaDoorRows
import Derived.KernelRfl
namespace Go.Proofs.YtdekfefcpdejkaaDoor.Seat
open Go Go.Proofs Go.Shelf Go.RowKit Go.Sort Ev Ev.Fn
def sigs : List Sig := [
  ⟨3, ⟨[.d (.sl (.st (.pair .bool (.pair (.int .i64) .str)))), .d (.st (.pair .bool (.pair (.int .i64) .str))), .d .str], []⟩, ⟨[.d .bool], []⟩, []⟩,
  ⟨4, ⟨[.d (.st (.pair (.sl (.st (.pair .bool (.pair (.int .i64) .str)))) (.sl (.st (.pair (.int .i64) (.pair (.int .i64) (.int .i64)))))))], []⟩, ⟨[.d .bool], []⟩, []⟩,
  ⟨5, ⟨[.d .str], []⟩, ⟨[.d .bool], []⟩, []⟩,
  ⟨6, ⟨[.d (.st (.pair (.sl (.st (.pair .bool (.pair (.int .i64) .str)))) (.sl (.st (.pair (.int .i64) (.pair (.int .i64) (.int .i64))))))), .d (.int .u16), .d (.int .u8)], []⟩, ⟨[.d .bool], []⟩, []⟩,
  ⟨7, ⟨[.d (.sl (.st (.pair .bool (.pair (.int .i64) .str))))], []⟩, ⟨[.d .bool], []⟩, []⟩,
  ⟨8, ⟨[], []⟩, ⟨[.d .bool], []⟩, []⟩,
  ⟨9, ⟨[.d (.sl (.st (.pair .bool (.pair (.int .i64) .str))))], []⟩, ⟨[.d .bool], []⟩, []⟩,
  ⟨10, ⟨[.d (.sl (.st (.pair .bool (.pair (.int .i64) .str))))], []⟩, ⟨[.d (.sl (.st (.pair .bool (.pair (.int .i64) .str)))), .d (.int .i64)], []⟩, []⟩,
  ⟨11, ⟨[.d (.sl (.st (.pair .bool (.pair (.int .i64) .str))))], []⟩, ⟨[.osl 0], [.vec (.st (.pair .bool (.pair (.int .i64) .str)))]⟩, []⟩,
  ⟨12, ⟨[.d (.sl (.st (.pair .bool (.pair (.int .i64) .str))))], []⟩, ⟨[.d (.sl (.st (.pair .bool (.pair (.int .i64) .str)))), .d .bool], []⟩, []⟩,
  ⟨13, ⟨[.d (.sl (.st (.pair .bool (.pair (.int .i64) .str)))), .d (.st (.pair .bool (.pair (.int .i64) .str)))], []⟩, ⟨[.d (.int .i64)], []⟩, []⟩,
  ⟨14, ⟨[.d (.sl (.st (.pair .bool (.pair (.int .i64) .str)))), .d (.st (.pair .bool (.pair (.int .i64) .str)))], []⟩, ⟨[.d (.int .i64)], []⟩, []⟩,
  ⟨15, ⟨[.d .str], []⟩, ⟨[.d (.int .u32)], []⟩, []⟩,
  ⟨16, ⟨[.d .str], []⟩, ⟨[.d (.int .u32)], []⟩, []⟩,
  ⟨17, ⟨[.d (.st (.pair .bool (.pair (.int .i64) .str))), .d (.st (.pair .bool (.pair (.int .i64) .str)))], []⟩, ⟨[.d .bool], []⟩, []⟩,
  ⟨18, ⟨[.d (.st (.pair .bool (.pair (.int .i64) .str))), .d (.st (.pair .bool (.pair (.int .i64) .str)))], []⟩, ⟨[.d .bool], []⟩, []⟩,
  ⟨19, ⟨[.d (.st (.pair (.sl (.st (.pair .bool (.pair (.int .i64) .str)))) (.sl (.st (.pair (.int .i64) (.pair (.int .i64) (.int .i64))))))), .d (.st (.pair (.sl (.st (.pair .bool (.pair (.int .i64) .str)))) (.sl (.st (.pair (.int .i64) (.pair (.int .i64) (.int .i64)))))))], []⟩, ⟨[.d .bool], []⟩, []⟩,
  ⟨20, ⟨[.d (.st (.pair (.sl (.st (.pair .bool (.pair (.int .i64) .str)))) (.sl (.st (.pair (.int .i64) (.pair (.int .i64) (.int .i64)))))))], []⟩, ⟨[.d .bool], []⟩, []⟩,
  ⟨21, ⟨[.d (.st (.pair (.sl (.st (.pair .bool (.pair (.int .i64) .str)))) (.sl (.st (.pair (.int .i64) (.pair (.int .i64) (.int .i64)))))))], []⟩, ⟨[.d .str, .d (.int .i64)], []⟩, []⟩,
  ⟨22, ⟨[.d (.st (.pair (.sl (.st (.pair .bool (.pair (.int .i64) .str)))) (.sl (.st (.pair (.int .i64) (.pair (.int .i64) (.int .i64)))))))], []⟩, ⟨[.d (.st (.pair (.sl (.st (.pair .bool (.pair (.int .i64) .str)))) (.sl (.st (.pair (.int .i64) (.pair (.int .i64) (.int .i64)))))))], []⟩, []⟩,
  ⟨23, ⟨[.d .str], []⟩, ⟨[.d (.st (.pair (.sl (.st (.pair .bool (.pair (.int .i64) .str)))) (.sl (.st (.pair (.int .i64) (.pair (.int .i64) (.int .i64))))))), .d (.int .i64)], []⟩, []⟩,
  ⟨24, ⟨[.d (.st (.pair (.sl (.st (.pair .bool (.pair (.int .i64) .str)))) (.sl (.st (.pair (.int .i64) (.pair (.int .i64) (.int .i64))))))), .d (.st (.pair (.sl (.st (.pair .bool (.pair (.int .i64) .str)))) (.sl (.st (.pair (.int .i64) (.pair (.int .i64) (.int .i64)))))))], []⟩, ⟨[.d .bool], []⟩, []⟩,
  ⟨25, ⟨[.d (.st (.pair (.sl (.st (.pair .bool (.pair (.int .i64) .str)))) (.sl (.st (.pair (.int .i64) (.pair (.int .i64) (.int .i64)))))))], []⟩, ⟨[.d (.int .i64)], []⟩, []⟩,
  ⟨26, ⟨[.d (.sl (.st (.pair .bool (.pair (.int .i64) .str)))), .fn 27 []], []⟩, ⟨[.d .bool], []⟩, []⟩,
  ⟨27, ⟨[.d (.st (.pair .bool (.pair (.int .i64) .str)))], []⟩, ⟨[.d .bool], []⟩, []⟩,
  ⟨28, ⟨[.d (.st (.pair .bool (.pair (.int .i64) .str)))], []⟩, ⟨[.d .bool], []⟩, []⟩,
  ⟨29, ⟨[.d (.sl (.st (.pair .bool (.pair (.int .i64) .str))))], []⟩, ⟨[.osl 0], [.vec (.st (.pair .bool (.pair (.int .i64) .str)))]⟩, []⟩,
  ⟨30, ⟨[.osl 0, .fn 31 []], [.vec (.st (.pair .bool (.pair (.int .i64) .str)))]⟩, ⟨[], [.vec (.st (.pair .bool (.pair (.int .i64) .str)))]⟩, [0]⟩,
  ⟨31, ⟨[.d (.st (.pair .bool (.pair (.int .i64) .str))), .d (.st (.pair .bool (.pair (.int .i64) .str)))], []⟩, ⟨[.d (.int .i64)], []⟩, []⟩,
  ⟨32, ⟨[.osl 0], [.vec (.st (.pair .bool (.pair (.int .i64) .str)))]⟩, ⟨[.osl 1], [.gone, .vec (.st (.pair .bool (.pair (.int .i64) .str)))]⟩, []⟩,
  ⟨33, ⟨[.d (.st (.pair .bool (.pair (.int .i64) .str)))], []⟩, ⟨[.d .bool], []⟩, []⟩,
  ⟨34, ⟨[.d (.sl (.st (.pair .bool (.pair (.int .i64) .str)))), .fn 27 []], []⟩, ⟨[.d (.int .i64)], []⟩, []⟩,
  ⟨34, ⟨[.d (.sl (.st (.pair .bool (.pair (.int .i64) .str)))), .fn 35 [.ref (.st (.pair .bool (.pair (.int .i64) .str)))]], []⟩, ⟨[.d (.int .i64)], []⟩, []⟩,
  ⟨35, ⟨[.d (.st (.pair .bool (.pair (.int .i64) .str))), .ref (.st (.pair .bool (.pair (.int .i64) .str)))], []⟩, ⟨[.d .bool], []⟩, []⟩,
  ⟨36, ⟨[.d (.sl (.st (.pair .bool (.pair (.int .i64) .str)))), .d (.sl (.st (.pair .bool (.pair (.int .i64) .str))))], []⟩, ⟨[.d .bool], []⟩, []⟩,
  ⟨37, ⟨[.d (.sl (.st (.pair (.int .i64) (.pair (.int .i64) (.int .i64))))), .d (.sl (.st (.pair (.int .i64) (.pair (.int .i64) (.int .i64)))))], []⟩, ⟨[.d .bool], []⟩, []⟩,
  ⟨38, ⟨[.d (.sl (.st (.pair (.int .i64) (.pair (.int .i64) (.int .i64)))))], []⟩, ⟨[.d .str, .d (.int .i64)], []⟩, []⟩,
  ⟨39, ⟨[.osl 0, .d (.int .u64), .d (.int .i64)], [.vec (.int .u8)]⟩, ⟨[.osl 1], [.gone, .vec (.int .u8)]⟩, []⟩,
  ⟨40, ⟨[], []⟩, ⟨[.d (.st (.pair (.sl (.st (.pair .bool (.pair (.int .i64) .str)))) (.sl (.st (.pair (.int .i64) (.pair (.int .i64) (.int .i64))))))), .d (.int .i64)], []⟩, []⟩,
  ⟨41, ⟨[.d .str, .d .str], []⟩, ⟨[.d .str, .d .bool], []⟩, []⟩,
  ⟨42, ⟨[.ptr 0 0, .d (.int .i64)], [.box [.d .str, .d .bool]]⟩, ⟨[.d (.int .u64)], [.box [.d .str, .d .bool]]⟩, [0]⟩,
  ⟨43, ⟨[.ptr 0 0], [.box [.d .str, .d .bool]]⟩, ⟨[.d (.st (.pair .bool (.pair (.int .i64) .str)))], [.box [.d .str, .d .bool]]⟩, [0]⟩,
  ⟨44, ⟨[.d .str], []⟩, ⟨[.d (.sl (.st (.pair (.int .i64) (.pair (.int .i64) (.int .i64))))), .d (.int .i64)], []⟩, []⟩,
  ⟨45, ⟨[.ptr 0 0, .d (.int .i64)], [.box [.d .str, .d .bool]]⟩, ⟨[.d .str], [.box [.d .str, .d .bool]]⟩, [0]⟩,
  ⟨46, ⟨[.d (.sl (.st (.pair (.int .i64) (.pair (.int .i64) (.int .i64))))), .d (.sl (.st (.pair (.int .i64) (.pair (.int .i64) (.int .i64)))))], []⟩, ⟨[.d .bool], []⟩, []⟩,
  ⟨47, ⟨[.d (.sl (.st (.pair (.int .i64) (.pair (.int .i64) (.int .i64)))))], []⟩, ⟨[.d (.int .i64)], []⟩, []⟩,
  ⟨48, ⟨[.d (.int .i64)], []⟩, ⟨[.d (.int .i64)], []⟩, []⟩,
  ⟨51, ⟨[.d (.int .i64)], []⟩, ⟨[.d (.int .i64)], []⟩, []⟩,
  ⟨52, ⟨[.d (.sl (.st (.pair (.int .i64) (.pair (.int .i64) (.int .i64)))))], []⟩, ⟨[.d (.sl .bool), .d (.int .i64)], []⟩, []⟩,
  ⟨53, ⟨[.d (.sl (.st (.pair (.int .i64) (.pair (.int .i64) (.int .i64))))), .d (.sl .bool)], []⟩, ⟨[.osl 0], [.vec (.int .i64)]⟩, []⟩,
  ⟨54, ⟨[.d (.int .i64)], []⟩, ⟨[.d .bool], []⟩, []⟩,
  ⟨55, ⟨[.d (.st (.pair (.int .i64) (.pair (.int .i64) (.int .i64)))), .d (.int .i64), .d .bool], []⟩, ⟨[.d .str, .d (.int .i64)], []⟩, []⟩,
  ⟨56, ⟨[.ptr 0 0, .d .str], [.box [.slf 0, .osl 1], .vec (.int .u8)]⟩, ⟨[.d (.int .i64), .nili], [.box [.slf 0, .osl 2], .gone, .vec (.int .u8)]⟩, [0]⟩,
  ⟨57, ⟨[.ptr 0 0], [.box [.slf 0, .osl 1], .vec (.int .u8)]⟩, ⟨[.d .str], [.gone, .gone]⟩, []⟩,
  ⟨58, ⟨[.d .str, .d .str], []⟩, ⟨[.d .str, .d .bool], []⟩, []⟩,
  ⟨59, ⟨[.d .str], []⟩, ⟨[.d (.st (.pair (.int .i64) (.pair (.int .i64) (.int .i64)))), .d (.int .i64), .d .bool, .d (.int .i64), .d (.int .i64)], []⟩, []⟩,
  ⟨60, ⟨[.d (.sl (.st (.pair (.int .i64) (.pair (.int .i64) (.int .i64))))), .fn 61 []], []⟩, ⟨[.d .bool], []⟩, []⟩,
  ⟨60, ⟨[.d (.sl (.st (.pair (.int .i64) (.pair (.int .i64) (.int .i64))))), .fn 63 [.ref (.sl (.st (.pair (.int .i64) (.pair (.int .i64) (.int .i64)))))]], []⟩, ⟨[.d .bool], []⟩, []⟩,
  ⟨61, ⟨[.d (.st (.pair (.int .i64) (.pair (.int .i64) (.int .i64))))], []⟩, ⟨[.d .bool], []⟩, []⟩,
  ⟨62, ⟨[.d (.st (.pair (.int .i64) (.pair (.int .i64) (.int .i64))))], []⟩, ⟨[.d (.int .i64)], []⟩, []⟩,
  ⟨63, ⟨[.d (.st (.pair (.int .i64) (.pair (.int .i64) (.int .i64)))), .ref (.sl (.st (.pair (.int .i64) (.pair (.int .i64) (.int .i64)))))], []⟩, ⟨[.d .bool], []⟩, []⟩,
  ⟨74, ⟨[.d (.int .u64)], []⟩, ⟨[.d (.int .i64)], []⟩, []⟩,
  ⟨75, ⟨[.d (.sl (.st (.pair (.int .i64) (.pair (.int .i64) (.int .i64))))), .d (.sl .bool), .d (.sl (.int .i64))], []⟩, ⟨[.d (.int .i64)], []⟩, []⟩,
  ⟨76, ⟨[.d (.st (.pair (.int .i64) (.pair (.int .i64) (.int .i64)))), .d .bool], []⟩, ⟨[.d (.int .i64)], []⟩, []⟩,
  ⟨77, ⟨[.d (.int .i64)], []⟩, ⟨[.d .bool], []⟩, []⟩,
  ⟨78, ⟨[.d (.st (.pair (.int .i64) (.pair (.int .i64) (.int .i64)))), .d .bool], []⟩, ⟨[.d .bool], []⟩, []⟩,
  ⟨79, ⟨[.d (.st (.pair (.int .i64) (.pair (.int .i64) (.int .i64)))), .d .bool], []⟩, ⟨[.osl 0], [.vec (.int .u8)]⟩, []⟩,
  ⟨80, ⟨[.d (.int .i64), .d .bool], []⟩, ⟨[.d (.int .i64)], []⟩, []⟩,
  ⟨81, ⟨[.ptr 0 0], [.box [.slf 0, .osl 1], .vec (.int .u8)]⟩, ⟨[], [.box [.slf 0, .osl 1], .vec (.int .u8)]⟩, [0, 1]⟩,
  ⟨82, ⟨[.d .str, .d .str], []⟩, ⟨[.d .bool], []⟩, []⟩,
  ⟨83, ⟨[.d (.int .i64)], []⟩, ⟨[.d (.st (.pair (.int .i64) (.pair (.int .i64) (.int .i64)))), .d (.int .i64), .d .bool, .d (.int .i64), .d (.int .i64)], []⟩, []⟩,
  ⟨84, ⟨[.d (.int .i64)], []⟩, ⟨[.d (.int .i64)], []⟩, []⟩,
  ⟨85, ⟨[.d (.sl (.st (.pair (.int .i64) (.pair (.int .i64) (.int .i64))))), .fn 61 []], []⟩, ⟨[.d (.int .i64)], []⟩, []⟩,
  ⟨85, ⟨[.d (.sl (.st (.pair (.int .i64) (.pair (.int .i64) (.int .i64))))), .fn 63 [.ref (.sl (.st (.pair (.int .i64) (.pair (.int .i64) (.int .i64)))))]], []⟩, ⟨[.d (.int .i64)], []⟩, []⟩,
  ⟨86, ⟨[.d (.int .i64)], []⟩, ⟨[.d .bool], []⟩, []⟩,
  ⟨92, ⟨[.d (.st (.pair (.int .i64) (.pair (.int .i64) (.int .i64))))], []⟩, ⟨[.d (.sl (.int .i64))], []⟩, []⟩,
  ⟨93, ⟨[.osl 0, .d (.int .i64)], [.vec (.int .u8)]⟩, ⟨[.osl 1], [.gone, .vec (.int .u8)]⟩, []⟩]
def numbers : List Int := [0, 1, 1, 1, 0, 1, 1, 0, 0, 0, 2, 1, 1, 0, 0, 0, 0, 0, 1, 1, 1]
def glob : Nat → Option ((t : Ty) × den t)
  | 0 => some ⟨.arr 21 (.int .i64), numbers⟩
  | _ => none
def tab : List (Nat × Ty) := [
  (2, (.int .i64)),
  (3, (.int .i64)),
  (4, .bool),
  (5, (.int .u8)),
  (6, (.int .u8)),
  (7, (.st (.pair (.int .i64) (.pair (.int .i64) (.pair .bool (.int .u8)))))),
  (8, (.st (.pair (.int .i64) (.pair (.int .i64) (.pair .bool (.int .u8)))))),
  (9, .str),
  (10, .str),
  (11, .str),
  (12, (.int .u64)),
  (13, (.st (.pair .str (.int .u64)))),
  (14, (.st (.pair .str (.int .u64)))),
  (21, (.int .i32)),
  (22, (.sl (.st (.pair .bool (.pair (.int .i64) .str))))),
  (23, (.st (.pair .bool (.pair (.int .i64) .str)))),
  (24, (.st (.pair .bool (.pair (.int .i64) .str)))),
  (27, (.int .i64)),
  (34, (.int .u32)),
  (38, (.sl (.st (.pair (.int .i64) (.pair (.int .i64) (.int .i64)))))),
  (39, (.st (.pair (.sl (.st (.pair .bool (.pair (.int .i64) .str)))) (.sl (.st (.pair (.int .i64) (.pair (.int .i64) (.int .i64)))))))),
  (40, (.st (.pair (.sl (.st (.pair .bool (.pair (.int .i64) .str)))) (.sl (.st (.pair (.int .i64) (.pair (.int .i64) (.int .i64)))))))),
  (50, (.int .u16)),
  (51, (.sl (.int .u8))),
  (53, (.int .i64)),
  (54, (.st (.pair (.int .i64) (.pair (.int .i64) (.int .i64))))),
  (55, (.st (.pair (.int .i64) (.pair (.int .i64) (.int .i64))))),
  (65, (.int .u64)),
  (70, (.st (.pair .str .bool))),
  (71, (.st (.pair .str .bool))),
  (81, (.int .u64)),
  (82, (.sl .bool)),
  (85, (.sl (.int .i64))),
  (104, (.int .i64)),
  (122, (.arr 2 (.int .i64))),
  (124, (.int .i8)),
  (127, (.int .u64)),
  (137, (.arr 21 (.int .i64))),
  (147, (.int .u8)),
  (148, (.int .u8)),
  (150, (.int .i32)),
  (151, (.int .i32))]
def eqs : List Nat := [23, 24, 54, 55]
noncomputable def C : Cx := ⟨Tryd.prog, sigs, glob, tab, eqs, 89⟩
def g_ck : denP (sigAt C.sigs 68).ins.tys → Option (denP (sigAt C.sigs 68).outs.tys) := fun x => some (true, x.2.1, ())
def g_str : denP (sigAt C.sigs 53).ins.tys → Option (denP (sigAt C.sigs 53).outs.tys) := fun x => some (x.2.1.l, ())
theorem c_ck : CallsAs C 68 g_ck := by
  intro x y h
  obtain ⟨b, s, u⟩ := x
  have h : some ((true, s, ()) : Bool × Sl Int × Unit) = some y := h
  injection h with h
  subst h
  exact Call.prim 68 _ _ (ck_okS (C := C) (f := 81) ⟨_, Tryd.func81, by kernel_rfl⟩ cc_used cc_fresh b s)
theorem c_str (hcells : ∀ el, C.P.underlying el = some (.int .u8) → C.P.cellsOf el = 1) : CallsAs C 53 g_str := by
  intro x y h
  obtain ⟨b, s, u⟩ := x
  have h : some ((s.l, ()) : List Int × Unit) = some y := h
  injection h with h
  subst h
  exact Call.prim 53 _ _ (str_okS (C := C) (f := 57) strWalk (by kernel_rfl) ⟨_, Tryd.func57, by kernel_rfl⟩ (by kernel_rfl) hcells b s)

theorem bytesT : bytesChk Tryd.prog Tryd.prog.types.size = true := by kernel_rfl
theorem c_str' : CallsAs C 53 g_str := c_str (bytes_all bytesT)

def g_sort : denP (sigAt C.sigs 27).ins.tys → Option (denP (sigAt C.sigs 27).outs.tys) := fun x =>
  bif x.1.l.all goodT && decide (x.1.l.length < 4611686018427387904) then some ((⟨x.1.nil, x.1.l.mergeSort fun a b => !lessD b a⟩ : Sl Thing), ()) else none

theorem c_sort : CallsAs C 27 g_sort := by
  intro x y h
  obtain ⟨⟨nil, l⟩, u⟩ := x
  have h : (bif l.all goodT && decide (l.length < 4611686018427387904) then some ((⟨nil, l.mergeSort fun a b => !lessD b a⟩ : Sl Thing), ()) else none) = some y := h
  cases hg : l.all goodT with
  | false => rw [hg] at h; cases h
  | true =>
    cases hd : decide (l.length < 4611686018427387904) with
    | false => rw [hg, hd] at h; cases h
    | true =>
      rw [hg, hd] at h
      injection h with h
      subst h
      have hlen : l.length < 4611686018427387904 := of_decide_eq_true hd
      obtain ⟨l', rfl⟩ : ∃ l' : List GT, l = l'.map (·.1) := ⟨l.attach.map fun a => ⟨a.1, List.all_eq_true.1 hg a.1 a.2⟩, by rw [List.map_map]; exact (List.attach_map_subtype_val l).symm⟩
      have hs : ∀ (blk off cap : Nat) (d : Array GT) (w : World), HoldsK encT (csz tyThing) w blk off d → blk < w.heap.size → d.size < 4611686018427387904 →
          Calls C.P 30 #[.slice (some ⟨blk, off, none⟩) d.size cap, .func (.func 31) #[] #[]] w fun e w' => e = .returned (.tuple #[]) ∧ ∃ n os, w' = sortWorldK encT (csz tyThing) w blk off n (d.toList.mergeSort fun x y => !lessD y.1 x.1).toArray os := by
        intro blk off cap d w hH hb hsz
        have := AnyQ.slices_SortFunc_total Tryd.sortL 3 Tryd.isAgg24 Tryd.sizeOf24 encT (fun _ => rfl) (fun x v hv => by
          simp only [encT, List.mem_cons, List.not_mem_nil, or_false] at hv
          rcases hv with rfl | rfl | rfl <;> rfl) cfT swoT 31 #[] blk off cap d w (enters_of Tryd.func31 (by kernel_rfl) rfl) (fun _ _ _ _ x y => compare_at _ _ _ _ _ _ _) hH hb hsz
          (fun x y h1 h2 => by rw [ltOf_cf] at h1 h2; exact Subtype.ext (lessD_total _ _ x.2 y.2 h1 h2))
        simp only [ltOf_cf] at this
        exact this
      have key := sort_okS (C := C) (f := 30) (g := 31) (t := tyThing) encT (·.1) (fun l => l.mergeSort fun x y => !lessD y.1 x.1) (by intro h; cases h) relT (fun _ => rfl) (fun l => List.length_mergeSort l)
        ⟨_, Tryd.func30, by kernel_rfl⟩ (fun p cap fv w => AnyF.slices_SortFunc_none Tryd.sortL p cap fv w) hs nil l' (by simpa using hlen)
      have e : (l'.mergeSort fun x y => !lessD y.1 x.1).map (·.1) = (l'.map (·.1)).mergeSort fun a b => !lessD b a := List.map_mergeSort (fun a _ b _ => rfl)
      rw [e] at key
      exact Call.prim 27 _ _ key

theorem e_word_Wrap (L : Lf) (R : Oracle C.sigs) (x : denP (sigAt C.sigs 46).ins.tys) : evalFn L C R 46 x = b_word_Wrap L  x := by kernel_rfl
theorem o_word_Wrap (x : denP (sigAt C.sigs 46).ins.tys) : evalFn lf C orc0 46 x = f_word_Wrap x := (e_word_Wrap lf _ x).trans (by kernel_rfl)
theorem c_word_Wrap : CallsAs C 46 f_word_Wrap :=
  fun x y h => Ev.Call.mk (C := C) _ orc0_ok 46 x y ((o_word_Wrap x).trans h)
theorem e_image_right (L : Lf) (R : Oracle C.sigs) (x : denP (sigAt C.sigs 25).ins.tys) : evalFn L C R 25 x = b_image_right L (R 46) x := by kernel_rfl
theorem o_image_right (x : denP (sigAt C.sigs 25).ins.tys) : evalFn lf C (orc1 46 f_word_Wrap orc0) 25 x = f_image_right x := (e_image_right lf _ x).trans (by kernel_rfl)
theorem c_image_right : CallsAs C 25 f_image_right :=
  fun x y h => Ev.Call.mk (C := C) _ (orc1_ok c_word_Wrap orc0_ok) 25 x y ((o_image_right x).trans h)
theorem e_image_Pool_1 (L : Lf) (R : Oracle C.sigs) (x : denP (sigAt C.sigs 24).ins.tys) : evalFn L C R 24 x = b_image_Pool_1 L (R 25) x := by kernel_rfl
theorem o_image_Pool_1 (x : denP (sigAt C.sigs 24).ins.tys) : evalFn lf C (orc1 25 f_image_right orc0) 24 x = f_image_Pool_1 x := (e_image_Pool_1 lf _ x).trans (by kernel_rfl)
theorem c_image_Pool_1 : CallsAs C 24 f_image_Pool_1 :=
  fun x y h => Ev.Call.mk (C := C) _ (orc1_ok c_image_right orc0_ok) 24 x y ((o_image_Pool_1 x).trans h)
theorem e_slices_IndexFuncC (L : Lf) (R : Oracle C.sigs) (x : denP (sigAt C.sigs 31).ins.tys) : evalFn L C R 31 x = b_slices_IndexFuncC L (R 24) x := by kernel_rfl
theorem o_slices_IndexFuncC (x : denP (sigAt C.sigs 31).ins.tys) : evalFn lf C (orc1 24 f_image_Pool_1 orc0) 31 x = f_slices_IndexFuncC x := (e_slices_IndexFuncC lf _ x).trans (by kernel_rfl)
theorem c_slices_IndexFuncC : CallsAs C 31 f_slices_IndexFuncC :=
  fun x y h => Ev.Call.mk (C := C) _ (orc1_ok c_image_Pool_1 orc0_ok) 31 x y ((o_slices_IndexFuncC x).trans h)
theorem e_slices_ContainsFuncC (L : Lf) (R : Oracle C.sigs) (x : denP (sigAt C.sigs 23).ins.tys) : evalFn L C R 23 x = b_slices_ContainsFuncC L (R 31) x := by kernel_rfl
theorem o_slices_ContainsFuncC (x : denP (sigAt C.sigs 23).ins.tys) : evalFn lf C (orc1 31 f_slices_IndexFuncC orc0) 23 x = f_slices_ContainsFuncC x := (e_slices_ContainsFuncC lf _ x).trans (by kernel_rfl)
theorem c_slices_ContainsFuncC : CallsAs C 23 f_slices_ContainsFuncC :=
  fun x y h => Ev.Call.mk (C := C) _ (orc1_ok c_slices_IndexFuncC orc0_ok) 23 x y ((o_slices_ContainsFuncC x).trans h)
theorem e_slices_CloneC (L : Lf) (R : Oracle C.sigs) (x : denP (sigAt C.sigs 26).ins.tys) : evalFn L C R 26 x = b_slices_CloneC L  x := by kernel_rfl
theorem o_slices_CloneC (x : denP (sigAt C.sigs 26).ins.tys) : evalFn lf C orc0 26 x = f_slices_CloneC x := (e_slices_CloneC lf _ x).trans (by kernel_rfl)
theorem c_slices_CloneC : CallsAs C 26 f_slices_CloneC :=
  fun x y h => Ev.Call.mk (C := C) _ orc0_ok 26 x y ((o_slices_CloneC x).trans h)
theorem c_slices_SortFuncC : CallsAs C 27 f_slices_SortFuncC := c_sort
theorem e_slices_CompactC (L : Lf) (R : Oracle C.sigs) (x : denP (sigAt C.sigs 29).ins.tys) : evalFn L C R 29 x = b_slices_CompactC L  x := by kernel_rfl
theorem o_slices_CompactC (x : denP (sigAt C.sigs 29).ins.tys) : evalFn lf C orc0 29 x = f_slices_CompactC x := (e_slices_CompactC lf _ x).trans (by kernel_rfl)
theorem c_slices_CompactC : CallsAs C 29 f_slices_CompactC :=
  fun x y h => Ev.Call.mk (C := C) _ orc0_ok 29 x y ((o_slices_CompactC x).trans h)
theorem e_image_Pool (L : Lf) (R : Oracle C.sigs) (x : denP (sigAt C.sigs 7).ins.tys) : evalFn L C R 7 x = b_image_Pool L (R 23) (R 26) (R 27) (R 29) x := by kernel_rfl
theorem o_image_Pool (x : denP (sigAt C.sigs 7).ins.tys) : evalFn lf C (orc1 23 f_slices_ContainsFuncC (orc1 26 f_slices_CloneC (orc1 27 f_slices_SortFuncC (orc1 29 f_slices_CompactC orc0)))) 7 x = f_image_Pool x := (e_image_Pool lf _ x).trans (by kernel_rfl)
theorem c_image_Pool : CallsAs C 7 f_image_Pool :=
  fun x y h => Ev.Call.mk (C := C) _ (orc1_ok c_slices_ContainsFuncC (orc1_ok c_slices_CloneC (orc1_ok c_slices_SortFuncC (orc1_ok c_slices_CompactC orc0_ok)))) 7 x y ((o_image_Pool x).trans h)
theorem e_image_Index_1 (L : Lf) (R : Oracle C.sigs) (x : denP (sigAt C.sigs 33).ins.tys) : evalFn L C R 33 x = b_image_Index_1 L  x := by kernel_rfl
theorem o_image_Index_1 (x : denP (sigAt C.sigs 33).ins.tys) : evalFn lf C orc0 33 x = f_image_Index_1 x := (e_image_Index_1 lf _ x).trans (by kernel_rfl)
theorem c_image_Index_1 : CallsAs C 33 f_image_Index_1 :=
  fun x y h => Ev.Call.mk (C := C) _ orc0_ok 33 x y ((o_image_Index_1 x).trans h)
theorem e_slices_IndexFuncC_v2 (L : Lf) (R : Oracle C.sigs) (x : denP (sigAt C.sigs 32).ins.tys) : evalFn L C R 32 x = b_slices_IndexFuncC_v2 L (R 33) x := by kernel_rfl
theorem o_slices_IndexFuncC_v2 (x : denP (sigAt C.sigs 32).ins.tys) : evalFn lf C (orc1 33 f_image_Index_1 orc0) 32 x = f_slices_IndexFuncC_v2 x := (e_slices_IndexFuncC_v2 lf _ x).trans (by kernel_rfl)
theorem c_slices_IndexFuncC_v2 : CallsAs C 32 f_slices_IndexFuncC_v2 :=
  fun x y h => Ev.Call.mk (C := C) _ (orc1_ok c_image_Index_1 orc0_ok) 32 x y ((o_slices_IndexFuncC_v2 x).trans h)
theorem e_image_Index (L : Lf) (R : Oracle C.sigs) (x : denP (sigAt C.sigs 10).ins.tys) : evalFn L C R 10 x = b_image_Index L (R 32) x := by kernel_rfl
theorem o_image_Index (x : denP (sigAt C.sigs 10).ins.tys) : evalFn lf C (orc1 32 f_slices_IndexFuncC_v2 orc0) 10 x = f_image_Index x := (e_image_Index lf _ x).trans (by kernel_rfl)
theorem c_image_Index : CallsAs C 10 f_image_Index :=
  fun x y h => Ev.Call.mk (C := C) _ (orc1_ok c_slices_IndexFuncC_v2 orc0_ok) 10 x y ((o_image_Index x).trans h)
theorem e_image_Sum (L : Lf) (R : Oracle C.sigs) (x : denP (sigAt C.sigs 12).ins.tys) : evalFn L C R 12 x = b_image_Sum L  x := by kernel_rfl
theorem o_image_Sum (x : denP (sigAt C.sigs 12).ins.tys) : evalFn lf C orc0 12 x = f_image_Sum x := (e_image_Sum lf _ x).trans (by kernel_rfl)
theorem c_image_Sum : CallsAs C 12 f_image_Sum :=
  fun x y h => Ev.Call.mk (C := C) _ orc0_ok 12 x y ((o_image_Sum x).trans h)
theorem e_image_Less (L : Lf) (R : Oracle C.sigs) (x : denP (sigAt C.sigs 14).ins.tys) : evalFn L C R 14 x = b_image_Less L  x := by kernel_rfl
theorem o_image_Less (x : denP (sigAt C.sigs 14).ins.tys) : evalFn lf C orc0 14 x = f_image_Less x := (e_image_Less lf _ x).trans (by kernel_rfl)
theorem c_image_Less : CallsAs C 14 f_image_Less :=
  fun x y h => Ev.Call.mk (C := C) _ orc0_ok 14 x y ((o_image_Less x).trans h)
theorem e_slices_EqualC (L : Lf) (R : Oracle C.sigs) (x : denP (sigAt C.sigs 34).ins.tys) : evalFn L C R 34 x = b_slices_EqualC L  x := by kernel_rfl
theorem o_slices_EqualC (x : denP (sigAt C.sigs 34).ins.tys) : evalFn lf C orc0 34 x = f_slices_EqualC x := (e_slices_EqualC lf _ x).trans (by kernel_rfl)
theorem c_slices_EqualC : CallsAs C 34 f_slices_EqualC :=
  fun x y h => Ev.Call.mk (C := C) _ orc0_ok 34 x y ((o_slices_EqualC x).trans h)
theorem e_slices_Equal (L : Lf) (R : Oracle C.sigs) (x : denP (sigAt C.sigs 35).ins.tys) : evalFn L C R 35 x = b_slices_Equal L  x := by kernel_rfl
theorem o_slices_Equal (x : denP (sigAt C.sigs 35).ins.tys) : evalFn lf C orc0 35 x = f_slices_Equal x := (e_slices_Equal lf _ x).trans (by kernel_rfl)
theorem c_slices_Equal : CallsAs C 35 f_slices_Equal :=
  fun x y h => Ev.Call.mk (C := C) _ orc0_ok 35 x y ((o_slices_Equal x).trans h)
theorem e_image_Same (L : Lf) (R : Oracle C.sigs) (x : denP (sigAt C.sigs 16).ins.tys) : evalFn L C R 16 x = b_image_Same L (R 34) (R 35) x := by kernel_rfl
theorem o_image_Same (x : denP (sigAt C.sigs 16).ins.tys) : evalFn lf C (orc1 34 f_slices_EqualC (orc1 35 f_slices_Equal orc0)) 16 x = f_image_Same x := (e_image_Same lf _ x).trans (by kernel_rfl)
theorem c_image_Same : CallsAs C 16 f_image_Same :=
  fun x y h => Ev.Call.mk (C := C) _ (orc1_ok c_slices_EqualC (orc1_ok c_slices_Equal orc0_ok)) 16 x y ((o_image_Same x).trans h)
theorem e_op_known (L : Lf) (R : Oracle C.sigs) (x : denP (sigAt C.sigs 64).ins.tys) : evalFn L C R 64 x = b_op_known L  x := by kernel_rfl
theorem o_op_known (x : denP (sigAt C.sigs 64).ins.tys) : evalFn lf C orc0 64 x = f_op_known x := (e_op_known lf _ x).trans (by kernel_rfl)
theorem c_op_known : CallsAs C 64 f_op_known :=
  fun x y h => Ev.Call.mk (C := C) _ orc0_ok 64 x y ((o_op_known x).trans h)
theorem e_op_Goes (L : Lf) (R : Oracle C.sigs) (x : denP (sigAt C.sigs 50).ins.tys) : evalFn L C R 50 x = b_op_Goes L (R 64) x := by kernel_rfl
theorem o_op_Goes (x : denP (sigAt C.sigs 50).ins.tys) : evalFn lf C (orc1 64 f_op_known orc0) 50 x = f_op_Goes x := (e_op_Goes lf _ x).trans (by kernel_rfl)
theorem c_op_Goes : CallsAs C 50 f_op_Goes :=
  fun x y h => Ev.Call.mk (C := C) _ (orc1_ok c_op_known orc0_ok) 50 x y ((o_op_Goes x).trans h)
theorem e_op_Numbers (L : Lf) (R : Oracle C.sigs) (x : denP (sigAt C.sigs 71).ins.tys) : evalFn L C R 71 x = b_op_Numbers L (R 64) x := by kernel_rfl
theorem o_op_Numbers (x : denP (sigAt C.sigs 71).ins.tys) : evalFn lf C (orc1 64 f_op_known orc0) 71 x = f_op_Numbers x := (e_op_Numbers lf _ x).trans (by kernel_rfl)
theorem c_op_Numbers : CallsAs C 71 f_op_Numbers :=
  fun x y h => Ev.Call.mk (C := C) _ (orc1_ok c_op_known orc0_ok) 71 x y ((o_op_Numbers x).trans h)
theorem e_op_within (L : Lf) (R : Oracle C.sigs) (x : denP (sigAt C.sigs 74).ins.tys) : evalFn L C R 74 x = b_op_within L  x := by kernel_rfl
theorem o_op_within (x : denP (sigAt C.sigs 74).ins.tys) : evalFn lf C orc0 74 x = f_op_within x := (e_op_within lf _ x).trans (by kernel_rfl)
theorem c_op_within : CallsAs C 74 f_op_within :=
  fun x y h => Ev.Call.mk (C := C) _ orc0_ok 74 x y ((o_op_within x).trans h)
theorem e_op_Check (L : Lf) (R : Oracle C.sigs) (x : denP (sigAt C.sigs 59).ins.tys) : evalFn L C R 59 x = b_op_Check L (R 50) (R 64) (R 71) (R 74) x := by kernel_rfl
theorem o_op_Check (x : denP (sigAt C.sigs 59).ins.tys) : evalFn lf C (orc1 50 f_op_Goes (orc1 64 f_op_known (orc1 71 f_op_Numbers (orc1 74 f_op_within orc0)))) 59 x = f_op_Check x := (e_op_Check lf _ x).trans (by kernel_rfl)
theorem c_op_Check : CallsAs C 59 f_op_Check :=
  fun x y h => Ev.Call.mk (C := C) _ (orc1_ok c_op_Goes (orc1_ok c_op_known (orc1_ok c_op_Numbers (orc1_ok c_op_within orc0_ok)))) 59 x y ((o_op_Check x).trans h)
theorem e_asm_Check_1 (L : Lf) (R : Oracle C.sigs) (x : denP (sigAt C.sigs 58).ins.tys) : evalFn L C R 58 x = b_asm_Check_1 L (R 59) x := by kernel_rfl
theorem o_asm_Check_1 (x : denP (sigAt C.sigs 58).ins.tys) : evalFn lf C (orc1 59 f_op_Check orc0) 58 x = f_asm_Check_1 x := (e_asm_Check_1 lf _ x).trans (by kernel_rfl)
theorem c_asm_Check_1 : CallsAs C 58 f_asm_Check_1 :=
  fun x y h => Ev.Call.mk (C := C) _ (orc1_ok c_op_Check orc0_ok) 58 x y ((o_asm_Check_1 x).trans h)
theorem e_slices_IndexFunc (L : Lf) (R : Oracle C.sigs) (x : denP (sigAt C.sigs 72).ins.tys) : evalFn L C R 72 x = b_slices_IndexFunc L (R 58) x := by kernel_rfl
theorem o_slices_IndexFunc (x : denP (sigAt C.sigs 72).ins.tys) : evalFn lf C (orc1 58 f_asm_Check_1 orc0) 72 x = f_slices_IndexFunc x := (e_slices_IndexFunc lf _ x).trans (by kernel_rfl)
theorem c_slices_IndexFunc : CallsAs C 72 f_slices_IndexFunc :=
  fun x y h => Ev.Call.mk (C := C) _ (orc1_ok c_asm_Check_1 orc0_ok) 72 x y ((o_slices_IndexFunc x).trans h)
theorem e_slices_ContainsFunc (L : Lf) (R : Oracle C.sigs) (x : denP (sigAt C.sigs 56).ins.tys) : evalFn L C R 56 x = b_slices_ContainsFunc L (R 72) x := by kernel_rfl
theorem o_slices_ContainsFunc (x : denP (sigAt C.sigs 56).ins.tys) : evalFn lf C (orc1 72 f_slices_IndexFunc orc0) 56 x = f_slices_ContainsFunc x := (e_slices_ContainsFunc lf _ x).trans (by kernel_rfl)
theorem c_slices_ContainsFunc : CallsAs C 56 f_slices_ContainsFunc :=
  fun x y h => Ev.Call.mk (C := C) _ (orc1_ok c_slices_IndexFunc orc0_ok) 56 x y ((o_slices_ContainsFunc x).trans h)
theorem e_asm_Check_2 (L : Lf) (R : Oracle C.sigs) (x : denP (sigAt C.sigs 60).ins.tys) : evalFn L C R 60 x = b_asm_Check_2 L (R 50) x := by kernel_rfl
theorem o_asm_Check_2 (x : denP (sigAt C.sigs 60).ins.tys) : evalFn lf C (orc1 50 f_op_Goes orc0) 60 x = f_asm_Check_2 x := (e_asm_Check_2 lf _ x).trans (by kernel_rfl)
theorem c_asm_Check_2 : CallsAs C 60 f_asm_Check_2 :=
  fun x y h => Ev.Call.mk (C := C) _ (orc1_ok c_op_Goes orc0_ok) 60 x y ((o_asm_Check_2 x).trans h)
theorem e_slices_IndexFunc_v2 (L : Lf) (R : Oracle C.sigs) (x : denP (sigAt C.sigs 73).ins.tys) : evalFn L C R 73 x = b_slices_IndexFunc_v2 L (R 60) x := by kernel_rfl
theorem o_slices_IndexFunc_v2 (x : denP (sigAt C.sigs 73).ins.tys) : evalFn lf C (orc1 60 f_asm_Check_2 orc0) 73 x = f_slices_IndexFunc_v2 x := (e_slices_IndexFunc_v2 lf _ x).trans (by kernel_rfl)
theorem c_slices_IndexFunc_v2 : CallsAs C 73 f_slices_IndexFunc_v2 :=
  fun x y h => Ev.Call.mk (C := C) _ (orc1_ok c_asm_Check_2 orc0_ok) 73 x y ((o_slices_IndexFunc_v2 x).trans h)
theorem e_slices_ContainsFunc_v2 (L : Lf) (R : Oracle C.sigs) (x : denP (sigAt C.sigs 57).ins.tys) : evalFn L C R 57 x = b_slices_ContainsFunc_v2 L (R 73) x := by kernel_rfl
theorem o_slices_ContainsFunc_v2 (x : denP (sigAt C.sigs 57).ins.tys) : evalFn lf C (orc1 73 f_slices_IndexFunc_v2 orc0) 57 x = f_slices_ContainsFunc_v2 x := (e_slices_ContainsFunc_v2 lf _ x).trans (by kernel_rfl)
theorem c_slices_ContainsFunc_v2 : CallsAs C 57 f_slices_ContainsFunc_v2 :=
  fun x y h => Ev.Call.mk (C := C) _ (orc1_ok c_slices_IndexFunc_v2 orc0_ok) 57 x y ((o_slices_ContainsFunc_v2 x).trans h)
theorem e_asm_Check (L : Lf) (R : Oracle C.sigs) (x : denP (sigAt C.sigs 45).ins.tys) : evalFn L C R 45 x = b_asm_Check L (R 56) (R 57) x := by kernel_rfl
theorem o_asm_Check (x : denP (sigAt C.sigs 45).ins.tys) : evalFn lf C (orc1 56 f_slices_ContainsFunc (orc1 57 f_slices_ContainsFunc_v2 orc0)) 45 x = f_asm_Check x := (e_asm_Check lf _ x).trans (by kernel_rfl)
theorem c_asm_Check : CallsAs C 45 f_asm_Check :=
  fun x y h => Ev.Call.mk (C := C) _ (orc1_ok c_slices_ContainsFunc (orc1_ok c_slices_ContainsFunc_v2 orc0_ok)) 45 x y ((o_asm_Check x).trans h)
theorem e_image_Check (L : Lf) (R : Oracle C.sigs) (x : denP (sigAt C.sigs 22).ins.tys) : evalFn L C R 22 x = b_image_Check L (R 14) (R 25) (R 45) x := by kernel_rfl
theorem o_image_Check (x : denP (sigAt C.sigs 22).ins.tys) : evalFn lf C (orc1 14 f_image_Less (orc1 25 f_image_right (orc1 45 f_asm_Check orc0))) 22 x = f_image_Check x := (e_image_Check lf _ x).trans (by kernel_rfl)
theorem c_image_Check : CallsAs C 22 f_image_Check :=
  fun x y h => Ev.Call.mk (C := C) _ (orc1_ok c_image_Less (orc1_ok c_image_right (orc1_ok c_asm_Check orc0_ok))) 22 x y ((o_image_Check x).trans h)
theorem e_op_right (L : Lf) (R : Oracle C.sigs) (x : denP (sigAt C.sigs 65).ins.tys) : evalFn L C R 65 x = b_op_right L (R 50) (R 59) x := by kernel_rfl
theorem o_op_right (x : denP (sigAt C.sigs 65).ins.tys) : evalFn lf C (orc1 50 f_op_Goes (orc1 59 f_op_Check orc0)) 65 x = f_op_right x := (e_op_right lf _ x).trans (by kernel_rfl)
theorem c_op_right : CallsAs C 65 f_op_right :=
  fun x y h => Ev.Call.mk (C := C) _ (orc1_ok c_op_Goes (orc1_ok c_op_Check orc0_ok)) 65 x y ((o_op_right x).trans h)
theorem e_op_told (L : Lf) (R : Oracle C.sigs) (x : denP (sigAt C.sigs 75).ins.tys) : evalFn L C R 75 x = b_op_told L (R 50) (R 71) x := by kernel_rfl
theorem o_op_told (x : denP (sigAt C.sigs 75).ins.tys) : evalFn lf C (orc1 50 f_op_Goes (orc1 71 f_op_Numbers orc0)) 75 x = f_op_told x := (e_op_told lf _ x).trans (by kernel_rfl)
theorem c_op_told : CallsAs C 75 f_op_told :=
  fun x y h => Ev.Call.mk (C := C) _ (orc1_ok c_op_Goes (orc1_ok c_op_Numbers orc0_ok)) 75 x y ((o_op_told x).trans h)
theorem e_op_number (L : Lf) (R : Oracle C.sigs) (x : denP (sigAt C.sigs 76).ins.tys) : evalFn L C R 76 x = b_op_number L  x := by kernel_rfl
theorem o_op_number (x : denP (sigAt C.sigs 76).ins.tys) : evalFn lf C orc0 76 x = f_op_number x := (e_op_number lf _ x).trans (by kernel_rfl)
theorem c_op_number : CallsAs C 76 f_op_number :=
  fun x y h => Ev.Call.mk (C := C) _ orc0_ok 76 x y ((o_op_number x).trans h)
theorem e_op_head (L : Lf) (R : Oracle C.sigs) (x : denP (sigAt C.sigs 66).ins.tys) : evalFn L C R 66 x = b_op_head L (R 75) (R 76) x := by kernel_rfl
theorem o_op_head (x : denP (sigAt C.sigs 66).ins.tys) : evalFn lf C (orc1 75 f_op_told (orc1 76 f_op_number orc0)) 66 x = f_op_head x := (e_op_head lf _ x).trans (by kernel_rfl)
theorem c_op_head : CallsAs C 66 f_op_head :=
  fun x y h => Ev.Call.mk (C := C) _ (orc1_ok c_op_told (orc1_ok c_op_number orc0_ok)) 66 x y ((o_op_head x).trans h)
theorem e_op_wide (L : Lf) (R : Oracle C.sigs) (x : denP (sigAt C.sigs 67).ins.tys) : evalFn L C R 67 x = b_op_wide L (R 50) x := by kernel_rfl
theorem o_op_wide (x : denP (sigAt C.sigs 67).ins.tys) : evalFn lf C (orc1 50 f_op_Goes orc0) 67 x = f_op_wide x := (e_op_wide lf _ x).trans (by kernel_rfl)
theorem c_op_wide : CallsAs C 67 f_op_wide :=
  fun x y h => Ev.Call.mk (C := C) _ (orc1_ok c_op_Goes orc0_ok) 67 x y ((o_op_wide x).trans h)
theorem e_op_Size (L : Lf) (R : Oracle C.sigs) (x : denP (sigAt C.sigs 63).ins.tys) : evalFn L C R 63 x = b_op_Size L (R 65) (R 66) (R 67) x := by kernel_rfl
theorem o_op_Size (x : denP (sigAt C.sigs 63).ins.tys) : evalFn lf C (orc1 65 f_op_right (orc1 66 f_op_head (orc1 67 f_op_wide orc0))) 63 x = f_op_Size x := (e_op_Size lf _ x).trans (by kernel_rfl)
theorem c_op_Size : CallsAs C 63 f_op_Size :=
  fun x y h => Ev.Call.mk (C := C) _ (orc1_ok c_op_right (orc1_ok c_op_head (orc1_ok c_op_wide orc0_ok))) 63 x y ((o_op_Size x).trans h)
theorem e_asm_starts (L : Lf) (R : Oracle C.sigs) (x : denP (sigAt C.sigs 49).ins.tys) : evalFn L C R 49 x = b_asm_starts L (R 63) x := by kernel_rfl
theorem o_asm_starts (x : denP (sigAt C.sigs 49).ins.tys) : evalFn lf C (orc1 63 f_op_Size orc0) 49 x = f_asm_starts x := (e_asm_starts lf _ x).trans (by kernel_rfl)
theorem c_asm_starts : CallsAs C 49 f_asm_starts :=
  fun x y h => Ev.Call.mk (C := C) _ (orc1_ok c_op_Size orc0_ok) 49 x y ((o_asm_starts x).trans h)
theorem e_asm_tight (L : Lf) (R : Oracle C.sigs) (x : denP (sigAt C.sigs 62).ins.tys) : evalFn L C R 62 x = b_asm_tight L (R 50) x := by kernel_rfl
theorem o_asm_tight (x : denP (sigAt C.sigs 62).ins.tys) : evalFn lf C (orc1 50 f_op_Goes orc0) 62 x = f_asm_tight x := (e_asm_tight lf _ x).trans (by kernel_rfl)
theorem c_asm_tight : CallsAs C 62 f_asm_tight :=
  fun x y h => Ev.Call.mk (C := C) _ (orc1_ok c_op_Goes orc0_ok) 62 x y ((o_asm_tight x).trans h)
theorem e_asm_Relax (L : Lf) (R : Oracle C.sigs) (x : denP (sigAt C.sigs 48).ins.tys) : evalFn L C R 48 x = b_asm_Relax L (R 45) (R 49) (R 50) (R 62) x := by kernel_rfl
theorem o_asm_Relax (x : denP (sigAt C.sigs 48).ins.tys) : evalFn lf C (orc1 45 f_asm_Check (orc1 49 f_asm_starts (orc1 50 f_op_Goes (orc1 62 f_asm_tight orc0)))) 48 x = f_asm_Relax x := (e_asm_Relax lf _ x).trans (by kernel_rfl)
theorem c_asm_Relax : CallsAs C 48 f_asm_Relax :=
  fun x y h => Ev.Call.mk (C := C) _ (orc1_ok c_asm_Check (orc1_ok c_asm_starts (orc1_ok c_op_Goes (orc1_ok c_asm_tight orc0_ok)))) 48 x y ((o_asm_Relax x).trans h)
theorem e_op_Put (L : Lf) (R : Oracle C.sigs) (x : denP (sigAt C.sigs 51).ins.tys) : evalFn L C R 51 x = b_op_Put L (R 50) (R 65) (R 66) (R 67) x := by kernel_rfl
theorem o_op_Put (x : denP (sigAt C.sigs 51).ins.tys) : evalFn lf C (orc1 50 f_op_Goes (orc1 65 f_op_right (orc1 66 f_op_head (orc1 67 f_op_wide orc0)))) 51 x = f_op_Put x := (e_op_Put lf _ x).trans (by kernel_rfl)
theorem c_op_Put : CallsAs C 51 f_op_Put :=
  fun x y h => Ev.Call.mk (C := C) _ (orc1_ok c_op_Goes (orc1_ok c_op_right (orc1_ok c_op_head (orc1_ok c_op_wide orc0_ok)))) 51 x y ((o_op_Put x).trans h)
theorem c_strings_Builder_copyCheck : CallsAs C 68 f_strings_Builder_copyCheck := c_ck
theorem e_strings_Builder_WriteString (L : Lf) (R : Oracle C.sigs) (x : denP (sigAt C.sigs 52).ins.tys) : evalFn L C R 52 x = b_strings_Builder_WriteString L (R 68) x := by kernel_rfl
theorem o_strings_Builder_WriteString (x : denP (sigAt C.sigs 52).ins.tys) : evalFn lf C (orc1 68 f_strings_Builder_copyCheck orc0) 52 x = f_strings_Builder_WriteString x := (e_strings_Builder_WriteString lf _ x).trans (by kernel_rfl)
theorem c_strings_Builder_WriteString : CallsAs C 52 f_strings_Builder_WriteString :=
  fun x y h => Ev.Call.mk (C := C) _ (orc1_ok c_strings_Builder_copyCheck orc0_ok) 52 x y ((o_strings_Builder_WriteString x).trans h)
theorem c_strings_Builder_String : CallsAs C 53 f_strings_Builder_String := c_str'
theorem e_asm_Assemble (L : Lf) (R : Oracle C.sigs) (x : denP (sigAt C.sigs 36).ins.tys) : evalFn L C R 36 x = b_asm_Assemble L (R 48) (R 49) (R 50) (R 51) (R 52) (R 53) x := by kernel_rfl
theorem o_asm_Assemble (x : denP (sigAt C.sigs 36).ins.tys) : evalFn lf C (orc1 48 f_asm_Relax (orc1 49 f_asm_starts (orc1 50 f_op_Goes (orc1 51 f_op_Put (orc1 52 f_strings_Builder_WriteString (orc1 53 f_strings_Builder_String orc0)))))) 36 x = f_asm_Assemble x := (e_asm_Assemble lf _ x).trans (by kernel_rfl)
theorem c_asm_Assemble : CallsAs C 36 f_asm_Assemble :=
  fun x y h => Ev.Call.mk (C := C) _ (orc1_ok c_asm_Relax (orc1_ok c_asm_starts (orc1_ok c_op_Goes (orc1_ok c_op_Put (orc1_ok c_strings_Builder_WriteString (orc1_ok c_strings_Builder_String orc0_ok)))))) 36 x y ((o_asm_Assemble x).trans h)
theorem e_image_low (L : Lf) (R : Oracle C.sigs) (x : denP (sigAt C.sigs 37).ins.tys) : evalFn L C R 37 x = b_image_low L  x := by kernel_rfl
theorem o_image_low (x : denP (sigAt C.sigs 37).ins.tys) : evalFn lf C orc0 37 x = f_image_low x := (e_image_low lf _ x).trans (by kernel_rfl)
theorem c_image_low : CallsAs C 37 f_image_low :=
  fun x y h => Ev.Call.mk (C := C) _ orc0_ok 37 x y ((o_image_low x).trans h)
theorem e_image_Encode (L : Lf) (R : Oracle C.sigs) (x : denP (sigAt C.sigs 18).ins.tys) : evalFn L C R 18 x = b_image_Encode L (R 12) (R 22) (R 36) (R 37) x := by kernel_rfl
theorem o_image_Encode (x : denP (sigAt C.sigs 18).ins.tys) : evalFn lf C (orc1 12 f_image_Sum (orc1 22 f_image_Check (orc1 36 f_asm_Assemble (orc1 37 f_image_low orc0)))) 18 x = f_image_Encode x := (e_image_Encode lf _ x).trans (by kernel_rfl)
theorem c_image_Encode : CallsAs C 18 f_image_Encode :=
  fun x y h => Ev.Call.mk (C := C) _ (orc1_ok c_image_Sum (orc1_ok c_image_Check (orc1_ok c_asm_Assemble (orc1_ok c_image_low orc0_ok)))) 18 x y ((o_image_Encode x).trans h)
theorem e_image_Decode_1 (L : Lf) (R : Oracle C.sigs) (x : denP (sigAt C.sigs 38).ins.tys) : evalFn L C R 38 x = b_image_Decode_1 L  x := by kernel_rfl
theorem o_image_Decode_1 (x : denP (sigAt C.sigs 38).ins.tys) : evalFn lf C orc0 38 x = f_image_Decode_1 x := (e_image_Decode_1 lf _ x).trans (by kernel_rfl)
theorem c_image_Decode_1 : CallsAs C 38 f_image_Decode_1 :=
  fun x y h => Ev.Call.mk (C := C) _ orc0_ok 38 x y ((o_image_Decode_1 x).trans h)
theorem e_internal_stringslite_HasPrefix (L : Lf) (R : Oracle C.sigs) (x : denP (sigAt C.sigs 69).ins.tys) : evalFn L C R 69 x = b_internal_stringslite_HasPrefix L  x := by kernel_rfl
theorem o_internal_stringslite_HasPrefix (x : denP (sigAt C.sigs 69).ins.tys) : evalFn lf C orc0 69 x = f_internal_stringslite_HasPrefix x := (e_internal_stringslite_HasPrefix lf _ x).trans (by kernel_rfl)
theorem c_internal_stringslite_HasPrefix : CallsAs C 69 f_internal_stringslite_HasPrefix :=
  fun x y h => Ev.Call.mk (C := C) _ orc0_ok 69 x y ((o_internal_stringslite_HasPrefix x).trans h)
theorem e_internal_stringslite_CutPrefix (L : Lf) (R : Oracle C.sigs) (x : denP (sigAt C.sigs 54).ins.tys) : evalFn L C R 54 x = b_internal_stringslite_CutPrefix L (R 69) x := by kernel_rfl
theorem o_internal_stringslite_CutPrefix (x : denP (sigAt C.sigs 54).ins.tys) : evalFn lf C (orc1 69 f_internal_stringslite_HasPrefix orc0) 54 x = f_internal_stringslite_CutPrefix x := (e_internal_stringslite_CutPrefix lf _ x).trans (by kernel_rfl)
theorem c_internal_stringslite_CutPrefix : CallsAs C 54 f_internal_stringslite_CutPrefix :=
  fun x y h => Ev.Call.mk (C := C) _ (orc1_ok c_internal_stringslite_HasPrefix orc0_ok) 54 x y ((o_internal_stringslite_CutPrefix x).trans h)
theorem e_strings_CutPrefix (L : Lf) (R : Oracle C.sigs) (x : denP (sigAt C.sigs 39).ins.tys) : evalFn L C R 39 x = b_strings_CutPrefix L (R 54) x := by kernel_rfl
theorem o_strings_CutPrefix (x : denP (sigAt C.sigs 39).ins.tys) : evalFn lf C (orc1 54 f_internal_stringslite_CutPrefix orc0) 39 x = f_strings_CutPrefix x := (e_strings_CutPrefix lf _ x).trans (by kernel_rfl)
theorem c_strings_CutPrefix : CallsAs C 39 f_strings_CutPrefix :=
  fun x y h => Ev.Call.mk (C := C) _ (orc1_ok c_internal_stringslite_CutPrefix orc0_ok) 39 x y ((o_strings_CutPrefix x).trans h)
theorem e_image_reader_take (L : Lf) (R : Oracle C.sigs) (x : denP (sigAt C.sigs 43).ins.tys) : evalFn L C R 43 x = b_image_reader_take L  x := by kernel_rfl
theorem o_image_reader_take (x : denP (sigAt C.sigs 43).ins.tys) : evalFn lf C orc0 43 x = f_image_reader_take x := (e_image_reader_take lf _ x).trans (by kernel_rfl)
theorem c_image_reader_take : CallsAs C 43 f_image_reader_take :=
  fun x y h => Ev.Call.mk (C := C) _ orc0_ok 43 x y ((o_image_reader_take x).trans h)
theorem e_image_reader_num (L : Lf) (R : Oracle C.sigs) (x : denP (sigAt C.sigs 40).ins.tys) : evalFn L C R 40 x = b_image_reader_num L (R 43) x := by kernel_rfl
theorem o_image_reader_num (x : denP (sigAt C.sigs 40).ins.tys) : evalFn lf C (orc1 43 f_image_reader_take orc0) 40 x = f_image_reader_num x := (e_image_reader_num lf _ x).trans (by kernel_rfl)
theorem c_image_reader_num : CallsAs C 40 f_image_reader_num :=
  fun x y h => Ev.Call.mk (C := C) _ (orc1_ok c_image_reader_take orc0_ok) 40 x y ((o_image_reader_num x).trans h)
theorem e_image_reader_thing (L : Lf) (R : Oracle C.sigs) (x : denP (sigAt C.sigs 41).ins.tys) : evalFn L C R 41 x = b_image_reader_thing L (R 40) (R 43) x := by kernel_rfl
theorem o_image_reader_thing (x : denP (sigAt C.sigs 41).ins.tys) : evalFn lf C (orc1 40 f_image_reader_num (orc1 43 f_image_reader_take orc0)) 41 x = f_image_reader_thing x := (e_image_reader_thing lf _ x).trans (by kernel_rfl)
theorem c_image_reader_thing : CallsAs C 41 f_image_reader_thing :=
  fun x y h => Ev.Call.mk (C := C) _ (orc1_ok c_image_reader_num (orc1_ok c_image_reader_take orc0_ok)) 41 x y ((o_image_reader_thing x).trans h)
theorem e_op_Get_1 (L : Lf) (R : Oracle C.sigs) (x : denP (sigAt C.sigs 70).ins.tys) : evalFn L C R 70 x = b_op_Get_1 L  x := by kernel_rfl
theorem o_op_Get_1 (x : denP (sigAt C.sigs 70).ins.tys) : evalFn lf C orc0 70 x = f_op_Get_1 x := (e_op_Get_1 lf _ x).trans (by kernel_rfl)
theorem c_op_Get_1 : CallsAs C 70 f_op_Get_1 :=
  fun x y h => Ev.Call.mk (C := C) _ orc0_ok 70 x y ((o_op_Get_1 x).trans h)
theorem e_op_Get (L : Lf) (R : Oracle C.sigs) (x : denP (sigAt C.sigs 55).ins.tys) : evalFn L C R 55 x = b_op_Get L (R 50) (R 64) (R 67) (R 70) (R 71) x := by kernel_rfl
theorem o_op_Get (x : denP (sigAt C.sigs 55).ins.tys) : evalFn lf C (orc1 50 f_op_Goes (orc1 64 f_op_known (orc1 67 f_op_wide (orc1 70 f_op_Get_1 (orc1 71 f_op_Numbers orc0))))) 55 x = f_op_Get x := (e_op_Get lf _ x).trans (by kernel_rfl)
theorem c_op_Get : CallsAs C 55 f_op_Get :=
  fun x y h => Ev.Call.mk (C := C) _ (orc1_ok c_op_Goes (orc1_ok c_op_known (orc1_ok c_op_wide (orc1_ok c_op_Get_1 (orc1_ok c_op_Numbers orc0_ok))))) 55 x y ((o_op_Get x).trans h)
theorem e_asm_Disassemble (L : Lf) (R : Oracle C.sigs) (x : denP (sigAt C.sigs 42).ins.tys) : evalFn L C R 42 x = b_asm_Disassemble L (R 36) (R 50) (R 55) x := by kernel_rfl
theorem o_asm_Disassemble (x : denP (sigAt C.sigs 42).ins.tys) : evalFn lf C (orc1 36 f_asm_Assemble (orc1 50 f_op_Goes (orc1 55 f_op_Get orc0))) 42 x = f_asm_Disassemble x := (e_asm_Disassemble lf _ x).trans (by kernel_rfl)
theorem c_asm_Disassemble : CallsAs C 42 f_asm_Disassemble :=
  fun x y h => Ev.Call.mk (C := C) _ (orc1_ok c_asm_Assemble (orc1_ok c_op_Goes (orc1_ok c_op_Get orc0_ok))) 42 x y ((o_asm_Disassemble x).trans h)
theorem e_image_Decode (L : Lf) (R : Oracle C.sigs) (x : denP (sigAt C.sigs 20).ins.tys) : evalFn L C R 20 x = b_image_Decode L (R 18) (R 38) (R 39) (R 40) (R 41) (R 42) (R 43) x := by kernel_rfl
theorem o_image_Decode (x : denP (sigAt C.sigs 20).ins.tys) : evalFn lf C (orc1 18 f_image_Encode (orc1 38 f_image_Decode_1 (orc1 39 f_strings_CutPrefix (orc1 40 f_image_reader_num (orc1 41 f_image_reader_thing (orc1 42 f_asm_Disassemble (orc1 43 f_image_reader_take orc0))))))) 20 x = f_image_Decode x := (e_image_Decode lf _ x).trans (by kernel_rfl)
theorem c_image_Decode : CallsAs C 20 f_image_Decode :=
  fun x y h => Ev.Call.mk (C := C) _ (orc1_ok c_image_Encode (orc1_ok c_image_Decode_1 (orc1_ok c_strings_CutPrefix (orc1_ok c_image_reader_num (orc1_ok c_image_reader_thing (orc1_ok c_asm_Disassemble (orc1_ok c_image_reader_take orc0_ok))))))) 20 x y ((o_image_Decode x).trans h)
theorem e_law18_awake (L : Lf) (R : Oracle C.sigs) (x : denP (sigAt C.sigs 5).ins.tys) : evalFn L C R 5 x = b_law18_awake L (R 7) (R 10) (R 12) (R 14) (R 16) (R 18) (R 20) (R 22) x := by kernel_rfl
theorem o_law18_awake (x : denP (sigAt C.sigs 5).ins.tys) : evalFn lf C (orc1 7 f_image_Pool (orc1 10 f_image_Index (orc1 12 f_image_Sum (orc1 14 f_image_Less (orc1 16 f_image_Same (orc1 18 f_image_Encode (orc1 20 f_image_Decode (orc1 22 f_image_Check orc0)))))))) 5 x = f_law18_awake x := (e_law18_awake lf _ x).trans (by kernel_rfl)
theorem c_law18_awake : CallsAs C 5 f_law18_awake :=
  fun x y h => Ev.Call.mk (C := C) _ (orc1_ok c_image_Pool (orc1_ok c_image_Index (orc1_ok c_image_Sum (orc1_ok c_image_Less (orc1_ok c_image_Same (orc1_ok c_image_Encode (orc1_ok c_image_Decode (orc1_ok c_image_Check orc0_ok)))))))) 5 x y ((o_law18_awake x).trans h)
theorem e_law18_few (L : Lf) (R : Oracle C.sigs) (x : denP (sigAt C.sigs 6).ins.tys) : evalFn L C R 6 x = b_law18_few L  x := by kernel_rfl
theorem o_law18_few (x : denP (sigAt C.sigs 6).ins.tys) : evalFn lf C orc0 6 x = f_law18_few x := (e_law18_few lf _ x).trans (by kernel_rfl)
theorem c_law18_few : CallsAs C 6 f_law18_few :=
  fun x y h => Ev.Call.mk (C := C) _ orc0_ok 6 x y ((o_law18_few x).trans h)
theorem e_law18_own (L : Lf) (R : Oracle C.sigs) (x : denP (sigAt C.sigs 8).ins.tys) : evalFn L C R 8 x = b_law18_own L  x := by kernel_rfl
theorem o_law18_own (x : denP (sigAt C.sigs 8).ins.tys) : evalFn lf C orc0 8 x = f_law18_own x := (e_law18_own lf _ x).trans (by kernel_rfl)
theorem c_law18_own : CallsAs C 8 f_law18_own :=
  fun x y h => Ev.Call.mk (C := C) _ orc0_ok 8 x y ((o_law18_own x).trans h)
theorem e_ref18_Less (L : Lf) (R : Oracle C.sigs) (x : denP (sigAt C.sigs 15).ins.tys) : evalFn L C R 15 x = b_ref18_Less L  x := by kernel_rfl
theorem o_ref18_Less (x : denP (sigAt C.sigs 15).ins.tys) : evalFn lf C orc0 15 x = f_ref18_Less x := (e_ref18_Less lf _ x).trans (by kernel_rfl)
theorem c_ref18_Less : CallsAs C 15 f_ref18_Less :=
  fun x y h => Ev.Call.mk (C := C) _ orc0_ok 15 x y ((o_ref18_Less x).trans h)
theorem e_ref01_back (L : Lf) (R : Oracle C.sigs) (x : denP (sigAt C.sigs 61).ins.tys) : evalFn L C R 61 x = b_ref01_back L  x := by kernel_rfl
theorem o_ref01_back (x : denP (sigAt C.sigs 61).ins.tys) : evalFn lf C orc0 61 x = f_ref01_back x := (e_ref01_back lf _ x).trans (by kernel_rfl)
theorem c_ref01_back : CallsAs C 61 f_ref01_back :=
  fun x y h => Ev.Call.mk (C := C) _ orc0_ok 61 x y ((o_ref01_back x).trans h)
theorem e_ref01_Wrap (L : Lf) (R : Oracle C.sigs) (x : denP (sigAt C.sigs 47).ins.tys) : evalFn L C R 47 x = b_ref01_Wrap L (R 61) x := by kernel_rfl
theorem o_ref01_Wrap (x : denP (sigAt C.sigs 47).ins.tys) : evalFn lf C (orc1 61 f_ref01_back orc0) 47 x = f_ref01_Wrap x := (e_ref01_Wrap lf _ x).trans (by kernel_rfl)
theorem c_ref01_Wrap : CallsAs C 47 f_ref01_Wrap :=
  fun x y h => Ev.Call.mk (C := C) _ (orc1_ok c_ref01_back orc0_ok) 47 x y ((o_ref01_Wrap x).trans h)
theorem e_ref18_right (L : Lf) (R : Oracle C.sigs) (x : denP (sigAt C.sigs 30).ins.tys) : evalFn L C R 30 x = b_ref18_right L (R 47) x := by kernel_rfl
theorem o_ref18_right (x : denP (sigAt C.sigs 30).ins.tys) : evalFn lf C (orc1 47 f_ref01_Wrap orc0) 30 x = f_ref18_right x := (e_ref18_right lf _ x).trans (by kernel_rfl)
theorem c_ref18_right : CallsAs C 30 f_ref18_right :=
  fun x y h => Ev.Call.mk (C := C) _ (orc1_ok c_ref01_Wrap orc0_ok) 30 x y ((o_ref18_right x).trans h)
theorem e_ref18_Pool (L : Lf) (R : Oracle C.sigs) (x : denP (sigAt C.sigs 9).ins.tys) : evalFn L C R 9 x = b_ref18_Pool L (R 15) (R 30) x := by kernel_rfl
theorem o_ref18_Pool (x : denP (sigAt C.sigs 9).ins.tys) : evalFn lf C (orc1 15 f_ref18_Less (orc1 30 f_ref18_right orc0)) 9 x = f_ref18_Pool x := (e_ref18_Pool lf _ x).trans (by kernel_rfl)
theorem c_ref18_Pool : CallsAs C 9 f_ref18_Pool :=
  fun x y h => Ev.Call.mk (C := C) _ (orc1_ok c_ref18_Less (orc1_ok c_ref18_right orc0_ok)) 9 x y ((o_ref18_Pool x).trans h)
theorem e_ref18_Index (L : Lf) (R : Oracle C.sigs) (x : denP (sigAt C.sigs 11).ins.tys) : evalFn L C R 11 x = b_ref18_Index L  x := by kernel_rfl
theorem o_ref18_Index (x : denP (sigAt C.sigs 11).ins.tys) : evalFn lf C orc0 11 x = f_ref18_Index x := (e_ref18_Index lf _ x).trans (by kernel_rfl)
theorem c_ref18_Index : CallsAs C 11 f_ref18_Index :=
  fun x y h => Ev.Call.mk (C := C) _ orc0_ok 11 x y ((o_ref18_Index x).trans h)
theorem e_ref18_Sum (L : Lf) (R : Oracle C.sigs) (x : denP (sigAt C.sigs 13).ins.tys) : evalFn L C R 13 x = b_ref18_Sum L  x := by kernel_rfl
theorem o_ref18_Sum (x : denP (sigAt C.sigs 13).ins.tys) : evalFn lf C orc0 13 x = f_ref18_Sum x := (e_ref18_Sum lf _ x).trans (by kernel_rfl)
theorem c_ref18_Sum : CallsAs C 13 f_ref18_Sum :=
  fun x y h => Ev.Call.mk (C := C) _ orc0_ok 13 x y ((o_ref18_Sum x).trans h)
theorem e_law18_ImagePools (L : Lf) (R : Oracle C.sigs) (x : denP (sigAt C.sigs 0).ins.tys) : evalFn L C R 0 x = b_law18_ImagePools L (R 5) (R 6) (R 7) (R 8) (R 9) (R 10) (R 11) (R 12) (R 13) (R 14) (R 15) (R 16) x := by kernel_rfl
theorem o_law18_ImagePools (x : denP (sigAt C.sigs 0).ins.tys) : evalFn lf C (orc1 5 f_law18_awake (orc1 6 f_law18_few (orc1 7 f_image_Pool (orc1 8 f_law18_own (orc1 9 f_ref18_Pool (orc1 10 f_image_Index (orc1 11 f_ref18_Index (orc1 12 f_image_Sum (orc1 13 f_ref18_Sum (orc1 14 f_image_Less (orc1 15 f_ref18_Less (orc1 16 f_image_Same orc0)))))))))))) 0 x = f_law18_ImagePools x := (e_law18_ImagePools lf _ x).trans (by kernel_rfl)
theorem c_law18_ImagePools : CallsAs C 0 f_law18_ImagePools :=
  fun x y h => Ev.Call.mk (C := C) _ (orc1_ok c_law18_awake (orc1_ok c_law18_few (orc1_ok c_image_Pool (orc1_ok c_law18_own (orc1_ok c_ref18_Pool (orc1_ok c_image_Index (orc1_ok c_ref18_Index (orc1_ok c_image_Sum (orc1_ok c_ref18_Sum (orc1_ok c_image_Less (orc1_ok c_ref18_Less (orc1_ok c_image_Same orc0_ok)))))))))))) 0 x y ((o_law18_ImagePools x).trans h)
theorem e_ref18_Few (L : Lf) (R : Oracle C.sigs) (x : denP (sigAt C.sigs 17).ins.tys) : evalFn L C R 17 x = b_ref18_Few L  x := by kernel_rfl
theorem o_ref18_Few (x : denP (sigAt C.sigs 17).ins.tys) : evalFn lf C orc0 17 x = f_ref18_Few x := (e_ref18_Few lf _ x).trans (by kernel_rfl)
theorem c_ref18_Few : CallsAs C 17 f_ref18_Few :=
  fun x y h => Ev.Call.mk (C := C) _ orc0_ok 17 x y ((o_ref18_Few x).trans h)
theorem e_law18_copied (L : Lf) (R : Oracle C.sigs) (x : denP (sigAt C.sigs 19).ins.tys) : evalFn L C R 19 x = b_law18_copied L (R 8) x := by kernel_rfl
theorem o_law18_copied (x : denP (sigAt C.sigs 19).ins.tys) : evalFn lf C (orc1 8 f_law18_own orc0) 19 x = f_law18_copied x := (e_law18_copied lf _ x).trans (by kernel_rfl)
theorem c_law18_copied : CallsAs C 19 f_law18_copied :=
  fun x y h => Ev.Call.mk (C := C) _ (orc1_ok c_law18_own orc0_ok) 19 x y ((o_law18_copied x).trans h)
theorem e_ref16_Same (L : Lf) (R : Oracle C.sigs) (x : denP (sigAt C.sigs 44).ins.tys) : evalFn L C R 44 x = b_ref16_Same L  x := by kernel_rfl
theorem o_ref16_Same (x : denP (sigAt C.sigs 44).ins.tys) : evalFn lf C orc0 44 x = f_ref16_Same x := (e_ref16_Same lf _ x).trans (by kernel_rfl)
theorem c_ref16_Same : CallsAs C 44 f_ref16_Same :=
  fun x y h => Ev.Call.mk (C := C) _ orc0_ok 44 x y ((o_ref16_Same x).trans h)
theorem e_ref18_Same (L : Lf) (R : Oracle C.sigs) (x : denP (sigAt C.sigs 21).ins.tys) : evalFn L C R 21 x = b_ref18_Same L (R 44) x := by kernel_rfl
theorem o_ref18_Same (x : denP (sigAt C.sigs 21).ins.tys) : evalFn lf C (orc1 44 f_ref16_Same orc0) 21 x = f_ref18_Same x := (e_ref18_Same lf _ x).trans (by kernel_rfl)
theorem c_ref18_Same : CallsAs C 21 f_ref18_Same :=
  fun x y h => Ev.Call.mk (C := C) _ (orc1_ok c_ref16_Same orc0_ok) 21 x y ((o_ref18_Same x).trans h)
theorem e_law18_ImageBack (L : Lf) (R : Oracle C.sigs) (x : denP (sigAt C.sigs 1).ins.tys) : evalFn L C R 1 x = b_law18_ImageBack L (R 5) (R 17) (R 18) (R 19) (R 20) (R 21) x := by kernel_rfl
theorem o_law18_ImageBack (x : denP (sigAt C.sigs 1).ins.tys) : evalFn lf C (orc1 5 f_law18_awake (orc1 17 f_ref18_Few (orc1 18 f_image_Encode (orc1 19 f_law18_copied (orc1 20 f_image_Decode (orc1 21 f_ref18_Same orc0)))))) 1 x = f_law18_ImageBack x := (e_law18_ImageBack lf _ x).trans (by kernel_rfl)
theorem c_law18_ImageBack : CallsAs C 1 f_law18_ImageBack :=
  fun x y h => Ev.Call.mk (C := C) _ (orc1_ok c_law18_awake (orc1_ok c_ref18_Few (orc1_ok c_image_Encode (orc1_ok c_law18_copied (orc1_ok c_image_Decode (orc1_ok c_ref18_Same orc0_ok)))))) 1 x y ((o_law18_ImageBack x).trans h)
theorem e_law18_ImageOnly (L : Lf) (R : Oracle C.sigs) (x : denP (sigAt C.sigs 2).ins.tys) : evalFn L C R 2 x = b_law18_ImageOnly L (R 5) (R 18) (R 19) (R 20) (R 22) x := by kernel_rfl
theorem o_law18_ImageOnly (x : denP (sigAt C.sigs 2).ins.tys) : evalFn lf C (orc1 5 f_law18_awake (orc1 18 f_image_Encode (orc1 19 f_law18_copied (orc1 20 f_image_Decode (orc1 22 f_image_Check orc0))))) 2 x = f_law18_ImageOnly x := (e_law18_ImageOnly lf _ x).trans (by kernel_rfl)
theorem c_law18_ImageOnly : CallsAs C 2 f_law18_ImageOnly :=
  fun x y h => Ev.Call.mk (C := C) _ (orc1_ok c_law18_awake (orc1_ok c_image_Encode (orc1_ok c_law18_copied (orc1_ok c_image_Decode (orc1_ok c_image_Check orc0_ok))))) 2 x y ((o_law18_ImageOnly x).trans h)
theorem e_law18_ImageTurned (L : Lf) (R : Oracle C.sigs) (x : denP (sigAt C.sigs 3).ins.tys) : evalFn L C R 3 x = b_law18_ImageTurned L (R 5) (R 17) (R 18) (R 19) (R 20) x := by kernel_rfl
theorem o_law18_ImageTurned (x : denP (sigAt C.sigs 3).ins.tys) : evalFn lf C (orc1 5 f_law18_awake (orc1 17 f_ref18_Few (orc1 18 f_image_Encode (orc1 19 f_law18_copied (orc1 20 f_image_Decode orc0))))) 3 x = f_law18_ImageTurned x := (e_law18_ImageTurned lf _ x).trans (by kernel_rfl)
theorem c_law18_ImageTurned : CallsAs C 3 f_law18_ImageTurned :=
  fun x y h => Ev.Call.mk (C := C) _ (orc1_ok c_law18_awake (orc1_ok c_ref18_Few (orc1_ok c_image_Encode (orc1_ok c_law18_copied (orc1_ok c_image_Decode orc0_ok))))) 3 x y ((o_law18_ImageTurned x).trans h)
theorem e_law18_ImageOrder (L : Lf) (R : Oracle C.sigs) (x : denP (sigAt C.sigs 4).ins.tys) : evalFn L C R 4 x = b_law18_ImageOrder L (R 5) (R 6) (R 7) (R 8) (R 10) (R 16) (R 22) x := by kernel_rfl
theorem o_law18_ImageOrder (x : denP (sigAt C.sigs 4).ins.tys) : evalFn lf C (orc1 5 f_law18_awake (orc1 6 f_law18_few (orc1 7 f_image_Pool (orc1 8 f_law18_own (orc1 10 f_image_Index (orc1 16 f_image_Same (orc1 22 f_image_Check orc0))))))) 4 x = f_law18_ImageOrder x := (e_law18_ImageOrder lf _ x).trans (by kernel_rfl)
theorem c_law18_ImageOrder : CallsAs C 4 f_law18_ImageOrder :=
  fun x y h => Ev.Call.mk (C := C) _ (orc1_ok c_law18_awake (orc1_ok c_law18_few (orc1_ok c_image_Pool (orc1_ok c_law18_own (orc1_ok c_image_Index (orc1_ok c_image_Same (orc1_ok c_image_Check orc0_ok))))))) 4 x y ((o_law18_ImageOrder x).trans h)

theorem tabOk : tabChk C C.tab = true := by kernel_rfl
theorem eqsOk : eqChk C C.eqs = true := by kernel_rfl
theorem namesGood : namesOk C C.sigs = true := by kernel_rfl
theorem mixed : C.P.follows .mixedOrders = true := by kernel_rfl
theorem calls {i : Nat} {x : denP (sigAt C.sigs i).ins.tys} {y : denP (sigAt C.sigs i).outs.tys} (h : Ev.Call C i x y) : FnOk C i x y := calls_ok tabOk eqsOk namesGood mixed h
theorem globOk : GlobOk C Rows.imagePoolsRow.laid := by
  refine ⟨by kernel_rfl, fun g t x h => ?_⟩
  match g with
  | 0 =>
    cases h
    exact ⟨_, _, 137, List.Mem.head _, by kernel_rfl, by kernel_rfl, by kernel_rfl, rfl, by kernel_rfl⟩
  | n + 1 => cases h
theorem seatOk : SeatOk C Rows.imagePoolsRow.laid := seatOk_of tabOk (by kernel_rfl) (by kernel_rfl) (by kernel_rfl) globOk
end Go.Proofs.YtdekfefcpdejkaaDoor.Seat
