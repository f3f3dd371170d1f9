/- The functions of this seat as data: each is what the model's code gives, by the kernel's reckoning over the verified evaluator. No statement of its own about the program. -/
import Derived.Test.YthbmeiihbaggpaaDoorFn
import Derived.Test.YthbmeiihbaggpaaDoorWalk
import Derived.Test.YthbmeiihbaggpaaDoorRows
import Derived.KernelRfl
namespace Go.Proofs.YthbmeiihbaggpaaDoor.Seat
open Go Go.Proofs Ev Ev.Fn
def sigs : List Sig := [
  ⟨3, ⟨[.d (.st (.pair (.int .i64) (.pair (.int .i64) (.int .i64)))), .d .str], []⟩, ⟨[.d .bool], []⟩, []⟩,
  ⟨4, ⟨[.d (.st (.pair (.int .i64) (.pair (.int .i64) (.int .i64)))), .d (.int .i64), .d .bool], []⟩, ⟨[.d .bool], []⟩, []⟩,
  ⟨5, ⟨[.d .str], []⟩, ⟨[.d .bool], []⟩, []⟩,
  ⟨6, ⟨[.d (.st (.pair (.int .i64) (.pair (.int .i64) (.int .i64)))), .d (.int .i64), .d .bool, .d .str], []⟩, ⟨[.d .bool], []⟩, []⟩,
  ⟨7, ⟨[.d .str], []⟩, ⟨[.d .bool], []⟩, []⟩,
  ⟨8, ⟨[.d (.st (.pair (.int .i64) (.pair (.int .i64) (.int .i64)))), .d (.int .i64), .d .bool, .d (.int .u8)], []⟩, ⟨[.d .bool], []⟩, []⟩,
  ⟨9, ⟨[.d (.sl (.st (.pair (.int .i64) (.pair (.int .i64) (.int .i64)))))], []⟩, ⟨[.d .bool], []⟩, []⟩,
  ⟨10, ⟨[.d .str], []⟩, ⟨[.d .bool], []⟩, []⟩,
  ⟨11, ⟨[.d (.sl (.st (.pair (.int .i64) (.pair (.int .i64) (.int .i64))))), .d (.sl .bool)], []⟩, ⟨[.d .bool], []⟩, []⟩,
  ⟨12, ⟨[.d (.sl (.st (.pair (.int .i64) (.pair (.int .i64) (.int .i64))))), .d (.sl .bool)], []⟩, ⟨[.d .bool], []⟩, []⟩,
  ⟨13, ⟨[.d (.sl (.st (.pair (.int .i64) (.pair (.int .i64) (.int .i64)))))], []⟩, ⟨[.d .bool], []⟩, []⟩,
  ⟨14, ⟨[.d .str], []⟩, ⟨[.d .bool], []⟩, []⟩,
  ⟨15, ⟨[.d (.sl (.st (.pair (.int .i64) (.pair (.int .i64) (.int .i64))))), .d (.sl (.st (.pair (.int .i64) (.pair (.int .i64) (.int .i64)))))], []⟩, ⟨[.d .bool], []⟩, []⟩,
  ⟨16, ⟨[], []⟩, ⟨[.d .bool], []⟩, []⟩,
  ⟨17, ⟨[.d (.st (.pair (.int .i64) (.pair (.int .i64) (.int .i64))))], []⟩, ⟨[.d .bool], []⟩, []⟩,
  ⟨18, ⟨[.d .str], []⟩, ⟨[.d (.int .i64), .d .bool], []⟩, []⟩,
  ⟨19, ⟨[], []⟩, ⟨[.d (.sl .str)], []⟩, []⟩,
  ⟨20, ⟨[.d (.int .i64)], []⟩, ⟨[.d (.int .i64)], []⟩, []⟩,
  ⟨21, ⟨[.d (.int .i64)], []⟩, ⟨[.d .bool], []⟩, []⟩,
  ⟨22, ⟨[.d (.st (.pair (.int .i64) (.pair (.int .i64) (.int .i64))))], []⟩, ⟨[.d (.int .i64)], []⟩, []⟩,
  ⟨23, ⟨[.d (.int .i64)], []⟩, ⟨[.d .str], []⟩, []⟩,
  ⟨24, ⟨[.d (.int .i64)], []⟩, ⟨[.d (.int .i64)], []⟩, []⟩,
  ⟨25, ⟨[.d (.int .i64)], []⟩, ⟨[.d .bool], []⟩, []⟩,
  ⟨26, ⟨[.d (.sl .str), .d .str], []⟩, ⟨[.d .bool], []⟩, []⟩,
  ⟨27, ⟨[.d (.st (.pair (.int .i64) (.pair (.int .i64) (.int .i64)))), .d (.int .i64), .d .bool], []⟩, ⟨[.d .str, .d (.int .i64)], []⟩, []⟩,
  ⟨28, ⟨[.d (.st (.pair (.int .i64) (.pair (.int .i64) (.int .i64)))), .d (.int .i64), .d .bool], []⟩, ⟨[.d .str, .d (.int .i64)], []⟩, []⟩,
  ⟨29, ⟨[.d (.st (.pair (.int .i64) (.pair (.int .i64) (.int .i64)))), .d .bool], []⟩, ⟨[.d (.int .i64)], []⟩, []⟩,
  ⟨30, ⟨[.d .str], []⟩, ⟨[.d (.st (.pair (.int .i64) (.pair (.int .i64) (.int .i64)))), .d (.int .i64), .d .bool, .d (.int .i64), .d (.int .i64)], []⟩, []⟩,
  ⟨31, ⟨[.d .str], []⟩, ⟨[.d (.st (.pair (.st (.pair (.int .i64) (.pair (.int .i64) (.int .i64)))) (.pair (.int .i64) (.pair .bool (.pair (.int .i64) (.int .i64))))))], []⟩, []⟩,
  ⟨32, ⟨[], []⟩, ⟨[.d .bool], []⟩, []⟩,
  ⟨33, ⟨[.d (.sl (.st (.pair (.int .i64) (.pair (.int .i64) (.int .i64)))))], []⟩, ⟨[.d (.int .i64)], []⟩, []⟩,
  ⟨34, ⟨[.d (.sl (.st (.pair (.int .i64) (.pair (.int .i64) (.int .i64)))))], []⟩, ⟨[.d .str, .d (.int .i64)], []⟩, []⟩,
  ⟨35, ⟨[.d (.sl (.st (.pair (.int .i64) (.pair (.int .i64) (.int .i64)))))], []⟩, ⟨[.osl 0], [.vec (.st (.pair (.int .i64) (.pair (.int .i64) (.int .i64))))]⟩, []⟩,
  ⟨36, ⟨[.d (.sl (.st (.pair (.int .i64) (.pair (.int .i64) (.int .i64)))))], []⟩, ⟨[.d (.sl .bool), .d (.int .i64)], []⟩, []⟩,
  ⟨37, ⟨[.d (.sl (.st (.pair (.int .i64) (.pair (.int .i64) (.int .i64)))))], []⟩, ⟨[.d (.int .i64)], []⟩, []⟩,
  ⟨38, ⟨[.d (.sl (.st (.pair (.int .i64) (.pair (.int .i64) (.int .i64)))))], []⟩, ⟨[.d (.sl .bool)], []⟩, []⟩,
  ⟨39, ⟨[.d (.sl (.st (.pair (.int .i64) (.pair (.int .i64) (.int .i64)))))], []⟩, ⟨[.d .str], []⟩, []⟩,
  ⟨40, ⟨[.d .str], []⟩, ⟨[.d (.sl (.st (.pair (.int .i64) (.pair (.int .i64) (.int .i64))))), .d (.int .i64)], []⟩, []⟩,
  ⟨41, ⟨[.d .str], []⟩, ⟨[.d (.sl (.st (.pair (.int .i64) (.pair (.int .i64) (.int .i64))))), .d (.int .i64)], []⟩, []⟩,
  ⟨42, ⟨[.d (.sl (.st (.pair (.int .i64) (.pair (.int .i64) (.int .i64))))), .d (.sl (.st (.pair (.int .i64) (.pair (.int .i64) (.int .i64)))))], []⟩, ⟨[.d .bool], []⟩, []⟩,
  ⟨43, ⟨[.d (.sl (.st (.pair (.int .i64) (.pair (.int .i64) (.int .i64))))), .d (.sl .bool)], []⟩, ⟨[.d .bool], []⟩, []⟩,
  ⟨44, ⟨[.d (.sl (.st (.pair (.int .i64) (.pair (.int .i64) (.int .i64))))), .d (.sl .bool)], []⟩, ⟨[.d (.sl (.int .i64))], []⟩, []⟩,
  ⟨45, ⟨[.d (.sl .bool)], []⟩, ⟨[.d (.sl .bool)], []⟩, []⟩,
  ⟨46, ⟨[.d (.sl (.st (.pair (.int .i64) (.pair (.int .i64) (.int .i64))))), .d (.sl .bool)], []⟩, ⟨[.d .bool], []⟩, []⟩,
  ⟨47, ⟨[.d (.sl (.int .i64)), .d (.sl (.int .i64))], []⟩, ⟨[.d .bool], []⟩, []⟩,
  ⟨48, ⟨[.d (.sl (.st (.pair (.int .i64) (.pair (.int .i64) (.int .i64))))), .d (.sl .bool)], []⟩, ⟨[.d (.sl (.int .i64))], []⟩, []⟩,
  ⟨49, ⟨[.d (.sl (.st (.pair (.int .i64) (.pair (.int .i64) (.int .i64))))), .d (.sl .bool)], []⟩, ⟨[.d (.int .i64)], []⟩, []⟩,
  ⟨50, ⟨[.d (.int .i64)], []⟩, ⟨[.d .bool], []⟩, []⟩,
  ⟨51, ⟨[.d (.int .i64)], []⟩, ⟨[.d .bool], []⟩, []⟩,
  ⟨52, ⟨[.d (.st (.pair (.int .i64) (.pair (.int .i64) (.int .i64)))), .d .bool], []⟩, ⟨[.d .bool], []⟩, []⟩,
  ⟨53, ⟨[.d (.st (.pair (.int .i64) (.pair (.int .i64) (.int .i64)))), .d .bool], []⟩, ⟨[.osl 0], [.vec (.int .u8)]⟩, []⟩,
  ⟨54, ⟨[.d (.int .i64), .d .bool], []⟩, ⟨[.d (.int .i64)], []⟩, []⟩,
  ⟨55, ⟨[.d (.st (.pair (.int .i64) (.pair (.int .i64) (.int .i64)))), .d .bool], []⟩, ⟨[.d .str], []⟩, []⟩,
  ⟨56, ⟨[.d (.int .i64), .d .bool], []⟩, ⟨[.d .bool], []⟩, []⟩,
  ⟨57, ⟨[.d (.int .i64), .d (.int .i64)], []⟩, ⟨[.d .str], []⟩, []⟩,
  ⟨58, ⟨[.d (.int .i64)], []⟩, ⟨[.d (.st (.pair (.int .i64) (.pair (.int .i64) (.int .i64)))), .d (.int .i64), .d .bool, .d (.int .i64), .d (.int .i64)], []⟩, []⟩,
  ⟨59, ⟨[.d .str, .d (.int .i64)], []⟩, ⟨[.d (.int .i64), .d (.int .i64), .d (.int .i64)], []⟩, []⟩,
  ⟨60, ⟨[.d (.sl (.st (.pair (.int .i64) (.pair (.int .i64) (.int .i64))))), .d (.sl .bool)], []⟩, ⟨[.osl 0], [.vec (.int .i64)]⟩, []⟩,
  ⟨63, ⟨[.d (.sl (.st (.pair (.int .i64) (.pair (.int .i64) (.int .i64))))), .d (.sl .bool), .d (.sl (.int .i64))], []⟩, ⟨[.d (.int .i64)], []⟩, []⟩,
  ⟨64, ⟨[.d (.sl (.st (.pair (.int .i64) (.pair (.int .i64) (.int .i64))))), .fn 65 []], []⟩, ⟨[.d .bool], []⟩, []⟩,
  ⟨64, ⟨[.d (.sl (.st (.pair (.int .i64) (.pair (.int .i64) (.int .i64))))), .fn 66 [.ref (.sl (.st (.pair (.int .i64) (.pair (.int .i64) (.int .i64)))))]], []⟩, ⟨[.d .bool], []⟩, []⟩,
  ⟨65, ⟨[.d (.st (.pair (.int .i64) (.pair (.int .i64) (.int .i64))))], []⟩, ⟨[.d .bool], []⟩, []⟩,
  ⟨66, ⟨[.d (.st (.pair (.int .i64) (.pair (.int .i64) (.int .i64)))), .ref (.sl (.st (.pair (.int .i64) (.pair (.int .i64) (.int .i64)))))], []⟩, ⟨[.d .bool], []⟩, []⟩,
  ⟨67, ⟨[.d (.sl (.int .i64)), .d (.int .i64)], []⟩, ⟨[.d (.int .i64)], []⟩, []⟩,
  ⟨68, ⟨[.d (.st (.pair (.int .i64) (.pair (.int .i64) (.int .i64)))), .d .bool], []⟩, ⟨[.d (.int .i64)], []⟩, []⟩,
  ⟨69, ⟨[.d (.st (.pair (.int .i64) (.pair (.int .i64) (.int .i64))))], []⟩, ⟨[.d (.sl (.int .i64))], []⟩, []⟩,
  ⟨70, ⟨[.osl 0, .d (.int .i64)], [.vec (.int .u8)]⟩, ⟨[.osl 1], [.gone, .vec (.int .u8)]⟩, []⟩,
  ⟨71, ⟨[.d (.int .i64)], []⟩, ⟨[.d .str], []⟩, []⟩,
  ⟨73, ⟨[.d (.sl (.st (.pair (.int .i64) (.pair (.int .i64) (.int .i64))))), .fn 65 []], []⟩, ⟨[.d (.int .i64)], []⟩, []⟩,
  ⟨73, ⟨[.d (.sl (.st (.pair (.int .i64) (.pair (.int .i64) (.int .i64))))), .fn 66 [.ref (.sl (.st (.pair (.int .i64) (.pair (.int .i64) (.int .i64)))))]], []⟩, ⟨[.d (.int .i64)], []⟩, []⟩,
  ⟨61, ⟨[.ptr 0 0, .d .str], [.box [.slf 0, .osl 1], .vec (.int .u8)]⟩, ⟨[.d (.int .i64), .nili], [.box [.slf 0, .osl 2], .gone, .vec (.int .u8)]⟩, [0]⟩,
  ⟨62, ⟨[.ptr 0 0], [.box [.slf 0, .osl 1], .vec (.int .u8)]⟩, ⟨[.d .str], [.gone, .gone]⟩, []⟩,
  ⟨72, ⟨[.ptr 0 0], [.box [.slf 0, .osl 1], .vec (.int .u8)]⟩, ⟨[], [.box [.slf 0, .osl 1], .vec (.int .u8)]⟩, [0, 1]⟩]
def names : List (List Int) := [[104, 97, 108, 116], [112, 111, 111, 108], [97, 99, 99], [101, 110, 118], [115, 101, 108, 102], [112, 111, 112], [115, 108, 105, 100, 101], [97, 112, 112], [116, 97, 105, 108], [114, 101, 116], [98, 108, 111, 99, 107], [102, 105, 101, 108, 100], [112, 114, 105, 109], [114, 97, 105, 115, 101], [117, 110, 116, 114, 121], [106, 117, 109, 112], [122, 101, 114, 111], [116, 114, 121], [99, 108, 111, 115], [116, 97, 103], [115, 97, 109, 101]]
def numbers : List Int := [0, 1, 1, 1, 0, 1, 1, 0, 0, 0, 2, 1, 1, 0, 0, 0, 0, 0, 1, 1, 1]
def glob : Nat → Option ((t : Ty) × den t)
  | 1 => some ⟨.arr 21 (.int .i64), numbers⟩
  | _ => none
def tab : List (Nat × Ty) := [
  (2, (.int .i64)),
  (3, (.int .i64)),
  (4, .bool),
  (5, (.int .u8)),
  (6, (.int .u8)),
  (7, (.st (.pair (.int .i64) (.pair (.int .i64) (.pair .bool (.int .u8)))))),
  (8, (.st (.pair (.int .i64) (.pair (.int .i64) (.pair .bool (.int .u8)))))),
  (9, .str),
  (10, .str),
  (11, .str),
  (12, (.int .u64)),
  (13, (.st (.pair .str (.int .u64)))),
  (14, (.st (.pair .str (.int .u64)))),
  (21, (.int .i32)),
  (22, (.int .i64)),
  (23, (.st (.pair (.int .i64) (.pair (.int .i64) (.int .i64))))),
  (24, (.st (.pair (.int .i64) (.pair (.int .i64) (.int .i64))))),
  (26, (.int .i64)),
  (30, (.sl .str)),
  (44, (.st (.pair (.st (.pair (.int .i64) (.pair (.int .i64) (.int .i64)))) (.pair (.int .i64) (.pair .bool (.pair (.int .i64) (.int .i64))))))),
  (45, (.st (.pair (.st (.pair (.int .i64) (.pair (.int .i64) (.int .i64)))) (.pair (.int .i64) (.pair .bool (.pair (.int .i64) (.int .i64))))))),
  (50, (.sl (.st (.pair (.int .i64) (.pair (.int .i64) (.int .i64)))))),
  (54, (.sl .bool)),
  (64, (.sl (.int .i64))),
  (69, (.arr 21 .str)),
  (71, (.arr 21 (.int .i64))),
  (73, (.sl (.int .u8))),
  (80, (.arr 2 (.int .i64))),
  (81, (.int .u32)),
  (82, (.int .i8)),
  (102, (.int .u64)),
  (111, (.int .u8)),
  (112, (.int .u8)),
  (114, (.int .i32)),
  (115, (.int .i32))]
def eqs : List Nat := [23, 24, 44, 45]
noncomputable def C : Cx := ⟨Tryd.prog, sigs, glob, tab, eqs, 87⟩
def g_ck : denP (sigAt C.sigs 72).ins.tys → Option (denP (sigAt C.sigs 72).outs.tys) := fun x => some (true, x.2.1, ())
def g_str : denP (sigAt C.sigs 71).ins.tys → Option (denP (sigAt C.sigs 71).outs.tys) := fun x => some (x.2.1.l, ())
theorem c_ck : CallsAs C 72 g_ck := by
  intro x y h
  obtain ⟨b, s, u⟩ := x
  have h : some ((true, s, ()) : Bool × Sl Int × Unit) = some y := h
  injection h with h
  subst h
  exact Call.prim 72 _ _ (ck_okS (C := C) (f := 72) ⟨_, Tryd.func72, by kernel_rfl⟩ cc_used cc_fresh b s)
theorem c_str (hcells : ∀ el, C.P.underlying el = some (.int .u8) → C.P.cellsOf el = 1) : CallsAs C 71 g_str := by
  intro x y h
  obtain ⟨b, s, u⟩ := x
  have h : some ((s.l, ()) : List Int × Unit) = some y := h
  injection h with h
  subst h
  exact Call.prim 71 _ _ (str_okS (C := C) (f := 62) strWalk (by kernel_rfl) ⟨_, Tryd.func62, by kernel_rfl⟩ (by kernel_rfl) hcells b s)

theorem bytesT : bytesChk Tryd.prog Tryd.prog.types.size = true := by kernel_rfl
theorem c_str' : CallsAs C 71 g_str := c_str (bytes_all bytesT)

theorem e_op_known (L : Lf) (R : Oracle C.sigs) (x : denP (sigAt C.sigs 47).ins.tys) : evalFn L C R 47 x = b_op_known L  x := by kernel_rfl
theorem o_op_known (x : denP (sigAt C.sigs 47).ins.tys) : evalFn lf C orc0 47 x = f_op_known x := (e_op_known lf _ x).trans (by kernel_rfl)
theorem c_op_known : CallsAs C 47 f_op_known :=
  fun x y h => Ev.Call.mk (C := C) _ orc0_ok 47 x y ((o_op_known x).trans h)
theorem e_op_Goes (L : Lf) (R : Oracle C.sigs) (x : denP (sigAt C.sigs 22).ins.tys) : evalFn L C R 22 x = b_op_Goes L (R 47) x := by kernel_rfl
theorem o_op_Goes (x : denP (sigAt C.sigs 22).ins.tys) : evalFn lf C (orc1 47 f_op_known orc0) 22 x = f_op_Goes x := (e_op_Goes lf _ x).trans (by kernel_rfl)
theorem c_op_Goes : CallsAs C 22 f_op_Goes :=
  fun x y h => Ev.Call.mk (C := C) _ (orc1_ok c_op_known orc0_ok) 22 x y ((o_op_Goes x).trans h)
theorem e_op_Numbers (L : Lf) (R : Oracle C.sigs) (x : denP (sigAt C.sigs 21).ins.tys) : evalFn L C R 21 x = b_op_Numbers L (R 47) x := by kernel_rfl
theorem o_op_Numbers (x : denP (sigAt C.sigs 21).ins.tys) : evalFn lf C (orc1 47 f_op_known orc0) 21 x = f_op_Numbers x := (e_op_Numbers lf _ x).trans (by kernel_rfl)
theorem c_op_Numbers : CallsAs C 21 f_op_Numbers :=
  fun x y h => Ev.Call.mk (C := C) _ (orc1_ok c_op_known orc0_ok) 21 x y ((o_op_Numbers x).trans h)
theorem e_op_within (L : Lf) (R : Oracle C.sigs) (x : denP (sigAt C.sigs 48).ins.tys) : evalFn L C R 48 x = b_op_within L  x := by kernel_rfl
theorem o_op_within (x : denP (sigAt C.sigs 48).ins.tys) : evalFn lf C orc0 48 x = f_op_within x := (e_op_within lf _ x).trans (by kernel_rfl)
theorem c_op_within : CallsAs C 48 f_op_within :=
  fun x y h => Ev.Call.mk (C := C) _ orc0_ok 48 x y ((o_op_within x).trans h)
theorem e_op_Check (L : Lf) (R : Oracle C.sigs) (x : denP (sigAt C.sigs 19).ins.tys) : evalFn L C R 19 x = b_op_Check L (R 21) (R 22) (R 47) (R 48) x := by kernel_rfl
theorem o_op_Check (x : denP (sigAt C.sigs 19).ins.tys) : evalFn lf C (orc1 21 f_op_Numbers (orc1 22 f_op_Goes (orc1 47 f_op_known (orc1 48 f_op_within orc0)))) 19 x = f_op_Check x := (e_op_Check lf _ x).trans (by kernel_rfl)
theorem c_op_Check : CallsAs C 19 f_op_Check :=
  fun x y h => Ev.Call.mk (C := C) _ (orc1_ok c_op_Numbers (orc1_ok c_op_Goes (orc1_ok c_op_known (orc1_ok c_op_within orc0_ok)))) 19 x y ((o_op_Check x).trans h)
theorem e_op_right (L : Lf) (R : Oracle C.sigs) (x : denP (sigAt C.sigs 49).ins.tys) : evalFn L C R 49 x = b_op_right L (R 19) (R 22) x := by kernel_rfl
theorem o_op_right (x : denP (sigAt C.sigs 49).ins.tys) : evalFn lf C (orc1 19 f_op_Check (orc1 22 f_op_Goes orc0)) 49 x = f_op_right x := (e_op_right lf _ x).trans (by kernel_rfl)
theorem c_op_right : CallsAs C 49 f_op_right :=
  fun x y h => Ev.Call.mk (C := C) _ (orc1_ok c_op_Check (orc1_ok c_op_Goes orc0_ok)) 49 x y ((o_op_right x).trans h)
theorem e_op_told (L : Lf) (R : Oracle C.sigs) (x : denP (sigAt C.sigs 65).ins.tys) : evalFn L C R 65 x = b_op_told L (R 21) (R 22) x := by kernel_rfl
theorem o_op_told (x : denP (sigAt C.sigs 65).ins.tys) : evalFn lf C (orc1 21 f_op_Numbers (orc1 22 f_op_Goes orc0)) 65 x = f_op_told x := (e_op_told lf _ x).trans (by kernel_rfl)
theorem c_op_told : CallsAs C 65 f_op_told :=
  fun x y h => Ev.Call.mk (C := C) _ (orc1_ok c_op_Numbers (orc1_ok c_op_Goes orc0_ok)) 65 x y ((o_op_told x).trans h)
theorem e_op_number (L : Lf) (R : Oracle C.sigs) (x : denP (sigAt C.sigs 66).ins.tys) : evalFn L C R 66 x = b_op_number L  x := by kernel_rfl
theorem o_op_number (x : denP (sigAt C.sigs 66).ins.tys) : evalFn lf C orc0 66 x = f_op_number x := (e_op_number lf _ x).trans (by kernel_rfl)
theorem c_op_number : CallsAs C 66 f_op_number :=
  fun x y h => Ev.Call.mk (C := C) _ orc0_ok 66 x y ((o_op_number x).trans h)
theorem e_op_head (L : Lf) (R : Oracle C.sigs) (x : denP (sigAt C.sigs 50).ins.tys) : evalFn L C R 50 x = b_op_head L (R 65) (R 66) x := by kernel_rfl
theorem o_op_head (x : denP (sigAt C.sigs 50).ins.tys) : evalFn lf C (orc1 65 f_op_told (orc1 66 f_op_number orc0)) 50 x = f_op_head x := (e_op_head lf _ x).trans (by kernel_rfl)
theorem c_op_head : CallsAs C 50 f_op_head :=
  fun x y h => Ev.Call.mk (C := C) _ (orc1_ok c_op_told (orc1_ok c_op_number orc0_ok)) 50 x y ((o_op_head x).trans h)
theorem e_op_wide (L : Lf) (R : Oracle C.sigs) (x : denP (sigAt C.sigs 51).ins.tys) : evalFn L C R 51 x = b_op_wide L (R 22) x := by kernel_rfl
theorem o_op_wide (x : denP (sigAt C.sigs 51).ins.tys) : evalFn lf C (orc1 22 f_op_Goes orc0) 51 x = f_op_wide x := (e_op_wide lf _ x).trans (by kernel_rfl)
theorem c_op_wide : CallsAs C 51 f_op_wide :=
  fun x y h => Ev.Call.mk (C := C) _ (orc1_ok c_op_Goes orc0_ok) 51 x y ((o_op_wide x).trans h)
theorem e_op_Put (L : Lf) (R : Oracle C.sigs) (x : denP (sigAt C.sigs 24).ins.tys) : evalFn L C R 24 x = b_op_Put L (R 22) (R 49) (R 50) (R 51) x := by kernel_rfl
theorem o_op_Put (x : denP (sigAt C.sigs 24).ins.tys) : evalFn lf C (orc1 22 f_op_Goes (orc1 49 f_op_right (orc1 50 f_op_head (orc1 51 f_op_wide orc0)))) 24 x = f_op_Put x := (e_op_Put lf _ x).trans (by kernel_rfl)
theorem c_op_Put : CallsAs C 24 f_op_Put :=
  fun x y h => Ev.Call.mk (C := C) _ (orc1_ok c_op_Goes (orc1_ok c_op_right (orc1_ok c_op_head (orc1_ok c_op_wide orc0_ok)))) 24 x y ((o_op_Put x).trans h)
theorem e_asm_Check_1 (L : Lf) (R : Oracle C.sigs) (x : denP (sigAt C.sigs 61).ins.tys) : evalFn L C R 61 x = b_asm_Check_1 L (R 19) x := by kernel_rfl
theorem o_asm_Check_1 (x : denP (sigAt C.sigs 61).ins.tys) : evalFn lf C (orc1 19 f_op_Check orc0) 61 x = f_asm_Check_1 x := (e_asm_Check_1 lf _ x).trans (by kernel_rfl)
theorem c_asm_Check_1 : CallsAs C 61 f_asm_Check_1 :=
  fun x y h => Ev.Call.mk (C := C) _ (orc1_ok c_op_Check orc0_ok) 61 x y ((o_asm_Check_1 x).trans h)
theorem e_slices_IndexFunc (L : Lf) (R : Oracle C.sigs) (x : denP (sigAt C.sigs 68).ins.tys) : evalFn L C R 68 x = b_slices_IndexFunc L (R 61) x := by kernel_rfl
theorem o_slices_IndexFunc (x : denP (sigAt C.sigs 68).ins.tys) : evalFn lf C (orc1 61 f_asm_Check_1 orc0) 68 x = f_slices_IndexFunc x := (e_slices_IndexFunc lf _ x).trans (by kernel_rfl)
theorem c_slices_IndexFunc : CallsAs C 68 f_slices_IndexFunc :=
  fun x y h => Ev.Call.mk (C := C) _ (orc1_ok c_asm_Check_1 orc0_ok) 68 x y ((o_slices_IndexFunc x).trans h)
theorem e_slices_ContainsFunc (L : Lf) (R : Oracle C.sigs) (x : denP (sigAt C.sigs 59).ins.tys) : evalFn L C R 59 x = b_slices_ContainsFunc L (R 68) x := by kernel_rfl
theorem o_slices_ContainsFunc (x : denP (sigAt C.sigs 59).ins.tys) : evalFn lf C (orc1 68 f_slices_IndexFunc orc0) 59 x = f_slices_ContainsFunc x := (e_slices_ContainsFunc lf _ x).trans (by kernel_rfl)
theorem c_slices_ContainsFunc : CallsAs C 59 f_slices_ContainsFunc :=
  fun x y h => Ev.Call.mk (C := C) _ (orc1_ok c_slices_IndexFunc orc0_ok) 59 x y ((o_slices_ContainsFunc x).trans h)
theorem e_asm_Check_2 (L : Lf) (R : Oracle C.sigs) (x : denP (sigAt C.sigs 62).ins.tys) : evalFn L C R 62 x = b_asm_Check_2 L (R 22) x := by kernel_rfl
theorem o_asm_Check_2 (x : denP (sigAt C.sigs 62).ins.tys) : evalFn lf C (orc1 22 f_op_Goes orc0) 62 x = f_asm_Check_2 x := (e_asm_Check_2 lf _ x).trans (by kernel_rfl)
theorem c_asm_Check_2 : CallsAs C 62 f_asm_Check_2 :=
  fun x y h => Ev.Call.mk (C := C) _ (orc1_ok c_op_Goes orc0_ok) 62 x y ((o_asm_Check_2 x).trans h)
theorem e_slices_IndexFunc_v2 (L : Lf) (R : Oracle C.sigs) (x : denP (sigAt C.sigs 69).ins.tys) : evalFn L C R 69 x = b_slices_IndexFunc_v2 L (R 62) x := by kernel_rfl
theorem o_slices_IndexFunc_v2 (x : denP (sigAt C.sigs 69).ins.tys) : evalFn lf C (orc1 62 f_asm_Check_2 orc0) 69 x = f_slices_IndexFunc_v2 x := (e_slices_IndexFunc_v2 lf _ x).trans (by kernel_rfl)
theorem c_slices_IndexFunc_v2 : CallsAs C 69 f_slices_IndexFunc_v2 :=
  fun x y h => Ev.Call.mk (C := C) _ (orc1_ok c_asm_Check_2 orc0_ok) 69 x y ((o_slices_IndexFunc_v2 x).trans h)
theorem e_slices_ContainsFunc_v2 (L : Lf) (R : Oracle C.sigs) (x : denP (sigAt C.sigs 60).ins.tys) : evalFn L C R 60 x = b_slices_ContainsFunc_v2 L (R 69) x := by kernel_rfl
theorem o_slices_ContainsFunc_v2 (x : denP (sigAt C.sigs 60).ins.tys) : evalFn lf C (orc1 69 f_slices_IndexFunc_v2 orc0) 60 x = f_slices_ContainsFunc_v2 x := (e_slices_ContainsFunc_v2 lf _ x).trans (by kernel_rfl)
theorem c_slices_ContainsFunc_v2 : CallsAs C 60 f_slices_ContainsFunc_v2 :=
  fun x y h => Ev.Call.mk (C := C) _ (orc1_ok c_slices_IndexFunc_v2 orc0_ok) 60 x y ((o_slices_ContainsFunc_v2 x).trans h)
theorem e_asm_Check (L : Lf) (R : Oracle C.sigs) (x : denP (sigAt C.sigs 34).ins.tys) : evalFn L C R 34 x = b_asm_Check L (R 59) (R 60) x := by kernel_rfl
theorem o_asm_Check (x : denP (sigAt C.sigs 34).ins.tys) : evalFn lf C (orc1 59 f_slices_ContainsFunc (orc1 60 f_slices_ContainsFunc_v2 orc0)) 34 x = f_asm_Check x := (e_asm_Check lf _ x).trans (by kernel_rfl)
theorem c_asm_Check : CallsAs C 34 f_asm_Check :=
  fun x y h => Ev.Call.mk (C := C) _ (orc1_ok c_slices_ContainsFunc (orc1_ok c_slices_ContainsFunc_v2 orc0_ok)) 34 x y ((o_asm_Check x).trans h)
theorem e_op_Size (L : Lf) (R : Oracle C.sigs) (x : denP (sigAt C.sigs 26).ins.tys) : evalFn L C R 26 x = b_op_Size L (R 49) (R 50) (R 51) x := by kernel_rfl
theorem o_op_Size (x : denP (sigAt C.sigs 26).ins.tys) : evalFn lf C (orc1 49 f_op_right (orc1 50 f_op_head (orc1 51 f_op_wide orc0))) 26 x = f_op_Size x := (e_op_Size lf _ x).trans (by kernel_rfl)
theorem c_op_Size : CallsAs C 26 f_op_Size :=
  fun x y h => Ev.Call.mk (C := C) _ (orc1_ok c_op_right (orc1_ok c_op_head (orc1_ok c_op_wide orc0_ok))) 26 x y ((o_op_Size x).trans h)
theorem e_asm_starts (L : Lf) (R : Oracle C.sigs) (x : denP (sigAt C.sigs 57).ins.tys) : evalFn L C R 57 x = b_asm_starts L (R 26) x := by kernel_rfl
theorem o_asm_starts (x : denP (sigAt C.sigs 57).ins.tys) : evalFn lf C (orc1 26 f_op_Size orc0) 57 x = f_asm_starts x := (e_asm_starts lf _ x).trans (by kernel_rfl)
theorem c_asm_starts : CallsAs C 57 f_asm_starts :=
  fun x y h => Ev.Call.mk (C := C) _ (orc1_ok c_op_Size orc0_ok) 57 x y ((o_asm_starts x).trans h)
theorem e_asm_tight (L : Lf) (R : Oracle C.sigs) (x : denP (sigAt C.sigs 58).ins.tys) : evalFn L C R 58 x = b_asm_tight L (R 22) x := by kernel_rfl
theorem o_asm_tight (x : denP (sigAt C.sigs 58).ins.tys) : evalFn lf C (orc1 22 f_op_Goes orc0) 58 x = f_asm_tight x := (e_asm_tight lf _ x).trans (by kernel_rfl)
theorem c_asm_tight : CallsAs C 58 f_asm_tight :=
  fun x y h => Ev.Call.mk (C := C) _ (orc1_ok c_op_Goes orc0_ok) 58 x y ((o_asm_tight x).trans h)
theorem e_asm_Relax (L : Lf) (R : Oracle C.sigs) (x : denP (sigAt C.sigs 33).ins.tys) : evalFn L C R 33 x = b_asm_Relax L (R 22) (R 34) (R 57) (R 58) x := by kernel_rfl
theorem o_asm_Relax (x : denP (sigAt C.sigs 33).ins.tys) : evalFn lf C (orc1 22 f_op_Goes (orc1 34 f_asm_Check (orc1 57 f_asm_starts (orc1 58 f_asm_tight orc0)))) 33 x = f_asm_Relax x := (e_asm_Relax lf _ x).trans (by kernel_rfl)
theorem c_asm_Relax : CallsAs C 33 f_asm_Relax :=
  fun x y h => Ev.Call.mk (C := C) _ (orc1_ok c_op_Goes (orc1_ok c_asm_Check (orc1_ok c_asm_starts (orc1_ok c_asm_tight orc0_ok)))) 33 x y ((o_asm_Relax x).trans h)
theorem c_strings_Builder_copyCheck : CallsAs C 72 f_strings_Builder_copyCheck := c_ck
theorem e_strings_Builder_WriteString (L : Lf) (R : Oracle C.sigs) (x : denP (sigAt C.sigs 70).ins.tys) : evalFn L C R 70 x = b_strings_Builder_WriteString L (R 72) x := by kernel_rfl
theorem o_strings_Builder_WriteString (x : denP (sigAt C.sigs 70).ins.tys) : evalFn lf C (orc1 72 f_strings_Builder_copyCheck orc0) 70 x = f_strings_Builder_WriteString x := (e_strings_Builder_WriteString lf _ x).trans (by kernel_rfl)
theorem c_strings_Builder_WriteString : CallsAs C 70 f_strings_Builder_WriteString :=
  fun x y h => Ev.Call.mk (C := C) _ (orc1_ok c_strings_Builder_copyCheck orc0_ok) 70 x y ((o_strings_Builder_WriteString x).trans h)
theorem c_strings_Builder_String : CallsAs C 71 f_strings_Builder_String := c_str'
theorem e_asm_Assemble (L : Lf) (R : Oracle C.sigs) (x : denP (sigAt C.sigs 31).ins.tys) : evalFn L C R 31 x = b_asm_Assemble L (R 22) (R 24) (R 33) (R 57) (R 70) (R 71) x := by kernel_rfl
theorem o_asm_Assemble (x : denP (sigAt C.sigs 31).ins.tys) : evalFn lf C (orc1 22 f_op_Goes (orc1 24 f_op_Put (orc1 33 f_asm_Relax (orc1 57 f_asm_starts (orc1 70 f_strings_Builder_WriteString (orc1 71 f_strings_Builder_String orc0)))))) 31 x = f_asm_Assemble x := (e_asm_Assemble lf _ x).trans (by kernel_rfl)
theorem c_asm_Assemble : CallsAs C 31 f_asm_Assemble :=
  fun x y h => Ev.Call.mk (C := C) _ (orc1_ok c_op_Goes (orc1_ok c_op_Put (orc1_ok c_asm_Relax (orc1_ok c_asm_starts (orc1_ok c_strings_Builder_WriteString (orc1_ok c_strings_Builder_String orc0_ok)))))) 31 x y ((o_asm_Assemble x).trans h)
theorem e_op_Get_1 (L : Lf) (R : Oracle C.sigs) (x : denP (sigAt C.sigs 55).ins.tys) : evalFn L C R 55 x = b_op_Get_1 L  x := by kernel_rfl
theorem o_op_Get_1 (x : denP (sigAt C.sigs 55).ins.tys) : evalFn lf C orc0 55 x = f_op_Get_1 x := (e_op_Get_1 lf _ x).trans (by kernel_rfl)
theorem c_op_Get_1 : CallsAs C 55 f_op_Get_1 :=
  fun x y h => Ev.Call.mk (C := C) _ orc0_ok 55 x y ((o_op_Get_1 x).trans h)
theorem e_op_Get (L : Lf) (R : Oracle C.sigs) (x : denP (sigAt C.sigs 27).ins.tys) : evalFn L C R 27 x = b_op_Get L (R 21) (R 22) (R 47) (R 51) (R 55) x := by kernel_rfl
theorem o_op_Get (x : denP (sigAt C.sigs 27).ins.tys) : evalFn lf C (orc1 21 f_op_Numbers (orc1 22 f_op_Goes (orc1 47 f_op_known (orc1 51 f_op_wide (orc1 55 f_op_Get_1 orc0))))) 27 x = f_op_Get x := (e_op_Get lf _ x).trans (by kernel_rfl)
theorem c_op_Get : CallsAs C 27 f_op_Get :=
  fun x y h => Ev.Call.mk (C := C) _ (orc1_ok c_op_Numbers (orc1_ok c_op_Goes (orc1_ok c_op_known (orc1_ok c_op_wide (orc1_ok c_op_Get_1 orc0_ok))))) 27 x y ((o_op_Get x).trans h)
theorem e_asm_Disassemble (L : Lf) (R : Oracle C.sigs) (x : denP (sigAt C.sigs 37).ins.tys) : evalFn L C R 37 x = b_asm_Disassemble L (R 22) (R 27) (R 31) x := by kernel_rfl
theorem o_asm_Disassemble (x : denP (sigAt C.sigs 37).ins.tys) : evalFn lf C (orc1 22 f_op_Goes (orc1 27 f_op_Get (orc1 31 f_asm_Assemble orc0))) 37 x = f_asm_Disassemble x := (e_asm_Disassemble lf _ x).trans (by kernel_rfl)
theorem c_asm_Disassemble : CallsAs C 37 f_asm_Disassemble :=
  fun x y h => Ev.Call.mk (C := C) _ (orc1_ok c_op_Goes (orc1_ok c_op_Get (orc1_ok c_asm_Assemble orc0_ok))) 37 x y ((o_asm_Disassemble x).trans h)
theorem e_ref16_Same (L : Lf) (R : Oracle C.sigs) (x : denP (sigAt C.sigs 39).ins.tys) : evalFn L C R 39 x = b_ref16_Same L  x := by kernel_rfl
theorem o_ref16_Same (x : denP (sigAt C.sigs 39).ins.tys) : evalFn lf C orc0 39 x = f_ref16_Same x := (e_ref16_Same lf _ x).trans (by kernel_rfl)
theorem c_ref16_Same : CallsAs C 39 f_ref16_Same :=
  fun x y h => Ev.Call.mk (C := C) _ orc0_ok 39 x y ((o_ref16_Same x).trans h)
theorem e_asm_Starts (L : Lf) (R : Oracle C.sigs) (x : denP (sigAt C.sigs 41).ins.tys) : evalFn L C R 41 x = b_asm_Starts L (R 22) (R 34) (R 57) x := by kernel_rfl
theorem o_asm_Starts (x : denP (sigAt C.sigs 41).ins.tys) : evalFn lf C (orc1 22 f_op_Goes (orc1 34 f_asm_Check (orc1 57 f_asm_starts orc0))) 41 x = f_asm_Starts x := (e_asm_Starts lf _ x).trans (by kernel_rfl)
theorem c_asm_Starts : CallsAs C 41 f_asm_Starts :=
  fun x y h => Ev.Call.mk (C := C) _ (orc1_ok c_op_Goes (orc1_ok c_asm_Check (orc1_ok c_asm_starts orc0_ok))) 41 x y ((o_asm_Starts x).trans h)
theorem e_asm_Fits (L : Lf) (R : Oracle C.sigs) (x : denP (sigAt C.sigs 43).ins.tys) : evalFn L C R 43 x = b_asm_Fits L (R 41) (R 58) x := by kernel_rfl
theorem o_asm_Fits (x : denP (sigAt C.sigs 43).ins.tys) : evalFn lf C (orc1 41 f_asm_Starts (orc1 58 f_asm_tight orc0)) 43 x = f_asm_Fits x := (e_asm_Fits lf _ x).trans (by kernel_rfl)
theorem c_asm_Fits : CallsAs C 43 f_asm_Fits :=
  fun x y h => Ev.Call.mk (C := C) _ (orc1_ok c_asm_Starts (orc1_ok c_asm_tight orc0_ok)) 43 x y ((o_asm_Fits x).trans h)
theorem e_ref02_Row (L : Lf) (R : Oracle C.sigs) (x : denP (sigAt C.sigs 44).ins.tys) : evalFn L C R 44 x = b_ref02_Row L  x := by kernel_rfl
theorem o_ref02_Row (x : denP (sigAt C.sigs 44).ins.tys) : evalFn lf C orc0 44 x = f_ref02_Row x := (e_ref02_Row lf _ x).trans (by kernel_rfl)
theorem c_ref02_Row : CallsAs C 44 f_ref02_Row :=
  fun x y h => Ev.Call.mk (C := C) _ orc0_ok 44 x y ((o_ref02_Row x).trans h)
theorem e_law16_awake (L : Lf) (R : Oracle C.sigs) (x : denP (sigAt C.sigs 29).ins.tys) : evalFn L C R 29 x = b_law16_awake L (R 31) (R 33) (R 34) (R 37) (R 39) (R 41) (R 43) (R 44) x := by kernel_rfl
theorem o_law16_awake (x : denP (sigAt C.sigs 29).ins.tys) : evalFn lf C (orc1 31 f_asm_Assemble (orc1 33 f_asm_Relax (orc1 34 f_asm_Check (orc1 37 f_asm_Disassemble (orc1 39 f_ref16_Same (orc1 41 f_asm_Starts (orc1 43 f_asm_Fits (orc1 44 f_ref02_Row orc0)))))))) 29 x = f_law16_awake x := (e_law16_awake lf _ x).trans (by kernel_rfl)
theorem c_law16_awake : CallsAs C 29 f_law16_awake :=
  fun x y h => Ev.Call.mk (C := C) _ (orc1_ok c_asm_Assemble (orc1_ok c_asm_Relax (orc1_ok c_asm_Check (orc1_ok c_asm_Disassemble (orc1_ok c_ref16_Same (orc1_ok c_asm_Starts (orc1_ok c_asm_Fits (orc1_ok c_ref02_Row orc0_ok)))))))) 29 x y ((o_law16_awake x).trans h)
theorem e_ref15_Numbers (L : Lf) (R : Oracle C.sigs) (x : denP (sigAt C.sigs 17).ins.tys) : evalFn L C R 17 x = b_ref15_Numbers L  x := by kernel_rfl
theorem o_ref15_Numbers (x : denP (sigAt C.sigs 17).ins.tys) : evalFn lf C orc0 17 x = f_ref15_Numbers x := (e_ref15_Numbers lf _ x).trans (by kernel_rfl)
theorem c_ref15_Numbers : CallsAs C 17 f_ref15_Numbers :=
  fun x y h => Ev.Call.mk (C := C) _ orc0_ok 17 x y ((o_ref15_Numbers x).trans h)
theorem e_ref15_Goes (L : Lf) (R : Oracle C.sigs) (x : denP (sigAt C.sigs 18).ins.tys) : evalFn L C R 18 x = b_ref15_Goes L  x := by kernel_rfl
theorem o_ref15_Goes (x : denP (sigAt C.sigs 18).ins.tys) : evalFn lf C orc0 18 x = f_ref15_Goes x := (e_ref15_Goes lf _ x).trans (by kernel_rfl)
theorem c_ref15_Goes : CallsAs C 18 f_ref15_Goes :=
  fun x y h => Ev.Call.mk (C := C) _ orc0_ok 18 x y ((o_ref15_Goes x).trans h)
theorem e_ref15_Check (L : Lf) (R : Oracle C.sigs) (x : denP (sigAt C.sigs 14).ins.tys) : evalFn L C R 14 x = b_ref15_Check L (R 17) (R 18) x := by kernel_rfl
theorem o_ref15_Check (x : denP (sigAt C.sigs 14).ins.tys) : evalFn lf C (orc1 17 f_ref15_Numbers (orc1 18 f_ref15_Goes orc0)) 14 x = f_ref15_Check x := (e_ref15_Check lf _ x).trans (by kernel_rfl)
theorem c_ref15_Check : CallsAs C 14 f_ref15_Check :=
  fun x y h => Ev.Call.mk (C := C) _ (orc1_ok c_ref15_Numbers (orc1_ok c_ref15_Goes orc0_ok)) 14 x y ((o_ref15_Check x).trans h)
theorem e_ref16_Check (L : Lf) (R : Oracle C.sigs) (x : denP (sigAt C.sigs 30).ins.tys) : evalFn L C R 30 x = b_ref16_Check L (R 14) (R 18) x := by kernel_rfl
theorem o_ref16_Check (x : denP (sigAt C.sigs 30).ins.tys) : evalFn lf C (orc1 14 f_ref15_Check (orc1 18 f_ref15_Goes orc0)) 30 x = f_ref16_Check x := (e_ref16_Check lf _ x).trans (by kernel_rfl)
theorem c_ref16_Check : CallsAs C 30 f_ref16_Check :=
  fun x y h => Ev.Call.mk (C := C) _ (orc1_ok c_ref15_Check (orc1_ok c_ref15_Goes orc0_ok)) 30 x y ((o_ref16_Check x).trans h)
theorem e_law16_own (L : Lf) (R : Oracle C.sigs) (x : denP (sigAt C.sigs 32).ins.tys) : evalFn L C R 32 x = b_law16_own L  x := by kernel_rfl
theorem o_law16_own (x : denP (sigAt C.sigs 32).ins.tys) : evalFn lf C orc0 32 x = f_law16_own x := (e_law16_own lf _ x).trans (by kernel_rfl)
theorem c_law16_own : CallsAs C 32 f_law16_own :=
  fun x y h => Ev.Call.mk (C := C) _ orc0_ok 32 x y ((o_law16_own x).trans h)
theorem e_ref15_number (L : Lf) (R : Oracle C.sigs) (x : denP (sigAt C.sigs 67).ins.tys) : evalFn L C R 67 x = b_ref15_number L (R 67) x := by kernel_rfl
theorem o_ref15_number (g : denP (sigAt C.sigs 67).ins.tys → Option (denP (sigAt C.sigs 67).outs.tys)) (x : denP (sigAt C.sigs 67).ins.tys) : evalFn lf C (orc1 67 g orc0) 67 x = g_ref15_number g x := (e_ref15_number lf _ x).trans (by kernel_rfl)
theorem c_ref15_number : CallsAs C 67 f_ref15_number :=
  callRec fun g hg x y h => Ev.Call.mk (C := C) _ (orc1_ok hg orc0_ok) 67 x y ((o_ref15_number g x).trans h)
theorem e_ref15_Head (L : Lf) (R : Oracle C.sigs) (x : denP (sigAt C.sigs 52).ins.tys) : evalFn L C R 52 x = b_ref15_Head L (R 17) (R 18) (R 67) x := by kernel_rfl
theorem o_ref15_Head (x : denP (sigAt C.sigs 52).ins.tys) : evalFn lf C (orc1 17 f_ref15_Numbers (orc1 18 f_ref15_Goes (orc1 67 f_ref15_number orc0))) 52 x = f_ref15_Head x := (e_ref15_Head lf _ x).trans (by kernel_rfl)
theorem c_ref15_Head : CallsAs C 52 f_ref15_Head :=
  fun x y h => Ev.Call.mk (C := C) _ (orc1_ok c_ref15_Numbers (orc1_ok c_ref15_Goes (orc1_ok c_ref15_number orc0_ok))) 52 x y ((o_ref15_Head x).trans h)
theorem e_ref16_size (L : Lf) (R : Oracle C.sigs) (x : denP (sigAt C.sigs 64).ins.tys) : evalFn L C R 64 x = b_ref16_size L (R 18) (R 52) x := by kernel_rfl
theorem o_ref16_size (x : denP (sigAt C.sigs 64).ins.tys) : evalFn lf C (orc1 18 f_ref15_Goes (orc1 52 f_ref15_Head orc0)) 64 x = f_ref16_size x := (e_ref16_size lf _ x).trans (by kernel_rfl)
theorem c_ref16_size : CallsAs C 64 f_ref16_size :=
  fun x y h => Ev.Call.mk (C := C) _ (orc1_ok c_ref15_Goes (orc1_ok c_ref15_Head orc0_ok)) 64 x y ((o_ref16_size x).trans h)
theorem e_ref16_Starts (L : Lf) (R : Oracle C.sigs) (x : denP (sigAt C.sigs 45).ins.tys) : evalFn L C R 45 x = b_ref16_Starts L (R 64) x := by kernel_rfl
theorem o_ref16_Starts (x : denP (sigAt C.sigs 45).ins.tys) : evalFn lf C (orc1 64 f_ref16_size orc0) 45 x = f_ref16_Starts x := (e_ref16_Starts lf _ x).trans (by kernel_rfl)
theorem c_ref16_Starts : CallsAs C 45 f_ref16_Starts :=
  fun x y h => Ev.Call.mk (C := C) _ (orc1_ok c_ref16_size orc0_ok) 45 x y ((o_ref16_Starts x).trans h)
theorem e_ref15_Fits (L : Lf) (R : Oracle C.sigs) (x : denP (sigAt C.sigs 53).ins.tys) : evalFn L C R 53 x = b_ref15_Fits L  x := by kernel_rfl
theorem o_ref15_Fits (x : denP (sigAt C.sigs 53).ins.tys) : evalFn lf C orc0 53 x = f_ref15_Fits x := (e_ref15_Fits lf _ x).trans (by kernel_rfl)
theorem c_ref15_Fits : CallsAs C 53 f_ref15_Fits :=
  fun x y h => Ev.Call.mk (C := C) _ orc0_ok 53 x y ((o_ref15_Fits x).trans h)
theorem e_ref16_Tight (L : Lf) (R : Oracle C.sigs) (x : denP (sigAt C.sigs 46).ins.tys) : evalFn L C R 46 x = b_ref16_Tight L (R 18) (R 45) (R 53) x := by kernel_rfl
theorem o_ref16_Tight (x : denP (sigAt C.sigs 46).ins.tys) : evalFn lf C (orc1 18 f_ref15_Goes (orc1 45 f_ref16_Starts (orc1 53 f_ref15_Fits orc0))) 46 x = f_ref16_Tight x := (e_ref16_Tight lf _ x).trans (by kernel_rfl)
theorem c_ref16_Tight : CallsAs C 46 f_ref16_Tight :=
  fun x y h => Ev.Call.mk (C := C) _ (orc1_ok c_ref15_Goes (orc1_ok c_ref16_Starts (orc1_ok c_ref15_Fits orc0_ok))) 46 x y ((o_ref16_Tight x).trans h)
theorem e_ref16_Relax (L : Lf) (R : Oracle C.sigs) (x : denP (sigAt C.sigs 35).ins.tys) : evalFn L C R 35 x = b_ref16_Relax L (R 46) x := by kernel_rfl
theorem o_ref16_Relax (x : denP (sigAt C.sigs 35).ins.tys) : evalFn lf C (orc1 46 f_ref16_Tight orc0) 35 x = f_ref16_Relax x := (e_ref16_Relax lf _ x).trans (by kernel_rfl)
theorem c_ref16_Relax : CallsAs C 35 f_ref16_Relax :=
  fun x y h => Ev.Call.mk (C := C) _ (orc1_ok c_ref16_Tight orc0_ok) 35 x y ((o_ref16_Relax x).trans h)
theorem e_ref15_low (L : Lf) (R : Oracle C.sigs) (x : denP (sigAt C.sigs 54).ins.tys) : evalFn L C R 54 x = b_ref15_low L  x := by kernel_rfl
theorem o_ref15_low (x : denP (sigAt C.sigs 54).ins.tys) : evalFn lf C orc0 54 x = f_ref15_low x := (e_ref15_low lf _ x).trans (by kernel_rfl)
theorem c_ref15_low : CallsAs C 54 f_ref15_low :=
  fun x y h => Ev.Call.mk (C := C) _ orc0_ok 54 x y ((o_ref15_low x).trans h)
theorem e_ref15_Put (L : Lf) (R : Oracle C.sigs) (x : denP (sigAt C.sigs 25).ins.tys) : evalFn L C R 25 x = b_ref15_Put L (R 14) (R 18) (R 52) (R 53) (R 54) x := by kernel_rfl
theorem o_ref15_Put (x : denP (sigAt C.sigs 25).ins.tys) : evalFn lf C (orc1 14 f_ref15_Check (orc1 18 f_ref15_Goes (orc1 52 f_ref15_Head (orc1 53 f_ref15_Fits (orc1 54 f_ref15_low orc0))))) 25 x = f_ref15_Put x := (e_ref15_Put lf _ x).trans (by kernel_rfl)
theorem c_ref15_Put : CallsAs C 25 f_ref15_Put :=
  fun x y h => Ev.Call.mk (C := C) _ (orc1_ok c_ref15_Check (orc1_ok c_ref15_Goes (orc1_ok c_ref15_Head (orc1_ok c_ref15_Fits (orc1_ok c_ref15_low orc0_ok))))) 25 x y ((o_ref15_Put x).trans h)
theorem e_ref16_Assemble (L : Lf) (R : Oracle C.sigs) (x : denP (sigAt C.sigs 36).ins.tys) : evalFn L C R 36 x = b_ref16_Assemble L (R 18) (R 25) (R 35) (R 45) x := by kernel_rfl
theorem o_ref16_Assemble (x : denP (sigAt C.sigs 36).ins.tys) : evalFn lf C (orc1 18 f_ref15_Goes (orc1 25 f_ref15_Put (orc1 35 f_ref16_Relax (orc1 45 f_ref16_Starts orc0)))) 36 x = f_ref16_Assemble x := (e_ref16_Assemble lf _ x).trans (by kernel_rfl)
theorem c_ref16_Assemble : CallsAs C 36 f_ref16_Assemble :=
  fun x y h => Ev.Call.mk (C := C) _ (orc1_ok c_ref15_Goes (orc1_ok c_ref15_Put (orc1_ok c_ref16_Relax (orc1_ok c_ref16_Starts orc0_ok)))) 36 x y ((o_ref16_Assemble x).trans h)
theorem e_law16_AsmPuts (L : Lf) (R : Oracle C.sigs) (x : denP (sigAt C.sigs 6).ins.tys) : evalFn L C R 6 x = b_law16_AsmPuts L (R 29) (R 30) (R 31) (R 32) (R 33) (R 34) (R 35) (R 36) x := by kernel_rfl
theorem o_law16_AsmPuts (x : denP (sigAt C.sigs 6).ins.tys) : evalFn lf C (orc1 29 f_law16_awake (orc1 30 f_ref16_Check (orc1 31 f_asm_Assemble (orc1 32 f_law16_own (orc1 33 f_asm_Relax (orc1 34 f_asm_Check (orc1 35 f_ref16_Relax (orc1 36 f_ref16_Assemble orc0)))))))) 6 x = f_law16_AsmPuts x := (e_law16_AsmPuts lf _ x).trans (by kernel_rfl)
theorem c_law16_AsmPuts : CallsAs C 6 f_law16_AsmPuts :=
  fun x y h => Ev.Call.mk (C := C) _ (orc1_ok c_law16_awake (orc1_ok c_ref16_Check (orc1_ok c_asm_Assemble (orc1_ok c_law16_own (orc1_ok c_asm_Relax (orc1_ok c_asm_Check (orc1_ok c_ref16_Relax (orc1_ok c_ref16_Assemble orc0_ok)))))))) 6 x y ((o_law16_AsmPuts x).trans h)
theorem e_ref15_num (L : Lf) (R : Oracle C.sigs) (x : denP (sigAt C.sigs 56).ins.tys) : evalFn L C R 56 x = b_ref15_num L  x := by kernel_rfl
theorem o_ref15_num (x : denP (sigAt C.sigs 56).ins.tys) : evalFn lf C orc0 56 x = f_ref15_num x := (e_ref15_num lf _ x).trans (by kernel_rfl)
theorem c_ref15_num : CallsAs C 56 f_ref15_num :=
  fun x y h => Ev.Call.mk (C := C) _ orc0_ok 56 x y ((o_ref15_num x).trans h)
theorem e_ref15_Get (L : Lf) (R : Oracle C.sigs) (x : denP (sigAt C.sigs 28).ins.tys) : evalFn L C R 28 x = b_ref15_Get L (R 17) (R 18) (R 56) x := by kernel_rfl
theorem o_ref15_Get (x : denP (sigAt C.sigs 28).ins.tys) : evalFn lf C (orc1 17 f_ref15_Numbers (orc1 18 f_ref15_Goes (orc1 56 f_ref15_num orc0))) 28 x = f_ref15_Get x := (e_ref15_Get lf _ x).trans (by kernel_rfl)
theorem c_ref15_Get : CallsAs C 28 f_ref15_Get :=
  fun x y h => Ev.Call.mk (C := C) _ (orc1_ok c_ref15_Numbers (orc1_ok c_ref15_Goes (orc1_ok c_ref15_num orc0_ok))) 28 x y ((o_ref15_Get x).trans h)
theorem e_ref16_place (L : Lf) (R : Oracle C.sigs) (x : denP (sigAt C.sigs 63).ins.tys) : evalFn L C R 63 x = b_ref16_place L  x := by kernel_rfl
theorem o_ref16_place (x : denP (sigAt C.sigs 63).ins.tys) : evalFn lf C orc0 63 x = f_ref16_place x := (e_ref16_place lf _ x).trans (by kernel_rfl)
theorem c_ref16_place : CallsAs C 63 f_ref16_place :=
  fun x y h => Ev.Call.mk (C := C) _ orc0_ok 63 x y ((o_ref16_place x).trans h)
theorem e_ref16_Disassemble (L : Lf) (R : Oracle C.sigs) (x : denP (sigAt C.sigs 38).ins.tys) : evalFn L C R 38 x = b_ref16_Disassemble L (R 18) (R 28) (R 30) (R 36) (R 63) x := by kernel_rfl
theorem o_ref16_Disassemble (x : denP (sigAt C.sigs 38).ins.tys) : evalFn lf C (orc1 18 f_ref15_Goes (orc1 28 f_ref15_Get (orc1 30 f_ref16_Check (orc1 36 f_ref16_Assemble (orc1 63 f_ref16_place orc0))))) 38 x = f_ref16_Disassemble x := (e_ref16_Disassemble lf _ x).trans (by kernel_rfl)
theorem c_ref16_Disassemble : CallsAs C 38 f_ref16_Disassemble :=
  fun x y h => Ev.Call.mk (C := C) _ (orc1_ok c_ref15_Goes (orc1_ok c_ref15_Get (orc1_ok c_ref16_Check (orc1_ok c_ref16_Assemble (orc1_ok c_ref16_place orc0_ok))))) 38 x y ((o_ref16_Disassemble x).trans h)
theorem e_law16_AsmGets (L : Lf) (R : Oracle C.sigs) (x : denP (sigAt C.sigs 7).ins.tys) : evalFn L C R 7 x = b_law16_AsmGets L (R 29) (R 37) (R 38) (R 39) x := by kernel_rfl
theorem o_law16_AsmGets (x : denP (sigAt C.sigs 7).ins.tys) : evalFn lf C (orc1 29 f_law16_awake (orc1 37 f_asm_Disassemble (orc1 38 f_ref16_Disassemble (orc1 39 f_ref16_Same orc0)))) 7 x = f_law16_AsmGets x := (e_law16_AsmGets lf _ x).trans (by kernel_rfl)
theorem c_law16_AsmGets : CallsAs C 7 f_law16_AsmGets :=
  fun x y h => Ev.Call.mk (C := C) _ (orc1_ok c_law16_awake (orc1_ok c_asm_Disassemble (orc1_ok c_ref16_Disassemble (orc1_ok c_ref16_Same orc0_ok)))) 7 x y ((o_law16_AsmGets x).trans h)
theorem e_ref16_Told (L : Lf) (R : Oracle C.sigs) (x : denP (sigAt C.sigs 40).ins.tys) : evalFn L C R 40 x = b_ref16_Told L (R 18) (R 30) x := by kernel_rfl
theorem o_ref16_Told (x : denP (sigAt C.sigs 40).ins.tys) : evalFn lf C (orc1 18 f_ref15_Goes (orc1 30 f_ref16_Check orc0)) 40 x = f_ref16_Told x := (e_ref16_Told lf _ x).trans (by kernel_rfl)
theorem c_ref16_Told : CallsAs C 40 f_ref16_Told :=
  fun x y h => Ev.Call.mk (C := C) _ (orc1_ok c_ref15_Goes (orc1_ok c_ref16_Check orc0_ok)) 40 x y ((o_ref16_Told x).trans h)
theorem e_law16_longs (L : Lf) (R : Oracle C.sigs) (x : denP (sigAt C.sigs 42).ins.tys) : evalFn L C R 42 x = b_law16_longs L  x := by kernel_rfl
theorem o_law16_longs (x : denP (sigAt C.sigs 42).ins.tys) : evalFn lf C orc0 42 x = f_law16_longs x := (e_law16_longs lf _ x).trans (by kernel_rfl)
theorem c_law16_longs : CallsAs C 42 f_law16_longs :=
  fun x y h => Ev.Call.mk (C := C) _ orc0_ok 42 x y ((o_law16_longs x).trans h)
theorem e_law16_AsmFits (L : Lf) (R : Oracle C.sigs) (x : denP (sigAt C.sigs 8).ins.tys) : evalFn L C R 8 x = b_law16_AsmFits L (R 29) (R 32) (R 40) (R 41) (R 42) (R 43) (R 44) (R 45) (R 46) x := by kernel_rfl
theorem o_law16_AsmFits (x : denP (sigAt C.sigs 8).ins.tys) : evalFn lf C (orc1 29 f_law16_awake (orc1 32 f_law16_own (orc1 40 f_ref16_Told (orc1 41 f_asm_Starts (orc1 42 f_law16_longs (orc1 43 f_asm_Fits (orc1 44 f_ref02_Row (orc1 45 f_ref16_Starts (orc1 46 f_ref16_Tight orc0))))))))) 8 x = f_law16_AsmFits x := (e_law16_AsmFits lf _ x).trans (by kernel_rfl)
theorem c_law16_AsmFits : CallsAs C 8 f_law16_AsmFits :=
  fun x y h => Ev.Call.mk (C := C) _ (orc1_ok c_law16_awake (orc1_ok c_law16_own (orc1_ok c_ref16_Told (orc1_ok c_asm_Starts (orc1_ok c_law16_longs (orc1_ok c_asm_Fits (orc1_ok c_ref02_Row (orc1_ok c_ref16_Starts (orc1_ok c_ref16_Tight orc0_ok))))))))) 8 x y ((o_law16_AsmFits x).trans h)
theorem e_law16_AsmLeast (L : Lf) (R : Oracle C.sigs) (x : denP (sigAt C.sigs 9).ins.tys) : evalFn L C R 9 x = b_law16_AsmLeast L (R 29) (R 32) (R 33) (R 42) (R 43) x := by kernel_rfl
theorem o_law16_AsmLeast (x : denP (sigAt C.sigs 9).ins.tys) : evalFn lf C (orc1 29 f_law16_awake (orc1 32 f_law16_own (orc1 33 f_asm_Relax (orc1 42 f_law16_longs (orc1 43 f_asm_Fits orc0))))) 9 x = f_law16_AsmLeast x := (e_law16_AsmLeast lf _ x).trans (by kernel_rfl)
theorem c_law16_AsmLeast : CallsAs C 9 f_law16_AsmLeast :=
  fun x y h => Ev.Call.mk (C := C) _ (orc1_ok c_law16_awake (orc1_ok c_law16_own (orc1_ok c_asm_Relax (orc1_ok c_law16_longs (orc1_ok c_asm_Fits orc0_ok))))) 9 x y ((o_law16_AsmLeast x).trans h)
theorem e_law16_AsmBack (L : Lf) (R : Oracle C.sigs) (x : denP (sigAt C.sigs 10).ins.tys) : evalFn L C R 10 x = b_law16_AsmBack L (R 29) (R 31) (R 32) (R 37) (R 39) x := by kernel_rfl
theorem o_law16_AsmBack (x : denP (sigAt C.sigs 10).ins.tys) : evalFn lf C (orc1 29 f_law16_awake (orc1 31 f_asm_Assemble (orc1 32 f_law16_own (orc1 37 f_asm_Disassemble (orc1 39 f_ref16_Same orc0))))) 10 x = f_law16_AsmBack x := (e_law16_AsmBack lf _ x).trans (by kernel_rfl)
theorem c_law16_AsmBack : CallsAs C 10 f_law16_AsmBack :=
  fun x y h => Ev.Call.mk (C := C) _ (orc1_ok c_law16_awake (orc1_ok c_asm_Assemble (orc1_ok c_law16_own (orc1_ok c_asm_Disassemble (orc1_ok c_ref16_Same orc0_ok))))) 10 x y ((o_law16_AsmBack x).trans h)
theorem e_law16_AsmOnly (L : Lf) (R : Oracle C.sigs) (x : denP (sigAt C.sigs 11).ins.tys) : evalFn L C R 11 x = b_law16_AsmOnly L (R 28) (R 29) (R 31) (R 32) (R 33) (R 37) (R 41) (R 42) x := by kernel_rfl
theorem o_law16_AsmOnly (x : denP (sigAt C.sigs 11).ins.tys) : evalFn lf C (orc1 28 f_ref15_Get (orc1 29 f_law16_awake (orc1 31 f_asm_Assemble (orc1 32 f_law16_own (orc1 33 f_asm_Relax (orc1 37 f_asm_Disassemble (orc1 41 f_asm_Starts (orc1 42 f_law16_longs orc0)))))))) 11 x = f_law16_AsmOnly x := (e_law16_AsmOnly lf _ x).trans (by kernel_rfl)
theorem c_law16_AsmOnly : CallsAs C 11 f_law16_AsmOnly :=
  fun x y h => Ev.Call.mk (C := C) _ (orc1_ok c_ref15_Get (orc1_ok c_law16_awake (orc1_ok c_asm_Assemble (orc1_ok c_law16_own (orc1_ok c_asm_Relax (orc1_ok c_asm_Disassemble (orc1_ok c_asm_Starts (orc1_ok c_law16_longs orc0_ok)))))))) 11 x y ((o_law16_AsmOnly x).trans h)
theorem e_law16_AsmJoins (L : Lf) (R : Oracle C.sigs) (x : denP (sigAt C.sigs 12).ins.tys) : evalFn L C R 12 x = b_law16_AsmJoins L (R 18) (R 29) (R 31) (R 32) x := by kernel_rfl
theorem o_law16_AsmJoins (x : denP (sigAt C.sigs 12).ins.tys) : evalFn lf C (orc1 18 f_ref15_Goes (orc1 29 f_law16_awake (orc1 31 f_asm_Assemble (orc1 32 f_law16_own orc0)))) 12 x = f_law16_AsmJoins x := (e_law16_AsmJoins lf _ x).trans (by kernel_rfl)
theorem c_law16_AsmJoins : CallsAs C 12 f_law16_AsmJoins :=
  fun x y h => Ev.Call.mk (C := C) _ (orc1_ok c_ref15_Goes (orc1_ok c_law16_awake (orc1_ok c_asm_Assemble (orc1_ok c_law16_own orc0_ok)))) 12 x y ((o_law16_AsmJoins x).trans h)

theorem tabOk : tabChk C C.tab = true := by kernel_rfl
theorem eqsOk : eqChk C C.eqs = true := by kernel_rfl
theorem namesGood : namesOk C C.sigs = true := by kernel_rfl
theorem mixed : C.P.follows .mixedOrders = true := by kernel_rfl
theorem calls {i : Nat} {x : denP (sigAt C.sigs i).ins.tys} {y : denP (sigAt C.sigs i).outs.tys} (h : Ev.Call C i x y) : FnOk C i x y := calls_ok tabOk eqsOk namesGood mixed h
theorem globOk : GlobOk C Rows.asmPutsRow.laid := by
  refine ⟨by kernel_rfl, fun g t x h => ?_⟩
  match g with
  | 0 => cases h
  | 1 =>
    cases h
    exact ⟨_, _, 71, List.Mem.head _, by kernel_rfl, by kernel_rfl, by kernel_rfl, rfl, by kernel_rfl⟩
  | n + 2 => cases h
theorem seatOk : SeatOk C Rows.asmPutsRow.laid := seatOk_of tabOk (by kernel_rfl) (by kernel_rfl) (by kernel_rfl) globOk
end Go.Proofs.YthbmeiihbaggpaaDoor.Seat
