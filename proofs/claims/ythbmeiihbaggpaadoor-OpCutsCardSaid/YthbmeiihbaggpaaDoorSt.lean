/- The functions of this seat as data: each is what the model's code gives, by the kernel's reckoning over the verified evaluator. No statement of its own about the program. -/
import Derived.Test.YthbmeiihbaggpaaDoorFn
import Derived.Test.YthbmeiihbaggpaaDoorRows
import Derived.KernelRfl
namespace Go.Proofs.YthbmeiihbaggpaaDoor.Seat
open Go Go.Proofs Ev Ev.Fn
def sigs : List Sig := [
  ⟨3, ⟨[.d (.st (.pair (.int .i64) (.pair (.int .i64) (.int .i64)))), .d .str], []⟩, ⟨[.d .bool], []⟩⟩,
  ⟨4, ⟨[.d (.st (.pair (.int .i64) (.pair (.int .i64) (.int .i64)))), .d (.int .i64), .d .bool], []⟩, ⟨[.d .bool], []⟩⟩,
  ⟨5, ⟨[.d .str], []⟩, ⟨[.d .bool], []⟩⟩,
  ⟨6, ⟨[.d (.st (.pair (.int .i64) (.pair (.int .i64) (.int .i64)))), .d (.int .i64), .d .bool, .d .str], []⟩, ⟨[.d .bool], []⟩⟩,
  ⟨7, ⟨[.d .str], []⟩, ⟨[.d .bool], []⟩⟩,
  ⟨8, ⟨[.d (.st (.pair (.int .i64) (.pair (.int .i64) (.int .i64)))), .d (.int .i64), .d .bool, .d (.int .u8)], []⟩, ⟨[.d .bool], []⟩⟩,
  ⟨9, ⟨[.d (.sl (.st (.pair (.int .i64) (.pair (.int .i64) (.int .i64)))))], []⟩, ⟨[.d .bool], []⟩⟩,
  ⟨10, ⟨[.d .str], []⟩, ⟨[.d .bool], []⟩⟩,
  ⟨11, ⟨[.d (.sl (.st (.pair (.int .i64) (.pair (.int .i64) (.int .i64))))), .d (.sl .bool)], []⟩, ⟨[.d .bool], []⟩⟩,
  ⟨12, ⟨[.d (.sl (.st (.pair (.int .i64) (.pair (.int .i64) (.int .i64))))), .d (.sl .bool)], []⟩, ⟨[.d .bool], []⟩⟩,
  ⟨13, ⟨[.d (.sl (.st (.pair (.int .i64) (.pair (.int .i64) (.int .i64)))))], []⟩, ⟨[.d .bool], []⟩⟩,
  ⟨14, ⟨[.d .str], []⟩, ⟨[.d .bool], []⟩⟩,
  ⟨15, ⟨[.d (.sl (.st (.pair (.int .i64) (.pair (.int .i64) (.int .i64))))), .d (.sl (.st (.pair (.int .i64) (.pair (.int .i64) (.int .i64)))))], []⟩, ⟨[.d .bool], []⟩⟩,
  ⟨16, ⟨[], []⟩, ⟨[.d .bool], []⟩⟩,
  ⟨17, ⟨[.d (.st (.pair (.int .i64) (.pair (.int .i64) (.int .i64))))], []⟩, ⟨[.d .bool], []⟩⟩,
  ⟨18, ⟨[.d .str], []⟩, ⟨[.d (.int .i64), .d .bool], []⟩⟩,
  ⟨19, ⟨[], []⟩, ⟨[.d (.sl .str)], []⟩⟩,
  ⟨20, ⟨[.d (.int .i64)], []⟩, ⟨[.d (.int .i64)], []⟩⟩,
  ⟨21, ⟨[.d (.int .i64)], []⟩, ⟨[.d .bool], []⟩⟩,
  ⟨22, ⟨[.d (.st (.pair (.int .i64) (.pair (.int .i64) (.int .i64))))], []⟩, ⟨[.d (.int .i64)], []⟩⟩,
  ⟨23, ⟨[.d (.int .i64)], []⟩, ⟨[.d .str], []⟩⟩,
  ⟨24, ⟨[.d (.int .i64)], []⟩, ⟨[.d (.int .i64)], []⟩⟩,
  ⟨25, ⟨[.d (.int .i64)], []⟩, ⟨[.d .bool], []⟩⟩,
  ⟨26, ⟨[.d (.sl .str), .d .str], []⟩, ⟨[.d .bool], []⟩⟩,
  ⟨27, ⟨[.d (.st (.pair (.int .i64) (.pair (.int .i64) (.int .i64)))), .d (.int .i64), .d .bool], []⟩, ⟨[.d .str, .d (.int .i64)], []⟩⟩,
  ⟨28, ⟨[.d (.st (.pair (.int .i64) (.pair (.int .i64) (.int .i64)))), .d (.int .i64), .d .bool], []⟩, ⟨[.d .str, .d (.int .i64)], []⟩⟩,
  ⟨29, ⟨[.d (.st (.pair (.int .i64) (.pair (.int .i64) (.int .i64)))), .d .bool], []⟩, ⟨[.d (.int .i64)], []⟩⟩,
  ⟨30, ⟨[.d .str], []⟩, ⟨[.d (.st (.pair (.int .i64) (.pair (.int .i64) (.int .i64)))), .d (.int .i64), .d .bool, .d (.int .i64), .d (.int .i64)], []⟩⟩,
  ⟨31, ⟨[.d .str], []⟩, ⟨[.d (.st (.pair (.st (.pair (.int .i64) (.pair (.int .i64) (.int .i64)))) (.pair (.int .i64) (.pair .bool (.pair (.int .i64) (.int .i64))))))], []⟩⟩,
  ⟨32, ⟨[], []⟩, ⟨[.d .bool], []⟩⟩,
  ⟨33, ⟨[.d (.sl (.st (.pair (.int .i64) (.pair (.int .i64) (.int .i64)))))], []⟩, ⟨[.d (.int .i64)], []⟩⟩,
  ⟨34, ⟨[.d (.sl (.st (.pair (.int .i64) (.pair (.int .i64) (.int .i64)))))], []⟩, ⟨[.d .str, .d (.int .i64)], []⟩⟩,
  ⟨35, ⟨[.d (.sl (.st (.pair (.int .i64) (.pair (.int .i64) (.int .i64)))))], []⟩, ⟨[.osl 0], [.vec (.st (.pair (.int .i64) (.pair (.int .i64) (.int .i64))))]⟩⟩,
  ⟨36, ⟨[.d (.sl (.st (.pair (.int .i64) (.pair (.int .i64) (.int .i64)))))], []⟩, ⟨[.d (.sl .bool), .d (.int .i64)], []⟩⟩,
  ⟨37, ⟨[.d (.sl (.st (.pair (.int .i64) (.pair (.int .i64) (.int .i64)))))], []⟩, ⟨[.d (.int .i64)], []⟩⟩,
  ⟨38, ⟨[.d (.sl (.st (.pair (.int .i64) (.pair (.int .i64) (.int .i64)))))], []⟩, ⟨[.d (.sl .bool)], []⟩⟩,
  ⟨39, ⟨[.d (.sl (.st (.pair (.int .i64) (.pair (.int .i64) (.int .i64)))))], []⟩, ⟨[.d .str], []⟩⟩,
  ⟨40, ⟨[.d .str], []⟩, ⟨[.d (.sl (.st (.pair (.int .i64) (.pair (.int .i64) (.int .i64))))), .d (.int .i64)], []⟩⟩,
  ⟨41, ⟨[.d .str], []⟩, ⟨[.d (.sl (.st (.pair (.int .i64) (.pair (.int .i64) (.int .i64))))), .d (.int .i64)], []⟩⟩,
  ⟨42, ⟨[.d (.sl (.st (.pair (.int .i64) (.pair (.int .i64) (.int .i64))))), .d (.sl (.st (.pair (.int .i64) (.pair (.int .i64) (.int .i64)))))], []⟩, ⟨[.d .bool], []⟩⟩,
  ⟨43, ⟨[.d (.sl (.st (.pair (.int .i64) (.pair (.int .i64) (.int .i64))))), .d (.sl .bool)], []⟩, ⟨[.d .bool], []⟩⟩,
  ⟨44, ⟨[.d (.sl (.st (.pair (.int .i64) (.pair (.int .i64) (.int .i64))))), .d (.sl .bool)], []⟩, ⟨[.d (.sl (.int .i64))], []⟩⟩,
  ⟨45, ⟨[.d (.sl .bool)], []⟩, ⟨[.d (.sl .bool)], []⟩⟩,
  ⟨46, ⟨[.d (.sl (.st (.pair (.int .i64) (.pair (.int .i64) (.int .i64))))), .d (.sl .bool)], []⟩, ⟨[.d .bool], []⟩⟩,
  ⟨47, ⟨[.d (.sl (.int .i64)), .d (.sl (.int .i64))], []⟩, ⟨[.d .bool], []⟩⟩,
  ⟨48, ⟨[.d (.sl (.st (.pair (.int .i64) (.pair (.int .i64) (.int .i64))))), .d (.sl .bool)], []⟩, ⟨[.d (.sl (.int .i64))], []⟩⟩,
  ⟨49, ⟨[.d (.sl (.st (.pair (.int .i64) (.pair (.int .i64) (.int .i64))))), .d (.sl .bool)], []⟩, ⟨[.d (.int .i64)], []⟩⟩,
  ⟨50, ⟨[.d (.int .i64)], []⟩, ⟨[.d .bool], []⟩⟩,
  ⟨51, ⟨[.d (.int .i64)], []⟩, ⟨[.d .bool], []⟩⟩,
  ⟨52, ⟨[.d (.st (.pair (.int .i64) (.pair (.int .i64) (.int .i64)))), .d .bool], []⟩, ⟨[.d .bool], []⟩⟩,
  ⟨53, ⟨[.d (.st (.pair (.int .i64) (.pair (.int .i64) (.int .i64)))), .d .bool], []⟩, ⟨[.osl 0], [.vec (.int .u8)]⟩⟩,
  ⟨54, ⟨[.d (.int .i64), .d .bool], []⟩, ⟨[.d (.int .i64)], []⟩⟩,
  ⟨55, ⟨[.d (.st (.pair (.int .i64) (.pair (.int .i64) (.int .i64)))), .d .bool], []⟩, ⟨[.d .str], []⟩⟩,
  ⟨56, ⟨[.d (.int .i64), .d .bool], []⟩, ⟨[.d .bool], []⟩⟩,
  ⟨57, ⟨[.d (.int .i64), .d (.int .i64)], []⟩, ⟨[.d .str], []⟩⟩,
  ⟨58, ⟨[.d (.int .i64)], []⟩, ⟨[.d (.st (.pair (.int .i64) (.pair (.int .i64) (.int .i64)))), .d (.int .i64), .d .bool, .d (.int .i64), .d (.int .i64)], []⟩⟩,
  ⟨59, ⟨[.d .str, .d (.int .i64)], []⟩, ⟨[.d (.int .i64), .d (.int .i64), .d (.int .i64)], []⟩⟩,
  ⟨60, ⟨[.d (.sl (.st (.pair (.int .i64) (.pair (.int .i64) (.int .i64))))), .d (.sl .bool)], []⟩, ⟨[.osl 0], [.vec (.int .i64)]⟩⟩,
  ⟨63, ⟨[.d (.sl (.st (.pair (.int .i64) (.pair (.int .i64) (.int .i64))))), .d (.sl .bool), .d (.sl (.int .i64))], []⟩, ⟨[.d (.int .i64)], []⟩⟩,
  ⟨64, ⟨[.d (.sl (.st (.pair (.int .i64) (.pair (.int .i64) (.int .i64))))), .fn 65 []], []⟩, ⟨[.d .bool], []⟩⟩,
  ⟨64, ⟨[.d (.sl (.st (.pair (.int .i64) (.pair (.int .i64) (.int .i64))))), .fn 66 [.ref (.sl (.st (.pair (.int .i64) (.pair (.int .i64) (.int .i64)))))]], []⟩, ⟨[.d .bool], []⟩⟩,
  ⟨65, ⟨[.d (.st (.pair (.int .i64) (.pair (.int .i64) (.int .i64))))], []⟩, ⟨[.d .bool], []⟩⟩,
  ⟨66, ⟨[.d (.st (.pair (.int .i64) (.pair (.int .i64) (.int .i64)))), .ref (.sl (.st (.pair (.int .i64) (.pair (.int .i64) (.int .i64)))))], []⟩, ⟨[.d .bool], []⟩⟩,
  ⟨67, ⟨[.d (.sl (.int .i64)), .d (.int .i64)], []⟩, ⟨[.d (.int .i64)], []⟩⟩,
  ⟨68, ⟨[.d (.st (.pair (.int .i64) (.pair (.int .i64) (.int .i64)))), .d .bool], []⟩, ⟨[.d (.int .i64)], []⟩⟩,
  ⟨69, ⟨[.d (.st (.pair (.int .i64) (.pair (.int .i64) (.int .i64))))], []⟩, ⟨[.d (.sl (.int .i64))], []⟩⟩,
  ⟨70, ⟨[.osl 0, .d (.int .i64)], [.vec (.int .u8)]⟩, ⟨[.osl 1], [.gone, .vec (.int .u8)]⟩⟩,
  ⟨71, ⟨[.d (.int .i64)], []⟩, ⟨[.d .str], []⟩⟩,
  ⟨73, ⟨[.d (.sl (.st (.pair (.int .i64) (.pair (.int .i64) (.int .i64))))), .fn 65 []], []⟩, ⟨[.d (.int .i64)], []⟩⟩,
  ⟨73, ⟨[.d (.sl (.st (.pair (.int .i64) (.pair (.int .i64) (.int .i64))))), .fn 66 [.ref (.sl (.st (.pair (.int .i64) (.pair (.int .i64) (.int .i64)))))]], []⟩, ⟨[.d (.int .i64)], []⟩⟩]
def names : List (List Int) := [[104, 97, 108, 116], [112, 111, 111, 108], [97, 99, 99], [101, 110, 118], [115, 101, 108, 102], [112, 111, 112], [115, 108, 105, 100, 101], [97, 112, 112], [116, 97, 105, 108], [114, 101, 116], [98, 108, 111, 99, 107], [102, 105, 101, 108, 100], [112, 114, 105, 109], [114, 97, 105, 115, 101], [117, 110, 116, 114, 121], [106, 117, 109, 112], [122, 101, 114, 111], [116, 114, 121], [99, 108, 111, 115], [116, 97, 103], [115, 97, 109, 101]]
def numbers : List Int := [0, 1, 1, 1, 0, 1, 1, 0, 0, 0, 2, 1, 1, 0, 0, 0, 0, 0, 1, 1, 1]
def glob : Nat → Option ((t : Ty) × den t)
  | 0 => some ⟨.arr 21 .str, names⟩
  | 1 => some ⟨.arr 21 (.int .i64), numbers⟩
  | _ => none
def tab : List (Nat × Ty) := [
  (2, (.int .i64)),
  (3, (.int .i64)),
  (4, .bool),
  (5, (.int .u8)),
  (6, (.int .u8)),
  (7, (.st (.pair (.int .i64) (.pair (.int .i64) (.pair .bool (.int .u8)))))),
  (8, (.st (.pair (.int .i64) (.pair (.int .i64) (.pair .bool (.int .u8)))))),
  (9, .str),
  (10, .str),
  (11, .str),
  (12, (.int .u64)),
  (13, (.st (.pair .str (.int .u64)))),
  (14, (.st (.pair .str (.int .u64)))),
  (21, (.int .i32)),
  (22, (.int .i64)),
  (23, (.st (.pair (.int .i64) (.pair (.int .i64) (.int .i64))))),
  (24, (.st (.pair (.int .i64) (.pair (.int .i64) (.int .i64))))),
  (26, (.int .i64)),
  (30, (.sl .str)),
  (44, (.st (.pair (.st (.pair (.int .i64) (.pair (.int .i64) (.int .i64)))) (.pair (.int .i64) (.pair .bool (.pair (.int .i64) (.int .i64))))))),
  (45, (.st (.pair (.st (.pair (.int .i64) (.pair (.int .i64) (.int .i64)))) (.pair (.int .i64) (.pair .bool (.pair (.int .i64) (.int .i64))))))),
  (50, (.sl (.st (.pair (.int .i64) (.pair (.int .i64) (.int .i64)))))),
  (54, (.sl .bool)),
  (64, (.sl (.int .i64))),
  (69, (.arr 21 .str)),
  (71, (.arr 21 (.int .i64))),
  (73, (.sl (.int .u8))),
  (80, (.arr 2 (.int .i64))),
  (81, (.int .u32)),
  (82, (.int .i8)),
  (102, (.int .u64)),
  (111, (.int .u8)),
  (112, (.int .u8)),
  (114, (.int .i32)),
  (115, (.int .i32))]
def eqs : List Nat := [23, 24, 44, 45]
noncomputable def C : Cx := ⟨Tryd.prog, sigs, glob, tab, eqs⟩
theorem e_op_Find (L : Lf) (R : Oracle C.sigs) (x : denP (sigAt C.sigs 15).ins.tys) : evalFn L C R 15 x = b_op_Find L  x := by kernel_rfl
theorem o_op_Find (x : denP (sigAt C.sigs 15).ins.tys) : evalFn lf C orc0 15 x = f_op_Find x := (e_op_Find lf _ x).trans (by kernel_rfl)
theorem c_op_Find : CallsAs C 15 f_op_Find :=
  fun x y h => Ev.Call.mk (C := C) _ orc0_ok 15 x y ((o_op_Find x).trans h)
theorem e_op_known (L : Lf) (R : Oracle C.sigs) (x : denP (sigAt C.sigs 47).ins.tys) : evalFn L C R 47 x = b_op_known L  x := by kernel_rfl
theorem o_op_known (x : denP (sigAt C.sigs 47).ins.tys) : evalFn lf C orc0 47 x = f_op_known x := (e_op_known lf _ x).trans (by kernel_rfl)
theorem c_op_known : CallsAs C 47 f_op_known :=
  fun x y h => Ev.Call.mk (C := C) _ orc0_ok 47 x y ((o_op_known x).trans h)
theorem e_op_Numbers (L : Lf) (R : Oracle C.sigs) (x : denP (sigAt C.sigs 21).ins.tys) : evalFn L C R 21 x = b_op_Numbers L (R 47) x := by kernel_rfl
theorem o_op_Numbers (x : denP (sigAt C.sigs 21).ins.tys) : evalFn lf C (orc1 47 f_op_known orc0) 21 x = f_op_Numbers x := (e_op_Numbers lf _ x).trans (by kernel_rfl)
theorem c_op_Numbers : CallsAs C 21 f_op_Numbers :=
  fun x y h => Ev.Call.mk (C := C) _ (orc1_ok c_op_known orc0_ok) 21 x y ((o_op_Numbers x).trans h)
theorem e_op_Goes (L : Lf) (R : Oracle C.sigs) (x : denP (sigAt C.sigs 22).ins.tys) : evalFn L C R 22 x = b_op_Goes L (R 47) x := by kernel_rfl
theorem o_op_Goes (x : denP (sigAt C.sigs 22).ins.tys) : evalFn lf C (orc1 47 f_op_known orc0) 22 x = f_op_Goes x := (e_op_Goes lf _ x).trans (by kernel_rfl)
theorem c_op_Goes : CallsAs C 22 f_op_Goes :=
  fun x y h => Ev.Call.mk (C := C) _ (orc1_ok c_op_known orc0_ok) 22 x y ((o_op_Goes x).trans h)
theorem e_op_within (L : Lf) (R : Oracle C.sigs) (x : denP (sigAt C.sigs 48).ins.tys) : evalFn L C R 48 x = b_op_within L  x := by kernel_rfl
theorem o_op_within (x : denP (sigAt C.sigs 48).ins.tys) : evalFn lf C orc0 48 x = f_op_within x := (e_op_within lf _ x).trans (by kernel_rfl)
theorem c_op_within : CallsAs C 48 f_op_within :=
  fun x y h => Ev.Call.mk (C := C) _ orc0_ok 48 x y ((o_op_within x).trans h)
theorem e_op_Check (L : Lf) (R : Oracle C.sigs) (x : denP (sigAt C.sigs 19).ins.tys) : evalFn L C R 19 x = b_op_Check L (R 21) (R 22) (R 47) (R 48) x := by kernel_rfl
theorem o_op_Check (x : denP (sigAt C.sigs 19).ins.tys) : evalFn lf C (orc1 21 f_op_Numbers (orc1 22 f_op_Goes (orc1 47 f_op_known (orc1 48 f_op_within orc0)))) 19 x = f_op_Check x := (e_op_Check lf _ x).trans (by kernel_rfl)
theorem c_op_Check : CallsAs C 19 f_op_Check :=
  fun x y h => Ev.Call.mk (C := C) _ (orc1_ok c_op_Numbers (orc1_ok c_op_Goes (orc1_ok c_op_known (orc1_ok c_op_within orc0_ok)))) 19 x y ((o_op_Check x).trans h)
theorem e_op_Name (L : Lf) (R : Oracle C.sigs) (x : denP (sigAt C.sigs 20).ins.tys) : evalFn L C R 20 x = b_op_Name L (R 47) x := by kernel_rfl
theorem o_op_Name (x : denP (sigAt C.sigs 20).ins.tys) : evalFn lf C (orc1 47 f_op_known orc0) 20 x = f_op_Name x := (e_op_Name lf _ x).trans (by kernel_rfl)
theorem c_op_Name : CallsAs C 20 f_op_Name :=
  fun x y h => Ev.Call.mk (C := C) _ (orc1_ok c_op_known orc0_ok) 20 x y ((o_op_Name x).trans h)
theorem e_op_right (L : Lf) (R : Oracle C.sigs) (x : denP (sigAt C.sigs 49).ins.tys) : evalFn L C R 49 x = b_op_right L (R 19) (R 22) x := by kernel_rfl
theorem o_op_right (x : denP (sigAt C.sigs 49).ins.tys) : evalFn lf C (orc1 19 f_op_Check (orc1 22 f_op_Goes orc0)) 49 x = f_op_right x := (e_op_right lf _ x).trans (by kernel_rfl)
theorem c_op_right : CallsAs C 49 f_op_right :=
  fun x y h => Ev.Call.mk (C := C) _ (orc1_ok c_op_Check (orc1_ok c_op_Goes orc0_ok)) 49 x y ((o_op_right x).trans h)
theorem e_op_told (L : Lf) (R : Oracle C.sigs) (x : denP (sigAt C.sigs 65).ins.tys) : evalFn L C R 65 x = b_op_told L (R 21) (R 22) x := by kernel_rfl
theorem o_op_told (x : denP (sigAt C.sigs 65).ins.tys) : evalFn lf C (orc1 21 f_op_Numbers (orc1 22 f_op_Goes orc0)) 65 x = f_op_told x := (e_op_told lf _ x).trans (by kernel_rfl)
theorem c_op_told : CallsAs C 65 f_op_told :=
  fun x y h => Ev.Call.mk (C := C) _ (orc1_ok c_op_Numbers (orc1_ok c_op_Goes orc0_ok)) 65 x y ((o_op_told x).trans h)
theorem e_op_number (L : Lf) (R : Oracle C.sigs) (x : denP (sigAt C.sigs 66).ins.tys) : evalFn L C R 66 x = b_op_number L  x := by kernel_rfl
theorem o_op_number (x : denP (sigAt C.sigs 66).ins.tys) : evalFn lf C orc0 66 x = f_op_number x := (e_op_number lf _ x).trans (by kernel_rfl)
theorem c_op_number : CallsAs C 66 f_op_number :=
  fun x y h => Ev.Call.mk (C := C) _ orc0_ok 66 x y ((o_op_number x).trans h)
theorem e_op_head (L : Lf) (R : Oracle C.sigs) (x : denP (sigAt C.sigs 50).ins.tys) : evalFn L C R 50 x = b_op_head L (R 65) (R 66) x := by kernel_rfl
theorem o_op_head (x : denP (sigAt C.sigs 50).ins.tys) : evalFn lf C (orc1 65 f_op_told (orc1 66 f_op_number orc0)) 50 x = f_op_head x := (e_op_head lf _ x).trans (by kernel_rfl)
theorem c_op_head : CallsAs C 50 f_op_head :=
  fun x y h => Ev.Call.mk (C := C) _ (orc1_ok c_op_told (orc1_ok c_op_number orc0_ok)) 50 x y ((o_op_head x).trans h)
theorem e_op_wide (L : Lf) (R : Oracle C.sigs) (x : denP (sigAt C.sigs 51).ins.tys) : evalFn L C R 51 x = b_op_wide L (R 22) x := by kernel_rfl
theorem o_op_wide (x : denP (sigAt C.sigs 51).ins.tys) : evalFn lf C (orc1 22 f_op_Goes orc0) 51 x = f_op_wide x := (e_op_wide lf _ x).trans (by kernel_rfl)
theorem c_op_wide : CallsAs C 51 f_op_wide :=
  fun x y h => Ev.Call.mk (C := C) _ (orc1_ok c_op_Goes orc0_ok) 51 x y ((o_op_wide x).trans h)
theorem e_op_Put (L : Lf) (R : Oracle C.sigs) (x : denP (sigAt C.sigs 24).ins.tys) : evalFn L C R 24 x = b_op_Put L (R 22) (R 49) (R 50) (R 51) x := by kernel_rfl
theorem o_op_Put (x : denP (sigAt C.sigs 24).ins.tys) : evalFn lf C (orc1 22 f_op_Goes (orc1 49 f_op_right (orc1 50 f_op_head (orc1 51 f_op_wide orc0)))) 24 x = f_op_Put x := (e_op_Put lf _ x).trans (by kernel_rfl)
theorem c_op_Put : CallsAs C 24 f_op_Put :=
  fun x y h => Ev.Call.mk (C := C) _ (orc1_ok c_op_Goes (orc1_ok c_op_right (orc1_ok c_op_head (orc1_ok c_op_wide orc0_ok)))) 24 x y ((o_op_Put x).trans h)
theorem e_op_Size (L : Lf) (R : Oracle C.sigs) (x : denP (sigAt C.sigs 26).ins.tys) : evalFn L C R 26 x = b_op_Size L (R 49) (R 50) (R 51) x := by kernel_rfl
theorem o_op_Size (x : denP (sigAt C.sigs 26).ins.tys) : evalFn lf C (orc1 49 f_op_right (orc1 50 f_op_head (orc1 51 f_op_wide orc0))) 26 x = f_op_Size x := (e_op_Size lf _ x).trans (by kernel_rfl)
theorem c_op_Size : CallsAs C 26 f_op_Size :=
  fun x y h => Ev.Call.mk (C := C) _ (orc1_ok c_op_right (orc1_ok c_op_head (orc1_ok c_op_wide orc0_ok))) 26 x y ((o_op_Size x).trans h)
theorem e_op_Get_1 (L : Lf) (R : Oracle C.sigs) (x : denP (sigAt C.sigs 55).ins.tys) : evalFn L C R 55 x = b_op_Get_1 L  x := by kernel_rfl
theorem o_op_Get_1 (x : denP (sigAt C.sigs 55).ins.tys) : evalFn lf C orc0 55 x = f_op_Get_1 x := (e_op_Get_1 lf _ x).trans (by kernel_rfl)
theorem c_op_Get_1 : CallsAs C 55 f_op_Get_1 :=
  fun x y h => Ev.Call.mk (C := C) _ orc0_ok 55 x y ((o_op_Get_1 x).trans h)
theorem e_op_Get (L : Lf) (R : Oracle C.sigs) (x : denP (sigAt C.sigs 27).ins.tys) : evalFn L C R 27 x = b_op_Get L (R 21) (R 22) (R 47) (R 51) (R 55) x := by kernel_rfl
theorem o_op_Get (x : denP (sigAt C.sigs 27).ins.tys) : evalFn lf C (orc1 21 f_op_Numbers (orc1 22 f_op_Goes (orc1 47 f_op_known (orc1 51 f_op_wide (orc1 55 f_op_Get_1 orc0))))) 27 x = f_op_Get x := (e_op_Get lf _ x).trans (by kernel_rfl)
theorem c_op_Get : CallsAs C 27 f_op_Get :=
  fun x y h => Ev.Call.mk (C := C) _ (orc1_ok c_op_Numbers (orc1_ok c_op_Goes (orc1_ok c_op_known (orc1_ok c_op_wide (orc1_ok c_op_Get_1 orc0_ok))))) 27 x y ((o_op_Get x).trans h)
theorem e_law15_awake (L : Lf) (R : Oracle C.sigs) (x : denP (sigAt C.sigs 13).ins.tys) : evalFn L C R 13 x = b_law15_awake L (R 15) (R 19) (R 20) (R 21) (R 22) (R 24) (R 26) (R 27) x := by kernel_rfl
theorem o_law15_awake (x : denP (sigAt C.sigs 13).ins.tys) : evalFn lf C (orc1 15 f_op_Find (orc1 19 f_op_Check (orc1 20 f_op_Name (orc1 21 f_op_Numbers (orc1 22 f_op_Goes (orc1 24 f_op_Put (orc1 26 f_op_Size (orc1 27 f_op_Get orc0)))))))) 13 x = f_law15_awake x := (e_law15_awake lf _ x).trans (by kernel_rfl)
theorem c_law15_awake : CallsAs C 13 f_law15_awake :=
  fun x y h => Ev.Call.mk (C := C) _ (orc1_ok c_op_Find (orc1_ok c_op_Check (orc1_ok c_op_Name (orc1_ok c_op_Numbers (orc1_ok c_op_Goes (orc1_ok c_op_Put (orc1_ok c_op_Size (orc1_ok c_op_Get orc0_ok)))))))) 13 x y ((o_law15_awake x).trans h)
theorem e_ref15_Numbers (L : Lf) (R : Oracle C.sigs) (x : denP (sigAt C.sigs 17).ins.tys) : evalFn L C R 17 x = b_ref15_Numbers L  x := by kernel_rfl
theorem o_ref15_Numbers (x : denP (sigAt C.sigs 17).ins.tys) : evalFn lf C orc0 17 x = f_ref15_Numbers x := (e_ref15_Numbers lf _ x).trans (by kernel_rfl)
theorem c_ref15_Numbers : CallsAs C 17 f_ref15_Numbers :=
  fun x y h => Ev.Call.mk (C := C) _ orc0_ok 17 x y ((o_ref15_Numbers x).trans h)
theorem e_ref15_Goes (L : Lf) (R : Oracle C.sigs) (x : denP (sigAt C.sigs 18).ins.tys) : evalFn L C R 18 x = b_ref15_Goes L  x := by kernel_rfl
theorem o_ref15_Goes (x : denP (sigAt C.sigs 18).ins.tys) : evalFn lf C orc0 18 x = f_ref15_Goes x := (e_ref15_Goes lf _ x).trans (by kernel_rfl)
theorem c_ref15_Goes : CallsAs C 18 f_ref15_Goes :=
  fun x y h => Ev.Call.mk (C := C) _ orc0_ok 18 x y ((o_ref15_Goes x).trans h)
theorem e_ref15_Check (L : Lf) (R : Oracle C.sigs) (x : denP (sigAt C.sigs 14).ins.tys) : evalFn L C R 14 x = b_ref15_Check L (R 17) (R 18) x := by kernel_rfl
theorem o_ref15_Check (x : denP (sigAt C.sigs 14).ins.tys) : evalFn lf C (orc1 17 f_ref15_Numbers (orc1 18 f_ref15_Goes orc0)) 14 x = f_ref15_Check x := (e_ref15_Check lf _ x).trans (by kernel_rfl)
theorem c_ref15_Check : CallsAs C 14 f_ref15_Check :=
  fun x y h => Ev.Call.mk (C := C) _ (orc1_ok c_ref15_Numbers (orc1_ok c_ref15_Goes orc0_ok)) 14 x y ((o_ref15_Check x).trans h)
theorem e_ref15_Names (L : Lf) (R : Oracle C.sigs) (x : denP (sigAt C.sigs 16).ins.tys) : evalFn L C R 16 x = b_ref15_Names L  x := by kernel_rfl
theorem o_ref15_Names (x : denP (sigAt C.sigs 16).ins.tys) : evalFn lf C orc0 16 x = f_ref15_Names x := (e_ref15_Names lf _ x).trans (by kernel_rfl)
theorem c_ref15_Names : CallsAs C 16 f_ref15_Names :=
  fun x y h => Ev.Call.mk (C := C) _ orc0_ok 16 x y ((o_ref15_Names x).trans h)
theorem e_ref06_In (L : Lf) (R : Oracle C.sigs) (x : denP (sigAt C.sigs 23).ins.tys) : evalFn L C R 23 x = b_ref06_In L  x := by kernel_rfl
theorem o_ref06_In (x : denP (sigAt C.sigs 23).ins.tys) : evalFn lf C orc0 23 x = f_ref06_In x := (e_ref06_In lf _ x).trans (by kernel_rfl)
theorem c_ref06_In : CallsAs C 23 f_ref06_In :=
  fun x y h => Ev.Call.mk (C := C) _ orc0_ok 23 x y ((o_ref06_In x).trans h)
theorem e_law15_OpTells (L : Lf) (R : Oracle C.sigs) (x : denP (sigAt C.sigs 0).ins.tys) : evalFn L C R 0 x = b_law15_OpTells L (R 13) (R 14) (R 15) (R 16) (R 17) (R 18) (R 19) (R 20) (R 21) (R 22) (R 23) x := by kernel_rfl
theorem o_law15_OpTells (x : denP (sigAt C.sigs 0).ins.tys) : evalFn lf C (orc1 13 f_law15_awake (orc1 14 f_ref15_Check (orc1 15 f_op_Find (orc1 16 f_ref15_Names (orc1 17 f_ref15_Numbers (orc1 18 f_ref15_Goes (orc1 19 f_op_Check (orc1 20 f_op_Name (orc1 21 f_op_Numbers (orc1 22 f_op_Goes (orc1 23 f_ref06_In orc0))))))))))) 0 x = f_law15_OpTells x := (e_law15_OpTells lf _ x).trans (by kernel_rfl)
theorem c_law15_OpTells : CallsAs C 0 f_law15_OpTells :=
  fun x y h => Ev.Call.mk (C := C) _ (orc1_ok c_law15_awake (orc1_ok c_ref15_Check (orc1_ok c_op_Find (orc1_ok c_ref15_Names (orc1_ok c_ref15_Numbers (orc1_ok c_ref15_Goes (orc1_ok c_op_Check (orc1_ok c_op_Name (orc1_ok c_op_Numbers (orc1_ok c_op_Goes (orc1_ok c_ref06_In orc0_ok))))))))))) 0 x y ((o_law15_OpTells x).trans h)
theorem e_ref15_number (L : Lf) (R : Oracle C.sigs) (x : denP (sigAt C.sigs 67).ins.tys) : evalFn L C R 67 x = b_ref15_number L (R 67) x := by kernel_rfl
theorem o_ref15_number (g : denP (sigAt C.sigs 67).ins.tys → Option (denP (sigAt C.sigs 67).outs.tys)) (x : denP (sigAt C.sigs 67).ins.tys) : evalFn lf C (orc1 67 g orc0) 67 x = g_ref15_number g x := (e_ref15_number lf _ x).trans (by kernel_rfl)
theorem c_ref15_number : CallsAs C 67 f_ref15_number :=
  callRec fun g hg x y h => Ev.Call.mk (C := C) _ (orc1_ok hg orc0_ok) 67 x y ((o_ref15_number g x).trans h)
theorem e_ref15_Head (L : Lf) (R : Oracle C.sigs) (x : denP (sigAt C.sigs 52).ins.tys) : evalFn L C R 52 x = b_ref15_Head L (R 17) (R 18) (R 67) x := by kernel_rfl
theorem o_ref15_Head (x : denP (sigAt C.sigs 52).ins.tys) : evalFn lf C (orc1 17 f_ref15_Numbers (orc1 18 f_ref15_Goes (orc1 67 f_ref15_number orc0))) 52 x = f_ref15_Head x := (e_ref15_Head lf _ x).trans (by kernel_rfl)
theorem c_ref15_Head : CallsAs C 52 f_ref15_Head :=
  fun x y h => Ev.Call.mk (C := C) _ (orc1_ok c_ref15_Numbers (orc1_ok c_ref15_Goes (orc1_ok c_ref15_number orc0_ok))) 52 x y ((o_ref15_Head x).trans h)
theorem e_ref15_Fits (L : Lf) (R : Oracle C.sigs) (x : denP (sigAt C.sigs 53).ins.tys) : evalFn L C R 53 x = b_ref15_Fits L  x := by kernel_rfl
theorem o_ref15_Fits (x : denP (sigAt C.sigs 53).ins.tys) : evalFn lf C orc0 53 x = f_ref15_Fits x := (e_ref15_Fits lf _ x).trans (by kernel_rfl)
theorem c_ref15_Fits : CallsAs C 53 f_ref15_Fits :=
  fun x y h => Ev.Call.mk (C := C) _ orc0_ok 53 x y ((o_ref15_Fits x).trans h)
theorem e_ref15_low (L : Lf) (R : Oracle C.sigs) (x : denP (sigAt C.sigs 54).ins.tys) : evalFn L C R 54 x = b_ref15_low L  x := by kernel_rfl
theorem o_ref15_low (x : denP (sigAt C.sigs 54).ins.tys) : evalFn lf C orc0 54 x = f_ref15_low x := (e_ref15_low lf _ x).trans (by kernel_rfl)
theorem c_ref15_low : CallsAs C 54 f_ref15_low :=
  fun x y h => Ev.Call.mk (C := C) _ orc0_ok 54 x y ((o_ref15_low x).trans h)
theorem e_ref15_Put (L : Lf) (R : Oracle C.sigs) (x : denP (sigAt C.sigs 25).ins.tys) : evalFn L C R 25 x = b_ref15_Put L (R 14) (R 18) (R 52) (R 53) (R 54) x := by kernel_rfl
theorem o_ref15_Put (x : denP (sigAt C.sigs 25).ins.tys) : evalFn lf C (orc1 14 f_ref15_Check (orc1 18 f_ref15_Goes (orc1 52 f_ref15_Head (orc1 53 f_ref15_Fits (orc1 54 f_ref15_low orc0))))) 25 x = f_ref15_Put x := (e_ref15_Put lf _ x).trans (by kernel_rfl)
theorem c_ref15_Put : CallsAs C 25 f_ref15_Put :=
  fun x y h => Ev.Call.mk (C := C) _ (orc1_ok c_ref15_Check (orc1_ok c_ref15_Goes (orc1_ok c_ref15_Head (orc1_ok c_ref15_Fits (orc1_ok c_ref15_low orc0_ok))))) 25 x y ((o_ref15_Put x).trans h)
theorem e_law15_OpPuts (L : Lf) (R : Oracle C.sigs) (x : denP (sigAt C.sigs 1).ins.tys) : evalFn L C R 1 x = b_law15_OpPuts L (R 13) (R 14) (R 18) (R 24) (R 25) (R 26) x := by kernel_rfl
theorem o_law15_OpPuts (x : denP (sigAt C.sigs 1).ins.tys) : evalFn lf C (orc1 13 f_law15_awake (orc1 14 f_ref15_Check (orc1 18 f_ref15_Goes (orc1 24 f_op_Put (orc1 25 f_ref15_Put (orc1 26 f_op_Size orc0)))))) 1 x = f_law15_OpPuts x := (e_law15_OpPuts lf _ x).trans (by kernel_rfl)
theorem c_law15_OpPuts : CallsAs C 1 f_law15_OpPuts :=
  fun x y h => Ev.Call.mk (C := C) _ (orc1_ok c_law15_awake (orc1_ok c_ref15_Check (orc1_ok c_ref15_Goes (orc1_ok c_op_Put (orc1_ok c_ref15_Put (orc1_ok c_op_Size orc0_ok)))))) 1 x y ((o_law15_OpPuts x).trans h)
theorem e_ref15_num (L : Lf) (R : Oracle C.sigs) (x : denP (sigAt C.sigs 56).ins.tys) : evalFn L C R 56 x = b_ref15_num L  x := by kernel_rfl
theorem o_ref15_num (x : denP (sigAt C.sigs 56).ins.tys) : evalFn lf C orc0 56 x = f_ref15_num x := (e_ref15_num lf _ x).trans (by kernel_rfl)
theorem c_ref15_num : CallsAs C 56 f_ref15_num :=
  fun x y h => Ev.Call.mk (C := C) _ orc0_ok 56 x y ((o_ref15_num x).trans h)
theorem e_ref15_Get (L : Lf) (R : Oracle C.sigs) (x : denP (sigAt C.sigs 28).ins.tys) : evalFn L C R 28 x = b_ref15_Get L (R 17) (R 18) (R 56) x := by kernel_rfl
theorem o_ref15_Get (x : denP (sigAt C.sigs 28).ins.tys) : evalFn lf C (orc1 17 f_ref15_Numbers (orc1 18 f_ref15_Goes (orc1 56 f_ref15_num orc0))) 28 x = f_ref15_Get x := (e_ref15_Get lf _ x).trans (by kernel_rfl)
theorem c_ref15_Get : CallsAs C 28 f_ref15_Get :=
  fun x y h => Ev.Call.mk (C := C) _ (orc1_ok c_ref15_Numbers (orc1_ok c_ref15_Goes (orc1_ok c_ref15_num orc0_ok))) 28 x y ((o_ref15_Get x).trans h)
theorem e_law15_OpGets (L : Lf) (R : Oracle C.sigs) (x : denP (sigAt C.sigs 2).ins.tys) : evalFn L C R 2 x = b_law15_OpGets L (R 13) (R 27) (R 28) x := by kernel_rfl
theorem o_law15_OpGets (x : denP (sigAt C.sigs 2).ins.tys) : evalFn lf C (orc1 13 f_law15_awake (orc1 27 f_op_Get (orc1 28 f_ref15_Get orc0))) 2 x = f_law15_OpGets x := (e_law15_OpGets lf _ x).trans (by kernel_rfl)
theorem c_law15_OpGets : CallsAs C 2 f_law15_OpGets :=
  fun x y h => Ev.Call.mk (C := C) _ (orc1_ok c_law15_awake (orc1_ok c_op_Get (orc1_ok c_ref15_Get orc0_ok))) 2 x y ((o_law15_OpGets x).trans h)
theorem e_law15_OpBack (L : Lf) (R : Oracle C.sigs) (x : denP (sigAt C.sigs 3).ins.tys) : evalFn L C R 3 x = b_law15_OpBack L (R 13) (R 18) (R 24) (R 27) x := by kernel_rfl
theorem o_law15_OpBack (x : denP (sigAt C.sigs 3).ins.tys) : evalFn lf C (orc1 13 f_law15_awake (orc1 18 f_ref15_Goes (orc1 24 f_op_Put (orc1 27 f_op_Get orc0)))) 3 x = f_law15_OpBack x := (e_law15_OpBack lf _ x).trans (by kernel_rfl)
theorem c_law15_OpBack : CallsAs C 3 f_law15_OpBack :=
  fun x y h => Ev.Call.mk (C := C) _ (orc1_ok c_law15_awake (orc1_ok c_ref15_Goes (orc1_ok c_op_Put (orc1_ok c_op_Get orc0_ok)))) 3 x y ((o_law15_OpBack x).trans h)
theorem e_law15_OpOnly (L : Lf) (R : Oracle C.sigs) (x : denP (sigAt C.sigs 4).ins.tys) : evalFn L C R 4 x = b_law15_OpOnly L (R 13) (R 19) (R 24) (R 27) x := by kernel_rfl
theorem o_law15_OpOnly (x : denP (sigAt C.sigs 4).ins.tys) : evalFn lf C (orc1 13 f_law15_awake (orc1 19 f_op_Check (orc1 24 f_op_Put (orc1 27 f_op_Get orc0)))) 4 x = f_law15_OpOnly x := (e_law15_OpOnly lf _ x).trans (by kernel_rfl)
theorem c_law15_OpOnly : CallsAs C 4 f_law15_OpOnly :=
  fun x y h => Ev.Call.mk (C := C) _ (orc1_ok c_law15_awake (orc1_ok c_op_Check (orc1_ok c_op_Put (orc1_ok c_op_Get orc0_ok)))) 4 x y ((o_law15_OpOnly x).trans h)
theorem e_law15_OpCuts (L : Lf) (R : Oracle C.sigs) (x : denP (sigAt C.sigs 5).ins.tys) : evalFn L C R 5 x = b_law15_OpCuts L (R 13) (R 24) (R 27) x := by kernel_rfl
theorem o_law15_OpCuts (x : denP (sigAt C.sigs 5).ins.tys) : evalFn lf C (orc1 13 f_law15_awake (orc1 24 f_op_Put (orc1 27 f_op_Get orc0))) 5 x = f_law15_OpCuts x := (e_law15_OpCuts lf _ x).trans (by kernel_rfl)
theorem c_law15_OpCuts : CallsAs C 5 f_law15_OpCuts :=
  fun x y h => Ev.Call.mk (C := C) _ (orc1_ok c_law15_awake (orc1_ok c_op_Put (orc1_ok c_op_Get orc0_ok))) 5 x y ((o_law15_OpCuts x).trans h)

theorem tabOk : tabChk C C.tab = true := by kernel_rfl
theorem eqsOk : eqChk C C.eqs = true := by kernel_rfl
theorem namesGood : namesOk C C.sigs = true := by kernel_rfl
theorem mixed : C.P.follows .mixedOrders = true := by kernel_rfl
theorem calls {i : Nat} {x : denP (sigAt C.sigs i).ins.tys} {y : denP (sigAt C.sigs i).outs.tys} (h : Ev.Call C i x y) : FnOk C i x y := calls_ok tabOk eqsOk namesGood mixed h
theorem globOk : GlobOk C Rows.opTellsRow.laid := by
  refine ⟨by kernel_rfl, fun g t x h => ?_⟩
  match g with
  | 0 =>
    cases h
    exact ⟨_, _, 69, List.Mem.head _, by kernel_rfl, by kernel_rfl, by kernel_rfl, rfl, by kernel_rfl⟩
  | 1 =>
    cases h
    exact ⟨_, _, 71, List.Mem.tail _ (List.Mem.head _), by kernel_rfl, by kernel_rfl, by kernel_rfl, rfl, by kernel_rfl⟩
  | n + 2 => cases h
theorem seatOk : SeatOk C Rows.opTellsRow.laid := seatOk_of tabOk (by kernel_rfl) (by kernel_rfl) (by kernel_rfl) globOk
end Go.Proofs.YthbmeiihbaggpaaDoor.Seat
