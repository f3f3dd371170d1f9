/- The functions of this seat as data: each is what the model's code gives, by the kernel's reckoning over the verified evaluator. No statement of its own about the program. -/
import Derived.Test.YtdekfefcpdejkaaGreatDoorFn
import Derived.Test.YtdekfefcpdejkaaGreatDoorWalk
import Derived.Test.YtdekfefcpdejkaaGreatDoorRows
import Derived.KernelRfl
namespace Go.Proofs.YtdekfefcpdejkaaGreatDoor.Seat
open Go Go.Proofs Go.Shelf Go.RowKit Go.Sort Ev Ev.Fn
def sigs : List Sig := [
  ⟨3, ⟨[.d (.st (.pair (.sl (.st (.pair .bool (.pair (.int .i64) .str)))) (.sl (.st (.pair (.int .i64) (.pair (.int .i64) (.int .i64))))))), .d (.st (.pair (.sl (.st (.pair .bool (.pair (.int .i64) .str)))) (.sl (.st (.pair (.int .i64) (.pair (.int .i64) (.int .i64)))))))], []⟩, ⟨[.d .bool], []⟩, []⟩,
  ⟨4, ⟨[.d .str], []⟩, ⟨[.d .bool], []⟩, []⟩,
  ⟨5, ⟨[], []⟩, ⟨[.d .bool], []⟩, []⟩,
  ⟨6, ⟨[.d (.st (.pair (.sl (.st (.pair .bool (.pair (.int .i64) .str)))) (.sl (.st (.pair (.int .i64) (.pair (.int .i64) (.int .i64)))))))], []⟩, ⟨[.d .bool], []⟩, []⟩,
  ⟨7, ⟨[.d (.st (.pair (.sl (.st (.pair .bool (.pair (.int .i64) .str)))) (.sl (.st (.pair (.int .i64) (.pair (.int .i64) (.int .i64)))))))], []⟩, ⟨[.d .str, .d (.int .i64)], []⟩, []⟩,
  ⟨8, ⟨[.d (.st (.pair (.sl (.st (.pair .bool (.pair (.int .i64) .str)))) (.sl (.st (.pair (.int .i64) (.pair (.int .i64) (.int .i64)))))))], []⟩, ⟨[.d (.st (.pair (.sl (.st (.pair .bool (.pair (.int .i64) .str)))) (.sl (.st (.pair (.int .i64) (.pair (.int .i64) (.int .i64)))))))], []⟩, []⟩,
  ⟨9, ⟨[.d (.st (.pair (.sl (.st (.pair .bool (.pair (.int .i64) .str)))) (.sl (.st (.pair (.int .i64) (.pair (.int .i64) (.int .i64)))))))], []⟩, ⟨[.d (.int .i64)], []⟩, []⟩,
  ⟨10, ⟨[.d (.st (.pair (.sl (.st (.pair .bool (.pair (.int .i64) .str)))) (.sl (.st (.pair (.int .i64) (.pair (.int .i64) (.int .i64)))))))], []⟩, ⟨[.d (.int .i64)], []⟩, []⟩,
  ⟨11, ⟨[.d (.st (.pair (.sl (.st (.pair .bool (.pair (.int .i64) .str)))) (.sl (.st (.pair (.int .i64) (.pair (.int .i64) (.int .i64))))))), .d (.st (.pair (.sl (.st (.pair .bool (.pair (.int .i64) .str)))) (.sl (.st (.pair (.int .i64) (.pair (.int .i64) (.int .i64)))))))], []⟩, ⟨[.d .bool], []⟩, []⟩,
  ⟨12, ⟨[.d (.st (.pair (.sl (.st (.pair .bool (.pair (.int .i64) .str)))) (.sl (.st (.pair (.int .i64) (.pair (.int .i64) (.int .i64))))))), .d (.st (.pair (.sl (.st (.pair .bool (.pair (.int .i64) .str)))) (.sl (.st (.pair (.int .i64) (.pair (.int .i64) (.int .i64)))))))], []⟩, ⟨[.d .bool], []⟩, []⟩,
  ⟨13, ⟨[.d (.st (.pair (.sl (.st (.pair .bool (.pair (.int .i64) .str)))) (.sl (.st (.pair (.int .i64) (.pair (.int .i64) (.int .i64)))))))], []⟩, ⟨[.d .str], []⟩, []⟩,
  ⟨14, ⟨[.d .str], []⟩, ⟨[.d (.st (.pair (.sl (.st (.pair .bool (.pair (.int .i64) .str)))) (.sl (.st (.pair (.int .i64) (.pair (.int .i64) (.int .i64))))))), .d (.int .i64)], []⟩, []⟩,
  ⟨15, ⟨[.d .str], []⟩, ⟨[.d (.st (.pair (.sl (.st (.pair .bool (.pair (.int .i64) .str)))) (.sl (.st (.pair (.int .i64) (.pair (.int .i64) (.int .i64))))))), .d .bool], []⟩, []⟩,
  ⟨16, ⟨[.d (.sl (.st (.pair .bool (.pair (.int .i64) .str))))], []⟩, ⟨[.d (.sl (.st (.pair .bool (.pair (.int .i64) .str)))), .d (.int .i64)], []⟩, []⟩,
  ⟨17, ⟨[.d (.sl (.st (.pair .bool (.pair (.int .i64) .str)))), .d (.st (.pair .bool (.pair (.int .i64) .str)))], []⟩, ⟨[.d (.int .i64)], []⟩, []⟩,
  ⟨18, ⟨[.d .str], []⟩, ⟨[.d (.int .u32)], []⟩, []⟩,
  ⟨19, ⟨[.d (.st (.pair .bool (.pair (.int .i64) .str))), .d (.st (.pair .bool (.pair (.int .i64) .str)))], []⟩, ⟨[.d .bool], []⟩, []⟩,
  ⟨20, ⟨[.d (.sl (.st (.pair (.int .i64) (.pair (.int .i64) (.int .i64)))))], []⟩, ⟨[.d .str, .d (.int .i64)], []⟩, []⟩,
  ⟨21, ⟨[.osl 0, .d (.int .u64), .d (.int .i64)], [.vec (.int .u8)]⟩, ⟨[.osl 1], [.gone, .vec (.int .u8)]⟩, []⟩,
  ⟨22, ⟨[.d (.sl (.st (.pair .bool (.pair (.int .i64) .str))))], []⟩, ⟨[.osl 0], [.vec (.st (.pair .bool (.pair (.int .i64) .str)))]⟩, []⟩,
  ⟨23, ⟨[.d (.st (.pair .bool (.pair (.int .i64) .str)))], []⟩, ⟨[.d .bool], []⟩, []⟩,
  ⟨24, ⟨[.d (.st (.pair .bool (.pair (.int .i64) .str))), .d (.st (.pair .bool (.pair (.int .i64) .str)))], []⟩, ⟨[.d .bool], []⟩, []⟩,
  ⟨25, ⟨[.d (.sl (.st (.pair (.int .i64) (.pair (.int .i64) (.int .i64)))))], []⟩, ⟨[.d (.int .i64)], []⟩, []⟩,
  ⟨26, ⟨[.d (.st (.pair .bool (.pair (.int .i64) .str)))], []⟩, ⟨[.d .bool], []⟩, []⟩,
  ⟨27, ⟨[.d (.sl (.st (.pair (.int .i64) (.pair (.int .i64) (.int .i64)))))], []⟩, ⟨[.d (.int .i64)], []⟩, []⟩,
  ⟨28, ⟨[.d (.sl (.st (.pair .bool (.pair (.int .i64) .str)))), .d (.sl (.st (.pair .bool (.pair (.int .i64) .str))))], []⟩, ⟨[.d .bool], []⟩, []⟩,
  ⟨29, ⟨[.d (.sl (.st (.pair (.int .i64) (.pair (.int .i64) (.int .i64))))), .d (.sl (.st (.pair (.int .i64) (.pair (.int .i64) (.int .i64)))))], []⟩, ⟨[.d .bool], []⟩, []⟩,
  ⟨30, ⟨[.d (.sl (.st (.pair (.int .i64) (.pair (.int .i64) (.int .i64))))), .d (.sl (.st (.pair (.int .i64) (.pair (.int .i64) (.int .i64)))))], []⟩, ⟨[.d .bool], []⟩, []⟩,
  ⟨31, ⟨[.d (.int .u64), .d (.int .i64)], []⟩, ⟨[.d .str], []⟩, []⟩,
  ⟨32, ⟨[.d (.sl (.st (.pair (.int .i64) (.pair (.int .i64) (.int .i64)))))], []⟩, ⟨[.d .str], []⟩, []⟩,
  ⟨33, ⟨[.d .str], []⟩, ⟨[.d (.int .u32)], []⟩, []⟩,
  ⟨34, ⟨[], []⟩, ⟨[.d (.st (.pair (.sl (.st (.pair .bool (.pair (.int .i64) .str)))) (.sl (.st (.pair (.int .i64) (.pair (.int .i64) (.int .i64))))))), .d (.int .i64)], []⟩, []⟩,
  ⟨35, ⟨[.d .str, .d .str], []⟩, ⟨[.d .str, .d .bool], []⟩, []⟩,
  ⟨36, ⟨[.ptr 0 0, .d (.int .i64)], [.box [.d .str, .d .bool]]⟩, ⟨[.d (.int .u64)], [.box [.d .str, .d .bool]]⟩, [0]⟩,
  ⟨37, ⟨[.ptr 0 0], [.box [.d .str, .d .bool]]⟩, ⟨[.d (.st (.pair .bool (.pair (.int .i64) .str)))], [.box [.d .str, .d .bool]]⟩, [0]⟩,
  ⟨38, ⟨[.d .str], []⟩, ⟨[.d (.sl (.st (.pair (.int .i64) (.pair (.int .i64) (.int .i64))))), .d (.int .i64)], []⟩, []⟩,
  ⟨39, ⟨[.ptr 0 0, .d (.int .i64)], [.box [.d .str, .d .bool]]⟩, ⟨[.d .str], [.box [.d .str, .d .bool]]⟩, [0]⟩,
  ⟨40, ⟨[.d .str, .d (.int .i64), .d (.int .i64)], []⟩, ⟨[.d (.int .u64)], []⟩, []⟩,
  ⟨41, ⟨[.d .str], []⟩, ⟨[.d (.sl (.st (.pair (.int .i64) (.pair (.int .i64) (.int .i64))))), .d (.int .i64)], []⟩, []⟩,
  ⟨42, ⟨[.d (.sl (.st (.pair .bool (.pair (.int .i64) .str)))), .fn 43 []], []⟩, ⟨[.d .bool], []⟩, []⟩,
  ⟨43, ⟨[.d (.st (.pair .bool (.pair (.int .i64) .str)))], []⟩, ⟨[.d .bool], []⟩, []⟩,
  ⟨44, ⟨[.d (.sl (.st (.pair .bool (.pair (.int .i64) .str))))], []⟩, ⟨[.osl 0], [.vec (.st (.pair .bool (.pair (.int .i64) .str)))]⟩, []⟩,
  ⟨45, ⟨[.osl 0, .fn 46 []], [.vec (.st (.pair .bool (.pair (.int .i64) .str)))]⟩, ⟨[], [.vec (.st (.pair .bool (.pair (.int .i64) .str)))]⟩, [0]⟩,
  ⟨46, ⟨[.d (.st (.pair .bool (.pair (.int .i64) .str))), .d (.st (.pair .bool (.pair (.int .i64) .str)))], []⟩, ⟨[.d (.int .i64)], []⟩, []⟩,
  ⟨47, ⟨[.osl 0], [.vec (.st (.pair .bool (.pair (.int .i64) .str)))]⟩, ⟨[.osl 1], [.gone, .vec (.st (.pair .bool (.pair (.int .i64) .str)))]⟩, []⟩,
  ⟨48, ⟨[.d (.sl (.st (.pair .bool (.pair (.int .i64) .str)))), .fn 43 []], []⟩, ⟨[.d (.int .i64)], []⟩, []⟩,
  ⟨48, ⟨[.d (.sl (.st (.pair .bool (.pair (.int .i64) .str)))), .fn 49 [.ref (.st (.pair .bool (.pair (.int .i64) .str)))]], []⟩, ⟨[.d (.int .i64)], []⟩, []⟩,
  ⟨49, ⟨[.d (.st (.pair .bool (.pair (.int .i64) .str))), .ref (.st (.pair .bool (.pair (.int .i64) .str)))], []⟩, ⟨[.d .bool], []⟩, []⟩,
  ⟨50, ⟨[.d (.sl (.st (.pair (.int .i64) (.pair (.int .i64) (.int .i64)))))], []⟩, ⟨[.d (.sl .bool), .d (.int .i64)], []⟩, []⟩,
  ⟨51, ⟨[.d (.sl (.st (.pair (.int .i64) (.pair (.int .i64) (.int .i64))))), .d (.sl .bool)], []⟩, ⟨[.osl 0], [.vec (.int .i64)]⟩, []⟩,
  ⟨52, ⟨[.d (.int .i64)], []⟩, ⟨[.d .bool], []⟩, []⟩,
  ⟨53, ⟨[.d (.st (.pair (.int .i64) (.pair (.int .i64) (.int .i64)))), .d (.int .i64), .d .bool], []⟩, ⟨[.d .str, .d (.int .i64)], []⟩, []⟩,
  ⟨54, ⟨[.ptr 0 0, .d .str], [.box [.slf 0, .osl 1], .vec (.int .u8)]⟩, ⟨[.d (.int .i64), .nili], [.box [.slf 0, .osl 2], .gone, .vec (.int .u8)]⟩, [0]⟩,
  ⟨55, ⟨[.ptr 0 0], [.box [.slf 0, .osl 1], .vec (.int .u8)]⟩, ⟨[.d .str], [.gone, .gone]⟩, []⟩,
  ⟨56, ⟨[.d (.int .i64)], []⟩, ⟨[.d (.int .i64)], []⟩, []⟩,
  ⟨57, ⟨[.d (.st (.pair (.int .i64) (.pair (.int .i64) (.int .i64))))], []⟩, ⟨[.d .bool], []⟩, []⟩,
  ⟨58, ⟨[.d (.int .i64)], []⟩, ⟨[.d .bool], []⟩, []⟩,
  ⟨59, ⟨[.d (.int .i64)], []⟩, ⟨[.d (.int .i64)], []⟩, []⟩,
  ⟨60, ⟨[.d (.sl (.st (.pair (.int .i64) (.pair (.int .i64) (.int .i64))))), .fn 61 []], []⟩, ⟨[.d .bool], []⟩, []⟩,
  ⟨60, ⟨[.d (.sl (.st (.pair (.int .i64) (.pair (.int .i64) (.int .i64))))), .fn 63 [.ref (.sl (.st (.pair (.int .i64) (.pair (.int .i64) (.int .i64)))))]], []⟩, ⟨[.d .bool], []⟩, []⟩,
  ⟨61, ⟨[.d (.st (.pair (.int .i64) (.pair (.int .i64) (.int .i64))))], []⟩, ⟨[.d .bool], []⟩, []⟩,
  ⟨62, ⟨[.d (.st (.pair (.int .i64) (.pair (.int .i64) (.int .i64))))], []⟩, ⟨[.d (.int .i64)], []⟩, []⟩,
  ⟨63, ⟨[.d (.st (.pair (.int .i64) (.pair (.int .i64) (.int .i64)))), .ref (.sl (.st (.pair (.int .i64) (.pair (.int .i64) (.int .i64)))))], []⟩, ⟨[.d .bool], []⟩, []⟩,
  ⟨64, ⟨[.d (.sl (.st (.pair (.int .i64) (.pair (.int .i64) (.int .i64)))))], []⟩, ⟨[.d (.sl .bool)], []⟩, []⟩,
  ⟨65, ⟨[.d (.sl (.st (.pair (.int .i64) (.pair (.int .i64) (.int .i64))))), .d (.sl .bool)], []⟩, ⟨[.d (.sl (.int .i64))], []⟩, []⟩,
  ⟨66, ⟨[.d (.st (.pair (.int .i64) (.pair (.int .i64) (.int .i64)))), .d (.int .i64), .d .bool], []⟩, ⟨[.d .str, .d (.int .i64)], []⟩, []⟩,
  ⟨67, ⟨[.d .str, .d .str], []⟩, ⟨[.d .str, .d .bool], []⟩, []⟩,
  ⟨68, ⟨[.d .str], []⟩, ⟨[.d (.st (.pair (.int .i64) (.pair (.int .i64) (.int .i64)))), .d (.int .i64), .d .bool, .d (.int .i64), .d (.int .i64)], []⟩, []⟩,
  ⟨69, ⟨[.d .str], []⟩, ⟨[.d (.st (.pair (.st (.pair (.int .i64) (.pair (.int .i64) (.int .i64)))) (.pair (.int .i64) (.pair .bool (.pair (.int .i64) (.int .i64))))))], []⟩, []⟩,
  ⟨70, ⟨[.d (.sl (.int .i64)), .d (.int .i64)], []⟩, ⟨[.d (.int .i64)], []⟩, []⟩,
  ⟨73, ⟨[.d (.sl (.st (.pair (.int .i64) (.pair (.int .i64) (.int .i64))))), .d (.sl .bool), .d (.sl (.int .i64))], []⟩, ⟨[.d (.int .i64)], []⟩, []⟩,
  ⟨74, ⟨[.d (.st (.pair (.int .i64) (.pair (.int .i64) (.int .i64)))), .d .bool], []⟩, ⟨[.d (.int .i64)], []⟩, []⟩,
  ⟨75, ⟨[.d (.int .i64)], []⟩, ⟨[.d .bool], []⟩, []⟩,
  ⟨76, ⟨[.d (.st (.pair (.int .i64) (.pair (.int .i64) (.int .i64)))), .d .bool], []⟩, ⟨[.d .bool], []⟩, []⟩,
  ⟨77, ⟨[.d (.st (.pair (.int .i64) (.pair (.int .i64) (.int .i64)))), .d .bool], []⟩, ⟨[.osl 0], [.vec (.int .u8)]⟩, []⟩,
  ⟨78, ⟨[.d (.int .i64), .d .bool], []⟩, ⟨[.d (.int .i64)], []⟩, []⟩,
  ⟨79, ⟨[.ptr 0 0], [.box [.slf 0, .osl 1], .vec (.int .u8)]⟩, ⟨[], [.box [.slf 0, .osl 1], .vec (.int .u8)]⟩, [0, 1]⟩,
  ⟨80, ⟨[.d (.int .u64)], []⟩, ⟨[.d (.int .i64)], []⟩, []⟩,
  ⟨81, ⟨[.d (.int .i64)], []⟩, ⟨[.d (.int .i64)], []⟩, []⟩,
  ⟨82, ⟨[.d (.sl (.st (.pair (.int .i64) (.pair (.int .i64) (.int .i64))))), .fn 61 []], []⟩, ⟨[.d (.int .i64)], []⟩, []⟩,
  ⟨82, ⟨[.d (.sl (.st (.pair (.int .i64) (.pair (.int .i64) (.int .i64))))), .fn 63 [.ref (.sl (.st (.pair (.int .i64) (.pair (.int .i64) (.int .i64)))))]], []⟩, ⟨[.d (.int .i64)], []⟩, []⟩,
  ⟨83, ⟨[.d (.int .i64)], []⟩, ⟨[.d (.int .i64)], []⟩, []⟩,
  ⟨84, ⟨[.d (.int .i64)], []⟩, ⟨[.d .bool], []⟩, []⟩,
  ⟨85, ⟨[.d (.sl (.st (.pair (.int .i64) (.pair (.int .i64) (.int .i64))))), .d (.sl .bool)], []⟩, ⟨[.d (.int .i64)], []⟩, []⟩,
  ⟨86, ⟨[.d (.st (.pair (.int .i64) (.pair (.int .i64) (.int .i64)))), .d .bool], []⟩, ⟨[.d (.int .i64)], []⟩, []⟩,
  ⟨87, ⟨[.d (.st (.pair (.int .i64) (.pair (.int .i64) (.int .i64)))), .d .bool], []⟩, ⟨[.d .str], []⟩, []⟩,
  ⟨88, ⟨[.d (.int .i64), .d .bool], []⟩, ⟨[.d .bool], []⟩, []⟩,
  ⟨89, ⟨[.d (.int .i64), .d (.int .i64)], []⟩, ⟨[.d .str], []⟩, []⟩,
  ⟨90, ⟨[.d .str, .d .str], []⟩, ⟨[.d .bool], []⟩, []⟩,
  ⟨91, ⟨[.d (.int .i64)], []⟩, ⟨[.d (.st (.pair (.int .i64) (.pair (.int .i64) (.int .i64)))), .d (.int .i64), .d .bool, .d (.int .i64), .d (.int .i64)], []⟩, []⟩,
  ⟨92, ⟨[.d .str, .d (.int .i64)], []⟩, ⟨[.d (.int .i64), .d (.int .i64), .d (.int .i64)], []⟩, []⟩,
  ⟨103, ⟨[.d (.st (.pair (.int .i64) (.pair (.int .i64) (.int .i64))))], []⟩, ⟨[.d (.sl (.int .i64))], []⟩, []⟩,
  ⟨104, ⟨[.osl 0, .d (.int .i64)], [.vec (.int .u8)]⟩, ⟨[.osl 1], [.gone, .vec (.int .u8)]⟩, []⟩,
  ⟨106, ⟨[.d (.int .i64)], []⟩, ⟨[.d .str], []⟩, []⟩]
def numbers : List Int := [0, 1, 1, 1, 0, 1, 1, 0, 0, 0, 2, 1, 1, 0, 0, 0, 0, 0, 1, 1, 1]
def glob : Nat → Option ((t : Ty) × den t)
  | 0 => some ⟨.arr 21 (.int .i64), numbers⟩
  | _ => none
def tab : List (Nat × Ty) := [
  (2, (.int .i64)),
  (3, (.int .i64)),
  (4, .bool),
  (5, (.int .u8)),
  (6, (.int .u8)),
  (7, (.st (.pair (.int .i64) (.pair (.int .i64) (.pair .bool (.int .u8)))))),
  (8, (.st (.pair (.int .i64) (.pair (.int .i64) (.pair .bool (.int .u8)))))),
  (9, .str),
  (10, .str),
  (11, .str),
  (12, (.int .u64)),
  (13, (.st (.pair .str (.int .u64)))),
  (14, (.st (.pair .str (.int .u64)))),
  (21, (.int .i32)),
  (22, (.sl (.st (.pair .bool (.pair (.int .i64) .str))))),
  (23, (.sl (.st (.pair (.int .i64) (.pair (.int .i64) (.int .i64)))))),
  (24, (.st (.pair (.sl (.st (.pair .bool (.pair (.int .i64) .str)))) (.sl (.st (.pair (.int .i64) (.pair (.int .i64) (.int .i64)))))))),
  (25, (.st (.pair (.sl (.st (.pair .bool (.pair (.int .i64) .str)))) (.sl (.st (.pair (.int .i64) (.pair (.int .i64) (.int .i64)))))))),
  (28, (.int .i64)),
  (40, (.int .i64)),
  (41, (.st (.pair (.int .i64) (.pair (.int .i64) (.int .i64))))),
  (42, (.st (.pair (.int .i64) (.pair (.int .i64) (.int .i64))))),
  (45, (.st (.pair .bool (.pair (.int .i64) .str)))),
  (46, (.st (.pair .bool (.pair (.int .i64) .str)))),
  (48, (.int .u32)),
  (52, (.sl (.int .u8))),
  (54, (.int .u64)),
  (66, (.st (.pair .str .bool))),
  (67, (.st (.pair .str .bool))),
  (78, (.sl .bool)),
  (81, (.sl (.int .i64))),
  (101, (.st (.pair (.st (.pair (.int .i64) (.pair (.int .i64) (.int .i64)))) (.pair (.int .i64) (.pair .bool (.pair (.int .i64) (.int .i64))))))),
  (102, (.st (.pair (.st (.pair (.int .i64) (.pair (.int .i64) (.int .i64)))) (.pair (.int .i64) (.pair .bool (.pair (.int .i64) (.int .i64))))))),
  (107, (.int .u64)),
  (124, (.arr 2 (.int .i64))),
  (125, (.int .i8)),
  (129, (.int .i64)),
  (142, (.arr 21 (.int .i64))),
  (143, (.int .u64)),
  (158, (.int .u8)),
  (159, (.int .u8)),
  (161, (.int .i32)),
  (162, (.int .i32))]
def eqs : List Nat := [41, 42, 45, 46]
noncomputable def C : Cx := ⟨Tryz.prog, sigs, glob, tab, eqs, 85⟩
def g_ck : denP (sigAt C.sigs 76).ins.tys → Option (denP (sigAt C.sigs 76).outs.tys) := fun x => some (true, x.2.1, ())
def g_str : denP (sigAt C.sigs 53).ins.tys → Option (denP (sigAt C.sigs 53).outs.tys) := fun x => some (x.2.1.l, ())
theorem c_ck : CallsAs C 76 g_ck := by
  intro x y h
  obtain ⟨b, s, u⟩ := x
  have h : some ((true, s, ()) : Bool × Sl Int × Unit) = some y := h
  injection h with h
  subst h
  exact Call.prim 76 _ _ (ck_okS (C := C) (f := 79) ⟨_, Tryz.func79, by kernel_rfl⟩ cc_used cc_fresh b s)
theorem c_str (hcells : ∀ el, C.P.underlying el = some (.int .u8) → C.P.cellsOf el = 1) : CallsAs C 53 g_str := by
  intro x y h
  obtain ⟨b, s, u⟩ := x
  have h : some ((s.l, ()) : List Int × Unit) = some y := h
  injection h with h
  subst h
  exact Call.prim 53 _ _ (str_okS (C := C) (f := 55) strWalk (by kernel_rfl) ⟨_, Tryz.func55, by kernel_rfl⟩ (by kernel_rfl) hcells b s)

theorem bytesT : bytesChk Tryz.prog Tryz.prog.types.size = true := by kernel_rfl
theorem c_str' : CallsAs C 53 g_str := c_str (bytes_all bytesT)

def g_sort : denP (sigAt C.sigs 42).ins.tys → Option (denP (sigAt C.sigs 42).outs.tys) := fun x =>
  bif x.1.l.all goodT && decide (x.1.l.length < 4611686018427387904) then some ((⟨x.1.nil, x.1.l.mergeSort fun a b => !lessD b a⟩ : Sl Thing), ()) else none

theorem c_sort : CallsAs C 42 g_sort := by
  intro x y h
  obtain ⟨⟨nil, l⟩, u⟩ := x
  have h : (bif l.all goodT && decide (l.length < 4611686018427387904) then some ((⟨nil, l.mergeSort fun a b => !lessD b a⟩ : Sl Thing), ()) else none) = some y := h
  cases hg : l.all goodT with
  | false => rw [hg] at h; cases h
  | true =>
    cases hd : decide (l.length < 4611686018427387904) with
    | false => rw [hg, hd] at h; cases h
    | true =>
      rw [hg, hd] at h
      injection h with h
      subst h
      have hlen : l.length < 4611686018427387904 := of_decide_eq_true hd
      obtain ⟨l', rfl⟩ : ∃ l' : List GT, l = l'.map (·.1) := ⟨l.attach.map fun a => ⟨a.1, List.all_eq_true.1 hg a.1 a.2⟩, by rw [List.map_map]; exact (List.attach_map_subtype_val l).symm⟩
      have hs : ∀ (blk off cap : Nat) (d : Array GT) (w : World), HoldsK encT (csz tyThing) w blk off d → blk < w.heap.size → d.size < 4611686018427387904 →
          Calls C.P 45 #[.slice (some ⟨blk, off, none⟩) d.size cap, .func (.func 46) #[] #[]] w fun e w' => e = .returned (.tuple #[]) ∧ ∃ n os, w' = sortWorldK encT (csz tyThing) w blk off n (d.toList.mergeSort fun x y => !lessD y.1 x.1).toArray os := by
        intro blk off cap d w hH hb hsz
        have := AnyQ.slices_SortFunc_total Tryz.sortL 3 Tryz.isAgg46 Tryz.sizeOf46 encT (fun _ => rfl) (fun x v hv => by
          simp only [encT, List.mem_cons, List.not_mem_nil, or_false] at hv
          rcases hv with rfl | rfl | rfl <;> rfl) cfT swoT 46 #[] blk off cap d w (enters_of Tryz.func46 (by kernel_rfl) rfl) (fun _ _ _ _ x y => compare_at _ _ _ _ _ _ _) hH hb hsz
          (fun x y h1 h2 => by rw [ltOf_cf] at h1 h2; exact Subtype.ext (lessD_total _ _ x.2 y.2 h1 h2))
        simp only [ltOf_cf] at this
        exact this
      have key := sort_okS (C := C) (f := 45) (g := 46) (t := tyThing) encT (·.1) (fun l => l.mergeSort fun x y => !lessD y.1 x.1) (by intro h; cases h) relT (fun _ => rfl) (fun l => List.length_mergeSort l)
        ⟨_, Tryz.func45, by kernel_rfl⟩ (fun p cap fv w => AnyF.slices_SortFunc_none Tryz.sortL p cap fv w) hs nil l' (by simpa using hlen)
      have e : (l'.mergeSort fun x y => !lessD y.1 x.1).map (·.1) = (l'.map (·.1)).mergeSort fun a b => !lessD b a := List.map_mergeSort (fun a _ b _ => rfl)
      rw [e] at key
      exact Call.prim 42 _ _ key

theorem e_image_Less (L : Lf) (R : Oracle C.sigs) (x : denP (sigAt C.sigs 16).ins.tys) : evalFn L C R 16 x = b_image_Less L  x := by kernel_rfl
theorem o_image_Less (x : denP (sigAt C.sigs 16).ins.tys) : evalFn lf C orc0 16 x = f_image_Less x := (e_image_Less lf _ x).trans (by kernel_rfl)
theorem c_image_Less : CallsAs C 16 f_image_Less :=
  fun x y h => Ev.Call.mk (C := C) _ orc0_ok 16 x y ((o_image_Less x).trans h)
theorem e_word_Wrap (L : Lf) (R : Oracle C.sigs) (x : denP (sigAt C.sigs 57).ins.tys) : evalFn L C R 57 x = b_word_Wrap L  x := by kernel_rfl
theorem o_word_Wrap (x : denP (sigAt C.sigs 57).ins.tys) : evalFn lf C orc0 57 x = f_word_Wrap x := (e_word_Wrap lf _ x).trans (by kernel_rfl)
theorem c_word_Wrap : CallsAs C 57 f_word_Wrap :=
  fun x y h => Ev.Call.mk (C := C) _ orc0_ok 57 x y ((o_word_Wrap x).trans h)
theorem e_image_right (L : Lf) (R : Oracle C.sigs) (x : denP (sigAt C.sigs 23).ins.tys) : evalFn L C R 23 x = b_image_right L (R 57) x := by kernel_rfl
theorem o_image_right (x : denP (sigAt C.sigs 23).ins.tys) : evalFn lf C (orc1 57 f_word_Wrap orc0) 23 x = f_image_right x := (e_image_right lf _ x).trans (by kernel_rfl)
theorem c_image_right : CallsAs C 23 f_image_right :=
  fun x y h => Ev.Call.mk (C := C) _ (orc1_ok c_word_Wrap orc0_ok) 23 x y ((o_image_right x).trans h)
theorem e_op_known (L : Lf) (R : Oracle C.sigs) (x : denP (sigAt C.sigs 72).ins.tys) : evalFn L C R 72 x = b_op_known L  x := by kernel_rfl
theorem o_op_known (x : denP (sigAt C.sigs 72).ins.tys) : evalFn lf C orc0 72 x = f_op_known x := (e_op_known lf _ x).trans (by kernel_rfl)
theorem c_op_known : CallsAs C 72 f_op_known :=
  fun x y h => Ev.Call.mk (C := C) _ orc0_ok 72 x y ((o_op_known x).trans h)
theorem e_op_Goes (L : Lf) (R : Oracle C.sigs) (x : denP (sigAt C.sigs 50).ins.tys) : evalFn L C R 50 x = b_op_Goes L (R 72) x := by kernel_rfl
theorem o_op_Goes (x : denP (sigAt C.sigs 50).ins.tys) : evalFn lf C (orc1 72 f_op_known orc0) 50 x = f_op_Goes x := (e_op_Goes lf _ x).trans (by kernel_rfl)
theorem c_op_Goes : CallsAs C 50 f_op_Goes :=
  fun x y h => Ev.Call.mk (C := C) _ (orc1_ok c_op_known orc0_ok) 50 x y ((o_op_Goes x).trans h)
theorem e_op_Numbers (L : Lf) (R : Oracle C.sigs) (x : denP (sigAt C.sigs 81).ins.tys) : evalFn L C R 81 x = b_op_Numbers L (R 72) x := by kernel_rfl
theorem o_op_Numbers (x : denP (sigAt C.sigs 81).ins.tys) : evalFn lf C (orc1 72 f_op_known orc0) 81 x = f_op_Numbers x := (e_op_Numbers lf _ x).trans (by kernel_rfl)
theorem c_op_Numbers : CallsAs C 81 f_op_Numbers :=
  fun x y h => Ev.Call.mk (C := C) _ (orc1_ok c_op_known orc0_ok) 81 x y ((o_op_Numbers x).trans h)
theorem e_op_within (L : Lf) (R : Oracle C.sigs) (x : denP (sigAt C.sigs 82).ins.tys) : evalFn L C R 82 x = b_op_within L  x := by kernel_rfl
theorem o_op_within (x : denP (sigAt C.sigs 82).ins.tys) : evalFn lf C orc0 82 x = f_op_within x := (e_op_within lf _ x).trans (by kernel_rfl)
theorem c_op_within : CallsAs C 82 f_op_within :=
  fun x y h => Ev.Call.mk (C := C) _ orc0_ok 82 x y ((o_op_within x).trans h)
theorem e_op_Check (L : Lf) (R : Oracle C.sigs) (x : denP (sigAt C.sigs 61).ins.tys) : evalFn L C R 61 x = b_op_Check L (R 50) (R 72) (R 81) (R 82) x := by kernel_rfl
theorem o_op_Check (x : denP (sigAt C.sigs 61).ins.tys) : evalFn lf C (orc1 50 f_op_Goes (orc1 72 f_op_known (orc1 81 f_op_Numbers (orc1 82 f_op_within orc0)))) 61 x = f_op_Check x := (e_op_Check lf _ x).trans (by kernel_rfl)
theorem c_op_Check : CallsAs C 61 f_op_Check :=
  fun x y h => Ev.Call.mk (C := C) _ (orc1_ok c_op_Goes (orc1_ok c_op_known (orc1_ok c_op_Numbers (orc1_ok c_op_within orc0_ok)))) 61 x y ((o_op_Check x).trans h)
theorem e_asm_Check_1 (L : Lf) (R : Oracle C.sigs) (x : denP (sigAt C.sigs 60).ins.tys) : evalFn L C R 60 x = b_asm_Check_1 L (R 61) x := by kernel_rfl
theorem o_asm_Check_1 (x : denP (sigAt C.sigs 60).ins.tys) : evalFn lf C (orc1 61 f_op_Check orc0) 60 x = f_asm_Check_1 x := (e_asm_Check_1 lf _ x).trans (by kernel_rfl)
theorem c_asm_Check_1 : CallsAs C 60 f_asm_Check_1 :=
  fun x y h => Ev.Call.mk (C := C) _ (orc1_ok c_op_Check orc0_ok) 60 x y ((o_asm_Check_1 x).trans h)
theorem e_slices_IndexFunc (L : Lf) (R : Oracle C.sigs) (x : denP (sigAt C.sigs 79).ins.tys) : evalFn L C R 79 x = b_slices_IndexFunc L (R 60) x := by kernel_rfl
theorem o_slices_IndexFunc (x : denP (sigAt C.sigs 79).ins.tys) : evalFn lf C (orc1 60 f_asm_Check_1 orc0) 79 x = f_slices_IndexFunc x := (e_slices_IndexFunc lf _ x).trans (by kernel_rfl)
theorem c_slices_IndexFunc : CallsAs C 79 f_slices_IndexFunc :=
  fun x y h => Ev.Call.mk (C := C) _ (orc1_ok c_asm_Check_1 orc0_ok) 79 x y ((o_slices_IndexFunc x).trans h)
theorem e_slices_ContainsFunc (L : Lf) (R : Oracle C.sigs) (x : denP (sigAt C.sigs 58).ins.tys) : evalFn L C R 58 x = b_slices_ContainsFunc L (R 79) x := by kernel_rfl
theorem o_slices_ContainsFunc (x : denP (sigAt C.sigs 58).ins.tys) : evalFn lf C (orc1 79 f_slices_IndexFunc orc0) 58 x = f_slices_ContainsFunc x := (e_slices_ContainsFunc lf _ x).trans (by kernel_rfl)
theorem c_slices_ContainsFunc : CallsAs C 58 f_slices_ContainsFunc :=
  fun x y h => Ev.Call.mk (C := C) _ (orc1_ok c_slices_IndexFunc orc0_ok) 58 x y ((o_slices_ContainsFunc x).trans h)
theorem e_asm_Check_2 (L : Lf) (R : Oracle C.sigs) (x : denP (sigAt C.sigs 62).ins.tys) : evalFn L C R 62 x = b_asm_Check_2 L (R 50) x := by kernel_rfl
theorem o_asm_Check_2 (x : denP (sigAt C.sigs 62).ins.tys) : evalFn lf C (orc1 50 f_op_Goes orc0) 62 x = f_asm_Check_2 x := (e_asm_Check_2 lf _ x).trans (by kernel_rfl)
theorem c_asm_Check_2 : CallsAs C 62 f_asm_Check_2 :=
  fun x y h => Ev.Call.mk (C := C) _ (orc1_ok c_op_Goes orc0_ok) 62 x y ((o_asm_Check_2 x).trans h)
theorem e_slices_IndexFunc_v2 (L : Lf) (R : Oracle C.sigs) (x : denP (sigAt C.sigs 80).ins.tys) : evalFn L C R 80 x = b_slices_IndexFunc_v2 L (R 62) x := by kernel_rfl
theorem o_slices_IndexFunc_v2 (x : denP (sigAt C.sigs 80).ins.tys) : evalFn lf C (orc1 62 f_asm_Check_2 orc0) 80 x = f_slices_IndexFunc_v2 x := (e_slices_IndexFunc_v2 lf _ x).trans (by kernel_rfl)
theorem c_slices_IndexFunc_v2 : CallsAs C 80 f_slices_IndexFunc_v2 :=
  fun x y h => Ev.Call.mk (C := C) _ (orc1_ok c_asm_Check_2 orc0_ok) 80 x y ((o_slices_IndexFunc_v2 x).trans h)
theorem e_slices_ContainsFunc_v2 (L : Lf) (R : Oracle C.sigs) (x : denP (sigAt C.sigs 59).ins.tys) : evalFn L C R 59 x = b_slices_ContainsFunc_v2 L (R 80) x := by kernel_rfl
theorem o_slices_ContainsFunc_v2 (x : denP (sigAt C.sigs 59).ins.tys) : evalFn lf C (orc1 80 f_slices_IndexFunc_v2 orc0) 59 x = f_slices_ContainsFunc_v2 x := (e_slices_ContainsFunc_v2 lf _ x).trans (by kernel_rfl)
theorem c_slices_ContainsFunc_v2 : CallsAs C 59 f_slices_ContainsFunc_v2 :=
  fun x y h => Ev.Call.mk (C := C) _ (orc1_ok c_slices_IndexFunc_v2 orc0_ok) 59 x y ((o_slices_ContainsFunc_v2 x).trans h)
theorem e_asm_Check (L : Lf) (R : Oracle C.sigs) (x : denP (sigAt C.sigs 24).ins.tys) : evalFn L C R 24 x = b_asm_Check L (R 58) (R 59) x := by kernel_rfl
theorem o_asm_Check (x : denP (sigAt C.sigs 24).ins.tys) : evalFn lf C (orc1 58 f_slices_ContainsFunc (orc1 59 f_slices_ContainsFunc_v2 orc0)) 24 x = f_asm_Check x := (e_asm_Check lf _ x).trans (by kernel_rfl)
theorem c_asm_Check : CallsAs C 24 f_asm_Check :=
  fun x y h => Ev.Call.mk (C := C) _ (orc1_ok c_slices_ContainsFunc (orc1_ok c_slices_ContainsFunc_v2 orc0_ok)) 24 x y ((o_asm_Check x).trans h)
theorem e_image_Check (L : Lf) (R : Oracle C.sigs) (x : denP (sigAt C.sigs 7).ins.tys) : evalFn L C R 7 x = b_image_Check L (R 16) (R 23) (R 24) x := by kernel_rfl
theorem o_image_Check (x : denP (sigAt C.sigs 7).ins.tys) : evalFn lf C (orc1 16 f_image_Less (orc1 23 f_image_right (orc1 24 f_asm_Check orc0))) 7 x = f_image_Check x := (e_image_Check lf _ x).trans (by kernel_rfl)
theorem c_image_Check : CallsAs C 7 f_image_Check :=
  fun x y h => Ev.Call.mk (C := C) _ (orc1_ok c_image_Less (orc1_ok c_image_right (orc1_ok c_asm_Check orc0_ok))) 7 x y ((o_image_Check x).trans h)
theorem e_image_Sum (L : Lf) (R : Oracle C.sigs) (x : denP (sigAt C.sigs 15).ins.tys) : evalFn L C R 15 x = b_image_Sum L  x := by kernel_rfl
theorem o_image_Sum (x : denP (sigAt C.sigs 15).ins.tys) : evalFn lf C orc0 15 x = f_image_Sum x := (e_image_Sum lf _ x).trans (by kernel_rfl)
theorem c_image_Sum : CallsAs C 15 f_image_Sum :=
  fun x y h => Ev.Call.mk (C := C) _ orc0_ok 15 x y ((o_image_Sum x).trans h)
theorem e_op_right (L : Lf) (R : Oracle C.sigs) (x : denP (sigAt C.sigs 73).ins.tys) : evalFn L C R 73 x = b_op_right L (R 50) (R 61) x := by kernel_rfl
theorem o_op_right (x : denP (sigAt C.sigs 73).ins.tys) : evalFn lf C (orc1 50 f_op_Goes (orc1 61 f_op_Check orc0)) 73 x = f_op_right x := (e_op_right lf _ x).trans (by kernel_rfl)
theorem c_op_right : CallsAs C 73 f_op_right :=
  fun x y h => Ev.Call.mk (C := C) _ (orc1_ok c_op_Goes (orc1_ok c_op_Check orc0_ok)) 73 x y ((o_op_right x).trans h)
theorem e_op_told (L : Lf) (R : Oracle C.sigs) (x : denP (sigAt C.sigs 91).ins.tys) : evalFn L C R 91 x = b_op_told L (R 50) (R 81) x := by kernel_rfl
theorem o_op_told (x : denP (sigAt C.sigs 91).ins.tys) : evalFn lf C (orc1 50 f_op_Goes (orc1 81 f_op_Numbers orc0)) 91 x = f_op_told x := (e_op_told lf _ x).trans (by kernel_rfl)
theorem c_op_told : CallsAs C 91 f_op_told :=
  fun x y h => Ev.Call.mk (C := C) _ (orc1_ok c_op_Goes (orc1_ok c_op_Numbers orc0_ok)) 91 x y ((o_op_told x).trans h)
theorem e_op_number (L : Lf) (R : Oracle C.sigs) (x : denP (sigAt C.sigs 92).ins.tys) : evalFn L C R 92 x = b_op_number L  x := by kernel_rfl
theorem o_op_number (x : denP (sigAt C.sigs 92).ins.tys) : evalFn lf C orc0 92 x = f_op_number x := (e_op_number lf _ x).trans (by kernel_rfl)
theorem c_op_number : CallsAs C 92 f_op_number :=
  fun x y h => Ev.Call.mk (C := C) _ orc0_ok 92 x y ((o_op_number x).trans h)
theorem e_op_head (L : Lf) (R : Oracle C.sigs) (x : denP (sigAt C.sigs 74).ins.tys) : evalFn L C R 74 x = b_op_head L (R 91) (R 92) x := by kernel_rfl
theorem o_op_head (x : denP (sigAt C.sigs 74).ins.tys) : evalFn lf C (orc1 91 f_op_told (orc1 92 f_op_number orc0)) 74 x = f_op_head x := (e_op_head lf _ x).trans (by kernel_rfl)
theorem c_op_head : CallsAs C 74 f_op_head :=
  fun x y h => Ev.Call.mk (C := C) _ (orc1_ok c_op_told (orc1_ok c_op_number orc0_ok)) 74 x y ((o_op_head x).trans h)
theorem e_op_wide (L : Lf) (R : Oracle C.sigs) (x : denP (sigAt C.sigs 75).ins.tys) : evalFn L C R 75 x = b_op_wide L (R 50) x := by kernel_rfl
theorem o_op_wide (x : denP (sigAt C.sigs 75).ins.tys) : evalFn lf C (orc1 50 f_op_Goes orc0) 75 x = f_op_wide x := (e_op_wide lf _ x).trans (by kernel_rfl)
theorem c_op_wide : CallsAs C 75 f_op_wide :=
  fun x y h => Ev.Call.mk (C := C) _ (orc1_ok c_op_Goes orc0_ok) 75 x y ((o_op_wide x).trans h)
theorem e_op_Size (L : Lf) (R : Oracle C.sigs) (x : denP (sigAt C.sigs 71).ins.tys) : evalFn L C R 71 x = b_op_Size L (R 73) (R 74) (R 75) x := by kernel_rfl
theorem o_op_Size (x : denP (sigAt C.sigs 71).ins.tys) : evalFn lf C (orc1 73 f_op_right (orc1 74 f_op_head (orc1 75 f_op_wide orc0))) 71 x = f_op_Size x := (e_op_Size lf _ x).trans (by kernel_rfl)
theorem c_op_Size : CallsAs C 71 f_op_Size :=
  fun x y h => Ev.Call.mk (C := C) _ (orc1_ok c_op_right (orc1_ok c_op_head (orc1_ok c_op_wide orc0_ok))) 71 x y ((o_op_Size x).trans h)
theorem e_asm_starts (L : Lf) (R : Oracle C.sigs) (x : denP (sigAt C.sigs 49).ins.tys) : evalFn L C R 49 x = b_asm_starts L (R 71) x := by kernel_rfl
theorem o_asm_starts (x : denP (sigAt C.sigs 49).ins.tys) : evalFn lf C (orc1 71 f_op_Size orc0) 49 x = f_asm_starts x := (e_asm_starts lf _ x).trans (by kernel_rfl)
theorem c_asm_starts : CallsAs C 49 f_asm_starts :=
  fun x y h => Ev.Call.mk (C := C) _ (orc1_ok c_op_Size orc0_ok) 49 x y ((o_asm_starts x).trans h)
theorem e_asm_tight (L : Lf) (R : Oracle C.sigs) (x : denP (sigAt C.sigs 70).ins.tys) : evalFn L C R 70 x = b_asm_tight L (R 50) x := by kernel_rfl
theorem o_asm_tight (x : denP (sigAt C.sigs 70).ins.tys) : evalFn lf C (orc1 50 f_op_Goes orc0) 70 x = f_asm_tight x := (e_asm_tight lf _ x).trans (by kernel_rfl)
theorem c_asm_tight : CallsAs C 70 f_asm_tight :=
  fun x y h => Ev.Call.mk (C := C) _ (orc1_ok c_op_Goes orc0_ok) 70 x y ((o_asm_tight x).trans h)
theorem e_asm_Relax (L : Lf) (R : Oracle C.sigs) (x : denP (sigAt C.sigs 48).ins.tys) : evalFn L C R 48 x = b_asm_Relax L (R 24) (R 49) (R 50) (R 70) x := by kernel_rfl
theorem o_asm_Relax (x : denP (sigAt C.sigs 48).ins.tys) : evalFn lf C (orc1 24 f_asm_Check (orc1 49 f_asm_starts (orc1 50 f_op_Goes (orc1 70 f_asm_tight orc0)))) 48 x = f_asm_Relax x := (e_asm_Relax lf _ x).trans (by kernel_rfl)
theorem c_asm_Relax : CallsAs C 48 f_asm_Relax :=
  fun x y h => Ev.Call.mk (C := C) _ (orc1_ok c_asm_Check (orc1_ok c_asm_starts (orc1_ok c_op_Goes (orc1_ok c_asm_tight orc0_ok)))) 48 x y ((o_asm_Relax x).trans h)
theorem e_op_Put (L : Lf) (R : Oracle C.sigs) (x : denP (sigAt C.sigs 51).ins.tys) : evalFn L C R 51 x = b_op_Put L (R 50) (R 73) (R 74) (R 75) x := by kernel_rfl
theorem o_op_Put (x : denP (sigAt C.sigs 51).ins.tys) : evalFn lf C (orc1 50 f_op_Goes (orc1 73 f_op_right (orc1 74 f_op_head (orc1 75 f_op_wide orc0)))) 51 x = f_op_Put x := (e_op_Put lf _ x).trans (by kernel_rfl)
theorem c_op_Put : CallsAs C 51 f_op_Put :=
  fun x y h => Ev.Call.mk (C := C) _ (orc1_ok c_op_Goes (orc1_ok c_op_right (orc1_ok c_op_head (orc1_ok c_op_wide orc0_ok)))) 51 x y ((o_op_Put x).trans h)
theorem c_strings_Builder_copyCheck : CallsAs C 76 f_strings_Builder_copyCheck := c_ck
theorem e_strings_Builder_WriteString (L : Lf) (R : Oracle C.sigs) (x : denP (sigAt C.sigs 52).ins.tys) : evalFn L C R 52 x = b_strings_Builder_WriteString L (R 76) x := by kernel_rfl
theorem o_strings_Builder_WriteString (x : denP (sigAt C.sigs 52).ins.tys) : evalFn lf C (orc1 76 f_strings_Builder_copyCheck orc0) 52 x = f_strings_Builder_WriteString x := (e_strings_Builder_WriteString lf _ x).trans (by kernel_rfl)
theorem c_strings_Builder_WriteString : CallsAs C 52 f_strings_Builder_WriteString :=
  fun x y h => Ev.Call.mk (C := C) _ (orc1_ok c_strings_Builder_copyCheck orc0_ok) 52 x y ((o_strings_Builder_WriteString x).trans h)
theorem c_strings_Builder_String : CallsAs C 53 f_strings_Builder_String := c_str'
theorem e_asm_Assemble (L : Lf) (R : Oracle C.sigs) (x : denP (sigAt C.sigs 17).ins.tys) : evalFn L C R 17 x = b_asm_Assemble L (R 48) (R 49) (R 50) (R 51) (R 52) (R 53) x := by kernel_rfl
theorem o_asm_Assemble (x : denP (sigAt C.sigs 17).ins.tys) : evalFn lf C (orc1 48 f_asm_Relax (orc1 49 f_asm_starts (orc1 50 f_op_Goes (orc1 51 f_op_Put (orc1 52 f_strings_Builder_WriteString (orc1 53 f_strings_Builder_String orc0)))))) 17 x = f_asm_Assemble x := (e_asm_Assemble lf _ x).trans (by kernel_rfl)
theorem c_asm_Assemble : CallsAs C 17 f_asm_Assemble :=
  fun x y h => Ev.Call.mk (C := C) _ (orc1_ok c_asm_Relax (orc1_ok c_asm_starts (orc1_ok c_op_Goes (orc1_ok c_op_Put (orc1_ok c_strings_Builder_WriteString (orc1_ok c_strings_Builder_String orc0_ok)))))) 17 x y ((o_asm_Assemble x).trans h)
theorem e_image_low (L : Lf) (R : Oracle C.sigs) (x : denP (sigAt C.sigs 18).ins.tys) : evalFn L C R 18 x = b_image_low L  x := by kernel_rfl
theorem o_image_low (x : denP (sigAt C.sigs 18).ins.tys) : evalFn lf C orc0 18 x = f_image_low x := (e_image_low lf _ x).trans (by kernel_rfl)
theorem c_image_low : CallsAs C 18 f_image_low :=
  fun x y h => Ev.Call.mk (C := C) _ orc0_ok 18 x y ((o_image_low x).trans h)
theorem e_image_Encode (L : Lf) (R : Oracle C.sigs) (x : denP (sigAt C.sigs 4).ins.tys) : evalFn L C R 4 x = b_image_Encode L (R 7) (R 15) (R 17) (R 18) x := by kernel_rfl
theorem o_image_Encode (x : denP (sigAt C.sigs 4).ins.tys) : evalFn lf C (orc1 7 f_image_Check (orc1 15 f_image_Sum (orc1 17 f_asm_Assemble (orc1 18 f_image_low orc0)))) 4 x = f_image_Encode x := (e_image_Encode lf _ x).trans (by kernel_rfl)
theorem c_image_Encode : CallsAs C 4 f_image_Encode :=
  fun x y h => Ev.Call.mk (C := C) _ (orc1_ok c_image_Check (orc1_ok c_image_Sum (orc1_ok c_asm_Assemble (orc1_ok c_image_low orc0_ok)))) 4 x y ((o_image_Encode x).trans h)
theorem e_slices_EqualC (L : Lf) (R : Oracle C.sigs) (x : denP (sigAt C.sigs 25).ins.tys) : evalFn L C R 25 x = b_slices_EqualC L  x := by kernel_rfl
theorem o_slices_EqualC (x : denP (sigAt C.sigs 25).ins.tys) : evalFn lf C orc0 25 x = f_slices_EqualC x := (e_slices_EqualC lf _ x).trans (by kernel_rfl)
theorem c_slices_EqualC : CallsAs C 25 f_slices_EqualC :=
  fun x y h => Ev.Call.mk (C := C) _ orc0_ok 25 x y ((o_slices_EqualC x).trans h)
theorem e_slices_Equal (L : Lf) (R : Oracle C.sigs) (x : denP (sigAt C.sigs 26).ins.tys) : evalFn L C R 26 x = b_slices_Equal L  x := by kernel_rfl
theorem o_slices_Equal (x : denP (sigAt C.sigs 26).ins.tys) : evalFn lf C orc0 26 x = f_slices_Equal x := (e_slices_Equal lf _ x).trans (by kernel_rfl)
theorem c_slices_Equal : CallsAs C 26 f_slices_Equal :=
  fun x y h => Ev.Call.mk (C := C) _ orc0_ok 26 x y ((o_slices_Equal x).trans h)
theorem e_image_Same (L : Lf) (R : Oracle C.sigs) (x : denP (sigAt C.sigs 8).ins.tys) : evalFn L C R 8 x = b_image_Same L (R 25) (R 26) x := by kernel_rfl
theorem o_image_Same (x : denP (sigAt C.sigs 8).ins.tys) : evalFn lf C (orc1 25 f_slices_EqualC (orc1 26 f_slices_Equal orc0)) 8 x = f_image_Same x := (e_image_Same lf _ x).trans (by kernel_rfl)
theorem c_image_Same : CallsAs C 8 f_image_Same :=
  fun x y h => Ev.Call.mk (C := C) _ (orc1_ok c_slices_EqualC (orc1_ok c_slices_Equal orc0_ok)) 8 x y ((o_image_Same x).trans h)
theorem e_image_Decode_1 (L : Lf) (R : Oracle C.sigs) (x : denP (sigAt C.sigs 31).ins.tys) : evalFn L C R 31 x = b_image_Decode_1 L  x := by kernel_rfl
theorem o_image_Decode_1 (x : denP (sigAt C.sigs 31).ins.tys) : evalFn lf C orc0 31 x = f_image_Decode_1 x := (e_image_Decode_1 lf _ x).trans (by kernel_rfl)
theorem c_image_Decode_1 : CallsAs C 31 f_image_Decode_1 :=
  fun x y h => Ev.Call.mk (C := C) _ orc0_ok 31 x y ((o_image_Decode_1 x).trans h)
theorem e_internal_stringslite_HasPrefix (L : Lf) (R : Oracle C.sigs) (x : denP (sigAt C.sigs 88).ins.tys) : evalFn L C R 88 x = b_internal_stringslite_HasPrefix L  x := by kernel_rfl
theorem o_internal_stringslite_HasPrefix (x : denP (sigAt C.sigs 88).ins.tys) : evalFn lf C orc0 88 x = f_internal_stringslite_HasPrefix x := (e_internal_stringslite_HasPrefix lf _ x).trans (by kernel_rfl)
theorem c_internal_stringslite_HasPrefix : CallsAs C 88 f_internal_stringslite_HasPrefix :=
  fun x y h => Ev.Call.mk (C := C) _ orc0_ok 88 x y ((o_internal_stringslite_HasPrefix x).trans h)
theorem e_internal_stringslite_CutPrefix (L : Lf) (R : Oracle C.sigs) (x : denP (sigAt C.sigs 66).ins.tys) : evalFn L C R 66 x = b_internal_stringslite_CutPrefix L (R 88) x := by kernel_rfl
theorem o_internal_stringslite_CutPrefix (x : denP (sigAt C.sigs 66).ins.tys) : evalFn lf C (orc1 88 f_internal_stringslite_HasPrefix orc0) 66 x = f_internal_stringslite_CutPrefix x := (e_internal_stringslite_CutPrefix lf _ x).trans (by kernel_rfl)
theorem c_internal_stringslite_CutPrefix : CallsAs C 66 f_internal_stringslite_CutPrefix :=
  fun x y h => Ev.Call.mk (C := C) _ (orc1_ok c_internal_stringslite_HasPrefix orc0_ok) 66 x y ((o_internal_stringslite_CutPrefix x).trans h)
theorem e_strings_CutPrefix (L : Lf) (R : Oracle C.sigs) (x : denP (sigAt C.sigs 32).ins.tys) : evalFn L C R 32 x = b_strings_CutPrefix L (R 66) x := by kernel_rfl
theorem o_strings_CutPrefix (x : denP (sigAt C.sigs 32).ins.tys) : evalFn lf C (orc1 66 f_internal_stringslite_CutPrefix orc0) 32 x = f_strings_CutPrefix x := (e_strings_CutPrefix lf _ x).trans (by kernel_rfl)
theorem c_strings_CutPrefix : CallsAs C 32 f_strings_CutPrefix :=
  fun x y h => Ev.Call.mk (C := C) _ (orc1_ok c_internal_stringslite_CutPrefix orc0_ok) 32 x y ((o_strings_CutPrefix x).trans h)
theorem e_image_reader_take (L : Lf) (R : Oracle C.sigs) (x : denP (sigAt C.sigs 36).ins.tys) : evalFn L C R 36 x = b_image_reader_take L  x := by kernel_rfl
theorem o_image_reader_take (x : denP (sigAt C.sigs 36).ins.tys) : evalFn lf C orc0 36 x = f_image_reader_take x := (e_image_reader_take lf _ x).trans (by kernel_rfl)
theorem c_image_reader_take : CallsAs C 36 f_image_reader_take :=
  fun x y h => Ev.Call.mk (C := C) _ orc0_ok 36 x y ((o_image_reader_take x).trans h)
theorem e_image_reader_num (L : Lf) (R : Oracle C.sigs) (x : denP (sigAt C.sigs 33).ins.tys) : evalFn L C R 33 x = b_image_reader_num L (R 36) x := by kernel_rfl
theorem o_image_reader_num (x : denP (sigAt C.sigs 33).ins.tys) : evalFn lf C (orc1 36 f_image_reader_take orc0) 33 x = f_image_reader_num x := (e_image_reader_num lf _ x).trans (by kernel_rfl)
theorem c_image_reader_num : CallsAs C 33 f_image_reader_num :=
  fun x y h => Ev.Call.mk (C := C) _ (orc1_ok c_image_reader_take orc0_ok) 33 x y ((o_image_reader_num x).trans h)
theorem e_image_reader_thing (L : Lf) (R : Oracle C.sigs) (x : denP (sigAt C.sigs 34).ins.tys) : evalFn L C R 34 x = b_image_reader_thing L (R 33) (R 36) x := by kernel_rfl
theorem o_image_reader_thing (x : denP (sigAt C.sigs 34).ins.tys) : evalFn lf C (orc1 33 f_image_reader_num (orc1 36 f_image_reader_take orc0)) 34 x = f_image_reader_thing x := (e_image_reader_thing lf _ x).trans (by kernel_rfl)
theorem c_image_reader_thing : CallsAs C 34 f_image_reader_thing :=
  fun x y h => Ev.Call.mk (C := C) _ (orc1_ok c_image_reader_num (orc1_ok c_image_reader_take orc0_ok)) 34 x y ((o_image_reader_thing x).trans h)
theorem e_op_Get_1 (L : Lf) (R : Oracle C.sigs) (x : denP (sigAt C.sigs 89).ins.tys) : evalFn L C R 89 x = b_op_Get_1 L  x := by kernel_rfl
theorem o_op_Get_1 (x : denP (sigAt C.sigs 89).ins.tys) : evalFn lf C orc0 89 x = f_op_Get_1 x := (e_op_Get_1 lf _ x).trans (by kernel_rfl)
theorem c_op_Get_1 : CallsAs C 89 f_op_Get_1 :=
  fun x y h => Ev.Call.mk (C := C) _ orc0_ok 89 x y ((o_op_Get_1 x).trans h)
theorem e_op_Get (L : Lf) (R : Oracle C.sigs) (x : denP (sigAt C.sigs 67).ins.tys) : evalFn L C R 67 x = b_op_Get L (R 50) (R 72) (R 75) (R 81) (R 89) x := by kernel_rfl
theorem o_op_Get (x : denP (sigAt C.sigs 67).ins.tys) : evalFn lf C (orc1 50 f_op_Goes (orc1 72 f_op_known (orc1 75 f_op_wide (orc1 81 f_op_Numbers (orc1 89 f_op_Get_1 orc0))))) 67 x = f_op_Get x := (e_op_Get lf _ x).trans (by kernel_rfl)
theorem c_op_Get : CallsAs C 67 f_op_Get :=
  fun x y h => Ev.Call.mk (C := C) _ (orc1_ok c_op_Goes (orc1_ok c_op_known (orc1_ok c_op_wide (orc1_ok c_op_Numbers (orc1_ok c_op_Get_1 orc0_ok))))) 67 x y ((o_op_Get x).trans h)
theorem e_asm_Disassemble (L : Lf) (R : Oracle C.sigs) (x : denP (sigAt C.sigs 35).ins.tys) : evalFn L C R 35 x = b_asm_Disassemble L (R 17) (R 50) (R 67) x := by kernel_rfl
theorem o_asm_Disassemble (x : denP (sigAt C.sigs 35).ins.tys) : evalFn lf C (orc1 17 f_asm_Assemble (orc1 50 f_op_Goes (orc1 67 f_op_Get orc0))) 35 x = f_asm_Disassemble x := (e_asm_Disassemble lf _ x).trans (by kernel_rfl)
theorem c_asm_Disassemble : CallsAs C 35 f_asm_Disassemble :=
  fun x y h => Ev.Call.mk (C := C) _ (orc1_ok c_asm_Assemble (orc1_ok c_op_Goes (orc1_ok c_op_Get orc0_ok))) 35 x y ((o_asm_Disassemble x).trans h)
theorem e_image_Decode (L : Lf) (R : Oracle C.sigs) (x : denP (sigAt C.sigs 11).ins.tys) : evalFn L C R 11 x = b_image_Decode L (R 4) (R 31) (R 32) (R 33) (R 34) (R 35) (R 36) x := by kernel_rfl
theorem o_image_Decode (x : denP (sigAt C.sigs 11).ins.tys) : evalFn lf C (orc1 4 f_image_Encode (orc1 31 f_image_Decode_1 (orc1 32 f_strings_CutPrefix (orc1 33 f_image_reader_num (orc1 34 f_image_reader_thing (orc1 35 f_asm_Disassemble (orc1 36 f_image_reader_take orc0))))))) 11 x = f_image_Decode x := (e_image_Decode lf _ x).trans (by kernel_rfl)
theorem c_image_Decode : CallsAs C 11 f_image_Decode :=
  fun x y h => Ev.Call.mk (C := C) _ (orc1_ok c_image_Encode (orc1_ok c_image_Decode_1 (orc1_ok c_strings_CutPrefix (orc1_ok c_image_reader_num (orc1_ok c_image_reader_thing (orc1_ok c_asm_Disassemble (orc1_ok c_image_reader_take orc0_ok))))))) 11 x y ((o_image_Decode x).trans h)
theorem e_image_Pool_1 (L : Lf) (R : Oracle C.sigs) (x : denP (sigAt C.sigs 40).ins.tys) : evalFn L C R 40 x = b_image_Pool_1 L (R 23) x := by kernel_rfl
theorem o_image_Pool_1 (x : denP (sigAt C.sigs 40).ins.tys) : evalFn lf C (orc1 23 f_image_right orc0) 40 x = f_image_Pool_1 x := (e_image_Pool_1 lf _ x).trans (by kernel_rfl)
theorem c_image_Pool_1 : CallsAs C 40 f_image_Pool_1 :=
  fun x y h => Ev.Call.mk (C := C) _ (orc1_ok c_image_right orc0_ok) 40 x y ((o_image_Pool_1 x).trans h)
theorem e_slices_IndexFuncC (L : Lf) (R : Oracle C.sigs) (x : denP (sigAt C.sigs 45).ins.tys) : evalFn L C R 45 x = b_slices_IndexFuncC L (R 40) x := by kernel_rfl
theorem o_slices_IndexFuncC (x : denP (sigAt C.sigs 45).ins.tys) : evalFn lf C (orc1 40 f_image_Pool_1 orc0) 45 x = f_slices_IndexFuncC x := (e_slices_IndexFuncC lf _ x).trans (by kernel_rfl)
theorem c_slices_IndexFuncC : CallsAs C 45 f_slices_IndexFuncC :=
  fun x y h => Ev.Call.mk (C := C) _ (orc1_ok c_image_Pool_1 orc0_ok) 45 x y ((o_slices_IndexFuncC x).trans h)
theorem e_slices_ContainsFuncC (L : Lf) (R : Oracle C.sigs) (x : denP (sigAt C.sigs 39).ins.tys) : evalFn L C R 39 x = b_slices_ContainsFuncC L (R 45) x := by kernel_rfl
theorem o_slices_ContainsFuncC (x : denP (sigAt C.sigs 39).ins.tys) : evalFn lf C (orc1 45 f_slices_IndexFuncC orc0) 39 x = f_slices_ContainsFuncC x := (e_slices_ContainsFuncC lf _ x).trans (by kernel_rfl)
theorem c_slices_ContainsFuncC : CallsAs C 39 f_slices_ContainsFuncC :=
  fun x y h => Ev.Call.mk (C := C) _ (orc1_ok c_slices_IndexFuncC orc0_ok) 39 x y ((o_slices_ContainsFuncC x).trans h)
theorem e_slices_CloneC (L : Lf) (R : Oracle C.sigs) (x : denP (sigAt C.sigs 41).ins.tys) : evalFn L C R 41 x = b_slices_CloneC L  x := by kernel_rfl
theorem o_slices_CloneC (x : denP (sigAt C.sigs 41).ins.tys) : evalFn lf C orc0 41 x = f_slices_CloneC x := (e_slices_CloneC lf _ x).trans (by kernel_rfl)
theorem c_slices_CloneC : CallsAs C 41 f_slices_CloneC :=
  fun x y h => Ev.Call.mk (C := C) _ orc0_ok 41 x y ((o_slices_CloneC x).trans h)
theorem c_slices_SortFuncC : CallsAs C 42 f_slices_SortFuncC := c_sort
theorem e_slices_CompactC (L : Lf) (R : Oracle C.sigs) (x : denP (sigAt C.sigs 44).ins.tys) : evalFn L C R 44 x = b_slices_CompactC L  x := by kernel_rfl
theorem o_slices_CompactC (x : denP (sigAt C.sigs 44).ins.tys) : evalFn lf C orc0 44 x = f_slices_CompactC x := (e_slices_CompactC lf _ x).trans (by kernel_rfl)
theorem c_slices_CompactC : CallsAs C 44 f_slices_CompactC :=
  fun x y h => Ev.Call.mk (C := C) _ orc0_ok 44 x y ((o_slices_CompactC x).trans h)
theorem e_image_Pool (L : Lf) (R : Oracle C.sigs) (x : denP (sigAt C.sigs 13).ins.tys) : evalFn L C R 13 x = b_image_Pool L (R 39) (R 41) (R 42) (R 44) x := by kernel_rfl
theorem o_image_Pool (x : denP (sigAt C.sigs 13).ins.tys) : evalFn lf C (orc1 39 f_slices_ContainsFuncC (orc1 41 f_slices_CloneC (orc1 42 f_slices_SortFuncC (orc1 44 f_slices_CompactC orc0)))) 13 x = f_image_Pool x := (e_image_Pool lf _ x).trans (by kernel_rfl)
theorem c_image_Pool : CallsAs C 13 f_image_Pool :=
  fun x y h => Ev.Call.mk (C := C) _ (orc1_ok c_slices_ContainsFuncC (orc1_ok c_slices_CloneC (orc1_ok c_slices_SortFuncC (orc1_ok c_slices_CompactC orc0_ok)))) 13 x y ((o_image_Pool x).trans h)
theorem e_image_Index_1 (L : Lf) (R : Oracle C.sigs) (x : denP (sigAt C.sigs 47).ins.tys) : evalFn L C R 47 x = b_image_Index_1 L  x := by kernel_rfl
theorem o_image_Index_1 (x : denP (sigAt C.sigs 47).ins.tys) : evalFn lf C orc0 47 x = f_image_Index_1 x := (e_image_Index_1 lf _ x).trans (by kernel_rfl)
theorem c_image_Index_1 : CallsAs C 47 f_image_Index_1 :=
  fun x y h => Ev.Call.mk (C := C) _ orc0_ok 47 x y ((o_image_Index_1 x).trans h)
theorem e_slices_IndexFuncC_v2 (L : Lf) (R : Oracle C.sigs) (x : denP (sigAt C.sigs 46).ins.tys) : evalFn L C R 46 x = b_slices_IndexFuncC_v2 L (R 47) x := by kernel_rfl
theorem o_slices_IndexFuncC_v2 (x : denP (sigAt C.sigs 46).ins.tys) : evalFn lf C (orc1 47 f_image_Index_1 orc0) 46 x = f_slices_IndexFuncC_v2 x := (e_slices_IndexFuncC_v2 lf _ x).trans (by kernel_rfl)
theorem c_slices_IndexFuncC_v2 : CallsAs C 46 f_slices_IndexFuncC_v2 :=
  fun x y h => Ev.Call.mk (C := C) _ (orc1_ok c_image_Index_1 orc0_ok) 46 x y ((o_slices_IndexFuncC_v2 x).trans h)
theorem e_image_Index (L : Lf) (R : Oracle C.sigs) (x : denP (sigAt C.sigs 14).ins.tys) : evalFn L C R 14 x = b_image_Index L (R 46) x := by kernel_rfl
theorem o_image_Index (x : denP (sigAt C.sigs 14).ins.tys) : evalFn lf C (orc1 46 f_slices_IndexFuncC_v2 orc0) 14 x = f_image_Index x := (e_image_Index lf _ x).trans (by kernel_rfl)
theorem c_image_Index : CallsAs C 14 f_image_Index :=
  fun x y h => Ev.Call.mk (C := C) _ (orc1_ok c_slices_IndexFuncC_v2 orc0_ok) 14 x y ((o_image_Index x).trans h)
theorem e_law18_awake (L : Lf) (R : Oracle C.sigs) (x : denP (sigAt C.sigs 2).ins.tys) : evalFn L C R 2 x = b_law18_awake L (R 4) (R 7) (R 8) (R 11) (R 13) (R 14) (R 15) (R 16) x := by kernel_rfl
theorem o_law18_awake (x : denP (sigAt C.sigs 2).ins.tys) : evalFn lf C (orc1 4 f_image_Encode (orc1 7 f_image_Check (orc1 8 f_image_Same (orc1 11 f_image_Decode (orc1 13 f_image_Pool (orc1 14 f_image_Index (orc1 15 f_image_Sum (orc1 16 f_image_Less orc0)))))))) 2 x = f_law18_awake x := (e_law18_awake lf _ x).trans (by kernel_rfl)
theorem c_law18_awake : CallsAs C 2 f_law18_awake :=
  fun x y h => Ev.Call.mk (C := C) _ (orc1_ok c_image_Encode (orc1_ok c_image_Check (orc1_ok c_image_Same (orc1_ok c_image_Decode (orc1_ok c_image_Pool (orc1_ok c_image_Index (orc1_ok c_image_Sum (orc1_ok c_image_Less orc0_ok)))))))) 2 x y ((o_law18_awake x).trans h)
theorem e_ref18_Few (L : Lf) (R : Oracle C.sigs) (x : denP (sigAt C.sigs 3).ins.tys) : evalFn L C R 3 x = b_ref18_Few L  x := by kernel_rfl
theorem o_ref18_Few (x : denP (sigAt C.sigs 3).ins.tys) : evalFn lf C orc0 3 x = f_ref18_Few x := (e_ref18_Few lf _ x).trans (by kernel_rfl)
theorem c_ref18_Few : CallsAs C 3 f_ref18_Few :=
  fun x y h => Ev.Call.mk (C := C) _ orc0_ok 3 x y ((o_ref18_Few x).trans h)
theorem e_law18_own (L : Lf) (R : Oracle C.sigs) (x : denP (sigAt C.sigs 19).ins.tys) : evalFn L C R 19 x = b_law18_own L  x := by kernel_rfl
theorem o_law18_own (x : denP (sigAt C.sigs 19).ins.tys) : evalFn lf C orc0 19 x = f_law18_own x := (e_law18_own lf _ x).trans (by kernel_rfl)
theorem c_law18_own : CallsAs C 19 f_law18_own :=
  fun x y h => Ev.Call.mk (C := C) _ orc0_ok 19 x y ((o_law18_own x).trans h)
theorem e_law18_copied (L : Lf) (R : Oracle C.sigs) (x : denP (sigAt C.sigs 5).ins.tys) : evalFn L C R 5 x = b_law18_copied L (R 19) x := by kernel_rfl
theorem o_law18_copied (x : denP (sigAt C.sigs 5).ins.tys) : evalFn lf C (orc1 19 f_law18_own orc0) 5 x = f_law18_copied x := (e_law18_copied lf _ x).trans (by kernel_rfl)
theorem c_law18_copied : CallsAs C 5 f_law18_copied :=
  fun x y h => Ev.Call.mk (C := C) _ (orc1_ok c_law18_own orc0_ok) 5 x y ((o_law18_copied x).trans h)
theorem e_ref01_back (L : Lf) (R : Oracle C.sigs) (x : denP (sigAt C.sigs 77).ins.tys) : evalFn L C R 77 x = b_ref01_back L  x := by kernel_rfl
theorem o_ref01_back (x : denP (sigAt C.sigs 77).ins.tys) : evalFn lf C orc0 77 x = f_ref01_back x := (e_ref01_back lf _ x).trans (by kernel_rfl)
theorem c_ref01_back : CallsAs C 77 f_ref01_back :=
  fun x y h => Ev.Call.mk (C := C) _ orc0_ok 77 x y ((o_ref01_back x).trans h)
theorem e_ref01_Wrap (L : Lf) (R : Oracle C.sigs) (x : denP (sigAt C.sigs 54).ins.tys) : evalFn L C R 54 x = b_ref01_Wrap L (R 77) x := by kernel_rfl
theorem o_ref01_Wrap (x : denP (sigAt C.sigs 54).ins.tys) : evalFn lf C (orc1 77 f_ref01_back orc0) 54 x = f_ref01_Wrap x := (e_ref01_Wrap lf _ x).trans (by kernel_rfl)
theorem c_ref01_Wrap : CallsAs C 54 f_ref01_Wrap :=
  fun x y h => Ev.Call.mk (C := C) _ (orc1_ok c_ref01_back orc0_ok) 54 x y ((o_ref01_Wrap x).trans h)
theorem e_ref18_right (L : Lf) (R : Oracle C.sigs) (x : denP (sigAt C.sigs 20).ins.tys) : evalFn L C R 20 x = b_ref18_right L (R 54) x := by kernel_rfl
theorem o_ref18_right (x : denP (sigAt C.sigs 20).ins.tys) : evalFn lf C (orc1 54 f_ref01_Wrap orc0) 20 x = f_ref18_right x := (e_ref18_right lf _ x).trans (by kernel_rfl)
theorem c_ref18_right : CallsAs C 20 f_ref18_right :=
  fun x y h => Ev.Call.mk (C := C) _ (orc1_ok c_ref01_Wrap orc0_ok) 20 x y ((o_ref18_right x).trans h)
theorem e_ref18_Less (L : Lf) (R : Oracle C.sigs) (x : denP (sigAt C.sigs 21).ins.tys) : evalFn L C R 21 x = b_ref18_Less L  x := by kernel_rfl
theorem o_ref18_Less (x : denP (sigAt C.sigs 21).ins.tys) : evalFn lf C orc0 21 x = f_ref18_Less x := (e_ref18_Less lf _ x).trans (by kernel_rfl)
theorem c_ref18_Less : CallsAs C 21 f_ref18_Less :=
  fun x y h => Ev.Call.mk (C := C) _ orc0_ok 21 x y ((o_ref18_Less x).trans h)
theorem e_ref15_Goes (L : Lf) (R : Oracle C.sigs) (x : denP (sigAt C.sigs 56).ins.tys) : evalFn L C R 56 x = b_ref15_Goes L  x := by kernel_rfl
theorem o_ref15_Goes (x : denP (sigAt C.sigs 56).ins.tys) : evalFn lf C orc0 56 x = f_ref15_Goes x := (e_ref15_Goes lf _ x).trans (by kernel_rfl)
theorem c_ref15_Goes : CallsAs C 56 f_ref15_Goes :=
  fun x y h => Ev.Call.mk (C := C) _ orc0_ok 56 x y ((o_ref15_Goes x).trans h)
theorem e_ref15_Numbers (L : Lf) (R : Oracle C.sigs) (x : denP (sigAt C.sigs 78).ins.tys) : evalFn L C R 78 x = b_ref15_Numbers L  x := by kernel_rfl
theorem o_ref15_Numbers (x : denP (sigAt C.sigs 78).ins.tys) : evalFn lf C orc0 78 x = f_ref15_Numbers x := (e_ref15_Numbers lf _ x).trans (by kernel_rfl)
theorem c_ref15_Numbers : CallsAs C 78 f_ref15_Numbers :=
  fun x y h => Ev.Call.mk (C := C) _ orc0_ok 78 x y ((o_ref15_Numbers x).trans h)
theorem e_ref15_Check (L : Lf) (R : Oracle C.sigs) (x : denP (sigAt C.sigs 55).ins.tys) : evalFn L C R 55 x = b_ref15_Check L (R 56) (R 78) x := by kernel_rfl
theorem o_ref15_Check (x : denP (sigAt C.sigs 55).ins.tys) : evalFn lf C (orc1 56 f_ref15_Goes (orc1 78 f_ref15_Numbers orc0)) 55 x = f_ref15_Check x := (e_ref15_Check lf _ x).trans (by kernel_rfl)
theorem c_ref15_Check : CallsAs C 55 f_ref15_Check :=
  fun x y h => Ev.Call.mk (C := C) _ (orc1_ok c_ref15_Goes (orc1_ok c_ref15_Numbers orc0_ok)) 55 x y ((o_ref15_Check x).trans h)
theorem e_ref16_Check (L : Lf) (R : Oracle C.sigs) (x : denP (sigAt C.sigs 22).ins.tys) : evalFn L C R 22 x = b_ref16_Check L (R 55) (R 56) x := by kernel_rfl
theorem o_ref16_Check (x : denP (sigAt C.sigs 22).ins.tys) : evalFn lf C (orc1 55 f_ref15_Check (orc1 56 f_ref15_Goes orc0)) 22 x = f_ref16_Check x := (e_ref16_Check lf _ x).trans (by kernel_rfl)
theorem c_ref16_Check : CallsAs C 22 f_ref16_Check :=
  fun x y h => Ev.Call.mk (C := C) _ (orc1_ok c_ref15_Check (orc1_ok c_ref15_Goes orc0_ok)) 22 x y ((o_ref16_Check x).trans h)
theorem e_ref18_Check (L : Lf) (R : Oracle C.sigs) (x : denP (sigAt C.sigs 6).ins.tys) : evalFn L C R 6 x = b_ref18_Check L (R 20) (R 21) (R 22) x := by kernel_rfl
theorem o_ref18_Check (x : denP (sigAt C.sigs 6).ins.tys) : evalFn lf C (orc1 20 f_ref18_right (orc1 21 f_ref18_Less (orc1 22 f_ref16_Check orc0))) 6 x = f_ref18_Check x := (e_ref18_Check lf _ x).trans (by kernel_rfl)
theorem c_ref18_Check : CallsAs C 6 f_ref18_Check :=
  fun x y h => Ev.Call.mk (C := C) _ (orc1_ok c_ref18_right (orc1_ok c_ref18_Less (orc1_ok c_ref16_Check orc0_ok))) 6 x y ((o_ref18_Check x).trans h)
theorem e_ref16_Same (L : Lf) (R : Oracle C.sigs) (x : denP (sigAt C.sigs 27).ins.tys) : evalFn L C R 27 x = b_ref16_Same L  x := by kernel_rfl
theorem o_ref16_Same (x : denP (sigAt C.sigs 27).ins.tys) : evalFn lf C orc0 27 x = f_ref16_Same x := (e_ref16_Same lf _ x).trans (by kernel_rfl)
theorem c_ref16_Same : CallsAs C 27 f_ref16_Same :=
  fun x y h => Ev.Call.mk (C := C) _ orc0_ok 27 x y ((o_ref16_Same x).trans h)
theorem e_ref18_Same (L : Lf) (R : Oracle C.sigs) (x : denP (sigAt C.sigs 9).ins.tys) : evalFn L C R 9 x = b_ref18_Same L (R 27) x := by kernel_rfl
theorem o_ref18_Same (x : denP (sigAt C.sigs 9).ins.tys) : evalFn lf C (orc1 27 f_ref16_Same orc0) 9 x = f_ref18_Same x := (e_ref18_Same lf _ x).trans (by kernel_rfl)
theorem c_ref18_Same : CallsAs C 9 f_ref18_Same :=
  fun x y h => Ev.Call.mk (C := C) _ (orc1_ok c_ref16_Same orc0_ok) 9 x y ((o_ref18_Same x).trans h)
theorem e_ref18_low (L : Lf) (R : Oracle C.sigs) (x : denP (sigAt C.sigs 28).ins.tys) : evalFn L C R 28 x = b_ref18_low L  x := by kernel_rfl
theorem o_ref18_low (x : denP (sigAt C.sigs 28).ins.tys) : evalFn lf C orc0 28 x = f_ref18_low x := (e_ref18_low lf _ x).trans (by kernel_rfl)
theorem c_ref18_low : CallsAs C 28 f_ref18_low :=
  fun x y h => Ev.Call.mk (C := C) _ orc0_ok 28 x y ((o_ref18_low x).trans h)
theorem e_ref15_number (L : Lf) (R : Oracle C.sigs) (x : denP (sigAt C.sigs 93).ins.tys) : evalFn L C R 93 x = b_ref15_number L (R 93) x := by kernel_rfl
theorem o_ref15_number (g : denP (sigAt C.sigs 93).ins.tys → Option (denP (sigAt C.sigs 93).outs.tys)) (x : denP (sigAt C.sigs 93).ins.tys) : evalFn lf C (orc1 93 g orc0) 93 x = g_ref15_number g x := (e_ref15_number lf _ x).trans (by kernel_rfl)
theorem c_ref15_number : CallsAs C 93 f_ref15_number :=
  callRec fun g hg x y h => Ev.Call.mk (C := C) _ (orc1_ok hg orc0_ok) 93 x y ((o_ref15_number g x).trans h)
theorem e_ref15_Head (L : Lf) (R : Oracle C.sigs) (x : denP (sigAt C.sigs 85).ins.tys) : evalFn L C R 85 x = b_ref15_Head L (R 56) (R 78) (R 93) x := by kernel_rfl
theorem o_ref15_Head (x : denP (sigAt C.sigs 85).ins.tys) : evalFn lf C (orc1 56 f_ref15_Goes (orc1 78 f_ref15_Numbers (orc1 93 f_ref15_number orc0))) 85 x = f_ref15_Head x := (e_ref15_Head lf _ x).trans (by kernel_rfl)
theorem c_ref15_Head : CallsAs C 85 f_ref15_Head :=
  fun x y h => Ev.Call.mk (C := C) _ (orc1_ok c_ref15_Goes (orc1_ok c_ref15_Numbers (orc1_ok c_ref15_number orc0_ok))) 85 x y ((o_ref15_Head x).trans h)
theorem e_ref16_size (L : Lf) (R : Oracle C.sigs) (x : denP (sigAt C.sigs 84).ins.tys) : evalFn L C R 84 x = b_ref16_size L (R 56) (R 85) x := by kernel_rfl
theorem o_ref16_size (x : denP (sigAt C.sigs 84).ins.tys) : evalFn lf C (orc1 56 f_ref15_Goes (orc1 85 f_ref15_Head orc0)) 84 x = f_ref16_size x := (e_ref16_size lf _ x).trans (by kernel_rfl)
theorem c_ref16_size : CallsAs C 84 f_ref16_size :=
  fun x y h => Ev.Call.mk (C := C) _ (orc1_ok c_ref15_Goes (orc1_ok c_ref15_Head orc0_ok)) 84 x y ((o_ref16_size x).trans h)
theorem e_ref16_Starts (L : Lf) (R : Oracle C.sigs) (x : denP (sigAt C.sigs 64).ins.tys) : evalFn L C R 64 x = b_ref16_Starts L (R 84) x := by kernel_rfl
theorem o_ref16_Starts (x : denP (sigAt C.sigs 64).ins.tys) : evalFn lf C (orc1 84 f_ref16_size orc0) 64 x = f_ref16_Starts x := (e_ref16_Starts lf _ x).trans (by kernel_rfl)
theorem c_ref16_Starts : CallsAs C 64 f_ref16_Starts :=
  fun x y h => Ev.Call.mk (C := C) _ (orc1_ok c_ref16_size orc0_ok) 64 x y ((o_ref16_Starts x).trans h)
theorem e_ref15_Fits (L : Lf) (R : Oracle C.sigs) (x : denP (sigAt C.sigs 86).ins.tys) : evalFn L C R 86 x = b_ref15_Fits L  x := by kernel_rfl
theorem o_ref15_Fits (x : denP (sigAt C.sigs 86).ins.tys) : evalFn lf C orc0 86 x = f_ref15_Fits x := (e_ref15_Fits lf _ x).trans (by kernel_rfl)
theorem c_ref15_Fits : CallsAs C 86 f_ref15_Fits :=
  fun x y h => Ev.Call.mk (C := C) _ orc0_ok 86 x y ((o_ref15_Fits x).trans h)
theorem e_ref16_Tight (L : Lf) (R : Oracle C.sigs) (x : denP (sigAt C.sigs 83).ins.tys) : evalFn L C R 83 x = b_ref16_Tight L (R 56) (R 64) (R 86) x := by kernel_rfl
theorem o_ref16_Tight (x : denP (sigAt C.sigs 83).ins.tys) : evalFn lf C (orc1 56 f_ref15_Goes (orc1 64 f_ref16_Starts (orc1 86 f_ref15_Fits orc0))) 83 x = f_ref16_Tight x := (e_ref16_Tight lf _ x).trans (by kernel_rfl)
theorem c_ref16_Tight : CallsAs C 83 f_ref16_Tight :=
  fun x y h => Ev.Call.mk (C := C) _ (orc1_ok c_ref15_Goes (orc1_ok c_ref16_Starts (orc1_ok c_ref15_Fits orc0_ok))) 83 x y ((o_ref16_Tight x).trans h)
theorem e_ref16_Relax (L : Lf) (R : Oracle C.sigs) (x : denP (sigAt C.sigs 63).ins.tys) : evalFn L C R 63 x = b_ref16_Relax L (R 83) x := by kernel_rfl
theorem o_ref16_Relax (x : denP (sigAt C.sigs 63).ins.tys) : evalFn lf C (orc1 83 f_ref16_Tight orc0) 63 x = f_ref16_Relax x := (e_ref16_Relax lf _ x).trans (by kernel_rfl)
theorem c_ref16_Relax : CallsAs C 63 f_ref16_Relax :=
  fun x y h => Ev.Call.mk (C := C) _ (orc1_ok c_ref16_Tight orc0_ok) 63 x y ((o_ref16_Relax x).trans h)
theorem e_ref15_low (L : Lf) (R : Oracle C.sigs) (x : denP (sigAt C.sigs 87).ins.tys) : evalFn L C R 87 x = b_ref15_low L  x := by kernel_rfl
theorem o_ref15_low (x : denP (sigAt C.sigs 87).ins.tys) : evalFn lf C orc0 87 x = f_ref15_low x := (e_ref15_low lf _ x).trans (by kernel_rfl)
theorem c_ref15_low : CallsAs C 87 f_ref15_low :=
  fun x y h => Ev.Call.mk (C := C) _ orc0_ok 87 x y ((o_ref15_low x).trans h)
theorem e_ref15_Put (L : Lf) (R : Oracle C.sigs) (x : denP (sigAt C.sigs 65).ins.tys) : evalFn L C R 65 x = b_ref15_Put L (R 55) (R 56) (R 85) (R 86) (R 87) x := by kernel_rfl
theorem o_ref15_Put (x : denP (sigAt C.sigs 65).ins.tys) : evalFn lf C (orc1 55 f_ref15_Check (orc1 56 f_ref15_Goes (orc1 85 f_ref15_Head (orc1 86 f_ref15_Fits (orc1 87 f_ref15_low orc0))))) 65 x = f_ref15_Put x := (e_ref15_Put lf _ x).trans (by kernel_rfl)
theorem c_ref15_Put : CallsAs C 65 f_ref15_Put :=
  fun x y h => Ev.Call.mk (C := C) _ (orc1_ok c_ref15_Check (orc1_ok c_ref15_Goes (orc1_ok c_ref15_Head (orc1_ok c_ref15_Fits (orc1_ok c_ref15_low orc0_ok))))) 65 x y ((o_ref15_Put x).trans h)
theorem e_ref16_Assemble (L : Lf) (R : Oracle C.sigs) (x : denP (sigAt C.sigs 29).ins.tys) : evalFn L C R 29 x = b_ref16_Assemble L (R 56) (R 63) (R 64) (R 65) x := by kernel_rfl
theorem o_ref16_Assemble (x : denP (sigAt C.sigs 29).ins.tys) : evalFn lf C (orc1 56 f_ref15_Goes (orc1 63 f_ref16_Relax (orc1 64 f_ref16_Starts (orc1 65 f_ref15_Put orc0)))) 29 x = f_ref16_Assemble x := (e_ref16_Assemble lf _ x).trans (by kernel_rfl)
theorem c_ref16_Assemble : CallsAs C 29 f_ref16_Assemble :=
  fun x y h => Ev.Call.mk (C := C) _ (orc1_ok c_ref15_Goes (orc1_ok c_ref16_Relax (orc1_ok c_ref16_Starts (orc1_ok c_ref15_Put orc0_ok)))) 29 x y ((o_ref16_Assemble x).trans h)
theorem e_ref18_Sum (L : Lf) (R : Oracle C.sigs) (x : denP (sigAt C.sigs 30).ins.tys) : evalFn L C R 30 x = b_ref18_Sum L  x := by kernel_rfl
theorem o_ref18_Sum (x : denP (sigAt C.sigs 30).ins.tys) : evalFn lf C orc0 30 x = f_ref18_Sum x := (e_ref18_Sum lf _ x).trans (by kernel_rfl)
theorem c_ref18_Sum : CallsAs C 30 f_ref18_Sum :=
  fun x y h => Ev.Call.mk (C := C) _ orc0_ok 30 x y ((o_ref18_Sum x).trans h)
theorem e_ref18_Encode (L : Lf) (R : Oracle C.sigs) (x : denP (sigAt C.sigs 10).ins.tys) : evalFn L C R 10 x = b_ref18_Encode L (R 28) (R 29) (R 30) x := by kernel_rfl
theorem o_ref18_Encode (x : denP (sigAt C.sigs 10).ins.tys) : evalFn lf C (orc1 28 f_ref18_low (orc1 29 f_ref16_Assemble (orc1 30 f_ref18_Sum orc0))) 10 x = f_ref18_Encode x := (e_ref18_Encode lf _ x).trans (by kernel_rfl)
theorem c_ref18_Encode : CallsAs C 10 f_ref18_Encode :=
  fun x y h => Ev.Call.mk (C := C) _ (orc1_ok c_ref18_low (orc1_ok c_ref16_Assemble (orc1_ok c_ref18_Sum orc0_ok))) 10 x y ((o_ref18_Encode x).trans h)
theorem e_law18_ImagePuts (L : Lf) (R : Oracle C.sigs) (x : denP (sigAt C.sigs 0).ins.tys) : evalFn L C R 0 x = b_law18_ImagePuts L (R 2) (R 3) (R 4) (R 5) (R 6) (R 7) (R 8) (R 9) (R 10) x := by kernel_rfl
theorem o_law18_ImagePuts (x : denP (sigAt C.sigs 0).ins.tys) : evalFn lf C (orc1 2 f_law18_awake (orc1 3 f_ref18_Few (orc1 4 f_image_Encode (orc1 5 f_law18_copied (orc1 6 f_ref18_Check (orc1 7 f_image_Check (orc1 8 f_image_Same (orc1 9 f_ref18_Same (orc1 10 f_ref18_Encode orc0))))))))) 0 x = f_law18_ImagePuts x := (e_law18_ImagePuts lf _ x).trans (by kernel_rfl)
theorem c_law18_ImagePuts : CallsAs C 0 f_law18_ImagePuts :=
  fun x y h => Ev.Call.mk (C := C) _ (orc1_ok c_law18_awake (orc1_ok c_ref18_Few (orc1_ok c_image_Encode (orc1_ok c_law18_copied (orc1_ok c_ref18_Check (orc1_ok c_image_Check (orc1_ok c_image_Same (orc1_ok c_ref18_Same (orc1_ok c_ref18_Encode orc0_ok))))))))) 0 x y ((o_law18_ImagePuts x).trans h)
theorem e_ref18_num (L : Lf) (R : Oracle C.sigs) (x : denP (sigAt C.sigs 37).ins.tys) : evalFn L C R 37 x = b_ref18_num L  x := by kernel_rfl
theorem o_ref18_num (x : denP (sigAt C.sigs 37).ins.tys) : evalFn lf C orc0 37 x = f_ref18_num x := (e_ref18_num lf _ x).trans (by kernel_rfl)
theorem c_ref18_num : CallsAs C 37 f_ref18_num :=
  fun x y h => Ev.Call.mk (C := C) _ orc0_ok 37 x y ((o_ref18_num x).trans h)
theorem e_ref15_num (L : Lf) (R : Oracle C.sigs) (x : denP (sigAt C.sigs 90).ins.tys) : evalFn L C R 90 x = b_ref15_num L  x := by kernel_rfl
theorem o_ref15_num (x : denP (sigAt C.sigs 90).ins.tys) : evalFn lf C orc0 90 x = f_ref15_num x := (e_ref15_num lf _ x).trans (by kernel_rfl)
theorem c_ref15_num : CallsAs C 90 f_ref15_num :=
  fun x y h => Ev.Call.mk (C := C) _ orc0_ok 90 x y ((o_ref15_num x).trans h)
theorem e_ref15_Get (L : Lf) (R : Oracle C.sigs) (x : denP (sigAt C.sigs 68).ins.tys) : evalFn L C R 68 x = b_ref15_Get L (R 56) (R 78) (R 90) x := by kernel_rfl
theorem o_ref15_Get (x : denP (sigAt C.sigs 68).ins.tys) : evalFn lf C (orc1 56 f_ref15_Goes (orc1 78 f_ref15_Numbers (orc1 90 f_ref15_num orc0))) 68 x = f_ref15_Get x := (e_ref15_Get lf _ x).trans (by kernel_rfl)
theorem c_ref15_Get : CallsAs C 68 f_ref15_Get :=
  fun x y h => Ev.Call.mk (C := C) _ (orc1_ok c_ref15_Goes (orc1_ok c_ref15_Numbers (orc1_ok c_ref15_num orc0_ok))) 68 x y ((o_ref15_Get x).trans h)
theorem e_ref16_place (L : Lf) (R : Oracle C.sigs) (x : denP (sigAt C.sigs 69).ins.tys) : evalFn L C R 69 x = b_ref16_place L  x := by kernel_rfl
theorem o_ref16_place (x : denP (sigAt C.sigs 69).ins.tys) : evalFn lf C orc0 69 x = f_ref16_place x := (e_ref16_place lf _ x).trans (by kernel_rfl)
theorem c_ref16_place : CallsAs C 69 f_ref16_place :=
  fun x y h => Ev.Call.mk (C := C) _ orc0_ok 69 x y ((o_ref16_place x).trans h)
theorem e_ref16_Disassemble (L : Lf) (R : Oracle C.sigs) (x : denP (sigAt C.sigs 38).ins.tys) : evalFn L C R 38 x = b_ref16_Disassemble L (R 22) (R 29) (R 56) (R 68) (R 69) x := by kernel_rfl
theorem o_ref16_Disassemble (x : denP (sigAt C.sigs 38).ins.tys) : evalFn lf C (orc1 22 f_ref16_Check (orc1 29 f_ref16_Assemble (orc1 56 f_ref15_Goes (orc1 68 f_ref15_Get (orc1 69 f_ref16_place orc0))))) 38 x = f_ref16_Disassemble x := (e_ref16_Disassemble lf _ x).trans (by kernel_rfl)
theorem c_ref16_Disassemble : CallsAs C 38 f_ref16_Disassemble :=
  fun x y h => Ev.Call.mk (C := C) _ (orc1_ok c_ref16_Check (orc1_ok c_ref16_Assemble (orc1_ok c_ref15_Goes (orc1_ok c_ref15_Get (orc1_ok c_ref16_place orc0_ok))))) 38 x y ((o_ref16_Disassemble x).trans h)
theorem e_ref18_Decode (L : Lf) (R : Oracle C.sigs) (x : denP (sigAt C.sigs 12).ins.tys) : evalFn L C R 12 x = b_ref18_Decode L (R 6) (R 10) (R 37) (R 38) x := by kernel_rfl
theorem o_ref18_Decode (x : denP (sigAt C.sigs 12).ins.tys) : evalFn lf C (orc1 6 f_ref18_Check (orc1 10 f_ref18_Encode (orc1 37 f_ref18_num (orc1 38 f_ref16_Disassemble orc0)))) 12 x = f_ref18_Decode x := (e_ref18_Decode lf _ x).trans (by kernel_rfl)
theorem c_ref18_Decode : CallsAs C 12 f_ref18_Decode :=
  fun x y h => Ev.Call.mk (C := C) _ (orc1_ok c_ref18_Check (orc1_ok c_ref18_Encode (orc1_ok c_ref18_num (orc1_ok c_ref16_Disassemble orc0_ok)))) 12 x y ((o_ref18_Decode x).trans h)
theorem e_law18_ImageGets (L : Lf) (R : Oracle C.sigs) (x : denP (sigAt C.sigs 1).ins.tys) : evalFn L C R 1 x = b_law18_ImageGets L (R 2) (R 9) (R 11) (R 12) x := by kernel_rfl
theorem o_law18_ImageGets (x : denP (sigAt C.sigs 1).ins.tys) : evalFn lf C (orc1 2 f_law18_awake (orc1 9 f_ref18_Same (orc1 11 f_image_Decode (orc1 12 f_ref18_Decode orc0)))) 1 x = f_law18_ImageGets x := (e_law18_ImageGets lf _ x).trans (by kernel_rfl)
theorem c_law18_ImageGets : CallsAs C 1 f_law18_ImageGets :=
  fun x y h => Ev.Call.mk (C := C) _ (orc1_ok c_law18_awake (orc1_ok c_ref18_Same (orc1_ok c_image_Decode (orc1_ok c_ref18_Decode orc0_ok)))) 1 x y ((o_law18_ImageGets x).trans h)

theorem tabOk : tabChk C C.tab = true := by kernel_rfl
theorem eqsOk : eqChk C C.eqs = true := by kernel_rfl
theorem namesGood : namesOk C C.sigs = true := by kernel_rfl
theorem mixed : C.P.follows .mixedOrders = true := by kernel_rfl
theorem calls {i : Nat} {x : denP (sigAt C.sigs i).ins.tys} {y : denP (sigAt C.sigs i).outs.tys} (h : Ev.Call C i x y) : FnOk C i x y := calls_ok tabOk eqsOk namesGood mixed h
theorem globOk : GlobOk C Rows.imagePutsRow.laid := by
  refine ⟨by kernel_rfl, fun g t x h => ?_⟩
  match g with
  | 0 =>
    cases h
    exact ⟨_, _, 142, List.Mem.head _, by kernel_rfl, by kernel_rfl, by kernel_rfl, rfl, by kernel_rfl⟩
  | n + 1 => cases h
theorem seatOk : SeatOk C Rows.imagePutsRow.laid := seatOk_of tabOk (by kernel_rfl) (by kernel_rfl) (by kernel_rfl) globOk
end Go.Proofs.YtdekfefcpdejkaaGreatDoor.Seat
