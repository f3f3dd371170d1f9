/- The functions of this seat as data: each is what the model's code gives, by the kernel's reckoning over the verified evaluator. No statement of its own about the program. -/
import Derived.Test.YtndklpaccohbcaaDoorFn
import Derived.Test.YtndklpaccohbcaaDoorEvJ
import Derived.Test.YtndklpaccohbcaaDoorProg
import Derived.Test.YtndklpaccohbcaaDoorSlp
import Derived.Sort.EveryDepth
import Derived.Test.YtndklpaccohbcaaDoorRows
import Derived.KernelRfl
namespace Go.Proofs.YtndklpaccohbcaaDoor.Seat
open Go Go.Proofs Go.Shelf Go.RowKit Go.Sort Ev Ev.Fn
def sigs : List Sig := [
  ⟨3, ⟨[.d (.sl (.st (.pair (.int .i64) (.pair .str (.pair (.int .i64) (.int .i64)))))), .d .str], []⟩, ⟨[.d .bool], []⟩, []⟩,
  ⟨4, ⟨[.d (.sl (.st (.pair (.int .i64) (.pair .str (.pair (.int .i64) (.int .i64))))))], []⟩, ⟨[.d .bool], []⟩, []⟩,
  ⟨5, ⟨[.d (.sl (.st (.pair (.int .i64) (.pair .str (.pair (.int .i64) (.int .i64)))))), .d (.int .i64)], []⟩, ⟨[.d .bool], []⟩, []⟩,
  ⟨6, ⟨[.d (.sl (.st (.pair (.int .i64) (.pair .str (.pair (.int .i64) (.int .i64)))))), .d .str], []⟩, ⟨[.d .bool], []⟩, []⟩,
  ⟨7, ⟨[.d (.sl (.st (.pair (.int .i64) (.pair .str (.pair (.int .i64) (.int .i64))))))], []⟩, ⟨[.d .bool], []⟩, []⟩,
  ⟨8, ⟨[.d (.sl (.st (.pair (.int .i64) (.pair .str (.pair (.int .i64) (.int .i64)))))), .d (.int .i64), .d (.sl (.st (.pair (.int .i64) (.pair .str (.pair (.int .i64) (.int .i64))))))], []⟩, ⟨[.d .bool], []⟩, []⟩,
  ⟨9, ⟨[], []⟩, ⟨[.d .bool], []⟩, []⟩,
  ⟨10, ⟨[.d (.sl (.st (.pair (.int .i64) (.pair .str (.pair (.int .i64) (.int .i64))))))], []⟩, ⟨[.d .bool], []⟩, []⟩,
  ⟨11, ⟨[.d (.sl (.st (.pair (.int .i64) (.pair .str (.pair (.int .i64) (.int .i64))))))], []⟩, ⟨[.d (.int .i64)], []⟩, []⟩,
  ⟨12, ⟨[.d (.sl (.st (.pair (.int .i64) (.pair .str (.pair (.int .i64) (.int .i64))))))], []⟩, ⟨[.d (.sl (.st (.pair (.int .i64) (.pair .str (.pair (.int .i64) (.int .i64))))))], []⟩, []⟩,
  ⟨13, ⟨[.d (.sl (.st (.pair (.int .i64) (.pair .str (.pair (.int .i64) (.int .i64)))))), .d .bool], []⟩, ⟨[.d (.int .i64)], []⟩, []⟩,
  ⟨14, ⟨[.d (.sl (.st (.pair (.int .i64) (.pair .str (.pair (.int .i64) (.int .i64))))))], []⟩, ⟨[.d (.int .i64)], []⟩, []⟩,
  ⟨15, ⟨[.d .str], []⟩, ⟨[.d .bool], []⟩, []⟩,
  ⟨16, ⟨[.d .str], []⟩, ⟨[.d .bool], []⟩, []⟩,
  ⟨17, ⟨[.d .str], []⟩, ⟨[.d .bool], []⟩, []⟩,
  ⟨18, ⟨[.d .str], []⟩, ⟨[.d .bool], []⟩, []⟩,
  ⟨19, ⟨[.d (.sl (.st (.pair (.int .i64) (.pair .str (.pair (.int .i64) (.int .i64))))))], []⟩, ⟨[.osl 0], [.vec .str]⟩, []⟩,
  ⟨20, ⟨[.d (.sl (.st (.pair (.int .i64) (.pair .str (.pair (.int .i64) (.int .i64))))))], []⟩, ⟨[.osl 0], [.vec .str]⟩, []⟩,
  ⟨21, ⟨[.d (.sl (.st (.pair (.int .i64) (.pair .str (.pair (.int .i64) (.int .i64))))))], []⟩, ⟨[.osl 0], [.vec .str]⟩, []⟩,
  ⟨22, ⟨[.d (.sl (.st (.pair (.int .i64) (.pair .str (.pair (.int .i64) (.int .i64)))))), .d (.int .i64)], []⟩, ⟨[.osl 0], [.vec .str]⟩, []⟩,
  ⟨23, ⟨[.d (.sl .str), .d (.sl .str)], []⟩, ⟨[.d .bool], []⟩, []⟩,
  ⟨24, ⟨[.d (.sl (.st (.pair (.int .i64) (.pair .str (.pair (.int .i64) (.int .i64)))))), .d (.int .i64)], []⟩, ⟨[.d (.sl (.st (.pair (.int .i64) (.pair .str (.pair (.int .i64) (.int .i64)))))), .d (.int .i64)], []⟩, []⟩,
  ⟨25, ⟨[.d (.sl (.st (.pair (.int .i64) (.pair .str (.pair (.int .i64) (.int .i64))))))], []⟩, ⟨[.d (.int .i64)], []⟩, []⟩,
  ⟨26, ⟨[.d (.st (.pair (.int .i64) (.pair .str (.pair (.int .i64) (.int .i64))))), .d (.sl (.sl (.st (.pair (.int .i64) (.pair .str (.pair (.int .i64) (.int .i64)))))))], []⟩, ⟨[.osl 0], [.vec (.st (.pair (.int .i64) (.pair .str (.pair (.int .i64) (.int .i64)))))]⟩, []⟩,
  ⟨27, ⟨[.d (.sl .str), .d .str], []⟩, ⟨[.d .bool], []⟩, []⟩,
  ⟨28, ⟨[.d (.sl (.st (.pair (.int .i64) (.pair .str (.pair (.int .i64) (.int .i64))))))], []⟩, ⟨[.d .bool], []⟩, []⟩,
  ⟨29, ⟨[.d (.int .i64)], []⟩, ⟨[.d .bool], []⟩, []⟩,
  ⟨30, ⟨[.d (.sl (.st (.pair (.int .i64) (.pair .str (.pair (.int .i64) (.int .i64)))))), .d (.int .i64)], []⟩, ⟨[.d (.int .i64)], []⟩, []⟩,
  ⟨31, ⟨[.d (.sl (.st (.pair (.int .i64) (.pair .str (.pair (.int .i64) (.int .i64)))))), .d (.int .i64), .d (.sl (.st (.pair (.int .i64) (.pair .str (.pair (.int .i64) (.int .i64))))))], []⟩, ⟨[.d (.sl (.st (.pair (.int .i64) (.pair .str (.pair (.int .i64) (.int .i64)))))), .d (.int .i64)], []⟩, []⟩,
  ⟨32, ⟨[.d (.sl (.st (.pair (.int .i64) (.pair .str (.pair (.int .i64) (.int .i64)))))), .d .bool], []⟩, ⟨[.d (.int .i64)], []⟩, []⟩,
  ⟨33, ⟨[.d (.sl (.st (.pair (.int .i64) (.pair .str (.pair (.int .i64) (.int .i64)))))), .d (.int .i64)], []⟩, ⟨[.d (.int .i64)], []⟩, []⟩,
  ⟨34, ⟨[.d (.sl (.st (.pair (.int .i64) (.pair .str (.pair (.int .i64) (.int .i64)))))), .d (.int .i64), .d .bool], []⟩, ⟨[.d (.int .i64)], []⟩, []⟩,
  ⟨35, ⟨[.d (.sl (.st (.pair (.int .i64) (.pair .str (.pair (.int .i64) (.int .i64)))))), .d (.int .i64)], []⟩, ⟨[.d .bool], []⟩, []⟩,
  ⟨36, ⟨[.d (.st (.pair (.int .i64) (.pair .str (.pair (.int .i64) (.int .i64)))))], []⟩, ⟨[.d .bool], []⟩, []⟩,
  ⟨37, ⟨[.d (.st (.pair (.int .i64) (.pair .str (.pair (.int .i64) (.int .i64)))))], []⟩, ⟨[.d .bool], []⟩, []⟩,
  ⟨38, ⟨[.ptr 0 0, .d (.int .i64)], [.box [.d (.sl (.st (.pair (.int .i64) (.pair .str (.pair (.int .i64) (.int .i64)))))), .mp 1, .osl 2], .map .str (.int .i64), .vec .str]⟩, ⟨[.d (.int .i64)], [.box [.d (.sl (.st (.pair (.int .i64) (.pair .str (.pair (.int .i64) (.int .i64)))))), .mp 1, .osl 3], .map .str (.int .i64), .gone, .vec .str]⟩, [0, 1]⟩,
  ⟨39, ⟨[.d (.sl (.st (.pair (.int .i64) (.pair .str (.pair (.int .i64) (.int .i64))))))], []⟩, ⟨[.osl 0], [.vec .str]⟩, []⟩,
  ⟨40, ⟨[.d (.sl (.st (.pair (.int .i64) (.pair .str (.pair (.int .i64) (.int .i64)))))), .d (.int .i64)], []⟩, ⟨[.osl 0], [.vec .str]⟩, []⟩,
  ⟨41, ⟨[.d (.sl (.st (.pair (.int .i64) (.pair .str (.pair (.int .i64) (.int .i64)))))), .d (.int .i64)], []⟩, ⟨[.d (.sl (.int .i64))], []⟩, []⟩,
  ⟨42, ⟨[.d (.sl (.st (.pair (.int .i64) (.pair .str (.pair (.int .i64) (.int .i64)))))), .d (.int .i64)], []⟩, ⟨[.d (.int .i64)], []⟩, []⟩,
  ⟨43, ⟨[.d (.sl (.st (.pair (.int .i64) (.pair .str (.pair (.int .i64) (.int .i64))))))], []⟩, ⟨[.d .bool], []⟩, []⟩,
  ⟨44, ⟨[.d (.sl (.st (.pair (.int .i64) (.pair .str (.pair (.int .i64) (.int .i64)))))), .d (.int .i64)], []⟩, ⟨[.d (.int .i64)], []⟩, []⟩,
  ⟨45, ⟨[.d (.int .i64), .ref (.sl (.st (.pair (.int .i64) (.pair .str (.pair (.int .i64) (.int .i64)))))), .ref (.int .i64)], []⟩, ⟨[.d .bool], []⟩, []⟩,
  ⟨46, ⟨[.d (.sl (.int .i64)), .d (.int .i64)], []⟩, ⟨[.d .bool], []⟩, []⟩,
  ⟨47, ⟨[.d (.sl (.st (.pair (.int .i64) (.pair .str (.pair (.int .i64) (.int .i64)))))), .d (.int .i64)], []⟩, ⟨[.d (.sl (.int .i64))], []⟩, []⟩,
  ⟨48, ⟨[.d (.sl (.sl (.st (.pair (.int .i64) (.pair .str (.pair (.int .i64) (.int .i64)))))))], []⟩, ⟨[.osl 0], [.vec (.st (.pair (.int .i64) (.pair .str (.pair (.int .i64) (.int .i64)))))]⟩, []⟩,
  ⟨49, ⟨[.d (.sl (.st (.pair (.int .i64) (.pair .str (.pair (.int .i64) (.int .i64)))))), .d (.int .i64), .d .bool, .fn 50 [.ref (.sl (.st (.pair (.int .i64) (.pair .str (.pair (.int .i64) (.int .i64))))))]], []⟩, ⟨[.d (.int .i64), .d (.int .i64)], []⟩, []⟩,
  ⟨50, ⟨[.d (.int .i64), .d .bool, .ref (.sl (.st (.pair (.int .i64) (.pair .str (.pair (.int .i64) (.int .i64))))))], []⟩, ⟨[.d (.int .i64)], []⟩, []⟩,
  ⟨51, ⟨[.d (.sl (.st (.pair (.int .i64) (.pair .str (.pair (.int .i64) (.int .i64)))))), .d (.int .i64), .d .bool], []⟩, ⟨[.d (.int .i64)], []⟩, []⟩,
  ⟨52, ⟨[.d (.int .i64), .ref (.sl (.st (.pair (.int .i64) (.pair .str (.pair (.int .i64) (.int .i64))))))], []⟩, ⟨[.d .bool], []⟩, []⟩,
  ⟨53, ⟨[.osl 0], [.vec .str]⟩, ⟨[], [.vec .str]⟩, [0]⟩,
  ⟨54, ⟨[.osl 0], [.vec .str]⟩, ⟨[.osl 1], [.gone, .vec .str]⟩, []⟩,
  ⟨55, ⟨[.d (.sl (.st (.pair (.int .i64) (.pair .str (.pair (.int .i64) (.int .i64))))))], []⟩, ⟨[.d (.int .i64)], []⟩, []⟩,
  ⟨56, ⟨[.d (.int .i64)], []⟩, ⟨[.d .bool], []⟩, []⟩,
  ⟨57, ⟨[.d (.sl (.st (.pair (.int .i64) (.pair .str (.pair (.int .i64) (.int .i64)))))), .d (.int .i64), .d .bool], []⟩, ⟨[.d (.int .i64)], []⟩, []⟩,
  ⟨58, ⟨[.fn 62 [], .ref (.st (.pair (.int .i64) (.pair .str (.pair (.int .i64) (.int .i64)))))], []⟩, ⟨[.d .bool], []⟩, []⟩,
  ⟨58, ⟨[.fn 63 [], .ref (.st (.pair (.int .i64) (.pair .str (.pair (.int .i64) (.int .i64)))))], []⟩, ⟨[.d .bool], []⟩, []⟩,
  ⟨59, ⟨[.d .str, .fn 60 []], []⟩, ⟨[.d .bool], []⟩, []⟩,
  ⟨59, ⟨[.d .str, .fn 65 []], []⟩, ⟨[.d .bool], []⟩, []⟩,
  ⟨60, ⟨[.d (.int .u8)], []⟩, ⟨[.d .bool], []⟩, []⟩,
  ⟨61, ⟨[.d .str], []⟩, ⟨[.d .bool], []⟩, []⟩,
  ⟨62, ⟨[.d (.int .u8)], []⟩, ⟨[.d .bool], []⟩, []⟩,
  ⟨63, ⟨[.d (.int .u8)], []⟩, ⟨[.d .bool], []⟩, []⟩,
  ⟨64, ⟨[.d (.int .i64)], []⟩, ⟨[.d (.int .i64)], []⟩, []⟩,
  ⟨65, ⟨[.d (.int .u8)], []⟩, ⟨[.d .bool], []⟩, []⟩,
  ⟨66, ⟨[.d (.int .u8)], []⟩, ⟨[.d (.int .i64)], []⟩, []⟩,
  ⟨67, ⟨[.d .str, .d (.int .i64), .d (.int .i64), .d (.int .i64)], []⟩, ⟨[.d (.int .i64)], []⟩, []⟩,
  ⟨68, ⟨[.d .str], []⟩, ⟨[.d .bool], []⟩, []⟩,
  ⟨69, ⟨[.d (.int .i64)], []⟩, ⟨[.d (.int .i64)], []⟩, []⟩,
  ⟨70, ⟨[.d (.sl .str), .d .str], []⟩, ⟨[.d .bool], []⟩, []⟩,
  ⟨71, ⟨[.ptr 0 0, .d (.int .i64), .d (.sl .str)], [.box [.d (.sl (.st (.pair (.int .i64) (.pair .str (.pair (.int .i64) (.int .i64)))))), .mp 1, .osl 2], .map .str (.int .i64), .vec .str]⟩, ⟨[.d (.int .i64)], [.box [.d (.sl (.st (.pair (.int .i64) (.pair .str (.pair (.int .i64) (.int .i64)))))), .mp 1, .osl 3], .map .str (.int .i64), .gone, .vec .str]⟩, [0, 1]⟩,
  ⟨72, ⟨[.d (.sl .str), .d (.sl .str)], []⟩, ⟨[.osl 0], [.vec .str]⟩, []⟩,
  ⟨73, ⟨[.d (.sl (.int .i64)), .d (.int .i64)], []⟩, ⟨[.d (.int .i64)], []⟩, []⟩,
  ⟨74, ⟨[.d (.sl (.st (.pair (.int .i64) (.pair .str (.pair (.int .i64) (.int .i64)))))), .d (.int .i64)], []⟩, ⟨[.osl 0], [.vec (.st (.pair (.int .i64) (.pair .str (.pair (.int .i64) (.int .i64)))))]⟩, []⟩,
  ⟨75, ⟨[.d (.int .i64)], []⟩, ⟨[.agg [.d .bool, .d .bool, .fa [(15, false), (17, false)], .fa [(102, true), (87, false), (88, false)], .d .bool]], []⟩, []⟩,
  ⟨78, ⟨[.d (.int .i64)], []⟩, ⟨[.d (.int .i64)], []⟩, []⟩,
  ⟨79, ⟨[.d (.int .i64), .d (.int .i64)], []⟩, ⟨[.d .bool], []⟩, []⟩,
  ⟨80, ⟨[.d (.int .u8)], []⟩, ⟨[.d .bool], []⟩, []⟩,
  ⟨81, ⟨[], []⟩, ⟨[.d (.sl .str)], []⟩, []⟩,
  ⟨82, ⟨[.d .str, .d (.int .u8)], []⟩, ⟨[.d (.int .i64)], []⟩, []⟩,
  ⟨83, ⟨[], []⟩, ⟨[.d (.sl .str)], []⟩, []⟩,
  ⟨84, ⟨[.d (.int .u64)], []⟩, ⟨[.d (.int .i64)], []⟩, []⟩,
  ⟨85, ⟨[.d (.sl .str), .d .str], []⟩, ⟨[.d (.int .i64)], []⟩, []⟩,
  ⟨86, ⟨[.d (.int .i64)], []⟩, ⟨[.fn 102 [.ref (.int .i64)]], []⟩, []⟩,
  ⟨87, ⟨[.d (.int .i64)], []⟩, ⟨[.d .bool], []⟩, []⟩,
  ⟨88, ⟨[.d (.int .i64)], []⟩, ⟨[.d .bool], []⟩, []⟩,
  ⟨100, ⟨[.d .str], []⟩, ⟨[.d (.sl .str)], []⟩, []⟩,
  ⟨102, ⟨[.d (.int .i64), .ref (.int .i64)], []⟩, ⟨[.d .bool], []⟩, []⟩]
def spaces : List Int := [0, 0, 0, 0, 0, 0, 0, 0, 0, 1, 1, 1, 1, 1, 0, 0, 0, 0, 0, 0, 0, 0, 0, 0, 0, 0, 0, 0, 0, 0, 0, 0, 1, 0, 0, 0, 0, 0, 0, 0, 0, 0, 0, 0, 0, 0, 0, 0, 0, 0, 0, 0, 0, 0, 0, 0, 0, 0, 0, 0, 0, 0, 0, 0, 0, 0, 0, 0, 0, 0, 0, 0, 0, 0, 0, 0, 0, 0, 0, 0, 0, 0, 0, 0, 0, 0, 0, 0, 0, 0, 0, 0, 0, 0, 0, 0, 0, 0, 0, 0, 0, 0, 0, 0, 0, 0, 0, 0, 0, 0, 0, 0, 0, 0, 0, 0, 0, 0, 0, 0, 0, 0, 0, 0, 0, 0, 0, 0, 0, 0, 0, 0, 0, 0, 0, 0, 0, 0, 0, 0, 0, 0, 0, 0, 0, 0, 0, 0, 0, 0, 0, 0, 0, 0, 0, 0, 0, 0, 0, 0, 0, 0, 0, 0, 0, 0, 0, 0, 0, 0, 0, 0, 0, 0, 0, 0, 0, 0, 0, 0, 0, 0, 0, 0, 0, 0, 0, 0, 0, 0, 0, 0, 0, 0, 0, 0, 0, 0, 0, 0, 0, 0, 0, 0, 0, 0, 0, 0, 0, 0, 0, 0, 0, 0, 0, 0, 0, 0, 0, 0, 0, 0, 0, 0, 0, 0, 0, 0, 0, 0, 0, 0, 0, 0, 0, 0, 0, 0, 0, 0, 0, 0, 0, 0, 0, 0, 0, 0, 0, 0, 0, 0, 0, 0, 0, 0]
def glob : Nat → Option ((t : Ty) × den t)
  | 0 => some ⟨.arr 256 (.int .u8), spaces⟩
  | _ => none
def tab : List (Nat × Ty) := [
  (2, (.int .i64)),
  (3, (.int .i64)),
  (4, .bool),
  (5, (.int .u8)),
  (6, (.int .u8)),
  (7, (.st (.pair (.int .i64) (.pair (.int .i64) (.pair .bool (.int .u8)))))),
  (8, (.st (.pair (.int .i64) (.pair (.int .i64) (.pair .bool (.int .u8)))))),
  (9, .str),
  (10, .str),
  (11, .str),
  (12, (.int .u64)),
  (13, (.st (.pair .str (.int .u64)))),
  (14, (.st (.pair .str (.int .u64)))),
  (21, (.int .i32)),
  (22, (.sl (.st (.pair (.int .i64) (.pair .str (.pair (.int .i64) (.int .i64))))))),
  (25, (.int .i64)),
  (31, (.sl .str)),
  (40, (.int .i64)),
  (41, (.st (.pair (.int .i64) (.pair .str (.pair (.int .i64) (.int .i64)))))),
  (42, (.st (.pair (.int .i64) (.pair .str (.pair (.int .i64) (.int .i64)))))),
  (50, (.int .i64)),
  (51, (.st (.pair (.int .i64) (.pair .str (.pair (.int .i64) (.int .i64)))))),
  (52, (.st (.pair (.int .i64) (.pair .str (.pair (.int .i64) (.int .i64)))))),
  (58, (.sl (.int .i64))),
  (60, (.sl (.sl (.st (.pair (.int .i64) (.pair .str (.pair (.int .i64) (.int .i64)))))))),
  (84, (.int .u64)),
  (88, (.int .u64)),
  (94, (.int .i64)),
  (103, (.int .u32)),
  (106, (.int .u64)),
  (112, (.arr 256 (.int .u8))),
  (118, (.sl (.st (.pair (.int .i64) (.int .i64))))),
  (119, (.st (.pair (.int .i64) (.int .i64)))),
  (120, (.st (.pair (.int .i64) (.int .i64)))),
  (123, (.sl (.st (.pair (.int .u16) (.pair (.int .u16) (.int .u16)))))),
  (124, (.sl (.st (.pair (.int .u32) (.pair (.int .u32) (.int .u32)))))),
  (125, (.st (.pair (.sl (.st (.pair (.int .u16) (.pair (.int .u16) (.int .u16))))) (.pair (.sl (.st (.pair (.int .u32) (.pair (.int .u32) (.int .u32))))) (.int .i64))))),
  (126, (.st (.pair (.sl (.st (.pair (.int .u16) (.pair (.int .u16) (.int .u16))))) (.pair (.sl (.st (.pair (.int .u32) (.pair (.int .u32) (.int .u32))))) (.int .i64))))),
  (127, (.int .u16)),
  (128, (.st (.pair (.int .u16) (.pair (.int .u16) (.int .u16))))),
  (129, (.st (.pair (.int .u16) (.pair (.int .u16) (.int .u16))))),
  (131, (.st (.pair (.int .u32) (.pair (.int .u32) (.int .u32))))),
  (132, (.st (.pair (.int .u32) (.pair (.int .u32) (.int .u32))))),
  (143, (.int .u8)),
  (144, (.int .u8)),
  (147, (.int .i32)),
  (148, (.int .i32))]
def eqs : List Nat := [41, 42]
noncomputable def C : Cx := ⟨Tryd.prog, sigs, glob, tab, eqs, 9999⟩

def g_sort : denP (sigAt C.sigs 50).ins.tys → Option (denP (sigAt C.sigs 50).outs.tys) := fun x =>
  bif x.1.l.all goodS && decide (x.1.l.length < 4611686018427387904) then some ((⟨x.1.nil, x.1.l.mergeSort fun a b => !strLt b a⟩ : Sl (List Int)), ()) else none
def g_ix : denP (sigAt C.sigs 79).ins.tys → Option (denP (sigAt C.sigs 79).outs.tys) := fun x => some (ixB x.2.1 x.1, ())
def g_grow : denP (sigAt C.sigs 73).ins.tys → Option (denP (sigAt C.sigs 73).outs.tys) := fun x =>
  bif x.1.nil && x.1.l.isEmpty && decide (0 ≤ x.2.1) && decide (x.2.1 ≤ 1000000) then some ((⟨decide (x.2.1 = 0), ([] : List (Int × (List Int) × Int × Int))⟩ : Sl (Int × (List Int) × Int × Int)), ()) else none

theorem c_ix : CallsAs C 79 g_ix := by
  intro x y h
  obtain ⟨l, c, u⟩ := x
  have h : some ((ixB c l, ()) : Int × Unit) = some y := h
  injection h with h
  subst h
  exact Call.prim 79 _ _ (ix_okS (C := C) (f := 82) ⟨_, Tryd.func82, by kernel_rfl⟩ (fun s c w => Any.strings_IndexByte Tryd.ixL s c w) l c)

theorem c_grow : CallsAs C 73 g_grow := by
  intro x y h
  obtain ⟨⟨nil, l⟩, n, u⟩ := x
  have h : (bif nil && l.isEmpty && decide (0 ≤ n) && decide (n ≤ 1000000) then some ((⟨decide (n = 0), ([] : List (Int × (List Int) × Int × Int))⟩, ()) : Sl (Int × (List Int) × Int × Int) × Unit) else none) = some y := h
  cases hb : (nil && l.isEmpty && decide (0 ≤ n) && decide (n ≤ 1000000)) with
  | false => rw [hb] at h; cases h
  | true =>
    rw [hb] at h
    injection h with h
    subst h
    simp only [Bool.and_eq_true, decide_eq_true_eq] at hb
    obtain ⟨⟨⟨h1, h2⟩, h3⟩, h4⟩ := hb
    subst h1
    obtain rfl : l = [] := List.isEmpty_iff.1 h2
    obtain ⟨k, rfl⟩ := Int.eq_ofNat_of_zero_le h3
    have h4 : (k : Int) ≤ 1000000 := h4
    have hmi : (Tryd.prog.info? (Tryd.growL_ren.t 25)).map (fun i => (i.zero, i.size, i.bytes)) = some (some (.agg #[.int .i64 0, .string ⟨#[]⟩, .int .i64 0, .int .i64 0]), 4, 40) := by kernel_rfl
    obtain ⟨i0, i1, i2⟩ := Option.map_eq_some_iff.1 hmi
    injection i2 with i2 i3
    injection i3 with i3 i4
    have key := growT_okS (C := C) (f := 74) (t := .st (.pair (.int .i64) (.pair .str (.pair (.int .i64) (.int .i64))))) (by intro h; cases h) ⟨_, Tryd.func74, by kernel_rfl⟩
      (fun w => Any8.slices_Grow_room Tryd.growL none 0 0 0 w (Nat.le_refl _) (by decide) (by decide) (Nat.le_refl _))
      (fun n w hn hn2 => by
        have g := Any8.slices_Grow_grow Tryd.growL i0 (.agg #[.int .i64 0, .string ⟨#[]⟩, .int .i64 0, .int .i64 0]) i1 i2 (by omega) none 0 0 n [] w (Nat.le_refl _) (by omega) (by rw [i4]; omega) (by omega) (by rw [i3]; rfl) (fun _ => rfl) (fun a h => by cases h)
        refine Calls.mono g fun e w' ⟨e1, e2⟩ => ⟨_, _, _, e1, e2, ?_⟩
        have hc : csz (.st (.pair (.int .i64) (.pair .str (.pair (.int .i64) (.int .i64))))) = 4 := rfl
        rw [hc]
        have hs : (Value.agg #[.int .i64 0, .string ⟨#[]⟩, .int .i64 0, .int .i64 0]).cells.size = 4 := by kernel_rfl
        simp [Builtin.zeroCells]
        rw [hs]
        omega) k (by omega)
    have e : decide ((k : Int) = 0) = decide (k = 0) := decide_eq_decide.2 (by omega)
    rw [e]
    exact Call.prim 73 _ _ key

def natsOf (x : List UInt8) : List Int := x.map fun b => (b.toNat : Int)
def bytesO (l : List Int) : List UInt8 := l.map fun b => UInt8.ofNat b.toNat
theorem natsOf_inj : ∀ x y : List UInt8, natsOf x = natsOf y → x = y
  | [], [], _ => rfl
  | [], _ :: _, h => by cases h
  | _ :: _, [], h => by cases h
  | a :: x, b :: y, h => by
    injection h with h1 h2
    have h1 : (a.toNat : Int) = (b.toNat : Int) := h1
    have e : a = b := UInt8.toNat_inj.1 (by omega)
    rw [natsOf_inj x y h2, e]
theorem natsOf_bytesO : ∀ l : List Int, (∀ b, b ∈ l → 0 ≤ b ∧ b ≤ 255) → natsOf (bytesO l) = l
  | [], _ => rfl
  | a :: l, h => by
    obtain ⟨h0, h1⟩ := h a (List.mem_cons_self ..)
    show (((UInt8.ofNat a.toNat).toNat : Nat) : Int) :: natsOf (bytesO l) = _
    rw [natsOf_bytesO l fun b hb => h b (List.mem_cons_of_mem _ hb), UInt8.toNat_ofNat', Nat.mod_eq_of_lt (by omega)]
    congr 1
    omega
theorem strLt_nats : ∀ x y : List UInt8, strLt (natsOf x) (natsOf y) = decide (x < y)
  | [], [] => rfl
  | [], b :: y => by
    show true = _
    exact (decide_eq_true (List.nil_lt_cons b y)).symm
  | a :: x, [] => by
    show false = _
    exact (decide_eq_false (List.not_lt_nil _)).symm
  | a :: x, b :: y => by
    show (decide ((a.toNat : Int) < (b.toNat : Int)) || (decide ((a.toNat : Int) = (b.toNat : Int)) && strLt (natsOf x) (natsOf y))) = _
    rw [strLt_nats x y, Bool.eq_iff_iff, decide_eq_true_eq, List.cons_lt_cons_iff]
    simp only [Bool.or_eq_true, Bool.and_eq_true, decide_eq_true_eq]
    have e1 : ((a.toNat : Int) < (b.toNat : Int)) ↔ a < b := by rw [UInt8.lt_iff_toNat_lt]; omega
    have e2 : ((a.toNat : Int) = (b.toNat : Int)) ↔ a = b := by rw [← UInt8.toNat_inj]; omega
    rw [e1, e2]

theorem rel_bytes (imm : Nat → Prop) (w : World) (x : List UInt8) (hx : x.length ≤ 9223372036854775807) (cs : List Value) : relC imm w .str (natsOf x) cs ↔ cs = [encStr x] := by
  constructor
  · rintro ⟨t, e3, h1, h2⟩
    have h1 : t.data.toList.map (fun b => (b.toNat : Int)) = natsOf x := h1
    have h3 : t.data.toList = x := natsOf_inj _ _ h1
    subst e3
    have : t = ⟨x.toArray⟩ := by
      rw [← h3]
    rw [this]
  · intro e
    subst e
    refine ⟨⟨x.toArray⟩, rfl, rfl, ?_⟩
    show x.toArray.size ≤ _
    simpa [maxL] using hx

theorem c_sort : CallsAs C 50 g_sort := by
  intro x y h
  obtain ⟨⟨nil, l⟩, u⟩ := x
  have h : (bif l.all goodS && decide (l.length < 4611686018427387904) then some ((⟨nil, l.mergeSort fun a b => !strLt b a⟩ : Sl (List Int)), ()) else none) = some y := h
  cases hg : (l.all goodS && decide (l.length < 4611686018427387904)) with
  | false => rw [hg] at h; cases h
  | true =>
    rw [hg] at h
    injection h with h
    subst h
    simp only [Bool.and_eq_true, decide_eq_true_eq] at hg
    obtain ⟨g1, g3⟩ := hg
    have gg : ∀ s, s ∈ l → (∀ b, b ∈ s → 0 ≤ b ∧ b ≤ 255) ∧ s.length ≤ 9223372036854775807 := fun s hs => goodS_iff (List.all_eq_true.1 g1 s hs)
    have hl : l = (l.map bytesO).map natsOf := by
      rw [List.map_map]
      exact ((List.map_congr_left (g := fun s => s) fun s hs => natsOf_bytesO s (gg s hs).1).trans (List.map_id' l)).symm
    have key := sort1_okS (C := C) (f := 53) (t := .str) encStr natsOf (fun x => x.length ≤ 9223372036854775807) (fun l => l.mergeSort fun x y => decide (x ≤ y)) (by intro h; cases h) rfl
      (fun imm w x hx cs => rel_bytes imm w x hx cs) (fun l => List.length_mergeSort l) (fun l x hx => (List.mem_mergeSort).1 hx)
      ⟨_, Tryd.func53, by kernel_rfl⟩ (fun p cap w => Any.slices_Sort_string_none Tryd.sortL p cap w)
      (fun blk off cap zs w hH hb hsz => calls_of_every_depth fun D => AnyS.slices_Sort_string_alone Tryd.sortL D blk off cap zs w hH hb hsz)
      nil (l.map bytesO) (fun x hx => by
        obtain ⟨s, hs, rfl⟩ := List.mem_map.1 hx
        show (s.map _).length ≤ _
        rw [List.length_map]
        exact (gg s hs).2) (by rw [List.length_map]; exact g3)
    have e : ((l.map bytesO).mergeSort fun x y => decide (x ≤ y)).map natsOf = ((l.map bytesO).map natsOf).mergeSort fun a b => !strLt b a :=
      List.map_mergeSort (fun a _ b _ => by
        rw [strLt_nats]
        by_cases h : b < a
        · rw [decide_eq_true h, decide_eq_false (fun e : a ≤ b => e h)]; rfl
        · rw [decide_eq_false h, decide_eq_true (show a ≤ b from h)]; rfl)
    rw [e, ← hl] at key
    exact Call.prim 50 _ _ key

theorem e_tree_End (L : Lf) (R : Oracle C.sigs) (x : denP (sigAt C.sigs 39).ins.tys) : evalFn L C R 39 x = b_tree_End L  x := by kernel_rfl
theorem o_tree_End (x : denP (sigAt C.sigs 39).ins.tys) : evalFn lf C orc0 39 x = f_tree_End x := (e_tree_End lf _ x).trans (by kernel_rfl)
theorem c_tree_End : CallsAs C 39 f_tree_End :=
  fun x y h => Ev.Call.mk (C := C) _ orc0_ok 39 x y ((o_tree_End x).trans h)
theorem e_tree_Whole (L : Lf) (R : Oracle C.sigs) (x : denP (sigAt C.sigs 40).ins.tys) : evalFn L C R 40 x = b_tree_Whole L (R 39) x := by kernel_rfl
theorem o_tree_Whole (x : denP (sigAt C.sigs 40).ins.tys) : evalFn lf C (orc1 39 f_tree_End orc0) 40 x = f_tree_Whole x := (e_tree_Whole lf _ x).trans (by kernel_rfl)
theorem c_tree_Whole : CallsAs C 40 f_tree_Whole :=
  fun x y h => Ev.Call.mk (C := C) _ (orc1_ok c_tree_End orc0_ok) 40 x y ((o_tree_Whole x).trans h)
theorem e_tree_Deep (L : Lf) (R : Oracle C.sigs) (x : denP (sigAt C.sigs 22).ins.tys) : evalFn L C R 22 x = b_tree_Deep L (R 40) x := by kernel_rfl
theorem o_tree_Deep (x : denP (sigAt C.sigs 22).ins.tys) : evalFn lf C (orc1 40 f_tree_Whole orc0) 22 x = f_tree_Deep x := (e_tree_Deep lf _ x).trans (by kernel_rfl)
theorem c_tree_Deep : CallsAs C 22 f_tree_Deep :=
  fun x y h => Ev.Call.mk (C := C) _ (orc1_ok c_tree_Whole orc0_ok) 22 x y ((o_tree_Deep x).trans h)
theorem e_lex_small (L : Lf) (R : Oracle C.sigs) (x : denP (sigAt C.sigs 61).ins.tys) : evalFn L C R 61 x = b_lex_small L  x := by kernel_rfl
theorem o_lex_small (x : denP (sigAt C.sigs 61).ins.tys) : evalFn lf C orc0 61 x = f_lex_small x := (e_lex_small lf _ x).trans (by kernel_rfl)
theorem c_lex_small : CallsAs C 61 f_lex_small :=
  fun x y h => Ev.Call.mk (C := C) _ orc0_ok 61 x y ((o_lex_small x).trans h)
theorem e_lex_great (L : Lf) (R : Oracle C.sigs) (x : denP (sigAt C.sigs 62).ins.tys) : evalFn L C R 62 x = b_lex_great L  x := by kernel_rfl
theorem o_lex_great (x : denP (sigAt C.sigs 62).ins.tys) : evalFn lf C orc0 62 x = f_lex_great x := (e_lex_great lf _ x).trans (by kernel_rfl)
theorem c_lex_great : CallsAs C 62 f_lex_great :=
  fun x y h => Ev.Call.mk (C := C) _ orc0_ok 62 x y ((o_lex_great x).trans h)
theorem e_lex_digit (L : Lf) (R : Oracle C.sigs) (x : denP (sigAt C.sigs 77).ins.tys) : evalFn L C R 77 x = b_lex_digit L  x := by kernel_rfl
theorem o_lex_digit (x : denP (sigAt C.sigs 77).ins.tys) : evalFn lf C orc0 77 x = f_lex_digit x := (e_lex_digit lf _ x).trans (by kernel_rfl)
theorem c_lex_digit : CallsAs C 77 f_lex_digit :=
  fun x y h => Ev.Call.mk (C := C) _ orc0_ok 77 x y ((o_lex_digit x).trans h)
theorem e_lex_inner (L : Lf) (R : Oracle C.sigs) (x : denP (sigAt C.sigs 59).ins.tys) : evalFn L C R 59 x = b_lex_inner L (R 61) (R 62) (R 77) x := by kernel_rfl
theorem o_lex_inner (x : denP (sigAt C.sigs 59).ins.tys) : evalFn lf C (orc1 61 f_lex_small (orc1 62 f_lex_great (orc1 77 f_lex_digit orc0))) 59 x = f_lex_inner x := (e_lex_inner lf _ x).trans (by kernel_rfl)
theorem c_lex_inner : CallsAs C 59 f_lex_inner :=
  fun x y h => Ev.Call.mk (C := C) _ (orc1_ok c_lex_small (orc1_ok c_lex_great (orc1_ok c_lex_digit orc0_ok))) 59 x y ((o_lex_inner x).trans h)
theorem e_lex_all (L : Lf) (R : Oracle C.sigs) (x : denP (sigAt C.sigs 57).ins.tys) : evalFn L C R 57 x = b_lex_all L (R 59) x := by kernel_rfl
theorem o_lex_all (x : denP (sigAt C.sigs 57).ins.tys) : evalFn lf C (orc1 59 f_lex_inner orc0) 57 x = f_lex_all x := (e_lex_all lf _ x).trans (by kernel_rfl)
theorem c_lex_all : CallsAs C 57 f_lex_all :=
  fun x y h => Ev.Call.mk (C := C) _ (orc1_ok c_lex_inner orc0_ok) 57 x y ((o_lex_all x).trans h)
theorem e_slices_Index_v2 (L : Lf) (R : Oracle C.sigs) (x : denP (sigAt C.sigs 82).ins.tys) : evalFn L C R 82 x = b_slices_Index_v2 L  x := by kernel_rfl
theorem o_slices_Index_v2 (x : denP (sigAt C.sigs 82).ins.tys) : evalFn lf C orc0 82 x = f_slices_Index_v2 x := (e_slices_Index_v2 lf _ x).trans (by kernel_rfl)
theorem c_slices_Index_v2 : CallsAs C 82 f_slices_Index_v2 :=
  fun x y h => Ev.Call.mk (C := C) _ orc0_ok 82 x y ((o_slices_Index_v2 x).trans h)
theorem e_slices_Contains_v2 (L : Lf) (R : Oracle C.sigs) (x : denP (sigAt C.sigs 69).ins.tys) : evalFn L C R 69 x = b_slices_Contains_v2 L (R 82) x := by kernel_rfl
theorem o_slices_Contains_v2 (x : denP (sigAt C.sigs 69).ins.tys) : evalFn lf C (orc1 82 f_slices_Index_v2 orc0) 69 x = f_slices_Contains_v2 x := (e_slices_Contains_v2 lf _ x).trans (by kernel_rfl)
theorem c_slices_Contains_v2 : CallsAs C 69 f_slices_Contains_v2 :=
  fun x y h => Ev.Call.mk (C := C) _ (orc1_ok c_slices_Index_v2 orc0_ok) 69 x y ((o_slices_Contains_v2 x).trans h)
theorem e_strings_Fields (L : Lf) (R : Oracle C.sigs) (x : denP (sigAt C.sigs 86).ins.tys) : evalFn L C R 86 x = b_strings_Fields L  x := by kernel_rfl
theorem o_strings_Fields (x : denP (sigAt C.sigs 86).ins.tys) : evalFn lf C orc0 86 x = f_strings_Fields x := (e_strings_Fields lf _ x).trans (by kernel_rfl)
theorem c_strings_Fields : CallsAs C 86 f_strings_Fields :=
  fun x y h => Ev.Call.mk (C := C) _ orc0_ok 86 x y ((o_strings_Fields x).trans h)
theorem e_lex_words (L : Lf) (R : Oracle C.sigs) (x : denP (sigAt C.sigs 78).ins.tys) : evalFn L C R 78 x = b_lex_words L (R 86) x := by kernel_rfl
theorem o_lex_words (x : denP (sigAt C.sigs 78).ins.tys) : evalFn lf C (orc1 86 f_strings_Fields orc0) 78 x = f_lex_words x := (e_lex_words lf _ x).trans (by kernel_rfl)
theorem c_lex_words : CallsAs C 78 f_lex_words :=
  fun x y h => Ev.Call.mk (C := C) _ (orc1_ok c_strings_Fields orc0_ok) 78 x y ((o_lex_words x).trans h)
theorem e_lex_Key (L : Lf) (R : Oracle C.sigs) (x : denP (sigAt C.sigs 60).ins.tys) : evalFn L C R 60 x = b_lex_Key L (R 69) (R 78) x := by kernel_rfl
theorem o_lex_Key (x : denP (sigAt C.sigs 60).ins.tys) : evalFn lf C (orc1 69 f_slices_Contains_v2 (orc1 78 f_lex_words orc0)) 60 x = f_lex_Key x := (e_lex_Key lf _ x).trans (by kernel_rfl)
theorem c_lex_Key : CallsAs C 60 f_lex_Key :=
  fun x y h => Ev.Call.mk (C := C) _ (orc1_ok c_slices_Contains_v2 (orc1_ok c_lex_words orc0_ok)) 60 x y ((o_lex_Key x).trans h)
theorem e_lex_Right_1 (L : Lf) (R : Oracle C.sigs) (x : denP (sigAt C.sigs 55).ins.tys) : evalFn L C R 55 x = b_lex_Right_1 L (R 57) (R 60) (R 61) x := by kernel_rfl
theorem o_lex_Right_1 (x : denP (sigAt C.sigs 55).ins.tys) : evalFn lf C (orc1 57 f_lex_all (orc1 60 f_lex_Key (orc1 61 f_lex_small orc0))) 55 x = f_lex_Right_1 x := (e_lex_Right_1 lf _ x).trans (by kernel_rfl)
theorem c_lex_Right_1 : CallsAs C 55 f_lex_Right_1 :=
  fun x y h => Ev.Call.mk (C := C) _ (orc1_ok c_lex_all (orc1_ok c_lex_Key (orc1_ok c_lex_small orc0_ok))) 55 x y ((o_lex_Right_1 x).trans h)
theorem e_lex_Right_1_v2 (L : Lf) (R : Oracle C.sigs) (x : denP (sigAt C.sigs 56).ins.tys) : evalFn L C R 56 x = b_lex_Right_1_v2 L (R 57) (R 60) (R 62) x := by kernel_rfl
theorem o_lex_Right_1_v2 (x : denP (sigAt C.sigs 56).ins.tys) : evalFn lf C (orc1 57 f_lex_all (orc1 60 f_lex_Key (orc1 62 f_lex_great orc0))) 56 x = f_lex_Right_1_v2 x := (e_lex_Right_1_v2 lf _ x).trans (by kernel_rfl)
theorem c_lex_Right_1_v2 : CallsAs C 56 f_lex_Right_1_v2 :=
  fun x y h => Ev.Call.mk (C := C) _ (orc1_ok c_lex_all (orc1_ok c_lex_Key (orc1_ok c_lex_great orc0_ok))) 56 x y ((o_lex_Right_1_v2 x).trans h)
theorem c_strings_IndexByte : CallsAs C 79 f_strings_IndexByte := c_ix
theorem e_lex_sign (L : Lf) (R : Oracle C.sigs) (x : denP (sigAt C.sigs 64).ins.tys) : evalFn L C R 64 x = b_lex_sign L (R 79) x := by kernel_rfl
theorem o_lex_sign (x : denP (sigAt C.sigs 64).ins.tys) : evalFn lf C (orc1 79 f_strings_IndexByte orc0) 64 x = f_lex_sign x := (e_lex_sign lf _ x).trans (by kernel_rfl)
theorem c_lex_sign : CallsAs C 64 f_lex_sign :=
  fun x y h => Ev.Call.mk (C := C) _ (orc1_ok c_strings_IndexByte orc0_ok) 64 x y ((o_lex_sign x).trans h)
theorem e_lex_all_v2 (L : Lf) (R : Oracle C.sigs) (x : denP (sigAt C.sigs 58).ins.tys) : evalFn L C R 58 x = b_lex_all_v2 L (R 64) x := by kernel_rfl
theorem o_lex_all_v2 (x : denP (sigAt C.sigs 58).ins.tys) : evalFn lf C (orc1 64 f_lex_sign orc0) 58 x = f_lex_all_v2 x := (e_lex_all_v2 lf _ x).trans (by kernel_rfl)
theorem c_lex_all_v2 : CallsAs C 58 f_lex_all_v2 :=
  fun x y h => Ev.Call.mk (C := C) _ (orc1_ok c_lex_sign orc0_ok) 58 x y ((o_lex_all_v2 x).trans h)
theorem e_word_Wrap (L : Lf) (R : Oracle C.sigs) (x : denP (sigAt C.sigs 63).ins.tys) : evalFn L C R 63 x = b_word_Wrap L  x := by kernel_rfl
theorem o_word_Wrap (x : denP (sigAt C.sigs 63).ins.tys) : evalFn lf C orc0 63 x = f_word_Wrap x := (e_word_Wrap lf _ x).trans (by kernel_rfl)
theorem c_word_Wrap : CallsAs C 63 f_word_Wrap :=
  fun x y h => Ev.Call.mk (C := C) _ orc0_ok 63 x y ((o_word_Wrap x).trans h)
theorem e_lex_Right (L : Lf) (R : Oracle C.sigs) (x : denP (sigAt C.sigs 33).ins.tys) : evalFn L C R 33 x = b_lex_Right L (R 55) (R 56) (R 58) (R 60) (R 63) x := by kernel_rfl
theorem o_lex_Right (x : denP (sigAt C.sigs 33).ins.tys) : evalFn lf C (orc1 55 f_lex_Right_1 (orc1 56 f_lex_Right_1_v2 (orc1 58 f_lex_all_v2 (orc1 60 f_lex_Key (orc1 63 f_word_Wrap orc0))))) 33 x = f_lex_Right x := (e_lex_Right lf _ x).trans (by kernel_rfl)
theorem c_lex_Right : CallsAs C 33 f_lex_Right :=
  fun x y h => Ev.Call.mk (C := C) _ (orc1_ok c_lex_Right_1 (orc1_ok c_lex_Right_1_v2 (orc1_ok c_lex_all_v2 (orc1_ok c_lex_Key (orc1_ok c_word_Wrap orc0_ok))))) 33 x y ((o_lex_Right x).trans h)
theorem e_syn_Name (L : Lf) (R : Oracle C.sigs) (x : denP (sigAt C.sigs 12).ins.tys) : evalFn L C R 12 x = b_syn_Name L (R 33) x := by kernel_rfl
theorem o_syn_Name (x : denP (sigAt C.sigs 12).ins.tys) : evalFn lf C (orc1 33 f_lex_Right orc0) 12 x = f_syn_Name x := (e_syn_Name lf _ x).trans (by kernel_rfl)
theorem c_syn_Name : CallsAs C 12 f_syn_Name :=
  fun x y h => Ev.Call.mk (C := C) _ (orc1_ok c_lex_Right orc0_ok) 12 x y ((o_syn_Name x).trans h)
theorem e_syn_Con (L : Lf) (R : Oracle C.sigs) (x : denP (sigAt C.sigs 14).ins.tys) : evalFn L C R 14 x = b_syn_Con L (R 33) x := by kernel_rfl
theorem o_syn_Con (x : denP (sigAt C.sigs 14).ins.tys) : evalFn lf C (orc1 33 f_lex_Right orc0) 14 x = f_syn_Con x := (e_syn_Con lf _ x).trans (by kernel_rfl)
theorem c_syn_Con : CallsAs C 14 f_syn_Con :=
  fun x y h => Ev.Call.mk (C := C) _ (orc1_ok c_lex_Right orc0_ok) 14 x y ((o_syn_Con x).trans h)
theorem e_syn_pattern (L : Lf) (R : Oracle C.sigs) (x : denP (sigAt C.sigs 53).ins.tys) : evalFn L C R 53 x = b_syn_pattern L  x := by kernel_rfl
theorem o_syn_pattern (x : denP (sigAt C.sigs 53).ins.tys) : evalFn lf C orc0 53 x = f_syn_pattern x := (e_syn_pattern lf _ x).trans (by kernel_rfl)
theorem c_syn_pattern : CallsAs C 53 f_syn_pattern :=
  fun x y h => Ev.Call.mk (C := C) _ orc0_ok 53 x y ((o_syn_pattern x).trans h)
theorem e_syn_just (L : Lf) (R : Oracle C.sigs) (x : denP (sigAt C.sigs 83).ins.tys) : evalFn L C R 83 x = b_syn_just L  x := by kernel_rfl
theorem o_syn_just (x : denP (sigAt C.sigs 83).ins.tys) : evalFn lf C orc0 83 x = f_syn_just x := (e_syn_just lf _ x).trans (by kernel_rfl)
theorem c_syn_just : CallsAs C 83 f_syn_just :=
  fun x y h => Ev.Call.mk (C := C) _ orc0_ok 83 x y ((o_syn_just x).trans h)
theorem e_syn_formOf (L : Lf) (R : Oracle C.sigs) (x : denP (sigAt C.sigs 74).ins.tys) : evalFn L C R 74 x = b_syn_formOf L (R 83) x := by kernel_rfl
theorem o_syn_formOf (x : denP (sigAt C.sigs 74).ins.tys) : evalFn lf C (orc1 83 f_syn_just orc0) 74 x = f_syn_formOf x := (e_syn_formOf lf _ x).trans (by kernel_rfl)
theorem c_syn_formOf : CallsAs C 74 f_syn_formOf :=
  fun x y h => Ev.Call.mk (C := C) _ (orc1_ok c_syn_just orc0_ok) 74 x y ((o_syn_formOf x).trans h)
theorem e_syn_formOf_1 (L : Lf) (R : Oracle C.sigs) (x : denP (sigAt C.sigs 84).ins.tys) : evalFn L C R 84 x = b_syn_formOf_1 L  x := by kernel_rfl
theorem o_syn_formOf_1 (x : denP (sigAt C.sigs 84).ins.tys) : evalFn lf C orc0 84 x = f_syn_formOf_1 x := (e_syn_formOf_1 lf _ x).trans (by kernel_rfl)
theorem c_syn_formOf_1 : CallsAs C 84 f_syn_formOf_1 :=
  fun x y h => Ev.Call.mk (C := C) _ orc0_ok 84 x y ((o_syn_formOf_1 x).trans h)
theorem e_syn_formOf_2 (L : Lf) (R : Oracle C.sigs) (x : denP (sigAt C.sigs 85).ins.tys) : evalFn L C R 85 x = b_syn_formOf_2 L  x := by kernel_rfl
theorem o_syn_formOf_2 (x : denP (sigAt C.sigs 85).ins.tys) : evalFn lf C orc0 85 x = f_syn_formOf_2 x := (e_syn_formOf_2 lf _ x).trans (by kernel_rfl)
theorem c_syn_formOf_2 : CallsAs C 85 f_syn_formOf_2 :=
  fun x y h => Ev.Call.mk (C := C) _ orc0_ok 85 x y ((o_syn_formOf_2 x).trans h)
theorem e_syn_just_1 (L : Lf) (R : Oracle C.sigs) (x : denP (sigAt C.sigs 87).ins.tys) : evalFn L C R 87 x = b_syn_just_1 L  x := by kernel_rfl
theorem o_syn_just_1 (x : denP (sigAt C.sigs 87).ins.tys) : evalFn lf C orc0 87 x = f_syn_just_1 x := (e_syn_just_1 lf _ x).trans (by kernel_rfl)
theorem c_syn_just_1 : CallsAs C 87 f_syn_just_1 :=
  fun x y h => Ev.Call.mk (C := C) _ orc0_ok 87 x y ((o_syn_just_1 x).trans h)
theorem e_syn_node (L : Lf) (R : Oracle C.sigs) (x : denP (sigAt C.sigs 48).ins.tys) : evalFn L C R 48 x = b_syn_node L (R 12) (R 14) (R 53) (R 63) (R 74) (R 84) (R 85) (R 87) x := by kernel_rfl
theorem o_syn_node (x : denP (sigAt C.sigs 48).ins.tys) : evalFn lf C (orc1 12 f_syn_Name (orc1 14 f_syn_Con (orc1 53 f_syn_pattern (orc1 63 f_word_Wrap (orc1 74 f_syn_formOf (orc1 84 f_syn_formOf_1 (orc1 85 f_syn_formOf_2 (orc1 87 f_syn_just_1 orc0)))))))) 48 x = f_syn_node x := (e_syn_node lf _ x).trans (by kernel_rfl)
theorem c_syn_node : CallsAs C 48 f_syn_node :=
  fun x y h => Ev.Call.mk (C := C) _ (orc1_ok c_syn_Name (orc1_ok c_syn_Con (orc1_ok c_syn_pattern (orc1_ok c_word_Wrap (orc1_ok c_syn_formOf (orc1_ok c_syn_formOf_1 (orc1_ok c_syn_formOf_2 (orc1_ok c_syn_just_1 orc0_ok)))))))) 48 x y ((o_syn_node x).trans h)
theorem e_syn_check_1 (L : Lf) (R : Oracle C.sigs) (x : denP (sigAt C.sigs 47).ins.tys) : evalFn L C R 47 x = b_syn_check_1 L (R 48) x := by kernel_rfl
theorem o_syn_check_1 (x : denP (sigAt C.sigs 47).ins.tys) : evalFn lf C (orc1 48 f_syn_node orc0) 47 x = f_syn_check_1 x := (e_syn_check_1 lf _ x).trans (by kernel_rfl)
theorem c_syn_check_1 : CallsAs C 47 f_syn_check_1 :=
  fun x y h => Ev.Call.mk (C := C) _ (orc1_ok c_syn_node orc0_ok) 47 x y ((o_syn_check_1 x).trans h)
theorem e_syn_walk (L : Lf) (R : Oracle C.sigs) (x : denP (sigAt C.sigs 46).ins.tys) : evalFn L C R 46 x = b_syn_walk L (R 46) (R 47) x := by kernel_rfl
theorem o_syn_walk (g : denP (sigAt C.sigs 46).ins.tys → Option (denP (sigAt C.sigs 46).outs.tys)) (x : denP (sigAt C.sigs 46).ins.tys) : evalFn lf C (orc1 46 g (orc1 47 f_syn_check_1 orc0)) 46 x = g_syn_walk g x := (e_syn_walk lf _ x).trans (by kernel_rfl)
theorem c_syn_walk : CallsAs C 46 f_syn_walk :=
  callRec fun g hg x y h => Ev.Call.mk (C := C) _ (orc1_ok hg (orc1_ok c_syn_check_1 orc0_ok)) 46 x y ((o_syn_walk g x).trans h)
theorem e_tree_Sub (L : Lf) (R : Oracle C.sigs) (x : denP (sigAt C.sigs 21).ins.tys) : evalFn L C R 21 x = b_tree_Sub L (R 39) x := by kernel_rfl
theorem o_tree_Sub (x : denP (sigAt C.sigs 21).ins.tys) : evalFn lf C (orc1 39 f_tree_End orc0) 21 x = f_tree_Sub x := (e_tree_Sub lf _ x).trans (by kernel_rfl)
theorem c_tree_Sub : CallsAs C 21 f_tree_Sub :=
  fun x y h => Ev.Call.mk (C := C) _ (orc1_ok c_tree_End orc0_ok) 21 x y ((o_tree_Sub x).trans h)
theorem e_syn_names (L : Lf) (R : Oracle C.sigs) (x : denP (sigAt C.sigs 36).ins.tys) : evalFn L C R 36 x = b_syn_names L  x := by kernel_rfl
theorem o_syn_names (x : denP (sigAt C.sigs 36).ins.tys) : evalFn lf C orc0 36 x = f_syn_names x := (e_syn_names lf _ x).trans (by kernel_rfl)
theorem c_syn_names : CallsAs C 36 f_syn_names :=
  fun x y h => Ev.Call.mk (C := C) _ orc0_ok 36 x y ((o_syn_names x).trans h)
theorem c_slices_Sort : CallsAs C 50 f_slices_Sort := c_sort
theorem e_slices_Compact (L : Lf) (R : Oracle C.sigs) (x : denP (sigAt C.sigs 51).ins.tys) : evalFn L C R 51 x = b_slices_Compact L  x := by kernel_rfl
theorem o_slices_Compact (x : denP (sigAt C.sigs 51).ins.tys) : evalFn lf C orc0 51 x = f_slices_Compact x := (e_slices_Compact lf _ x).trans (by kernel_rfl)
theorem c_slices_Compact : CallsAs C 51 f_slices_Compact :=
  fun x y h => Ev.Call.mk (C := C) _ orc0_ok 51 x y ((o_slices_Compact x).trans h)
theorem e_syn_count (L : Lf) (R : Oracle C.sigs) (x : denP (sigAt C.sigs 52).ins.tys) : evalFn L C R 52 x = b_syn_count L (R 36) x := by kernel_rfl
theorem o_syn_count (x : denP (sigAt C.sigs 52).ins.tys) : evalFn lf C (orc1 36 f_syn_names orc0) 52 x = f_syn_count x := (e_syn_count lf _ x).trans (by kernel_rfl)
theorem c_syn_count : CallsAs C 52 f_syn_count :=
  fun x y h => Ev.Call.mk (C := C) _ (orc1_ok c_syn_names orc0_ok) 52 x y ((o_syn_count x).trans h)
theorem e_syn_check_2 (L : Lf) (R : Oracle C.sigs) (x : denP (sigAt C.sigs 49).ins.tys) : evalFn L C R 49 x = b_syn_check_2 L (R 21) (R 36) (R 50) (R 51) (R 52) x := by kernel_rfl
theorem o_syn_check_2 (x : denP (sigAt C.sigs 49).ins.tys) : evalFn lf C (orc1 21 f_tree_Sub (orc1 36 f_syn_names (orc1 50 f_slices_Sort (orc1 51 f_slices_Compact (orc1 52 f_syn_count orc0))))) 49 x = f_syn_check_2 x := (e_syn_check_2 lf _ x).trans (by kernel_rfl)
theorem c_syn_check_2 : CallsAs C 49 f_syn_check_2 :=
  fun x y h => Ev.Call.mk (C := C) _ (orc1_ok c_tree_Sub (orc1_ok c_syn_names (orc1_ok c_slices_Sort (orc1_ok c_slices_Compact (orc1_ok c_syn_count orc0_ok))))) 49 x y ((o_syn_check_2 x).trans h)
theorem e_syn_check (L : Lf) (R : Oracle C.sigs) (x : denP (sigAt C.sigs 29).ins.tys) : evalFn L C R 29 x = b_syn_check L (R 22) (R 39) (R 40) (R 46) (R 49) (R 53) x := by kernel_rfl
theorem o_syn_check (x : denP (sigAt C.sigs 29).ins.tys) : evalFn lf C (orc1 22 f_tree_Deep (orc1 39 f_tree_End (orc1 40 f_tree_Whole (orc1 46 f_syn_walk (orc1 49 f_syn_check_2 (orc1 53 f_syn_pattern orc0)))))) 29 x = f_syn_check x := (e_syn_check lf _ x).trans (by kernel_rfl)
theorem c_syn_check : CallsAs C 29 f_syn_check :=
  fun x y h => Ev.Call.mk (C := C) _ (orc1_ok c_tree_Deep (orc1_ok c_tree_End (orc1_ok c_tree_Whole (orc1_ok c_syn_walk (orc1_ok c_syn_check_2 (orc1_ok c_syn_pattern orc0_ok)))))) 29 x y ((o_syn_check x).trans h)
theorem e_syn_Check (L : Lf) (R : Oracle C.sigs) (x : denP (sigAt C.sigs 8).ins.tys) : evalFn L C R 8 x = b_syn_Check L (R 29) x := by kernel_rfl
theorem o_syn_Check (x : denP (sigAt C.sigs 8).ins.tys) : evalFn lf C (orc1 29 f_syn_check orc0) 8 x = f_syn_Check x := (e_syn_Check lf _ x).trans (by kernel_rfl)
theorem c_syn_Check : CallsAs C 8 f_syn_Check :=
  fun x y h => Ev.Call.mk (C := C) _ (orc1_ok c_syn_check orc0_ok) 8 x y ((o_syn_Check x).trans h)
theorem e_syn_Pat (L : Lf) (R : Oracle C.sigs) (x : denP (sigAt C.sigs 11).ins.tys) : evalFn L C R 11 x = b_syn_Pat L (R 29) x := by kernel_rfl
theorem o_syn_Pat (x : denP (sigAt C.sigs 11).ins.tys) : evalFn lf C (orc1 29 f_syn_check orc0) 11 x = f_syn_Pat x := (e_syn_Pat lf _ x).trans (by kernel_rfl)
theorem c_syn_Pat : CallsAs C 11 f_syn_Pat :=
  fun x y h => Ev.Call.mk (C := C) _ (orc1_ok c_syn_check orc0_ok) 11 x y ((o_syn_Pat x).trans h)
theorem e_syn_finder_with (L : Lf) (R : Oracle C.sigs) (x : denP (sigAt C.sigs 70).ins.tys) : evalFn L C R 70 x = b_syn_finder_with L (R 35) x := by kernel_rfl
theorem o_syn_finder_with (g : denP (sigAt C.sigs 35).ins.tys → Option (denP (sigAt C.sigs 35).outs.tys)) (x : denP (sigAt C.sigs 70).ins.tys) : evalFn lf C (orc1 35 g orc0) 70 x = h_syn_finder_with g x := (e_syn_finder_with lf _ x).trans (by kernel_rfl)
theorem hc_syn_finder_with (g : denP (sigAt C.sigs 35).ins.tys → Option (denP (sigAt C.sigs 35).outs.tys)) (hg : CallsAs C 35 g) : CallsAs C 70 (h_syn_finder_with g) :=
  fun x y h => Ev.Call.mk (C := C) _ (orc1_ok hg orc0_ok) 70 x y ((o_syn_finder_with g x).trans h)
theorem e_syn_finder_find (L : Lf) (R : Oracle C.sigs) (x : denP (sigAt C.sigs 35).ins.tys) : evalFn L C R 35 x = b_syn_finder_find L (R 35) (R 36) (R 39) (R 69) (R 70) x := by kernel_rfl
theorem o_syn_finder_find (g : denP (sigAt C.sigs 35).ins.tys → Option (denP (sigAt C.sigs 35).outs.tys)) (x : denP (sigAt C.sigs 35).ins.tys) : evalFn lf C (orc1 35 g (orc1 36 f_syn_names (orc1 39 f_tree_End (orc1 69 f_slices_Contains_v2 (orc1 70 (h_syn_finder_with g) orc0))))) 35 x = g_syn_finder_find g x := (e_syn_finder_find lf _ x).trans (by kernel_rfl)
theorem c_syn_finder_find : CallsAs C 35 f_syn_finder_find :=
  callRec fun g hg x y h => Ev.Call.mk (C := C) _ (orc1_ok hg (orc1_ok c_syn_names (orc1_ok c_tree_End (orc1_ok c_slices_Contains_v2 (orc1_ok (hc_syn_finder_with g hg) orc0_ok))))) 35 x y ((o_syn_finder_find g x).trans h)
theorem e_syn_Free (L : Lf) (R : Oracle C.sigs) (x : denP (sigAt C.sigs 16).ins.tys) : evalFn L C R 16 x = b_syn_Free L (R 8) (R 35) x := by kernel_rfl
theorem o_syn_Free (x : denP (sigAt C.sigs 16).ins.tys) : evalFn lf C (orc1 8 f_syn_Check (orc1 35 f_syn_finder_find orc0)) 16 x = f_syn_Free x := (e_syn_Free lf _ x).trans (by kernel_rfl)
theorem c_syn_Free : CallsAs C 16 f_syn_Free :=
  fun x y h => Ev.Call.mk (C := C) _ (orc1_ok c_syn_Check (orc1_ok c_syn_finder_find orc0_ok)) 16 x y ((o_syn_Free x).trans h)
theorem e_syn_Names (L : Lf) (R : Oracle C.sigs) (x : denP (sigAt C.sigs 17).ins.tys) : evalFn L C R 17 x = b_syn_Names L (R 11) (R 36) x := by kernel_rfl
theorem o_syn_Names (x : denP (sigAt C.sigs 17).ins.tys) : evalFn lf C (orc1 11 f_syn_Pat (orc1 36 f_syn_names orc0)) 17 x = f_syn_Names x := (e_syn_Names lf _ x).trans (by kernel_rfl)
theorem c_syn_Names : CallsAs C 17 f_syn_Names :=
  fun x y h => Ev.Call.mk (C := C) _ (orc1_ok c_syn_Pat (orc1_ok c_syn_names orc0_ok)) 17 x y ((o_syn_Names x).trans h)
theorem e_ref06_Same (L : Lf) (R : Oracle C.sigs) (x : denP (sigAt C.sigs 20).ins.tys) : evalFn L C R 20 x = b_ref06_Same L  x := by kernel_rfl
theorem o_ref06_Same (x : denP (sigAt C.sigs 20).ins.tys) : evalFn lf C orc0 20 x = f_ref06_Same x := (e_ref06_Same lf _ x).trans (by kernel_rfl)
theorem c_ref06_Same : CallsAs C 20 f_ref06_Same :=
  fun x y h => Ev.Call.mk (C := C) _ orc0_ok 20 x y ((o_ref06_Same x).trans h)
theorem e_law06_awake (L : Lf) (R : Oracle C.sigs) (x : denP (sigAt C.sigs 6).ins.tys) : evalFn L C R 6 x = b_law06_awake L (R 8) (R 11) (R 12) (R 14) (R 16) (R 17) (R 20) x := by kernel_rfl
theorem o_law06_awake (x : denP (sigAt C.sigs 6).ins.tys) : evalFn lf C (orc1 8 f_syn_Check (orc1 11 f_syn_Pat (orc1 12 f_syn_Name (orc1 14 f_syn_Con (orc1 16 f_syn_Free (orc1 17 f_syn_Names (orc1 20 f_ref06_Same orc0))))))) 6 x = f_law06_awake x := (e_law06_awake lf _ x).trans (by kernel_rfl)
theorem c_law06_awake : CallsAs C 6 f_law06_awake :=
  fun x y h => Ev.Call.mk (C := C) _ (orc1_ok c_syn_Check (orc1_ok c_syn_Pat (orc1_ok c_syn_Name (orc1_ok c_syn_Con (orc1_ok c_syn_Free (orc1_ok c_syn_Names (orc1_ok c_ref06_Same orc0_ok))))))) 6 x y ((o_law06_awake x).trans h)
theorem e_ref06_Few (L : Lf) (R : Oracle C.sigs) (x : denP (sigAt C.sigs 7).ins.tys) : evalFn L C R 7 x = b_ref06_Few L  x := by kernel_rfl
theorem o_ref06_Few (x : denP (sigAt C.sigs 7).ins.tys) : evalFn lf C orc0 7 x = f_ref06_Few x := (e_ref06_Few lf _ x).trans (by kernel_rfl)
theorem c_ref06_Few : CallsAs C 7 f_ref06_Few :=
  fun x y h => Ev.Call.mk (C := C) _ orc0_ok 7 x y ((o_ref06_Few x).trans h)
theorem e_law06_Own (L : Lf) (R : Oracle C.sigs) (x : denP (sigAt C.sigs 9).ins.tys) : evalFn L C R 9 x = b_law06_Own L  x := by kernel_rfl
theorem o_law06_Own (x : denP (sigAt C.sigs 9).ins.tys) : evalFn lf C orc0 9 x = f_law06_Own x := (e_law06_Own lf _ x).trans (by kernel_rfl)
theorem c_law06_Own : CallsAs C 9 f_law06_Own :=
  fun x y h => Ev.Call.mk (C := C) _ orc0_ok 9 x y ((o_law06_Own x).trans h)
theorem e_ref02_End (L : Lf) (R : Oracle C.sigs) (x : denP (sigAt C.sigs 41).ins.tys) : evalFn L C R 41 x = b_ref02_End L (R 41) x := by kernel_rfl
theorem o_ref02_End (g : denP (sigAt C.sigs 41).ins.tys → Option (denP (sigAt C.sigs 41).outs.tys)) (x : denP (sigAt C.sigs 41).ins.tys) : evalFn lf C (orc1 41 g orc0) 41 x = g_ref02_End g x := (e_ref02_End lf _ x).trans (by kernel_rfl)
theorem c_ref02_End : CallsAs C 41 f_ref02_End :=
  callRec fun g hg x y h => Ev.Call.mk (C := C) _ (orc1_ok hg orc0_ok) 41 x y ((o_ref02_End g x).trans h)
theorem e_ref02_Whole (L : Lf) (R : Oracle C.sigs) (x : denP (sigAt C.sigs 25).ins.tys) : evalFn L C R 25 x = b_ref02_Whole L (R 41) x := by kernel_rfl
theorem o_ref02_Whole (x : denP (sigAt C.sigs 25).ins.tys) : evalFn lf C (orc1 41 f_ref02_End orc0) 25 x = f_ref02_Whole x := (e_ref02_Whole lf _ x).trans (by kernel_rfl)
theorem c_ref02_Whole : CallsAs C 25 f_ref02_Whole :=
  fun x y h => Ev.Call.mk (C := C) _ (orc1_ok c_ref02_End orc0_ok) 25 x y ((o_ref02_Whole x).trans h)
theorem e_ref02_Kids (L : Lf) (R : Oracle C.sigs) (x : denP (sigAt C.sigs 38).ins.tys) : evalFn L C R 38 x = b_ref02_Kids L (R 41) x := by kernel_rfl
theorem o_ref02_Kids (x : denP (sigAt C.sigs 38).ins.tys) : evalFn lf C (orc1 41 f_ref02_End orc0) 38 x = f_ref02_Kids x := (e_ref02_Kids lf _ x).trans (by kernel_rfl)
theorem c_ref02_Kids : CallsAs C 38 f_ref02_Kids :=
  fun x y h => Ev.Call.mk (C := C) _ (orc1_ok c_ref02_End orc0_ok) 38 x y ((o_ref02_Kids x).trans h)
theorem e_ref02_Deep (L : Lf) (R : Oracle C.sigs) (x : denP (sigAt C.sigs 30).ins.tys) : evalFn L C R 30 x = b_ref02_Deep L (R 30) (R 38) x := by kernel_rfl
theorem o_ref02_Deep (g : denP (sigAt C.sigs 30).ins.tys → Option (denP (sigAt C.sigs 30).outs.tys)) (x : denP (sigAt C.sigs 30).ins.tys) : evalFn lf C (orc1 30 g (orc1 38 f_ref02_Kids orc0)) 30 x = g_ref02_Deep g x := (e_ref02_Deep lf _ x).trans (by kernel_rfl)
theorem c_ref02_Deep : CallsAs C 30 f_ref02_Deep :=
  callRec fun g hg x y h => Ev.Call.mk (C := C) _ (orc1_ok hg (orc1_ok c_ref02_Kids orc0_ok)) 30 x y ((o_ref02_Deep g x).trans h)
theorem e_ref03_is (L : Lf) (R : Oracle C.sigs) (x : denP (sigAt C.sigs 65).ins.tys) : evalFn L C R 65 x = b_ref03_is L  x := by kernel_rfl
theorem o_ref03_is (x : denP (sigAt C.sigs 65).ins.tys) : evalFn lf C orc0 65 x = f_ref03_is x := (e_ref03_is lf _ x).trans (by kernel_rfl)
theorem c_ref03_is : CallsAs C 65 f_ref03_is :=
  fun x y h => Ev.Call.mk (C := C) _ orc0_ok 65 x y ((o_ref03_is x).trans h)
theorem e_ref03_while (L : Lf) (R : Oracle C.sigs) (x : denP (sigAt C.sigs 66).ins.tys) : evalFn L C R 66 x = b_ref03_while L (R 65) x := by kernel_rfl
theorem o_ref03_while (x : denP (sigAt C.sigs 66).ins.tys) : evalFn lf C (orc1 65 f_ref03_is orc0) 66 x = f_ref03_while x := (e_ref03_while lf _ x).trans (by kernel_rfl)
theorem c_ref03_while : CallsAs C 66 f_ref03_while :=
  fun x y h => Ev.Call.mk (C := C) _ (orc1_ok c_ref03_is orc0_ok) 66 x y ((o_ref03_while x).trans h)
theorem e_ref03_words (L : Lf) (R : Oracle C.sigs) (x : denP (sigAt C.sigs 80).ins.tys) : evalFn L C R 80 x = b_ref03_words L  x := by kernel_rfl
theorem o_ref03_words (x : denP (sigAt C.sigs 80).ins.tys) : evalFn lf C orc0 80 x = f_ref03_words x := (e_ref03_words lf _ x).trans (by kernel_rfl)
theorem c_ref03_words : CallsAs C 80 f_ref03_words :=
  fun x y h => Ev.Call.mk (C := C) _ orc0_ok 80 x y ((o_ref03_words x).trans h)
theorem e_ref03_Key (L : Lf) (R : Oracle C.sigs) (x : denP (sigAt C.sigs 67).ins.tys) : evalFn L C R 67 x = b_ref03_Key L (R 80) x := by kernel_rfl
theorem o_ref03_Key (x : denP (sigAt C.sigs 67).ins.tys) : evalFn lf C (orc1 80 f_ref03_words orc0) 67 x = f_ref03_Key x := (e_ref03_Key lf _ x).trans (by kernel_rfl)
theorem c_ref03_Key : CallsAs C 67 f_ref03_Key :=
  fun x y h => Ev.Call.mk (C := C) _ (orc1_ok c_ref03_words orc0_ok) 67 x y ((o_ref03_Key x).trans h)
theorem e_ref01_back (L : Lf) (R : Oracle C.sigs) (x : denP (sigAt C.sigs 81).ins.tys) : evalFn L C R 81 x = b_ref01_back L  x := by kernel_rfl
theorem o_ref01_back (x : denP (sigAt C.sigs 81).ins.tys) : evalFn lf C orc0 81 x = f_ref01_back x := (e_ref01_back lf _ x).trans (by kernel_rfl)
theorem c_ref01_back : CallsAs C 81 f_ref01_back :=
  fun x y h => Ev.Call.mk (C := C) _ orc0_ok 81 x y ((o_ref01_back x).trans h)
theorem e_ref01_Wrap (L : Lf) (R : Oracle C.sigs) (x : denP (sigAt C.sigs 68).ins.tys) : evalFn L C R 68 x = b_ref01_Wrap L (R 81) x := by kernel_rfl
theorem o_ref01_Wrap (x : denP (sigAt C.sigs 68).ins.tys) : evalFn lf C (orc1 81 f_ref01_back orc0) 68 x = f_ref01_Wrap x := (e_ref01_Wrap lf _ x).trans (by kernel_rfl)
theorem c_ref01_Wrap : CallsAs C 68 f_ref01_Wrap :=
  fun x y h => Ev.Call.mk (C := C) _ (orc1_ok c_ref01_back orc0_ok) 68 x y ((o_ref01_Wrap x).trans h)
theorem e_ref03_Right (L : Lf) (R : Oracle C.sigs) (x : denP (sigAt C.sigs 34).ins.tys) : evalFn L C R 34 x = b_ref03_Right L (R 65) (R 66) (R 67) (R 68) x := by kernel_rfl
theorem o_ref03_Right (x : denP (sigAt C.sigs 34).ins.tys) : evalFn lf C (orc1 65 f_ref03_is (orc1 66 f_ref03_while (orc1 67 f_ref03_Key (orc1 68 f_ref01_Wrap orc0)))) 34 x = f_ref03_Right x := (e_ref03_Right lf _ x).trans (by kernel_rfl)
theorem c_ref03_Right : CallsAs C 34 f_ref03_Right :=
  fun x y h => Ev.Call.mk (C := C) _ (orc1_ok c_ref03_is (orc1_ok c_ref03_while (orc1_ok c_ref03_Key (orc1_ok c_ref01_Wrap orc0_ok)))) 34 x y ((o_ref03_Right x).trans h)
theorem e_ref06_Name (L : Lf) (R : Oracle C.sigs) (x : denP (sigAt C.sigs 13).ins.tys) : evalFn L C R 13 x = b_ref06_Name L (R 34) x := by kernel_rfl
theorem o_ref06_Name (x : denP (sigAt C.sigs 13).ins.tys) : evalFn lf C (orc1 34 f_ref03_Right orc0) 13 x = f_ref06_Name x := (e_ref06_Name lf _ x).trans (by kernel_rfl)
theorem c_ref06_Name : CallsAs C 13 f_ref06_Name :=
  fun x y h => Ev.Call.mk (C := C) _ (orc1_ok c_ref03_Right orc0_ok) 13 x y ((o_ref06_Name x).trans h)
theorem e_ref06_Con (L : Lf) (R : Oracle C.sigs) (x : denP (sigAt C.sigs 15).ins.tys) : evalFn L C R 15 x = b_ref06_Con L (R 34) x := by kernel_rfl
theorem o_ref06_Con (x : denP (sigAt C.sigs 15).ins.tys) : evalFn lf C (orc1 34 f_ref03_Right orc0) 15 x = f_ref06_Con x := (e_ref06_Con lf _ x).trans (by kernel_rfl)
theorem c_ref06_Con : CallsAs C 15 f_ref06_Con :=
  fun x y h => Ev.Call.mk (C := C) _ (orc1_ok c_ref03_Right orc0_ok) 15 x y ((o_ref06_Con x).trans h)
theorem e_ref06_IsPat (L : Lf) (R : Oracle C.sigs) (x : denP (sigAt C.sigs 26).ins.tys) : evalFn L C R 26 x = b_ref06_IsPat L  x := by kernel_rfl
theorem o_ref06_IsPat (x : denP (sigAt C.sigs 26).ins.tys) : evalFn lf C orc0 26 x = f_ref06_IsPat x := (e_ref06_IsPat lf _ x).trans (by kernel_rfl)
theorem c_ref06_IsPat : CallsAs C 26 f_ref06_IsPat :=
  fun x y h => Ev.Call.mk (C := C) _ orc0_ok 26 x y ((o_ref06_IsPat x).trans h)
theorem e_ref06_sort (L : Lf) (R : Oracle C.sigs) (x : denP (sigAt C.sigs 75).ins.tys) : evalFn L C R 75 x = b_ref06_sort L  x := by kernel_rfl
theorem o_ref06_sort (x : denP (sigAt C.sigs 75).ins.tys) : evalFn lf C orc0 75 x = f_ref06_sort x := (e_ref06_sort lf _ x).trans (by kernel_rfl)
theorem c_ref06_sort : CallsAs C 75 f_ref06_sort :=
  fun x y h => Ev.Call.mk (C := C) _ orc0_ok 75 x y ((o_ref06_sort x).trans h)
theorem e_ref06_kids (L : Lf) (R : Oracle C.sigs) (x : denP (sigAt C.sigs 76).ins.tys) : evalFn L C R 76 x = b_ref06_kids L  x := by kernel_rfl
theorem o_ref06_kids (x : denP (sigAt C.sigs 76).ins.tys) : evalFn lf C orc0 76 x = f_ref06_kids x := (e_ref06_kids lf _ x).trans (by kernel_rfl)
theorem c_ref06_kids : CallsAs C 76 f_ref06_kids :=
  fun x y h => Ev.Call.mk (C := C) _ orc0_ok 76 x y ((o_ref06_kids x).trans h)
theorem e_ref06_node (L : Lf) (R : Oracle C.sigs) (x : denP (sigAt C.sigs 54).ins.tys) : evalFn L C R 54 x = b_ref06_node L (R 13) (R 15) (R 26) (R 68) (R 75) (R 76) x := by kernel_rfl
theorem o_ref06_node (x : denP (sigAt C.sigs 54).ins.tys) : evalFn lf C (orc1 13 f_ref06_Name (orc1 15 f_ref06_Con (orc1 26 f_ref06_IsPat (orc1 68 f_ref01_Wrap (orc1 75 f_ref06_sort (orc1 76 f_ref06_kids orc0)))))) 54 x = f_ref06_node x := (e_ref06_node lf _ x).trans (by kernel_rfl)
theorem c_ref06_node : CallsAs C 54 f_ref06_node :=
  fun x y h => Ev.Call.mk (C := C) _ (orc1_ok c_ref06_Name (orc1_ok c_ref06_Con (orc1_ok c_ref06_IsPat (orc1_ok c_ref01_Wrap (orc1_ok c_ref06_sort (orc1_ok c_ref06_kids orc0_ok)))))) 54 x y ((o_ref06_node x).trans h)
theorem e_ref06_nodes (L : Lf) (R : Oracle C.sigs) (x : denP (sigAt C.sigs 31).ins.tys) : evalFn L C R 31 x = b_ref06_nodes L (R 31) (R 38) (R 54) x := by kernel_rfl
theorem o_ref06_nodes (g : denP (sigAt C.sigs 31).ins.tys → Option (denP (sigAt C.sigs 31).outs.tys)) (x : denP (sigAt C.sigs 31).ins.tys) : evalFn lf C (orc1 31 g (orc1 38 f_ref02_Kids (orc1 54 f_ref06_node orc0))) 31 x = g_ref06_nodes g x := (e_ref06_nodes lf _ x).trans (by kernel_rfl)
theorem c_ref06_nodes : CallsAs C 31 f_ref06_nodes :=
  callRec fun g hg x y h => Ev.Call.mk (C := C) _ (orc1_ok hg (orc1_ok c_ref02_Kids (orc1_ok c_ref06_node orc0_ok))) 31 x y ((o_ref06_nodes g x).trans h)
theorem e_ref06_Vars (L : Lf) (R : Oracle C.sigs) (x : denP (sigAt C.sigs 19).ins.tys) : evalFn L C R 19 x = b_ref06_Vars L (R 19) (R 38) x := by kernel_rfl
theorem o_ref06_Vars (g : denP (sigAt C.sigs 19).ins.tys → Option (denP (sigAt C.sigs 19).outs.tys)) (x : denP (sigAt C.sigs 19).ins.tys) : evalFn lf C (orc1 19 g (orc1 38 f_ref02_Kids orc0)) 19 x = g_ref06_Vars g x := (e_ref06_Vars lf _ x).trans (by kernel_rfl)
theorem c_ref06_Vars : CallsAs C 19 f_ref06_Vars :=
  callRec fun g hg x y h => Ev.Call.mk (C := C) _ (orc1_ok hg (orc1_ok c_ref02_Kids orc0_ok)) 19 x y ((o_ref06_Vars g x).trans h)
theorem e_ref06_twice (L : Lf) (R : Oracle C.sigs) (x : denP (sigAt C.sigs 32).ins.tys) : evalFn L C R 32 x = b_ref06_twice L (R 19) (R 26) (R 32) (R 38) x := by kernel_rfl
theorem o_ref06_twice (g : denP (sigAt C.sigs 32).ins.tys → Option (denP (sigAt C.sigs 32).outs.tys)) (x : denP (sigAt C.sigs 32).ins.tys) : evalFn lf C (orc1 19 f_ref06_Vars (orc1 26 f_ref06_IsPat (orc1 32 g (orc1 38 f_ref02_Kids orc0)))) 32 x = g_ref06_twice g x := (e_ref06_twice lf _ x).trans (by kernel_rfl)
theorem c_ref06_twice : CallsAs C 32 f_ref06_twice :=
  callRec fun g hg x y h => Ev.Call.mk (C := C) _ (orc1_ok c_ref06_Vars (orc1_ok c_ref06_IsPat (orc1_ok hg (orc1_ok c_ref02_Kids orc0_ok)))) 32 x y ((o_ref06_twice g x).trans h)
theorem e_ref06_Check (L : Lf) (R : Oracle C.sigs) (x : denP (sigAt C.sigs 10).ins.tys) : evalFn L C R 10 x = b_ref06_Check L (R 25) (R 30) (R 31) (R 32) x := by kernel_rfl
theorem o_ref06_Check (x : denP (sigAt C.sigs 10).ins.tys) : evalFn lf C (orc1 25 f_ref02_Whole (orc1 30 f_ref02_Deep (orc1 31 f_ref06_nodes (orc1 32 f_ref06_twice orc0)))) 10 x = f_ref06_Check x := (e_ref06_Check lf _ x).trans (by kernel_rfl)
theorem c_ref06_Check : CallsAs C 10 f_ref06_Check :=
  fun x y h => Ev.Call.mk (C := C) _ (orc1_ok c_ref02_Whole (orc1_ok c_ref02_Deep (orc1_ok c_ref06_nodes (orc1_ok c_ref06_twice orc0_ok)))) 10 x y ((o_ref06_Check x).trans h)
theorem e_law06_SynChecks (L : Lf) (R : Oracle C.sigs) (x : denP (sigAt C.sigs 0).ins.tys) : evalFn L C R 0 x = b_law06_SynChecks L (R 6) (R 7) (R 8) (R 9) (R 10) (R 11) (R 12) (R 13) (R 14) (R 15) x := by kernel_rfl
theorem o_law06_SynChecks (x : denP (sigAt C.sigs 0).ins.tys) : evalFn lf C (orc1 6 f_law06_awake (orc1 7 f_ref06_Few (orc1 8 f_syn_Check (orc1 9 f_law06_Own (orc1 10 f_ref06_Check (orc1 11 f_syn_Pat (orc1 12 f_syn_Name (orc1 13 f_ref06_Name (orc1 14 f_syn_Con (orc1 15 f_ref06_Con orc0)))))))))) 0 x = f_law06_SynChecks x := (e_law06_SynChecks lf _ x).trans (by kernel_rfl)
theorem c_law06_SynChecks : CallsAs C 0 f_law06_SynChecks :=
  fun x y h => Ev.Call.mk (C := C) _ (orc1_ok c_law06_awake (orc1_ok c_ref06_Few (orc1_ok c_syn_Check (orc1_ok c_law06_Own (orc1_ok c_ref06_Check (orc1_ok c_syn_Pat (orc1_ok c_syn_Name (orc1_ok c_ref06_Name (orc1_ok c_syn_Con (orc1_ok c_ref06_Con orc0_ok)))))))))) 0 x y ((o_law06_SynChecks x).trans h)
theorem e_ref06_In (L : Lf) (R : Oracle C.sigs) (x : denP (sigAt C.sigs 24).ins.tys) : evalFn L C R 24 x = b_ref06_In L  x := by kernel_rfl
theorem o_ref06_In (x : denP (sigAt C.sigs 24).ins.tys) : evalFn lf C orc0 24 x = f_ref06_In x := (e_ref06_In lf _ x).trans (by kernel_rfl)
theorem c_ref06_In : CallsAs C 24 f_ref06_In :=
  fun x y h => Ev.Call.mk (C := C) _ orc0_ok 24 x y ((o_ref06_In x).trans h)
theorem e_ref06_less (L : Lf) (R : Oracle C.sigs) (x : denP (sigAt C.sigs 71).ins.tys) : evalFn L C R 71 x = b_ref06_less L (R 24) x := by kernel_rfl
theorem o_ref06_less (x : denP (sigAt C.sigs 71).ins.tys) : evalFn lf C (orc1 24 f_ref06_In orc0) 71 x = f_ref06_less x := (e_ref06_less lf _ x).trans (by kernel_rfl)
theorem c_ref06_less : CallsAs C 71 f_ref06_less :=
  fun x y h => Ev.Call.mk (C := C) _ (orc1_ok c_ref06_In orc0_ok) 71 x y ((o_ref06_less x).trans h)
theorem e_ref06_free (L : Lf) (R : Oracle C.sigs) (x : denP (sigAt C.sigs 37).ins.tys) : evalFn L C R 37 x = b_ref06_free L (R 19) (R 37) (R 38) (R 71) x := by kernel_rfl
theorem o_ref06_free (g : denP (sigAt C.sigs 37).ins.tys → Option (denP (sigAt C.sigs 37).outs.tys)) (x : denP (sigAt C.sigs 37).ins.tys) : evalFn lf C (orc1 19 f_ref06_Vars (orc1 37 g (orc1 38 f_ref02_Kids (orc1 71 f_ref06_less orc0)))) 37 x = g_ref06_free g x := (e_ref06_free lf _ x).trans (by kernel_rfl)
theorem c_ref06_free : CallsAs C 37 f_ref06_free :=
  callRec fun g hg x y h => Ev.Call.mk (C := C) _ (orc1_ok c_ref06_Vars (orc1_ok hg (orc1_ok c_ref02_Kids (orc1_ok c_ref06_less orc0_ok)))) 37 x y ((o_ref06_free g x).trans h)
theorem e_ref06_Free (L : Lf) (R : Oracle C.sigs) (x : denP (sigAt C.sigs 18).ins.tys) : evalFn L C R 18 x = b_ref06_Free L (R 24) (R 37) x := by kernel_rfl
theorem o_ref06_Free (x : denP (sigAt C.sigs 18).ins.tys) : evalFn lf C (orc1 24 f_ref06_In (orc1 37 f_ref06_free orc0)) 18 x = f_ref06_Free x := (e_ref06_Free lf _ x).trans (by kernel_rfl)
theorem c_ref06_Free : CallsAs C 18 f_ref06_Free :=
  fun x y h => Ev.Call.mk (C := C) _ (orc1_ok c_ref06_In (orc1_ok c_ref06_free orc0_ok)) 18 x y ((o_ref06_Free x).trans h)
theorem e_law06_SynFrees (L : Lf) (R : Oracle C.sigs) (x : denP (sigAt C.sigs 1).ins.tys) : evalFn L C R 1 x = b_law06_SynFrees L (R 6) (R 7) (R 9) (R 10) (R 16) (R 17) (R 18) (R 19) (R 20) x := by kernel_rfl
theorem o_law06_SynFrees (x : denP (sigAt C.sigs 1).ins.tys) : evalFn lf C (orc1 6 f_law06_awake (orc1 7 f_ref06_Few (orc1 9 f_law06_Own (orc1 10 f_ref06_Check (orc1 16 f_syn_Free (orc1 17 f_syn_Names (orc1 18 f_ref06_Free (orc1 19 f_ref06_Vars (orc1 20 f_ref06_Same orc0))))))))) 1 x = f_law06_SynFrees x := (e_law06_SynFrees lf _ x).trans (by kernel_rfl)
theorem c_law06_SynFrees : CallsAs C 1 f_law06_SynFrees :=
  fun x y h => Ev.Call.mk (C := C) _ (orc1_ok c_law06_awake (orc1_ok c_ref06_Few (orc1_ok c_law06_Own (orc1_ok c_ref06_Check (orc1_ok c_syn_Free (orc1_ok c_syn_Names (orc1_ok c_ref06_Free (orc1_ok c_ref06_Vars (orc1_ok c_ref06_Same orc0_ok))))))))) 1 x y ((o_law06_SynFrees x).trans h)
theorem e_law06_SynParts (L : Lf) (R : Oracle C.sigs) (x : denP (sigAt C.sigs 2).ins.tys) : evalFn L C R 2 x = b_law06_SynParts L (R 6) (R 7) (R 8) (R 9) (R 11) (R 21) x := by kernel_rfl
theorem o_law06_SynParts (x : denP (sigAt C.sigs 2).ins.tys) : evalFn lf C (orc1 6 f_law06_awake (orc1 7 f_ref06_Few (orc1 8 f_syn_Check (orc1 9 f_law06_Own (orc1 11 f_syn_Pat (orc1 21 f_tree_Sub orc0)))))) 2 x = f_law06_SynParts x := (e_law06_SynParts lf _ x).trans (by kernel_rfl)
theorem c_law06_SynParts : CallsAs C 2 f_law06_SynParts :=
  fun x y h => Ev.Call.mk (C := C) _ (orc1_ok c_law06_awake (orc1_ok c_ref06_Few (orc1_ok c_syn_Check (orc1_ok c_law06_Own (orc1_ok c_syn_Pat (orc1_ok c_tree_Sub orc0_ok)))))) 2 x y ((o_law06_SynParts x).trans h)
theorem e_tree_Make (L : Lf) (R : Oracle C.sigs) (x : denP (sigAt C.sigs 23).ins.tys) : evalFn L C R 23 x = b_tree_Make L  x := by kernel_rfl
theorem o_tree_Make (x : denP (sigAt C.sigs 23).ins.tys) : evalFn lf C orc0 23 x = f_tree_Make x := (e_tree_Make lf _ x).trans (by kernel_rfl)
theorem c_tree_Make : CallsAs C 23 f_tree_Make :=
  fun x y h => Ev.Call.mk (C := C) _ orc0_ok 23 x y ((o_tree_Make x).trans h)
theorem e_law06_SynFuns (L : Lf) (R : Oracle C.sigs) (x : denP (sigAt C.sigs 3).ins.tys) : evalFn L C R 3 x = b_law06_SynFuns L (R 6) (R 7) (R 8) (R 9) (R 12) (R 16) (R 20) (R 22) (R 23) x := by kernel_rfl
theorem o_law06_SynFuns (x : denP (sigAt C.sigs 3).ins.tys) : evalFn lf C (orc1 6 f_law06_awake (orc1 7 f_ref06_Few (orc1 8 f_syn_Check (orc1 9 f_law06_Own (orc1 12 f_syn_Name (orc1 16 f_syn_Free (orc1 20 f_ref06_Same (orc1 22 f_tree_Deep (orc1 23 f_tree_Make orc0))))))))) 3 x = f_law06_SynFuns x := (e_law06_SynFuns lf _ x).trans (by kernel_rfl)
theorem c_law06_SynFuns : CallsAs C 3 f_law06_SynFuns :=
  fun x y h => Ev.Call.mk (C := C) _ (orc1_ok c_law06_awake (orc1_ok c_ref06_Few (orc1_ok c_syn_Check (orc1_ok c_law06_Own (orc1_ok c_syn_Name (orc1_ok c_syn_Free (orc1_ok c_ref06_Same (orc1_ok c_tree_Deep (orc1_ok c_tree_Make orc0_ok))))))))) 3 x y ((o_law06_SynFuns x).trans h)
theorem e_law06_SynNames (L : Lf) (R : Oracle C.sigs) (x : denP (sigAt C.sigs 4).ins.tys) : evalFn L C R 4 x = b_law06_SynNames L (R 6) (R 7) (R 8) (R 9) (R 11) (R 12) (R 16) (R 17) (R 20) (R 22) (R 23) (R 24) (R 25) x := by kernel_rfl
theorem o_law06_SynNames (x : denP (sigAt C.sigs 4).ins.tys) : evalFn lf C (orc1 6 f_law06_awake (orc1 7 f_ref06_Few (orc1 8 f_syn_Check (orc1 9 f_law06_Own (orc1 11 f_syn_Pat (orc1 12 f_syn_Name (orc1 16 f_syn_Free (orc1 17 f_syn_Names (orc1 20 f_ref06_Same (orc1 22 f_tree_Deep (orc1 23 f_tree_Make (orc1 24 f_ref06_In (orc1 25 f_ref02_Whole orc0))))))))))))) 4 x = f_law06_SynNames x := (e_law06_SynNames lf _ x).trans (by kernel_rfl)
theorem c_law06_SynNames : CallsAs C 4 f_law06_SynNames :=
  fun x y h => Ev.Call.mk (C := C) _ (orc1_ok c_law06_awake (orc1_ok c_ref06_Few (orc1_ok c_syn_Check (orc1_ok c_law06_Own (orc1_ok c_syn_Pat (orc1_ok c_syn_Name (orc1_ok c_syn_Free (orc1_ok c_syn_Names (orc1_ok c_ref06_Same (orc1_ok c_tree_Deep (orc1_ok c_tree_Make (orc1_ok c_ref06_In (orc1_ok c_ref02_Whole orc0_ok))))))))))))) 4 x y ((o_law06_SynNames x).trans h)
theorem e_slices_Index (L : Lf) (R : Oracle C.sigs) (x : denP (sigAt C.sigs 72).ins.tys) : evalFn L C R 72 x = b_slices_Index L  x := by kernel_rfl
theorem o_slices_Index (x : denP (sigAt C.sigs 72).ins.tys) : evalFn lf C orc0 72 x = f_slices_Index x := (e_slices_Index lf _ x).trans (by kernel_rfl)
theorem c_slices_Index : CallsAs C 72 f_slices_Index :=
  fun x y h => Ev.Call.mk (C := C) _ orc0_ok 72 x y ((o_slices_Index x).trans h)
theorem e_slices_Contains (L : Lf) (R : Oracle C.sigs) (x : denP (sigAt C.sigs 43).ins.tys) : evalFn L C R 43 x = b_slices_Contains L (R 72) x := by kernel_rfl
theorem o_slices_Contains (x : denP (sigAt C.sigs 43).ins.tys) : evalFn lf C (orc1 72 f_slices_Index orc0) 43 x = f_slices_Contains x := (e_slices_Contains lf _ x).trans (by kernel_rfl)
theorem c_slices_Contains : CallsAs C 43 f_slices_Contains :=
  fun x y h => Ev.Call.mk (C := C) _ (orc1_ok c_slices_Index orc0_ok) 43 x y ((o_slices_Contains x).trans h)
theorem e_tree_Kids (L : Lf) (R : Oracle C.sigs) (x : denP (sigAt C.sigs 44).ins.tys) : evalFn L C R 44 x = b_tree_Kids L (R 39) x := by kernel_rfl
theorem o_tree_Kids (x : denP (sigAt C.sigs 44).ins.tys) : evalFn lf C (orc1 39 f_tree_End orc0) 44 x = f_tree_Kids x := (e_tree_Kids lf _ x).trans (by kernel_rfl)
theorem c_tree_Kids : CallsAs C 44 f_tree_Kids :=
  fun x y h => Ev.Call.mk (C := C) _ (orc1_ok c_tree_End orc0_ok) 44 x y ((o_tree_Kids x).trans h)
theorem e_tree_Up_1 (L : Lf) (R : Oracle C.sigs) (x : denP (sigAt C.sigs 42).ins.tys) : evalFn L C R 42 x = b_tree_Up_1 L (R 43) (R 44) x := by kernel_rfl
theorem o_tree_Up_1 (x : denP (sigAt C.sigs 42).ins.tys) : evalFn lf C (orc1 43 f_slices_Contains (orc1 44 f_tree_Kids orc0)) 42 x = f_tree_Up_1 x := (e_tree_Up_1 lf _ x).trans (by kernel_rfl)
theorem c_tree_Up_1 : CallsAs C 42 f_tree_Up_1 :=
  fun x y h => Ev.Call.mk (C := C) _ (orc1_ok c_slices_Contains (orc1_ok c_tree_Kids orc0_ok)) 42 x y ((o_tree_Up_1 x).trans h)
theorem e_tree_Up (L : Lf) (R : Oracle C.sigs) (x : denP (sigAt C.sigs 27).ins.tys) : evalFn L C R 27 x = b_tree_Up L (R 40) (R 42) x := by kernel_rfl
theorem o_tree_Up (x : denP (sigAt C.sigs 27).ins.tys) : evalFn lf C (orc1 40 f_tree_Whole (orc1 42 f_tree_Up_1 orc0)) 27 x = f_tree_Up x := (e_tree_Up lf _ x).trans (by kernel_rfl)
theorem c_tree_Up : CallsAs C 27 f_tree_Up :=
  fun x y h => Ev.Call.mk (C := C) _ (orc1_ok c_tree_Whole (orc1_ok c_tree_Up_1 orc0_ok)) 27 x y ((o_tree_Up x).trans h)
theorem c_slices_Grow : CallsAs C 73 f_slices_Grow := c_grow
theorem e_slices_Concat (L : Lf) (R : Oracle C.sigs) (x : denP (sigAt C.sigs 45).ins.tys) : evalFn L C R 45 x = b_slices_Concat L (R 73) x := by kernel_rfl
theorem o_slices_Concat (x : denP (sigAt C.sigs 45).ins.tys) : evalFn lf C (orc1 73 f_slices_Grow orc0) 45 x = f_slices_Concat x := (e_slices_Concat lf _ x).trans (by kernel_rfl)
theorem c_slices_Concat : CallsAs C 45 f_slices_Concat :=
  fun x y h => Ev.Call.mk (C := C) _ (orc1_ok c_slices_Grow orc0_ok) 45 x y ((o_slices_Concat x).trans h)
theorem e_tree_Put (L : Lf) (R : Oracle C.sigs) (x : denP (sigAt C.sigs 28).ins.tys) : evalFn L C R 28 x = b_tree_Put L (R 39) (R 40) (R 45) x := by kernel_rfl
theorem o_tree_Put (x : denP (sigAt C.sigs 28).ins.tys) : evalFn lf C (orc1 39 f_tree_End (orc1 40 f_tree_Whole (orc1 45 f_slices_Concat orc0))) 28 x = f_tree_Put x := (e_tree_Put lf _ x).trans (by kernel_rfl)
theorem c_tree_Put : CallsAs C 28 f_tree_Put :=
  fun x y h => Ev.Call.mk (C := C) _ (orc1_ok c_tree_End (orc1_ok c_tree_Whole (orc1_ok c_slices_Concat orc0_ok))) 28 x y ((o_tree_Put x).trans h)
theorem e_law06_SynPuts (L : Lf) (R : Oracle C.sigs) (x : denP (sigAt C.sigs 5).ins.tys) : evalFn L C R 5 x = b_law06_SynPuts L (R 6) (R 7) (R 8) (R 9) (R 22) (R 26) (R 27) (R 28) x := by kernel_rfl
theorem o_law06_SynPuts (x : denP (sigAt C.sigs 5).ins.tys) : evalFn lf C (orc1 6 f_law06_awake (orc1 7 f_ref06_Few (orc1 8 f_syn_Check (orc1 9 f_law06_Own (orc1 22 f_tree_Deep (orc1 26 f_ref06_IsPat (orc1 27 f_tree_Up (orc1 28 f_tree_Put orc0)))))))) 5 x = f_law06_SynPuts x := (e_law06_SynPuts lf _ x).trans (by kernel_rfl)
theorem c_law06_SynPuts : CallsAs C 5 f_law06_SynPuts :=
  fun x y h => Ev.Call.mk (C := C) _ (orc1_ok c_law06_awake (orc1_ok c_ref06_Few (orc1_ok c_syn_Check (orc1_ok c_law06_Own (orc1_ok c_tree_Deep (orc1_ok c_ref06_IsPat (orc1_ok c_tree_Up (orc1_ok c_tree_Put orc0_ok)))))))) 5 x y ((o_law06_SynPuts x).trans h)

theorem tabOk : tabChk C C.tab = true := by kernel_rfl
theorem eqsOk : eqChk C C.eqs = true := by kernel_rfl
theorem namesGood : namesOk C C.sigs = true := by kernel_rfl
theorem mixed : C.P.follows .mixedOrders = true := by kernel_rfl
theorem calls {i : Nat} {x : denP (sigAt C.sigs i).ins.tys} {y : denP (sigAt C.sigs i).outs.tys} (h : Ev.Call C i x y) : FnOk C i x y := calls_ok tabOk eqsOk namesGood mixed h
theorem globOk : GlobOk C Rows.synChecksRow.laid := by
  refine ⟨by kernel_rfl, fun g t x h => ?_⟩
  match g with
  | 0 =>
    cases h
    exact ⟨_, _, 112, List.Mem.tail _ (List.Mem.head _), by kernel_rfl, by kernel_rfl, by kernel_rfl, rfl, by kernel_rfl⟩
  | n + 1 => cases h
theorem seatOk : SeatOk C Rows.synChecksRow.laid := seatOk_of tabOk (by kernel_rfl) (by kernel_rfl) (by kernel_rfl) globOk
end Go.Proofs.YtndklpaccohbcaaDoor.Seat
