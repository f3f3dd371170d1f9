/- The functions of this seat as data: each is what the model's code gives, by the kernel's reckoning over the verified evaluator. No statement of its own about the program. -/
import Derived.Test.YtnihgcgcdjdhiaaGreatDoorFnA
import Derived.Test.YtnihgcgcdjdhiaaGreatDoorEvJ
import Derived.Test.YtnihgcgcdjdhiaaGreatDoorProg
import Derived.Test.YtnihgcgcdjdhiaaGreatDoorSlp
import Derived.Sort.EveryDepth
import Derived.Test.YtnihgcgcdjdhiaaGreatDoorRows
import Derived.KernelRfl
namespace Go.Proofs.YtnihgcgcdjdhiaaGreatDoor.Seat
open Go Go.Proofs Go.Shelf Go.RowKit Go.Sort Ev Ev.Fn
abbrev t2 : Ty := .int .i64
abbrev t3 : Ty := .st (.pair t2 (.pair .str (.pair t2 t2)))
abbrev t0 : Ty := .sl t3
abbrev t4 : Ty := .st (.pair .str (.sl t0))
abbrev t1 : Ty := .st (.pair .str (.pair t2 (.sl t4)))
abbrev t5 : Ty := .sl (.sl t0)
abbrev t6 : Ty := .st (.pair (.int .u16) (.pair (.int .u16) (.int .u16)))
abbrev t7 : Ty := .st (.pair (.int .u32) (.pair (.int .u32) (.int .u32)))
abbrev t8 : Ty := .st (.pair .str t0)
abbrev t9 : Ty := .st (.pair t2 t0)
abbrev ta : Ty := .int .u8
def sigs : List Sig := [
 ⟨3, ⟨[.d (.sl t1), .d t0, .d t0, .d t0, .d .str], []⟩, ⟨[.d .bool], []⟩, []⟩,
 ⟨4, ⟨[.d t0, .d t0, .d (.sl t0)], []⟩, ⟨[.d .bool], []⟩, []⟩,
 ⟨7, ⟨[.d (.sl t1), .d t0, .d (.sl t0), .d t0], []⟩, ⟨[.d .bool], []⟩, []⟩,
 ⟨8, ⟨[.d (.sl t1), .d t0, .d t0, .d t0], []⟩, ⟨[.d .bool], []⟩, []⟩,
 ⟨9, ⟨[], []⟩, ⟨[.d .bool], []⟩, []⟩,
 ⟨10, ⟨[.d (.sl t1), .d t0, .d (.sl t0)], []⟩, ⟨[.d .bool], []⟩, []⟩,
 ⟨11, ⟨[.d (.sl t1), .d t0, .d t0], []⟩, ⟨[.d .bool], []⟩, []⟩,
 ⟨12, ⟨[.d (.sl t1), .d t0, .d .str], []⟩, ⟨[.d (.sl t0), .d .bool], []⟩, []⟩,
 ⟨13, ⟨[.d t0], []⟩, ⟨[.d t0], []⟩, []⟩,
 ⟨14, ⟨[.d (.sl t1), .d t0, .d t0], []⟩, ⟨[.d t2], []⟩, []⟩,
 ⟨15, ⟨[.d (.sl t1), .d t0, .d t0], []⟩, ⟨[.d .bool], []⟩, []⟩,
 ⟨16, ⟨[.d (.sl t1), .d t0, .d t0], []⟩, ⟨[.d .bool], []⟩, []⟩,
 ⟨17, ⟨[.d (.sl t1), .d t0, .d .str], []⟩, ⟨[.d (.sl t0), .d .bool], []⟩, []⟩,
 ⟨18, ⟨[.d (.sl t0), .d (.sl t0)], []⟩, ⟨[.d .bool], []⟩, []⟩,
 ⟨19, ⟨[.d (.sl t0)], []⟩, ⟨[.d .bool], []⟩, []⟩,
 ⟨20, ⟨[.d t0, .d t0], []⟩, ⟨[.d (.sl t8), .d .bool], []⟩, []⟩,
 ⟨21, ⟨[.d t0, .d t0], []⟩, ⟨[.d (.sl t8), .d .bool], []⟩, []⟩,
 ⟨22, ⟨[.d (.sl t8), .d (.sl t8)], []⟩, ⟨[.d .bool], []⟩, []⟩,
 ⟨23, ⟨[.d (.sl t0), .d t0], []⟩, ⟨[.d t2], []⟩, []⟩,
 ⟨24, ⟨[.d (.sl t0)], []⟩, ⟨[.d (.sl t0)], []⟩, []⟩,
 ⟨25, ⟨[.d (.sl t0), .d t0], []⟩, ⟨[.d t2], []⟩, []⟩,
 ⟨26, ⟨[.d (.sl t1), .d t0, .d (.sl t0)], []⟩, ⟨[.d t0, .d .bool, .d t2], []⟩, []⟩,
 ⟨29, ⟨[.d (.sl t1), .d t0, .d (.sl t0)], []⟩, ⟨[.d (.sl t2), .d t2], []⟩, []⟩,
 ⟨30, ⟨[.d (.sl t2), .d (.sl t2)], []⟩, ⟨[.d .bool], []⟩, []⟩,
 ⟨31, ⟨[.d t0], []⟩, ⟨[.d .bool], []⟩, []⟩,
 ⟨32, ⟨[], []⟩, ⟨[.d (.sl t1)], []⟩, []⟩,
 ⟨33, ⟨[.d (.sl t1)], []⟩, ⟨[.d .bool], []⟩, []⟩,
 ⟨34, ⟨[.d (.sl t1)], []⟩, ⟨[.d t2], []⟩, []⟩,
 ⟨35, ⟨[.d t0], []⟩, ⟨[.d .bool], []⟩, []⟩,
 ⟨36, ⟨[.d t0, .d .bool], []⟩, ⟨[.d t2], []⟩, []⟩,
 ⟨37, ⟨[.d (.sl t1), .d t0, .d t0, .d t2], []⟩, ⟨[.d .bool], []⟩, []⟩,
 ⟨38, ⟨[.d (.sl t1)], []⟩, ⟨[.d t2], []⟩, []⟩,
 ⟨39, ⟨[.d t0], []⟩, ⟨[.d t2], []⟩, []⟩,
 ⟨40, ⟨[.d (.sl t1), .d t0, .d .str], []⟩, ⟨[.d (.sl t0), .d .bool], []⟩, []⟩,
 ⟨41, ⟨[.d t0], []⟩, ⟨[.d t2], []⟩, []⟩,
 ⟨42, ⟨[.d (.sl t1), .d t0, .d t0], []⟩, ⟨[.d .bool], []⟩, []⟩,
 ⟨43, ⟨[.d t0], []⟩, ⟨[.d .bool], []⟩, []⟩,
 ⟨44, ⟨[.d (.sl t1), .d t0, .d t0], []⟩, ⟨[.d .bool], []⟩, []⟩,
 ⟨45, ⟨[.d t0, .d t2], []⟩, ⟨[.d (.sl t2)], []⟩, []⟩,
 ⟨46, ⟨[.d t0, .d t2], []⟩, ⟨[.d t0], []⟩, []⟩,
 ⟨47, ⟨[.d (.sl t9), .d t0], []⟩, ⟨[.d t0], []⟩, []⟩,
 ⟨48, ⟨[.d t0, .d t0], []⟩, ⟨[.d .bool], []⟩, []⟩,
 ⟨49, ⟨[.d .str, .d t0, .ptr 0 0], [.box [.osl 1], .vec t8]⟩, ⟨[], [.box [.osl 2], .gone, .vec t8]⟩, [0]⟩,
 ⟨50, ⟨[.d t0], []⟩, ⟨[.d t0], []⟩, []⟩,
 ⟨51, ⟨[.d t0, .d t0, .fn 49 [.ptr 0 0]], [.box [.osl 1], .vec t8]⟩, ⟨[.d .bool], [.box [.osl 2], .gone, .vec t8]⟩, [0]⟩,
 ⟨52, ⟨[.d t0, .d t2, .d t0, .d t2], []⟩, ⟨[.d (.sl t8), .d .bool], []⟩, []⟩,
 ⟨53, ⟨[.d (.sl t0), .fn 84 [.ptr 0 0]], [.box [.fn 79 [.ptr 1 0]], .box [.d (.sl t1)]]⟩, ⟨[.d t2], [.box [.fn 79 [.ptr 1 0]], .box [.d (.sl t1)]]⟩, [0, 1]⟩,
 ⟨53, ⟨[.d (.sl t0), .fn 137 [.ptr 0 0]], [.box [.fn 133 [.ptr 1 0]], .box [.d .str, .d t2, .d (.sl t4)]]⟩, ⟨[.d t2], [.box [.fn 133 [.ptr 1 0]], .box [.d .str, .d t2, .d (.sl t4)]]⟩, [0, 1]⟩,
 ⟨53, ⟨[.d (.sl t0), .fn 54 [.ref t0]], []⟩, ⟨[.d t2], []⟩, []⟩,
 ⟨54, ⟨[.d t0, .ref t0], []⟩, ⟨[.d .bool], []⟩, []⟩,
 ⟨55, ⟨[.d (.sl t1), .d t0, .d (.sl t0)], []⟩, ⟨[.d t2], []⟩, []⟩,
 ⟨56, ⟨[.ptr 0 0, .d (.sl t0), .d t5], [.box [.d (.sl t1)]]⟩, ⟨[.d (.sl t0), .d .bool], [.box [.d (.sl t1)]]⟩, [0]⟩,
 ⟨57, ⟨[.d (.sl t0)], []⟩, ⟨[.d t5], []⟩, []⟩,
 ⟨59, ⟨[.ptr 0 0, .d (.sl t0), .d t5, .d (.sl t0)], [.box [.d (.sl t1)]]⟩, ⟨[.d .bool], [.box [.d (.sl t1)]]⟩, [0]⟩,
 ⟨60, ⟨[.d t0], []⟩, ⟨[.d .bool], []⟩, []⟩,
 ⟨61, ⟨[.d t2], []⟩, ⟨[.d t2], []⟩, []⟩,
 ⟨62, ⟨[.d .str], []⟩, ⟨[.d .bool], []⟩, []⟩,
 ⟨63, ⟨[.d t1], []⟩, ⟨[.d .bool], []⟩, []⟩,
 ⟨64, ⟨[.d (.sl t1)], []⟩, ⟨[.d (.sl .str)], []⟩, []⟩,
 ⟨65, ⟨[.d .str], []⟩, ⟨[.d .bool], []⟩, []⟩,
 ⟨66, ⟨[.d (.sl t1), .d t3], []⟩, ⟨[.d .bool], []⟩, []⟩,
 ⟨67, ⟨[.d t3], []⟩, ⟨[.d .bool], []⟩, []⟩,
 ⟨68, ⟨[.d t0, .d t2], []⟩, ⟨[.d t2], []⟩, []⟩,
 ⟨69, ⟨[.d t0, .d t2, .d .bool], []⟩, ⟨[.d t2], []⟩, []⟩,
 ⟨70, ⟨[.d t0, .d t2], []⟩, ⟨[.d .bool], []⟩, []⟩,
 ⟨71, ⟨[.d (.sl t1), .fn 72 []], []⟩, ⟨[.d .bool], []⟩, []⟩,
 ⟨71, ⟨[.d (.sl t1), .fn 81 [.ref t3]], []⟩, ⟨[.d .bool], []⟩, []⟩,
 ⟨72, ⟨[.d t1], []⟩, ⟨[.d .bool], []⟩, []⟩,
 ⟨73, ⟨[.d t1], []⟩, ⟨[.d .bool], []⟩, []⟩,
 ⟨74, ⟨[.d (.sl t1), .fn 72 []], []⟩, ⟨[.d t2], []⟩, []⟩,
 ⟨74, ⟨[.d (.sl t1), .fn 75 [.ref t1]], []⟩, ⟨[.d t2], []⟩, []⟩,
 ⟨74, ⟨[.d (.sl t1), .fn 81 [.ref t3]], []⟩, ⟨[.d t2], []⟩, []⟩,
 ⟨74, ⟨[.d (.sl t1), .fn 141 [.ref t0]], []⟩, ⟨[.d t2], []⟩, []⟩,
 ⟨75, ⟨[.d t1, .ref t1], []⟩, ⟨[.d .bool], []⟩, []⟩,
 ⟨76, ⟨[.d t2, .d t2, .ptr 0 0], [.box [.d (.sl t1)]]⟩, ⟨[.d .bool], [.box [.d (.sl t1)]]⟩, [0]⟩,
 ⟨77, ⟨[.d (.sl t1), .d .str], []⟩, ⟨[.d t2, .d t2, .d .bool], []⟩, []⟩,
 ⟨78, ⟨[.d (.sl t1), .fn 76 [.ptr 0 0]], [.box [.d (.sl t1)]]⟩, ⟨[.d .bool], [.box [.d (.sl t1)]]⟩, [0]⟩,
 ⟨78, ⟨[.d (.sl t1), .fn 82 [.ptr 0 0, .ptr 1 0]], [.box [.d (.sl t1)], .box [.fn 79 [.ptr 0 0]]]⟩, ⟨[.d .bool], [.box [.d (.sl t1)], .box [.fn 79 [.ptr 0 0]]]⟩, [0, 1]⟩,
 ⟨78, ⟨[.d (.sl t1), .fn 138 [.ref (.sl t1), .ref .str, .ptr 0 0, .ptr 1 0]], [.box [.d t2], .box [.d t2]]⟩, ⟨[.d .bool], [.box [.d t2], .box [.d t2]]⟩, [0, 1]⟩,
 ⟨79, ⟨[.d t3, .ptr 0 0], [.box [.d (.sl t1)]]⟩, ⟨[.d .bool], [.box [.d (.sl t1)]]⟩, [0]⟩,
 ⟨80, ⟨[.d .str], []⟩, ⟨[.d .bool], []⟩, []⟩,
 ⟨81, ⟨[.d t1, .ref t3], []⟩, ⟨[.d .bool], []⟩, []⟩,
 ⟨82, ⟨[.d t2, .d t2, .ptr 0 0, .ptr 1 0], [.box [.d (.sl t1)], .box [.fn 79 [.ptr 0 0]]]⟩, ⟨[.d .bool], [.box [.d (.sl t1)], .box [.fn 79 [.ptr 0 0]]]⟩, [0, 1]⟩,
 ⟨83, ⟨[.d (.sl t0), .fn 84 [.ptr 0 0]], [.box [.fn 79 [.ptr 1 0]], .box [.d (.sl t1)]]⟩, ⟨[.d .bool], [.box [.fn 79 [.ptr 1 0]], .box [.d (.sl t1)]]⟩, [0, 1]⟩,
 ⟨83, ⟨[.d (.sl t0), .fn 137 [.ptr 0 0]], [.box [.fn 133 [.ptr 1 0]], .box [.d .str, .d t2, .d (.sl t4)]]⟩, ⟨[.d .bool], [.box [.fn 133 [.ptr 1 0]], .box [.d .str, .d t2, .d (.sl t4)]]⟩, [0, 1]⟩,
 ⟨84, ⟨[.d t0, .ptr 0 0], [.box [.fn 79 [.ptr 1 0]], .box [.d (.sl t1)]]⟩, ⟨[.d .bool], [.box [.fn 79 [.ptr 1 0]], .box [.d (.sl t1)]]⟩, [0, 1]⟩,
 ⟨85, ⟨[.d t0, .fn 87 []], []⟩, ⟨[.d .bool], []⟩, []⟩,
 ⟨85, ⟨[.d t0, .fn 98 []], []⟩, ⟨[.d .bool], []⟩, []⟩,
 ⟨85, ⟨[.d t0, .fn 79 [.ptr 0 0]], [.box [.d (.sl t1)]]⟩, ⟨[.d .bool], [.box [.d (.sl t1)]]⟩, [0]⟩,
 ⟨86, ⟨[.d t0], []⟩, ⟨[.d .bool], []⟩, []⟩,
 ⟨87, ⟨[.d t3], []⟩, ⟨[.d .bool], []⟩, []⟩,
 ⟨88, ⟨[.d t3], []⟩, ⟨[.d .bool], []⟩, []⟩,
 ⟨89, ⟨[.d (.sl t1), .d t0], []⟩, ⟨[.d t1, .d .bool], []⟩, []⟩,
 ⟨90, ⟨[.d (.sl t4), .fn 91 [.ref .str]], []⟩, ⟨[.d t2], []⟩, []⟩,
 ⟨90, ⟨[.d (.sl t4), .fn 107 [.ptr 0 0]], [.box [.fn 104 [.ptr 1 0]], .box [.d t5]]⟩, ⟨[.d t2], [.box [.fn 104 [.ptr 1 0]], .box [.d t5]]⟩, [0, 1]⟩,
 ⟨90, ⟨[.d (.sl t4), .fn 123 [.ptr 0 0]], [.box [.fn 120 [.ptr 1 0]], .box [.d t5]]⟩, ⟨[.d t2], [.box [.fn 120 [.ptr 1 0]], .box [.d t5]]⟩, [0, 1]⟩,
 ⟨90, ⟨[.d (.sl t4), .fn 124 [.ptr 0 0, .ptr 1 0, .ptr 2 0, .ptr 3 0, .ptr 4 0]], [.box [.ptr 5 0], .box [.d t0], .box [.d (.sl t0)], .box [.d t5], .box [.d (.sl t0)], .box [.d (.sl t1)]]⟩, ⟨[.d t2], [.box [.ptr 5 0], .box [.d t0], .box [.d (.sl t0)], .box [.d t5], .box [.d (.sl t0)], .box [.d (.sl t1)]]⟩, [0, 1, 2, 3, 4, 5]⟩,
 ⟨91, ⟨[.d t4, .ref .str], []⟩, ⟨[.d .bool], []⟩, []⟩,
 ⟨92, ⟨[.d t0, .d t2], []⟩, ⟨[.d (.sl t2)], []⟩, []⟩,
 ⟨93, ⟨[.d t0, .d t2], []⟩, ⟨[.d t2], []⟩, []⟩,
 ⟨94, ⟨[.d (.sl t9), .d t0], []⟩, ⟨[.d t0], []⟩, []⟩,
 ⟨95, ⟨[.d t0, .d .bool], []⟩, ⟨[.d t2], []⟩, []⟩,
 ⟨96, ⟨[.d (.sl t1), .d t0, .d t0, .fn 97 [.ref (.sl t1)]], []⟩, ⟨[.d .bool], []⟩, []⟩,
 ⟨96, ⟨[.d (.sl t1), .d t0, .d t0, .fn 100 [.ref (.sl t1)]], []⟩, ⟨[.d .bool], []⟩, []⟩,
 ⟨97, ⟨[.d t0, .d t0, .ref (.sl t1)], []⟩, ⟨[.d .bool], []⟩, []⟩,
 ⟨98, ⟨[.d t3], []⟩, ⟨[.d .bool], []⟩, []⟩,
 ⟨99, ⟨[.d t3], []⟩, ⟨[.d .bool], []⟩, []⟩,
 ⟨100, ⟨[.d t0, .d t0, .ref (.sl t1)], []⟩, ⟨[.d .bool], []⟩, []⟩,
 ⟨101, ⟨[.d t0, .d t2], []⟩, ⟨[.d t2], []⟩, []⟩,
 ⟨102, ⟨[.d t0], []⟩, ⟨[.d (.sl t0)], []⟩, []⟩,
 ⟨103, ⟨[], []⟩, ⟨[.d t0], []⟩, []⟩,
 ⟨104, ⟨[.d t2, .d .str, .d t2, .ptr 0 0], [.box [.d t5]]⟩, ⟨[.d .bool], [.box [.d t5]]⟩, [0]⟩,
 ⟨105, ⟨[.d t5, .fn 106 [.ref t2, .ref .str, .ref t2]], []⟩, ⟨[.d .bool], []⟩, []⟩,
 ⟨105, ⟨[.d t5, .fn 112 []], []⟩, ⟨[.d .bool], []⟩, []⟩,
 ⟨105, ⟨[.d t5, .fn 121 [.ref t4]], []⟩, ⟨[.d .bool], []⟩, []⟩,
 ⟨106, ⟨[.d (.sl t0), .ref t2, .ref .str, .ref t2], []⟩, ⟨[.d .bool], []⟩, []⟩,
 ⟨107, ⟨[.d t4, .ptr 0 0], [.box [.fn 104 [.ptr 1 0]], .box [.d t5]]⟩, ⟨[.d .bool], [.box [.fn 104 [.ptr 1 0]], .box [.d t5]]⟩, [0, 1]⟩,
 ⟨108, ⟨[.d t5], []⟩, ⟨[.osl 0], [.vec t0]⟩, []⟩,
 ⟨109, ⟨[.d t5, .d t3, .d t2], []⟩, ⟨[.d t5], []⟩, []⟩,
 ⟨110, ⟨[.d t3, .d (.sl t0)], []⟩, ⟨[.osl 0], [.vec t3]⟩, []⟩,
 ⟨111, ⟨[.d t5], []⟩, ⟨[.d t5], []⟩, []⟩,
 ⟨112, ⟨[.d (.sl t0)], []⟩, ⟨[.d .bool], []⟩, []⟩,
 ⟨113, ⟨[.d t0], []⟩, ⟨[.d .bool], []⟩, []⟩,
 ⟨114, ⟨[.d t2], []⟩, ⟨[.d (.sl t0)], []⟩, []⟩,
 ⟨120, ⟨[.d t4, .ptr 0 0], [.box [.d t5]]⟩, ⟨[.d .bool], [.box [.d t5]]⟩, [0]⟩,
 ⟨121, ⟨[.d (.sl t0), .ref t4], []⟩, ⟨[.d .bool], []⟩, []⟩,
 ⟨122, ⟨[.d (.sl t4), .fn 123 [.ptr 0 0]], [.box [.fn 120 [.ptr 1 0]], .box [.d t5]]⟩, ⟨[.d .bool], [.box [.fn 120 [.ptr 1 0]], .box [.d t5]]⟩, [0, 1]⟩,
 ⟨122, ⟨[.d (.sl t4), .fn 124 [.ptr 0 0, .ptr 1 0, .ptr 2 0, .ptr 3 0, .ptr 4 0]], [.box [.ptr 5 0], .box [.d t0], .box [.d (.sl t0)], .box [.d t5], .box [.d (.sl t0)], .box [.d (.sl t1)]]⟩, ⟨[.d .bool], [.box [.ptr 5 0], .box [.d t0], .box [.d (.sl t0)], .box [.d t5], .box [.d (.sl t0)], .box [.d (.sl t1)]]⟩, [0, 1, 2, 3, 4, 5]⟩,
 ⟨123, ⟨[.d t4, .ptr 0 0], [.box [.fn 120 [.ptr 1 0]], .box [.d t5]]⟩, ⟨[.d .bool], [.box [.fn 120 [.ptr 1 0]], .box [.d t5]]⟩, [0, 1]⟩,
 ⟨124, ⟨[.d t4, .ptr 0 0, .ptr 1 0, .ptr 2 0, .ptr 3 0, .ptr 4 0], [.box [.ptr 5 0], .box [.d t0], .box [.d (.sl t0)], .box [.d t5], .box [.d (.sl t0)], .box [.d (.sl t1)]]⟩, ⟨[.d .bool], [.box [.ptr 5 0], .box [.d t0], .box [.d (.sl t0)], .box [.d t5], .box [.d (.sl t0)], .box [.d (.sl t1)]]⟩, [0, 1, 2, 3, 4, 5]⟩,
 ⟨125, ⟨[.d (.int .u64)], []⟩, ⟨[.d t2], []⟩, []⟩,
 ⟨126, ⟨[.d t0], []⟩, ⟨[.d (.sl t2)], []⟩, []⟩,
 ⟨127, ⟨[.d ta], []⟩, ⟨[.d t2], []⟩, []⟩,
 ⟨128, ⟨[.d .str, .d t2, .d t2, .d t2], []⟩, ⟨[.d t2], []⟩, []⟩,
 ⟨129, ⟨[.d .str], []⟩, ⟨[.d .bool], []⟩, []⟩,
 ⟨130, ⟨[.d t0, .d t2, .d .bool], []⟩, ⟨[.d t2], []⟩, []⟩,
 ⟨131, ⟨[.d t2], []⟩, ⟨[.d .bool], []⟩, []⟩,
 ⟨132, ⟨[.d t0, .d t2], []⟩, ⟨[.osl 0], [.vec .str]⟩, []⟩,
 ⟨133, ⟨[.d t0, .ptr 0 0], [.box [.d .str, .d t2, .d (.sl t4)]]⟩, ⟨[.d .bool], [.box [.d .str, .d t2, .d (.sl t4)]]⟩, [0]⟩,
 ⟨134, ⟨[.d t2, .ptr 0 0], [.box [.d .str, .d t2, .d (.sl t4)]]⟩, ⟨[.d .bool], [.box [.d .str, .d t2, .d (.sl t4)]]⟩, [0]⟩,
 ⟨135, ⟨[.d (.sl t2), .fn 134 [.ptr 0 0]], [.box [.d .str, .d t2, .d (.sl t4)]]⟩, ⟨[.d .bool], [.box [.d .str, .d t2, .d (.sl t4)]]⟩, [0]⟩,
 ⟨136, ⟨[.d t0], []⟩, ⟨[.d (.sl t2)], []⟩, []⟩,
 ⟨137, ⟨[.d t0, .ptr 0 0], [.box [.fn 133 [.ptr 1 0]], .box [.d .str, .d t2, .d (.sl t4)]]⟩, ⟨[.d .bool], [.box [.fn 133 [.ptr 1 0]], .box [.d .str, .d t2, .d (.sl t4)]]⟩, [0, 1]⟩,
 ⟨138, ⟨[.d t2, .d t2, .ref (.sl t1), .ref .str, .ptr 0 0, .ptr 1 0], [.box [.d t2], .box [.d t2]]⟩, ⟨[.d .bool], [.box [.d t2], .box [.d t2]]⟩, [0, 1]⟩,
 ⟨139, ⟨[.d t3], []⟩, ⟨[.d .bool], []⟩, []⟩,
 ⟨140, ⟨[.d t0, .fn 87 []], []⟩, ⟨[.d t2], []⟩, []⟩,
 ⟨140, ⟨[.d t0, .fn 98 []], []⟩, ⟨[.d t2], []⟩, []⟩,
 ⟨140, ⟨[.d t0, .fn 79 [.ptr 0 0]], [.box [.d (.sl t1)]]⟩, ⟨[.d t2], [.box [.d (.sl t1)]]⟩, [0]⟩,
 ⟨141, ⟨[.d t1, .ref t0], []⟩, ⟨[.d .bool], []⟩, []⟩,
 ⟨142, ⟨[.d (.sl t9), .fn 143 [.ref t3]], []⟩, ⟨[.d t2], []⟩, []⟩,
 ⟨143, ⟨[.d t9, .ref t3], []⟩, ⟨[.d .bool], []⟩, []⟩,
 ⟨144, ⟨[.d t0], []⟩, ⟨[.d t2], []⟩, []⟩,
 ⟨145, ⟨[.d t0, .d t2, .d .bool, .fn 146 [.ref t0]], []⟩, ⟨[.d t2, .d t2], []⟩, []⟩,
 ⟨146, ⟨[.d t2, .d .bool, .ref t0], []⟩, ⟨[.d t2], []⟩, []⟩,
 ⟨147, ⟨[.d t0, .d t2, .d .bool], []⟩, ⟨[.d t2], []⟩, []⟩,
 ⟨148, ⟨[.d t2, .ref t0], []⟩, ⟨[.d .bool], []⟩, []⟩,
 ⟨149, ⟨[.d t0, .d t2], []⟩, ⟨[.d t0, .d t2], []⟩, []⟩,
 ⟨150, ⟨[.d t0], []⟩, ⟨[.osl 0], [.vec .str]⟩, []⟩,
 ⟨151, ⟨[.osl 0], [.vec .str]⟩, ⟨[], [.vec .str]⟩, [0]⟩,
 ⟨152, ⟨[.osl 0], [.vec .str]⟩, ⟨[.osl 1], [.gone, .vec .str]⟩, []⟩,
 ⟨153, ⟨[.d t0], []⟩, ⟨[.d t2], []⟩, []⟩,
 ⟨154, ⟨[.d t2], []⟩, ⟨[.d .bool], []⟩, []⟩,
 ⟨155, ⟨[.d t2], []⟩, ⟨[.d t2], []⟩, []⟩,
 ⟨156, ⟨[.d .str], []⟩, ⟨[.d .bool], []⟩, []⟩,
 ⟨157, ⟨[.d t5, .fn 106 [.ref t2, .ref .str, .ref t2]], []⟩, ⟨[.d t2], []⟩, []⟩,
 ⟨157, ⟨[.d t5, .fn 112 []], []⟩, ⟨[.d t2], []⟩, []⟩,
 ⟨157, ⟨[.d t5, .fn 121 [.ref t4]], []⟩, ⟨[.d t2], []⟩, []⟩,
 ⟨158, ⟨[.d (.sl t0), .d t2], []⟩, ⟨[.osl 0], [.vec t0]⟩, []⟩,
 ⟨159, ⟨[.d (.sl t2), .d t2], []⟩, ⟨[.d t2], []⟩, []⟩,
 ⟨160, ⟨[], []⟩, ⟨[.d (.sl .str)], []⟩, []⟩,
 ⟨161, ⟨[.d t2], []⟩, ⟨[.d t2], []⟩, []⟩,
 ⟨162, ⟨[.d t2, .d t2], []⟩, ⟨[.d .bool], []⟩, []⟩,
 ⟨163, ⟨[.d .str], []⟩, ⟨[.d .bool], []⟩, []⟩,
 ⟨164, ⟨[.d (.sl t2), .fn 134 [.ptr 0 0]], [.box [.d .str, .d t2, .d (.sl t4)]]⟩, ⟨[.d t2], [.box [.d .str, .d t2, .d (.sl t4)]]⟩, [0]⟩,
 ⟨165, ⟨[.d (.sl t2), .d t2], []⟩, ⟨[.d .bool], []⟩, []⟩,
 ⟨166, ⟨[.fn 170 [], .ref t3], []⟩, ⟨[.d .bool], []⟩, []⟩,
 ⟨166, ⟨[.fn 171 [], .ref t3], []⟩, ⟨[.d .bool], []⟩, []⟩,
 ⟨167, ⟨[.d .str, .fn 168 []], []⟩, ⟨[.d .bool], []⟩, []⟩,
 ⟨167, ⟨[.d .str, .fn 172 []], []⟩, ⟨[.d .bool], []⟩, []⟩,
 ⟨168, ⟨[.d ta], []⟩, ⟨[.d .bool], []⟩, []⟩,
 ⟨169, ⟨[.d .str], []⟩, ⟨[.d .bool], []⟩, []⟩,
 ⟨170, ⟨[.d ta], []⟩, ⟨[.d .bool], []⟩, []⟩,
 ⟨171, ⟨[.d ta], []⟩, ⟨[.d .bool], []⟩, []⟩,
 ⟨172, ⟨[.d ta], []⟩, ⟨[.d .bool], []⟩, []⟩,
 ⟨173, ⟨[.d t2], []⟩, ⟨[.agg [.d .bool, .d .bool, .fa [(182, false), (156, false)], .fa [(199, true), (183, false), (184, false)], .d .bool]], []⟩, []⟩,
 ⟨176, ⟨[.d (.sl t2), .d t2], []⟩, ⟨[.d t2], []⟩, []⟩,
 ⟨177, ⟨[.d ta], []⟩, ⟨[.d .bool], []⟩, []⟩,
 ⟨178, ⟨[.d (.sl .str), .d .str], []⟩, ⟨[.d .bool], []⟩, []⟩,
 ⟨179, ⟨[], []⟩, ⟨[.d (.sl .str)], []⟩, []⟩,
 ⟨180, ⟨[.d .str, .d ta], []⟩, ⟨[.d t2], []⟩, []⟩,
 ⟨181, ⟨[.d t2], []⟩, ⟨[.fn 199 [.ref t2]], []⟩, []⟩,
 ⟨182, ⟨[.d .str], []⟩, ⟨[.d .bool], []⟩, []⟩,
 ⟨183, ⟨[.d t2], []⟩, ⟨[.d .bool], []⟩, []⟩,
 ⟨184, ⟨[.d t2], []⟩, ⟨[.d .bool], []⟩, []⟩,
 ⟨196, ⟨[.d (.sl .str), .d .str], []⟩, ⟨[.d t2], []⟩, []⟩,
 ⟨197, ⟨[.d .str], []⟩, ⟨[.d (.sl .str)], []⟩, []⟩,
 ⟨199, ⟨[.d t2, .ref t2], []⟩, ⟨[.d .bool], []⟩, []⟩]
def spaces : List Int := [0, 0, 0, 0, 0, 0, 0, 0, 0, 1, 1, 1, 1, 1, 0, 0, 0, 0, 0, 0, 0, 0, 0, 0, 0, 0, 0, 0, 0, 0, 0, 0, 1, 0, 0, 0, 0, 0, 0, 0, 0, 0, 0, 0, 0, 0, 0, 0, 0, 0, 0, 0, 0, 0, 0, 0, 0, 0, 0, 0, 0, 0, 0, 0, 0, 0, 0, 0, 0, 0, 0, 0, 0, 0, 0, 0, 0, 0, 0, 0, 0, 0, 0, 0, 0, 0, 0, 0, 0, 0, 0, 0, 0, 0, 0, 0, 0, 0, 0, 0, 0, 0, 0, 0, 0, 0, 0, 0, 0, 0, 0, 0, 0, 0, 0, 0, 0, 0, 0, 0, 0, 0, 0, 0, 0, 0, 0, 0, 0, 0, 0, 0, 0, 0, 0, 0, 0, 0, 0, 0, 0, 0, 0, 0, 0, 0, 0, 0, 0, 0, 0, 0, 0, 0, 0, 0, 0, 0, 0, 0, 0, 0, 0, 0, 0, 0, 0, 0, 0, 0, 0, 0, 0, 0, 0, 0, 0, 0, 0, 0, 0, 0, 0, 0, 0, 0, 0, 0, 0, 0, 0, 0, 0, 0, 0, 0, 0, 0, 0, 0, 0, 0, 0, 0, 0, 0, 0, 0, 0, 0, 0, 0, 0, 0, 0, 0, 0, 0, 0, 0, 0, 0, 0, 0, 0, 0, 0, 0, 0, 0, 0, 0, 0, 0, 0, 0, 0, 0, 0, 0, 0, 0, 0, 0, 0, 0, 0, 0, 0, 0, 0, 0, 0, 0, 0, 0]
def glob : Nat → Option ((t : Ty) × den t)
 | 0 => some ⟨.arr 256 (.int .u8), spaces⟩
 | _ => none
def tab : List (Nat × Ty) := [
 (2, t2),
 (3, t2),
 (4, .bool),
 (5, ta),
 (6, ta),
 (7, (.st (.pair t2 (.pair t2 (.pair .bool ta))))),
 (8, (.st (.pair t2 (.pair t2 (.pair .bool ta))))),
 (9, .str),
 (10, .str),
 (11, .str),
 (12, (.int .u64)),
 (13, (.st (.pair .str (.int .u64)))),
 (14, (.st (.pair .str (.int .u64)))),
 (21, (.int .i32)),
 (22, (.sl t1)),
 (23, t0),
 (26, (.sl t0)),
 (27, t2),
 (33, t2),
 (34, t3),
 (35, t3),
 (39, (.sl t8)),
 (49, (.sl t2)),
 (57, t8),
 (58, t8),
 (68, (.sl t9)),
 (70, t9),
 (71, t9),
 (72, (.sl t4)),
 (73, t1),
 (74, t1),
 (75, t4),
 (76, t4),
 (85, (.st (.sl t1))),
 (86, (.st (.sl t1))),
 (88, t5),
 (90, (.sl t2)),
 (99, (.sl .str)),
 (103, t2),
 (104, t3),
 (105, t3),
 (139, (.int .u64)),
 (175, (.int .u64)),
 (180, t2),
 (189, (.int .u32)),
 (193, (.int .u64)),
 (199, (.arr 256 ta)),
 (205, (.sl (.st (.pair t2 t2)))),
 (206, (.st (.pair t2 t2))),
 (207, (.st (.pair t2 t2))),
 (210, (.sl t6)),
 (211, (.sl t7)),
 (212, (.st (.pair (.sl t6) (.pair (.sl t7) t2)))),
 (213, (.st (.pair (.sl t6) (.pair (.sl t7) t2)))),
 (214, (.int .u16)),
 (215, t6),
 (216, t6),
 (218, t7),
 (219, t7),
 (230, ta),
 (231, ta),
 (234, (.int .i32)),
 (235, (.int .i32))]
def eqs : List Nat := [34, 35]
noncomputable def C : Cx := ⟨Tryz.prog, sigs, glob, tab, eqs, 9999⟩
def qzk : denP (q0a C.sigs 158).ins.tys → Option (denP (q0a C.sigs 158).outs.tys) := fun x =>
 bif x.1.l.all qae && decide (x.1.l.length < 4611686018427387904) then some ((⟨x.1.nil, x.1.l.mergeSort fun a b => !strLt b a⟩ : Sl (List Int)), ()) else none
def g_ix : denP (q0a C.sigs 189).ins.tys → Option (denP (q0a C.sigs 189).outs.tys) := fun x => some (ixB x.2.1 x.1, ())
def qzl : denP (q0a C.sigs 167).ins.tys → Option (denP (q0a C.sigs 167).outs.tys) := fun x =>
 bif x.1.nil && x.1.l.isEmpty && decide (0 ≤ x.2.1) && decide (x.2.1 ≤ 1000000) then some ((⟨decide (x.2.1 = 0), ([] : List (Sl (Int × (List Int) × Int × Int)))⟩ : Sl (Sl (Int × (List Int) × Int × Int))), ()) else none
theorem c_ix : CallsAs C 189 g_ix := by
 intro x y h
 obtain ⟨l, c, u⟩ := x
 have h : some ((ixB c l, ()) : Int × Unit) = some y := h
 injection h with h
 subst h
 exact Call.prim 189 _ _ (qyv (C := C) (f := 180) ⟨_, Tryz.func180, by kernel_rfl⟩ (fun s c w => Any.strings_IndexByte Tryz.ixL s c w) l c)
theorem qzm : CallsAs C 167 qzl := by
 intro x y h
 obtain ⟨⟨nil, l⟩, n, u⟩ := x
 have h : (bif nil && l.isEmpty && decide (0 ≤ n) && decide (n ≤ 1000000) then some ((⟨decide (n = 0), ([] : List (Sl (Int × (List Int) × Int × Int)))⟩, ()) : Sl (Sl (Int × (List Int) × Int × Int)) × Unit) else none) = some y := h
 cases hb : (nil && l.isEmpty && decide (0 ≤ n) && decide (n ≤ 1000000)) with
 | false => rw [hb] at h; cases h
 | true =>
  rw [hb] at h
  injection h with h
  subst h
  simp only [Bool.and_eq_true, decide_eq_true_eq] at hb
  obtain ⟨⟨⟨h1, h2⟩, h3⟩, h4⟩ := hb
  subst h1
  obtain rfl : l = [] := List.isEmpty_iff.1 h2
  obtain ⟨k, rfl⟩ := Int.eq_ofNat_of_zero_le h3
  have h4 : (k : Int) ≤ 1000000 := h4
  have hmi : (Tryz.prog.info? (Tryz.growL_ren.t 25)).map (fun i => (i.zero, i.size, i.bytes)) = some (some (.slice none 0 0), 1, 24) := by kernel_rfl
  obtain ⟨i0, i1, i2⟩ := Option.map_eq_some_iff.1 hmi
  injection i2 with i2 i3
  injection i3 with i3 i4
  have key := qrn (C := C) (f := 158) (t := .sl (.st (.pair (.int .i64) (.pair .str (.pair (.int .i64) (.int .i64)))))) (by intro h; cases h) ⟨_, Tryz.func158, by kernel_rfl⟩
   (fun w => Any8.slices_Grow_room Tryz.growL none 0 0 0 w (Nat.le_refl _) (by decide) (by decide) (Nat.le_refl _))
   (fun n w hn hn2 => by
    have g := Any8.slices_Grow_grow Tryz.growL i0 (.slice none 0 0) i1 i2 (by omega) none 0 0 n [] w (Nat.le_refl _) (by omega) (by rw [i4]; omega) (by omega) (by rw [i3]; rfl) (fun _ => rfl) (fun a h => by cases h)
    refine Calls.mono g fun e w' ⟨e1, e2⟩ => ⟨_, _, _, e1, e2, ?_⟩
    have hc : csz (.sl (.st (.pair (.int .i64) (.pair .str (.pair (.int .i64) (.int .i64)))))) = 1 := rfl
    rw [hc]
    have hs : (Value.slice none 0 0).cells.size = 1 := by kernel_rfl
    simp [Builtin.zeroCells]
    rw [hs]
    omega) k (by omega)
  have e : decide ((k : Int) = 0) = decide (k = 0) := decide_eq_decide.2 (by omega)
  rw [e]
  exact Call.prim 167 _ _ key
def q55 (x : List UInt8) : List Int := x.map fun b => (b.toNat : Int)
def qf6 (l : List Int) : List UInt8 := l.map fun b => UInt8.ofNat b.toNat
theorem qf7 : ∀ x y : List UInt8, q55 x = q55 y → x = y
 | [], [], _ => rfl
 | [], _ :: _, h => by cases h
 | _ :: _, [], h => by cases h
 | a :: x, b :: y, h => by
  injection h with h1 h2
  have h1 : (a.toNat : Int) = (b.toNat : Int) := h1
  have e : a = b := UInt8.toNat_inj.1 (by omega)
  rw [qf7 x y h2, e]
theorem q9t : ∀ l : List Int, (∀ b, b ∈ l → 0 ≤ b ∧ b ≤ 255) → q55 (qf6 l) = l
 | [], _ => rfl
 | a :: l, h => by
  obtain ⟨h0, h1⟩ := h a (List.mem_cons_self ..)
  show (((UInt8.ofNat a.toNat).toNat : Nat) : Int) :: q55 (qf6 l) = _
  rw [q9t l fun b hb => h b (List.mem_cons_of_mem _ hb), UInt8.toNat_ofNat', Nat.mod_eq_of_lt (by omega)]
  congr 1
  omega
theorem qf8 : ∀ x y : List UInt8, strLt (q55 x) (q55 y) = decide (x < y)
 | [], [] => rfl
 | [], b :: y => by
  show true = _
  exact (decide_eq_true (List.nil_lt_cons b y)).symm
 | a :: x, [] => by
  show false = _
  exact (decide_eq_false (List.not_lt_nil _)).symm
 | a :: x, b :: y => by
  show (decide ((a.toNat : Int) < (b.toNat : Int)) || (decide ((a.toNat : Int) = (b.toNat : Int)) && strLt (q55 x) (q55 y))) = _
  rw [qf8 x y, Bool.eq_iff_iff, decide_eq_true_eq, List.cons_lt_cons_iff]
  simp only [Bool.or_eq_true, Bool.and_eq_true, decide_eq_true_eq]
  have e1 : ((a.toNat : Int) < (b.toNat : Int)) ↔ a < b := by rw [UInt8.lt_iff_toNat_lt]; omega
  have e2 : ((a.toNat : Int) = (b.toNat : Int)) ↔ a = b := by rw [← UInt8.toNat_inj]; omega
  rw [e1, e2]
theorem qtb (imm : Nat → Prop) (w : World) (x : List UInt8) (hx : x.length ≤ 9223372036854775807) (cs : List Value) : relC imm w .str (q55 x) cs ↔ cs = [encStr x] := by
 constructor
 ·rintro ⟨t, e3, h1, h2⟩
  have h1 : t.data.toList.map (fun b => (b.toNat : Int)) = q55 x := h1
  have h3 : t.data.toList = x := qf7 _ _ h1
  subst e3
  have : t = ⟨x.toArray⟩ := by
   rw [← h3]
  rw [this]
 ·intro e
  subst e
  refine ⟨⟨x.toArray⟩, rfl, rfl, ?_⟩
  show x.toArray.size ≤ _
  simpa [maxL] using hx
theorem qzn : CallsAs C 158 qzk := by
 intro x y h
 obtain ⟨⟨nil, l⟩, u⟩ := x
 have h : (bif l.all qae && decide (l.length < 4611686018427387904) then some ((⟨nil, l.mergeSort fun a b => !strLt b a⟩ : Sl (List Int)), ()) else none) = some y := h
 cases hg : (l.all qae && decide (l.length < 4611686018427387904)) with
 | false => rw [hg] at h; cases h
 | true =>
  rw [hg] at h
  injection h with h
  subst h
  simp only [Bool.and_eq_true, decide_eq_true_eq] at hg
  obtain ⟨g1, g3⟩ := hg
  have gg : ∀ s, s ∈ l → (∀ b, b ∈ s → 0 ≤ b ∧ b ≤ 255) ∧ s.length ≤ 9223372036854775807 := fun s hs => qrj (List.all_eq_true.1 g1 s hs)
  have hl : l = (l.map qf6).map q55 := by
   rw [List.map_map]
   exact ((List.map_congr_left (g := fun s => s) fun s hs => q9t s (gg s hs).1).trans (List.map_id' l)).symm
  have key := qrm (C := C) (f := 151) (t := .str) encStr q55 (fun x => x.length ≤ 9223372036854775807) (fun l => l.mergeSort fun x y => decide (x ≤ y)) (by intro h; cases h) rfl
   (fun imm w x hx cs => qtb imm w x hx cs) (fun l => List.length_mergeSort l) (fun l x hx => (List.mem_mergeSort).1 hx)
   ⟨_, Tryz.func151, by kernel_rfl⟩ (fun p cap w => Any.slices_Sort_string_none Tryz.sortL p cap w)
   (fun blk off cap zs w hH hb hsz => calls_of_every_depth fun D => AnyS.slices_Sort_string_alone Tryz.sortL D blk off cap zs w hH hb hsz)
   nil (l.map qf6) (fun x hx => by
    obtain ⟨s, hs, rfl⟩ := List.mem_map.1 hx
    show (s.map _).length ≤ _
    rw [List.length_map]
    exact (gg s hs).2) (by rw [List.length_map]; exact g3)
  have e : ((l.map qf6).mergeSort fun x y => decide (x ≤ y)).map q55 = ((l.map qf6).map q55).mergeSort fun a b => !strLt b a :=
   List.map_mergeSort (fun a _ b _ => by
    rw [qf8]
    by_cases h : b < a
    ·rw [decide_eq_true h, decide_eq_false (fun e : a ≤ b => e h)]; rfl
    ·rw [decide_eq_false h, decide_eq_true (show a ≤ b from h)]; rfl)
  rw [e, ← hl] at key
  exact Call.prim 158 _ _ key
theorem c_e4 : CallsAs C 162 f_e4 :=
 mkC (fun L R x => b_e4 L  x) q06 (fun _ _ _ => by kernel_rfl) (fun _ => by kernel_rfl)
theorem c_as : CallsAs C 181 f_as :=
 mkC (fun L R x => b_as L  x) q06 (fun _ _ _ => by kernel_rfl) (fun _ => by kernel_rfl)
theorem c_ap : CallsAs C 182 f_ap :=
 mkC (fun L R x => b_ap L  x) q06 (fun _ _ _ => by kernel_rfl) (fun _ => by kernel_rfl)
theorem c_ao : CallsAs C 186 f_ao :=
 mkC (fun L R x => b_ao L  x) q06 (fun _ _ _ => by kernel_rfl) (fun _ => by kernel_rfl)
theorem c_aq : CallsAs C 179 f_aq :=
 mkC (fun L R x => b_aq L (R 181) (R 182) (R 186) x) (q03 c_as (q03 c_ap (q03 c_ao q06))) (fun _ _ _ => by kernel_rfl) (fun _ => by kernel_rfl)
theorem c_am : CallsAs C 177 f_am :=
 mkC (fun L R x => b_am L (R 179) x) (q03 c_aq q06) (fun _ _ _ => by kernel_rfl) (fun _ => by kernel_rfl)
theorem c_d8 : CallsAs C 194 f_d8 :=
 mkC (fun L R x => b_d8 L  x) q06 (fun _ _ _ => by kernel_rfl) (fun _ => by kernel_rfl)
theorem c_cn : CallsAs C 187 f_cn :=
 mkC (fun L R x => b_cn L (R 194) x) (q03 c_d8 q06) (fun _ _ _ => by kernel_rfl) (fun _ => by kernel_rfl)
theorem c_da : CallsAs C 195 f_da :=
 mkC (fun L R x => b_da L  x) q06 (fun _ _ _ => by kernel_rfl) (fun _ => by kernel_rfl)
theorem c_at : CallsAs C 188 f_at :=
 mkC (fun L R x => b_at L (R 195) x) (q03 c_da q06) (fun _ _ _ => by kernel_rfl) (fun _ => by kernel_rfl)
theorem c_ai : CallsAs C 180 f_ai :=
 mkC (fun L R x => b_ai L (R 187) (R 188) x) (q03 c_cn (q03 c_at q06)) (fun _ _ _ => by kernel_rfl) (fun _ => by kernel_rfl)
theorem c_ak : CallsAs C 175 f_ak :=
 mkC (fun L R x => b_ak L (R 177) (R 180) (R 181) x) (q03 c_am (q03 c_ai (q03 c_as q06))) (fun _ _ _ => by kernel_rfl) (fun _ => by kernel_rfl)
theorem c_al : CallsAs C 176 f_al :=
 mkC (fun L R x => b_al L (R 177) (R 180) (R 182) x) (q03 c_am (q03 c_ai (q03 c_ap q06))) (fun _ _ _ => by kernel_rfl) (fun _ => by kernel_rfl)
theorem c_db : CallsAs C 189 f_db := c_ix
theorem c_ar : CallsAs C 183 f_ar :=
 mkC (fun L R x => b_ar L (R 189) x) (q03 c_db q06) (fun _ _ _ => by kernel_rfl) (fun _ => by kernel_rfl)
theorem c_an : CallsAs C 178 f_an :=
 mkC (fun L R x => b_an L (R 183) x) (q03 c_ar q06) (fun _ _ _ => by kernel_rfl) (fun _ => by kernel_rfl)
theorem c_aj : CallsAs C 144 f_aj :=
 mkC (fun L R x => b_aj L (R 162) (R 175) (R 176) (R 178) (R 180) x) (q03 c_e4 (q03 c_ak (q03 c_al (q03 c_an (q03 c_ai q06))))) (fun _ _ _ => by kernel_rfl) (fun _ => by kernel_rfl)
theorem c_ad : CallsAs C 80 f_ad :=
 mkC (fun L R x => b_ad L (R 144) x) (q03 c_aj q06) (fun _ _ _ => by kernel_rfl) (fun _ => by kernel_rfl)
theorem c_e3 : CallsAs C 91 f_e3 :=
 mkC (fun L R x => b_e3 L (R 144) x) (q03 c_aj q06) (fun _ _ _ => by kernel_rfl) (fun _ => by kernel_rfl)
theorem c_e1 : CallsAs C 90 f_e1 :=
 mkC (fun L R x => b_e1 L (R 91) x) (q03 c_e3 q06) (fun _ _ _ => by kernel_rfl) (fun _ => by kernel_rfl)
theorem c_cs : CallsAs C 145 f_cs :=
 mkC (fun L R x => b_cs L (R 90) x) (q03 c_e1 q06) (fun _ _ _ => by kernel_rfl) (fun _ => by kernel_rfl)
theorem c_ci : CallsAs C 86 f_ci :=
 mkC (fun L R x => b_ci L (R 145) x) (q03 c_cs q06) (fun _ _ _ => by kernel_rfl) (fun _ => by kernel_rfl)
theorem c_dt : CallsAs C 99 f_dt :=
 mkC (fun L R x => b_dt L  x) q06 (fun _ _ _ => by kernel_rfl) (fun _ => by kernel_rfl)
theorem c_dx : CallsAs C 89 f_dx :=
 mkC (fun L R x => b_dx L (R 99) x) (q03 c_dt q06) (fun _ _ _ => by kernel_rfl) (fun _ => by kernel_rfl)
theorem c_e0 : CallsAs C 32 f_e0 :=
 mkC (fun L R x => b_e0 L (R 86) (R 89) x) (q03 c_ci (q03 c_dx q06)) (fun _ _ _ => by kernel_rfl) (fun _ => by kernel_rfl)
theorem c_ag : CallsAs C 139 f_ag :=
 mkC (fun L R x => b_ag L  x) q06 (fun _ _ _ => by kernel_rfl) (fun _ => by kernel_rfl)
theorem c_cz : CallsAs C 173 f_cz :=
 mkC (fun L R x => b_cz L (R 139) x) (q03 c_ag q06) (fun _ _ _ => by kernel_rfl) (fun _ => by kernel_rfl)
theorem c_ce : CallsAs C 140 f_ce :=
 mkC (fun L R x => b_ce L (R 173) x) (q03 c_cz q06) (fun _ _ _ => by kernel_rfl) (fun _ => by kernel_rfl)
theorem c_cp : CallsAs C 185 f_cp :=
 mkC (fun L R x => b_cp L  x) q06 (fun _ _ _ => by kernel_rfl) (fun _ => by kernel_rfl)
theorem c_ca : CallsAs C 174 f_ca :=
 mkC (fun L R x => b_ca L (R 185) x) (q03 c_cp q06) (fun _ _ _ => by kernel_rfl) (fun _ => by kernel_rfl)
theorem c_e2 : CallsAs C 141 f_e2 :=
 mkC (fun L R x => b_e2 L (R 32) (R 174) x) (q03 c_e0 (q03 c_ca q06)) (fun _ _ _ => by kernel_rfl) (fun _ => by kernel_rfl)
theorem c_af : CallsAs C 138 f_af :=
 mkC (fun L R x => b_af L (R 32) (R 140) (R 141) x) (q03 c_e0 (q03 c_ce (q03 c_e2 q06))) (fun _ _ _ => by kernel_rfl) (fun _ => by kernel_rfl)
theorem c_ah : CallsAs C 142 f_ah :=
 mkC (fun L R x => b_ah L (R 138) x) (q03 c_af q06) (fun _ _ _ => by kernel_rfl) (fun _ => by kernel_rfl)
theorem c_d0 : CallsAs C 47 f_d0 :=
 mkC (fun L R x => b_d0 L (R 142) x) (q03 c_ah q06) (fun _ _ _ => by kernel_rfl) (fun _ => by kernel_rfl)
theorem c_ch : CallsAs C 84 f_ch :=
 mkC (fun L R x => b_ch L (R 47) x) (q03 c_d0 q06) (fun _ _ _ => by kernel_rfl) (fun _ => by kernel_rfl)
theorem c_ae : CallsAs C 68 f_ae :=
 mkC (fun L R x => b_ae L (R 80) (R 84) x) (q03 c_ad (q03 c_ch q06)) (fun _ _ _ => by kernel_rfl) (fun _ => by kernel_rfl)
theorem c_a1 : CallsAs C 67 f_a1 :=
 mkC (fun L R x => b_a1 L (R 68) x) (q03 c_ae q06) (fun _ _ _ => by kernel_rfl) (fun _ => by kernel_rfl)
theorem c_d2 : CallsAs C 69 f_d2 :=
 mkC (fun L R x => b_d2 L (R 67) x) (q03 c_a1 q06) (fun _ _ _ => by kernel_rfl) (fun _ => by kernel_rfl)
theorem c_cb : CallsAs C 65 f_cb :=
 mkC (fun L R x => b_cb L (R 69) x) (q03 c_d2 q06) (fun _ _ _ => by kernel_rfl) (fun _ => by kernel_rfl)
theorem c_a2 : CallsAs C 73 f_a2 :=
 mkC (fun L R x => b_a2 L  x) q06 (fun _ _ _ => by kernel_rfl) (fun _ => by kernel_rfl)
theorem c_d3 : CallsAs C 70 f_d3 :=
 mkC (fun L R x => b_d3 L (R 73) x) (q03 c_a2 q06) (fun _ _ _ => by kernel_rfl) (fun _ => by kernel_rfl)
theorem c_a9 : CallsAs C 143 f_a9 :=
 mkC (fun L R x => b_a9 L  x) q06 (fun _ _ _ => by kernel_rfl) (fun _ => by kernel_rfl)
theorem c_ac : CallsAs C 78 f_ac :=
 mkC (fun L R x => b_ac L (R 143) x) (q03 c_a9 q06) (fun _ _ _ => by kernel_rfl) (fun _ => by kernel_rfl)
theorem c_a8 : CallsAs C 75 f_a8 :=
 mkC (fun L R x => b_a8 L (R 78) x) (q03 c_ac q06) (fun _ _ _ => by kernel_rfl) (fun _ => by kernel_rfl)
theorem c_a3 : CallsAs C 74 f_a3 :=
 mkC (fun L R x => b_a3 L (R 75) x) (q03 c_a8 q06) (fun _ _ _ => by kernel_rfl) (fun _ => by kernel_rfl)
theorem c_aa : CallsAs C 76 f_aa :=
 mkC (fun L R x => b_aa L (R 74) x) (q03 c_a3 q06) (fun _ _ _ => by kernel_rfl) (fun _ => by kernel_rfl)
theorem c_a5 : CallsAs C 81 f_a5 :=
 mkC (fun L R x => b_a5 L  x) q06 (fun _ _ _ => by kernel_rfl) (fun _ => by kernel_rfl)
theorem c_d4 : CallsAs C 71 f_d4 :=
 mkC (fun L R x => b_d4 L (R 81) x) (q03 c_a5 q06) (fun _ _ _ => by kernel_rfl) (fun _ => by kernel_rfl)
theorem c_cf : CallsAs C 66 f_cf :=
 mkC (fun L R x => b_cf L (R 71) x) (q03 c_d4 q06) (fun _ _ _ => by kernel_rfl) (fun _ => by kernel_rfl)
theorem c_a4 : CallsAs C 79 f_a4 :=
 mkC (fun L R x => b_a4 L (R 66) (R 80) x) (q03 c_cf (q03 c_ad q06)) (fun _ _ _ => by kernel_rfl) (fun _ => by kernel_rfl)
theorem c_cu : CallsAs C 147 f_cu :=
 mkC (fun L R x => b_cu L (R 79) x) (q03 c_a4 q06) (fun _ _ _ => by kernel_rfl) (fun _ => by kernel_rfl)
theorem c_ck : CallsAs C 88 f_ck :=
 mkC (fun L R x => b_ck L (R 147) x) (q03 c_cu q06) (fun _ _ _ => by kernel_rfl) (fun _ => by kernel_rfl)
theorem c_a7 : CallsAs C 85 f_a7 :=
 mkC (fun L R x => b_a7 L (R 88) x) (q03 c_ck q06) (fun _ _ _ => by kernel_rfl) (fun _ => by kernel_rfl)
theorem c_cq : CallsAs C 46 f_cq :=
 mkC (fun L R x => b_cq L (R 85) x) (q03 c_a7 q06) (fun _ _ _ => by kernel_rfl) (fun _ => by kernel_rfl)
theorem c_cg : CallsAs C 83 f_cg :=
 mkC (fun L R x => b_cg L (R 46) x) (q03 c_cq q06) (fun _ _ _ => by kernel_rfl) (fun _ => by kernel_rfl)
theorem c_a6 : CallsAs C 82 f_a6 :=
 mkC (fun L R x => b_a6 L (R 83) x) (q03 c_cg q06) (fun _ _ _ => by kernel_rfl) (fun _ => by kernel_rfl)
theorem c_ab : CallsAs C 77 f_ab :=
 mkC (fun L R x => b_ab L (R 82) x) (q03 c_a6 q06) (fun _ _ _ => by kernel_rfl) (fun _ => by kernel_rfl)
theorem c_a0 : CallsAs C 31 f_a0 :=
 mkC (fun L R x => b_a0 L (R 65) (R 70) (R 76) (R 77) x) (q03 c_cb (q03 c_d3 (q03 c_aa (q03 c_ab q06)))) (fun _ _ _ => by kernel_rfl) (fun _ => by kernel_rfl)
theorem c_b7 : CallsAs C 148 f_b7 :=
 mkC (fun L R x => b_b7 L  x) q06 (fun _ _ _ => by kernel_rfl) (fun _ => by kernel_rfl)
theorem c_d5 : CallsAs C 72 f_d5 :=
 mkC (fun L R x => b_d5 L (R 148) x) (q03 c_b7 q06) (fun _ _ _ => by kernel_rfl) (fun _ => by kernel_rfl)
theorem c_b6 : CallsAs C 92 f_b6 :=
 mkC (fun L R x => b_b6 L (R 72) x) (q03 c_d5 q06) (fun _ _ _ => by kernel_rfl) (fun _ => by kernel_rfl)
theorem c_b5 : CallsAs C 97 f_b5 :=
 mkC (fun L R x => b_b5 L  x) q06 (fun _ _ _ => by kernel_rfl) (fun _ => by kernel_rfl)
theorem c_d6 : CallsAs C 93 f_d6 :=
 mkC (fun L R x => b_d6 L (R 97) x) (q03 c_b5 q06) (fun _ _ _ => by kernel_rfl) (fun _ => by kernel_rfl)
theorem c_du : CallsAs C 98 f_du :=
 mkC (fun L R x => b_du L (R 99) x) (q03 c_dt q06) (fun _ _ _ => by kernel_rfl) (fun _ => by kernel_rfl)
theorem c_dz : CallsAs C 150 f_dz :=
 mkC (fun L R x => b_dz L  x) q06 (fun _ _ _ => by kernel_rfl) (fun _ => by kernel_rfl)
theorem c_cv : CallsAs C 149 f_cv :=
 mkC (fun L R x => b_cv L (R 150) x) (q03 c_dz q06) (fun _ _ _ => by kernel_rfl) (fun _ => by kernel_rfl)
theorem c_dy : CallsAs C 100 f_dy :=
 mkC (fun L R x => b_dy L (R 149) x) (q03 c_cv q06) (fun _ _ _ => by kernel_rfl) (fun _ => by kernel_rfl)
theorem c_b4 : CallsAs C 33 f_b4 :=
 mkC (fun L R x => b_b4 L (R 92) (R 93) (R 98) (R 99) (R 100) x) (q03 c_b6 (q03 c_d6 (q03 c_du (q03 c_dt (q03 c_dy q06))))) (fun _ _ _ => by kernel_rfl) (fun _ => by kernel_rfl)
theorem c_au : CallsAs C 7 f_au :=
 mkC (fun L R x => b_au L (R 31) (R 32) (R 33) x) (q03 c_a0 (q03 c_e0 (q03 c_b4 q06))) (fun _ _ _ => by kernel_rfl) (fun _ => by kernel_rfl)
theorem c_ds : CallsAs C 151 f_ds :=
 mkC (fun L R x => b_ds L (R 89) x) (q03 c_dx q06) (fun _ _ _ => by kernel_rfl) (fun _ => by kernel_rfl)
theorem c_dq : CallsAs C 161 f_dq :=
 mkC (fun L R x => b_dq L  x) q06 (fun _ _ _ => by kernel_rfl) (fun _ => by kernel_rfl)
theorem c_dc : CallsAs C 163 f_dc :=
 mkC (fun L R x => b_dc L (R 144) x) (q03 c_aj q06) (fun _ _ _ => by kernel_rfl) (fun _ => by kernel_rfl)
theorem c_dm : CallsAs C 190 f_dm :=
 mkC (fun L R x => b_dm L  x) q06 (fun _ _ _ => by kernel_rfl) (fun _ => by kernel_rfl)
theorem c_dj : CallsAs C 184 f_dj :=
 mkC (fun L R x => b_dj L (R 190) x) (q03 c_dm q06) (fun _ _ _ => by kernel_rfl) (fun _ => by kernel_rfl)
theorem c_dd : CallsAs C 191 f_dd :=
 mkC (fun L R x => b_dd L (R 144) x) (q03 c_aj q06) (fun _ _ _ => by kernel_rfl) (fun _ => by kernel_rfl)
theorem c_dk : CallsAs C 192 f_dk :=
 mkC (fun L R x => b_dk L  x) q06 (fun _ _ _ => by kernel_rfl) (fun _ => by kernel_rfl)
theorem c_dl : CallsAs C 193 f_dl :=
 mkC (fun L R x => b_dl L  x) q06 (fun _ _ _ => by kernel_rfl) (fun _ => by kernel_rfl)
theorem c_dn : CallsAs C 196 f_dn :=
 mkC (fun L R x => b_dn L  x) q06 (fun _ _ _ => by kernel_rfl) (fun _ => by kernel_rfl)
theorem c_dp : CallsAs C 154 f_dp :=
 mkC (fun L R x => b_dp L (R 161) (R 162) (R 163) (R 184) (R 191) (R 192) (R 193) (R 196) x) (q03 c_dq (q03 c_e4 (q03 c_dc (q03 c_dj (q03 c_dd (q03 c_dk (q03 c_dl (q03 c_dn q06)))))))) (fun _ _ _ => by kernel_rfl) (fun _ => by kernel_rfl)
theorem c_dg : CallsAs C 153 f_dg :=
 mkC (fun L R x => b_dg L (R 154) x) (q03 c_dp q06) (fun _ _ _ => by kernel_rfl) (fun _ => by kernel_rfl)
theorem c_dr : CallsAs C 152 f_dr :=
 mkG (C := C) (k := 152) (fun L R x => b_dr L (R 152) (R 153) x) (F := g_dr) (O := fun g => (orc1 152 g (orc1 153 f_dg orc0))) (fun g hg => (q03 hg (q03 c_dg q06))) (fun _ _ _ => by kernel_rfl) (fun _ _ => by kernel_rfl)
theorem c_dw : CallsAs C 156 f_dw :=
 mkC (fun L R x => b_dw L (R 99) x) (q03 c_dt q06) (fun _ _ _ => by kernel_rfl) (fun _ => by kernel_rfl)
theorem c_do : CallsAs C 157 f_do :=
 mkC (fun L R x => b_do L  x) q06 (fun _ _ _ => by kernel_rfl) (fun _ => by kernel_rfl)
theorem c_d9 : CallsAs C 158 f_d9 := qzn
theorem c_c8 : CallsAs C 159 f_c8 :=
 mkC (fun L R x => b_c8 L  x) q06 (fun _ _ _ => by kernel_rfl) (fun _ => by kernel_rfl)
theorem c_di : CallsAs C 160 f_di :=
 mkC (fun L R x => b_di L (R 157) x) (q03 c_do q06) (fun _ _ _ => by kernel_rfl) (fun _ => by kernel_rfl)
theorem c_dh : CallsAs C 155 f_dh :=
 mkC (fun L R x => b_dh L (R 156) (R 157) (R 158) (R 159) (R 160) x) (q03 c_dw (q03 c_do (q03 c_d9 (q03 c_c8 (q03 c_di q06))))) (fun _ _ _ => by kernel_rfl) (fun _ => by kernel_rfl)
theorem c_df : CallsAs C 101 f_df :=
 mkC (fun L R x => b_df L (R 89) (R 99) (R 151) (R 152) (R 155) (R 161) x) (q03 c_dx (q03 c_dt (q03 c_ds (q03 c_dr (q03 c_dh (q03 c_dq q06)))))) (fun _ _ _ => by kernel_rfl) (fun _ => by kernel_rfl)
theorem c_de : CallsAs C 34 f_de :=
 mkC (fun L R x => b_de L (R 101) x) (q03 c_df q06) (fun _ _ _ => by kernel_rfl) (fun _ => by kernel_rfl)
theorem ql2 (g : denP (q0a C.sigs 35).ins.tys → Option (denP (q0a C.sigs 35).outs.tys)) (hg : CallsAs C 35 g) : CallsAs C 104 (q3c g) :=
 mkC (fun L R x => q7p L (R 35) x) (O := (orc1 35 g orc0)) (q03 hg q06) (fun _ _ _ => by kernel_rfl) (fun _ => by kernel_rfl)
theorem c_bl : CallsAs C 109 f_bl :=
 mkC (fun L R x => b_bl L (R 98) (R 99) x) (q03 c_du (q03 c_dt q06)) (fun _ _ _ => by kernel_rfl) (fun _ => by kernel_rfl)
theorem qpd (g : denP (q0a C.sigs 35).ins.tys → Option (denP (q0a C.sigs 35).outs.tys)) (hg : CallsAs C 35 g) : CallsAs C 102 (q4p g) :=
 mkC (fun L R x => q9g L (R 33) (R 104) (R 109) x) (O := (orc1 33 f_b4 (orc1 104 (q3c g) (orc1 109 f_bl orc0)))) (q03 c_b4 (q03 (ql2 g hg) (q03 c_bl q06))) (fun _ _ _ => by kernel_rfl) (fun _ => by kernel_rfl)
theorem c_bk : CallsAs C 35 f_bk :=
 mkG (C := C) (k := 35) (fun L R x => b_bk L (R 102) x) (F := g_bk) (O := fun g => (orc1 102 (q4p g) orc0)) (fun g hg => (q03 (qpd g hg) q06)) (fun _ _ _ => by kernel_rfl) (fun _ _ => by kernel_rfl)
theorem c_av : CallsAs C 9 f_av :=
 mkC (fun L R x => b_av L (R 31) (R 32) (R 34) (R 35) x) (q03 c_a0 (q03 c_e0 (q03 c_de (q03 c_bk q06)))) (fun _ _ _ => by kernel_rfl) (fun _ => by kernel_rfl)
theorem c_bj : CallsAs C 106 f_bj :=
 mkC (fun L R x => b_bj L (R 162) (R 163) x) (q03 c_e4 (q03 c_dc q06)) (fun _ _ _ => by kernel_rfl) (fun _ => by kernel_rfl)
theorem c_bs : CallsAs C 105 f_bs :=
 mkC (fun L R x => b_bs L (R 106) x) (q03 c_bj q06) (fun _ _ _ => by kernel_rfl) (fun _ => by kernel_rfl)
theorem c_ct : CallsAs C 146 f_ct :=
 mkC (fun L R x => b_ct L (R 105) x) (q03 c_bs q06) (fun _ _ _ => by kernel_rfl) (fun _ => by kernel_rfl)
theorem c_cj : CallsAs C 87 f_cj :=
 mkC (fun L R x => b_cj L (R 146) x) (q03 c_ct q06) (fun _ _ _ => by kernel_rfl) (fun _ => by kernel_rfl)
theorem c_br : CallsAs C 36 f_br :=
 mkC (fun L R x => b_br L (R 87) (R 89) x) (q03 c_cj (q03 c_dx q06)) (fun _ _ _ => by kernel_rfl) (fun _ => by kernel_rfl)
theorem qj5 (g : denP (q0a C.sigs 37).ins.tys → Option (denP (q0a C.sigs 37).outs.tys)) (hg : CallsAs C 37 g) : CallsAs C 107 (q2r g) :=
 mkC (fun L R x => q6e L (R 37) x) (O := (orc1 37 g orc0)) (q03 hg q06) (fun _ _ _ => by kernel_rfl) (fun _ => by kernel_rfl)
theorem qgq (g : denP (q0a C.sigs 37).ins.tys → Option (denP (q0a C.sigs 37).outs.tys)) (hg : CallsAs C 37 g) : CallsAs C 103 (q2a g) :=
 mkC (fun L R x => q51 L (R 33) (R 107) (R 109) x) (O := (orc1 33 f_b4 (orc1 107 (q2r g) (orc1 109 f_bl orc0)))) (q03 c_b4 (q03 (qj5 g hg) (q03 c_bl q06))) (fun _ _ _ => by kernel_rfl) (fun _ => by kernel_rfl)
theorem c_bh : CallsAs C 37 f_bh :=
 mkG (C := C) (k := 37) (fun L R x => b_bh L (R 103) x) (F := g_bh) (O := fun g => (orc1 103 (q2a g) orc0)) (fun g hg => (q03 (qgq g hg) q06)) (fun _ _ _ => by kernel_rfl) (fun _ _ => by kernel_rfl)
theorem c_ay : CallsAs C 10 f_ay :=
 mkC (fun L R x => b_ay L (R 31) (R 32) (R 36) (R 37) x) (q03 c_a0 (q03 c_e0 (q03 c_br (q03 c_bh q06)))) (fun _ _ _ => by kernel_rfl) (fun _ => by kernel_rfl)
theorem c_c7 : CallsAs C 43 f_c7 :=
 mkC (fun L R x => b_c7 L  x) q06 (fun _ _ _ => by kernel_rfl) (fun _ => by kernel_rfl)
theorem c_b0 : CallsAs C 42 f_b0 :=
 mkC (fun L R x => b_b0 L (R 43) x) (q03 c_c7 q06) (fun _ _ _ => by kernel_rfl) (fun _ => by kernel_rfl)
theorem c_bi : CallsAs C 44 f_bi :=
 mkG (C := C) (k := 44) (fun L R x => b_bi L (R 42) (R 44) (R 109) x) (F := g_bi) (O := fun g => (orc1 42 f_b0 (orc1 44 g (orc1 109 f_bl orc0)))) (fun g hg => (q03 c_b0 (q03 hg (q03 c_bl q06)))) (fun _ _ _ => by kernel_rfl) (fun _ _ => by kernel_rfl)
theorem c_az : CallsAs C 15 f_az :=
 mkC (fun L R x => b_az L (R 34) (R 36) (R 44) x) (q03 c_de (q03 c_br (q03 c_bi q06))) (fun _ _ _ => by kernel_rfl) (fun _ => by kernel_rfl)
theorem c_ax : CallsAs C 49 f_ax :=
 mkC (fun L R x => b_ax L (R 15) x) (q03 c_az q06) (fun _ _ _ => by kernel_rfl) (fun _ => by kernel_rfl)
theorem c_d1 : CallsAs C 48 f_d1 :=
 mkC (fun L R x => b_d1 L (R 49) x) (q03 c_ax q06) (fun _ _ _ => by kernel_rfl) (fun _ => by kernel_rfl)
theorem c_aw : CallsAs C 18 f_aw :=
 mkC (fun L R x => b_aw L (R 48) x) (q03 c_d1 q06) (fun _ _ _ => by kernel_rfl) (fun _ => by kernel_rfl)
theorem c_b3 : CallsAs C 110 f_b3 :=
 mkC (fun L R x => b_b3 L  x) q06 (fun _ _ _ => by kernel_rfl) (fun _ => by kernel_rfl)
theorem c_bn : CallsAs C 50 f_bn :=
 mkC (fun L R x => b_bn L (R 9) (R 110) x) (q03 c_av (q03 c_b3 q06)) (fun _ _ _ => by kernel_rfl) (fun _ => by kernel_rfl)
theorem c_ba : CallsAs C 115 f_ba :=
 mkC (fun L R x => b_ba L  x) q06 (fun _ _ _ => by kernel_rfl) (fun _ => by kernel_rfl)
theorem c_cw : CallsAs C 164 f_cw :=
 mkC (fun L R x => b_cw L (R 115) x) (q03 c_ba q06) (fun _ _ _ => by kernel_rfl) (fun _ => by kernel_rfl)
theorem c_cl : CallsAs C 112 f_cl :=
 mkC (fun L R x => b_cl L (R 164) x) (q03 c_cw q06) (fun _ _ _ => by kernel_rfl) (fun _ => by kernel_rfl)
theorem c_b9 : CallsAs C 111 f_b9 :=
 mkC (fun L R x => b_b9 L (R 112) x) (q03 c_cl q06) (fun _ _ _ => by kernel_rfl) (fun _ => by kernel_rfl)
theorem c_bb : CallsAs C 116 f_bb :=
 mkC (fun L R x => b_bb L (R 111) x) (q03 c_b9 q06) (fun _ _ _ => by kernel_rfl) (fun _ => by kernel_rfl)
theorem c_d7 : CallsAs C 94 f_d7 :=
 mkC (fun L R x => b_d7 L (R 116) x) (q03 c_bb q06) (fun _ _ _ => by kernel_rfl) (fun _ => by kernel_rfl)
theorem c_bt : CallsAs C 122 f_bt :=
 mkC (fun L R x => b_bt L  x) q06 (fun _ _ _ => by kernel_rfl) (fun _ => by kernel_rfl)
theorem c_bc : CallsAs C 121 f_bc :=
 mkC (fun L R x => b_bc L (R 122) x) (q03 c_bt q06) (fun _ _ _ => by kernel_rfl) (fun _ => by kernel_rfl)
theorem c_cx : CallsAs C 165 f_cx :=
 mkC (fun L R x => b_cx L (R 121) x) (q03 c_bc q06) (fun _ _ _ => by kernel_rfl) (fun _ => by kernel_rfl)
theorem c_cm : CallsAs C 113 f_cm :=
 mkC (fun L R x => b_cm L (R 165) x) (q03 c_cx q06) (fun _ _ _ => by kernel_rfl) (fun _ => by kernel_rfl)
theorem c_co : CallsAs C 167 f_co := qzm
theorem c_c9 : CallsAs C 117 f_c9 :=
 mkC (fun L R x => b_c9 L (R 167) x) (q03 c_co q06) (fun _ _ _ => by kernel_rfl) (fun _ => by kernel_rfl)
theorem c_bp : CallsAs C 123 f_bp :=
 mkC (fun L R x => b_bp L (R 110) x) (q03 c_b3 q06) (fun _ _ _ => by kernel_rfl) (fun _ => by kernel_rfl)
theorem c_bq : CallsAs C 118 f_bq :=
 mkC (fun L R x => b_bq L (R 109) (R 117) (R 122) (R 123) x) (q03 c_bl (q03 c_c9 (q03 c_bt (q03 c_bp q06)))) (fun _ _ _ => by kernel_rfl) (fun _ => by kernel_rfl)
theorem c_dv : CallsAs C 119 f_dv :=
 mkC (fun L R x => b_dv L  x) q06 (fun _ _ _ => by kernel_rfl) (fun _ => by kernel_rfl)
theorem c_bm : CallsAs C 120 f_bm :=
 mkC (fun L R x => b_bm L (R 122) x) (q03 c_bt q06) (fun _ _ _ => by kernel_rfl) (fun _ => by kernel_rfl)
theorem c_b8 : CallsAs C 51 f_b8 :=
 mkG (C := C) (k := 51) (fun L R x => b_b8 L (R 33) (R 51) (R 92) (R 94) (R 110) (R 111) (R 113) (R 117) (R 118) (R 119) (R 120) (R 123) x) (F := g_b8) (O := fun g => (orc1 33 f_b4 (orc1 51 g (orc1 92 f_b6 (orc1 94 f_d7 (orc1 110 f_b3 (orc1 111 f_b9 (orc1 113 f_cm (orc1 117 f_c9 (orc1 118 f_bq (orc1 119 f_dv (orc1 120 f_bm (orc1 123 f_bp orc0))))))))))))) (fun g hg => (q03 c_b4 (q03 hg (q03 c_b6 (q03 c_d7 (q03 c_b3 (q03 c_b9 (q03 c_cm (q03 c_c9 (q03 c_bq (q03 c_dv (q03 c_bm (q03 c_bp q06))))))))))))) (fun _ _ _ => by kernel_rfl) (fun _ _ => by kernel_rfl)
theorem c_bo : CallsAs C 52 f_bo :=
 mkC (fun L R x => b_bo L  x) q06 (fun _ _ _ => by kernel_rfl) (fun _ => by kernel_rfl)
theorem c_b1 : CallsAs C 21 f_b1 :=
 mkC (fun L R x => b_b1 L (R 50) (R 51) (R 52) x) (q03 c_bn (q03 c_b8 (q03 c_bo q06))) (fun _ _ _ => by kernel_rfl) (fun _ => by kernel_rfl)
theorem c_bf : CallsAs C 125 f_bf :=
 mkC (fun L R x => b_bf L  x) q06 (fun _ _ _ => by kernel_rfl) (fun _ => by kernel_rfl)
theorem c_cy : CallsAs C 166 f_cy :=
 mkC (fun L R x => b_cy L (R 125) x) (q03 c_bf q06) (fun _ _ _ => by kernel_rfl) (fun _ => by kernel_rfl)
theorem c_cc : CallsAs C 114 f_cc :=
 mkC (fun L R x => b_cc L (R 166) x) (q03 c_cy q06) (fun _ _ _ => by kernel_rfl) (fun _ => by kernel_rfl)
theorem c_be : CallsAs C 124 f_be :=
 mkC (fun L R x => b_be L (R 114) x) (q03 c_cc q06) (fun _ _ _ => by kernel_rfl) (fun _ => by kernel_rfl)
theorem c_bg : CallsAs C 128 f_bg :=
 mkC (fun L R x => b_bg L (R 124) x) (q03 c_be q06) (fun _ _ _ => by kernel_rfl) (fun _ => by kernel_rfl)
theorem c_cr : CallsAs C 95 f_cr :=
 mkC (fun L R x => b_cr L (R 128) x) (q03 c_bg q06) (fun _ _ _ => by kernel_rfl) (fun _ => by kernel_rfl)
theorem c_cd : CallsAs C 126 f_cd :=
 mkC (fun L R x => b_cd L (R 95) x) (q03 c_cr q06) (fun _ _ _ => by kernel_rfl) (fun _ => by kernel_rfl)
theorem q6u (g : denP (q0a C.sigs 53).ins.tys → Option (denP (q0a C.sigs 53).outs.tys)) (hg : CallsAs C 53 g) : CallsAs C 129 (q12 g) :=
 mkC (fun L R x => q1k L (R 33) (R 53) (R 117) (R 118) (R 123) x) (O := (orc1 33 f_b4 (orc1 53 g (orc1 117 f_c9 (orc1 118 f_bq (orc1 123 f_bp orc0)))))) (q03 c_b4 (q03 hg (q03 c_c9 (q03 c_bq (q03 c_bp q06))))) (fun _ _ _ => by kernel_rfl) (fun _ => by kernel_rfl)
theorem q6k (g : denP (q0a C.sigs 53).ins.tys → Option (denP (q0a C.sigs 53).outs.tys)) (hg : CallsAs C 53 g) : CallsAs C 96 (q0x g) :=
 mkC (fun L R x => q1c L (R 129) x) (O := (orc1 129 (q12 g) orc0)) (q03 (q6u g hg) q06) (fun _ _ _ => by kernel_rfl) (fun _ => by kernel_rfl)
theorem q4v (g : denP (q0a C.sigs 53).ins.tys → Option (denP (q0a C.sigs 53).outs.tys)) (hg : CallsAs C 53 g) : CallsAs C 127 (q0p g) :=
 mkC (fun L R x => q11 L (R 96) x) (O := (orc1 96 (q0x g) orc0)) (q03 (q6k g hg) q06) (fun _ _ _ => by kernel_rfl) (fun _ => by kernel_rfl)
theorem c_bd : CallsAs C 53 f_bd :=
 mkG (C := C) (k := 53) (fun L R x => b_bd L (R 33) (R 53) (R 92) (R 109) (R 117) (R 118) (R 120) (R 126) (R 127) x) (F := g_bd) (O := fun g => (orc1 33 f_b4 (orc1 53 g (orc1 92 f_b6 (orc1 109 f_bl (orc1 117 f_c9 (orc1 118 f_bq (orc1 120 f_bm (orc1 126 f_cd (orc1 127 (q0p g) orc0)))))))))) (fun g hg => (q03 c_b4 (q03 hg (q03 c_b6 (q03 c_bl (q03 c_c9 (q03 c_bq (q03 c_bm (q03 c_cd (q03 (q4v g hg) q06)))))))))) (fun _ _ _ => by kernel_rfl) (fun _ _ => by kernel_rfl)
theorem c_b2 : CallsAs C 22 f_b2 :=
 mkC (fun L R x => b_b2 L (R 50) (R 52) (R 53) x) (q03 c_bn (q03 c_bo (q03 c_bd q06))) (fun _ _ _ => by kernel_rfl) (fun _ => by kernel_rfl)
theorem c_bx : CallsAs C 23 f_bx :=
 mkC (fun L R x => b_bx L  x) q06 (fun _ _ _ => by kernel_rfl) (fun _ => by kernel_rfl)
theorem qj6 : CallsAs C 25 q53 :=
 mkC (fun L R x => q52 L  x) q06 (fun _ _ _ => by kernel_rfl) (fun _ => by kernel_rfl)
theorem qgr : CallsAs C 4 q1t :=
 mkC (fun L R x => q44 L (R 7) (R 9) (R 10) (R 15) (R 18) (R 21) (R 22) (R 23) (R 25) x) (q03 c_au (q03 c_av (q03 c_ay (q03 c_az (q03 c_aw (q03 c_b1 (q03 c_b2 (q03 c_bx (q03 qj6 q06))))))))) (fun _ _ _ => by kernel_rfl) (fun _ => by kernel_rfl)
theorem c_c6 : CallsAs C 14 f_c6 :=
 mkC (fun L R x => b_c6 L  x) q06 (fun _ _ _ => by kernel_rfl) (fun _ => by kernel_rfl)
theorem c_c3 : CallsAs C 26 f_c3 :=
 mkC (fun L R x => b_c3 L  x) q06 (fun _ _ _ => by kernel_rfl) (fun _ => by kernel_rfl)
theorem ql3 : CallsAs C 5 q4q :=
 mkC (fun L R x => qcz L (R 14) (R 26) x) (q03 c_c6 (q03 c_c3 q06)) (fun _ _ _ => by kernel_rfl) (fun _ => by kernel_rfl)
theorem qdl : CallsAs C 8 q0y :=
 mkC (fun L R x => qd0 L  x) q06 (fun _ _ _ => by kernel_rfl) (fun _ => by kernel_rfl)
theorem qj7 : CallsAs C 19 q2b :=
 mkC (fun L R x => qb6 L (R 8) x) (q03 qdl q06) (fun _ _ _ => by kernel_rfl) (fun _ => by kernel_rfl)
theorem c_law12_PatAll : CallsAs C 2 f_law12_PatAll :=
 mkC (fun L R x => q7z L (R 4) (R 5) (R 8) (R 10) (R 14) (R 15) (R 18) (R 19) (R 21) x) (q03 qgr (q03 ql3 (q03 qdl (q03 c_ay (q03 c_c6 (q03 c_az (q03 c_aw (q03 qj7 (q03 c_b1 q06))))))))) (fun _ _ _ => by kernel_rfl) (fun _ => by kernel_rfl)
theorem qzo : qe5 C C.tab = true := by kernel_rfl
theorem z0c : qk1 C C.eqs = true := by kernel_rfl
theorem qtc : qcw C C.sigs = true := by kernel_rfl
theorem qvi : C.P.follows .mixedOrders = true := by kernel_rfl
theorem calls {i : Nat} {x : denP (q0a C.sigs i).ins.tys} {y : denP (q0a C.sigs i).outs.tys} (h : Ev.Call C i x y) : FnOk C i x y := qug qzo z0c qtc qvi h
theorem qzp : qma C Rows.patTellsRow.laid := by
 refine ⟨by kernel_rfl, fun g t x h => ?_⟩
 match g with
 | 0 =>
  cases h
  exact ⟨_, _, 199, List.Mem.tail _ (List.Mem.head _), by kernel_rfl, by kernel_rfl, by kernel_rfl, rfl, by kernel_rfl⟩
 | n + 1 => cases h
theorem seatOk : qmb C Rows.patTellsRow.laid := qrg qzo (by kernel_rfl) (by kernel_rfl) (by kernel_rfl) qzp
end Go.Proofs.YtnihgcgcdjdhiaaGreatDoor.Seat

