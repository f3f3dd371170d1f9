/- The functions of this seat as data: each is what the model's code gives, by the kernel's reckoning over the verified evaluator. No statement of its own about the program. -/
import Derived.Test.YtidhnphmmajobaaGreatDoorFnA
import Derived.Test.YtidhnphmmajobaaGreatDoorEvJ
import Derived.Test.YtidhnphmmajobaaGreatDoorProg
import Derived.Test.YtidhnphmmajobaaGreatDoorSlp
import Derived.Sort.EveryDepth
import Derived.Test.YtidhnphmmajobaaGreatDoorRows
import Derived.KernelRfl
namespace Go.Proofs.YtidhnphmmajobaaGreatDoor.Seat
open Go Go.Proofs Go.Shelf Go.RowKit Go.Sort Ev Ev.Fn
abbrev t1:Ty:=.int .i64
abbrev t0:Ty:=.pair .str (.pair t1 t1)
abbrev t6:Ty:=.st (.pair t1 t0)
abbrev t2:Ty:=.sl t6
abbrev t3:Ty:=.sl (.st t0)
abbrev t4:Ty:=.st (.pair (.int .u16) (.pair (.int .u16) (.int .u16)))
abbrev t5:Ty:=.st (.pair (.int .u32) (.pair (.int .u32) (.int .u32)))
abbrev t7:Ty:=.int .u8
abbrev t8:Ty:=.st (.pair t2 (.pair t1 (.pair t3 (.pair t1 (.pair t1 (.pair t1 t1))))))
def sigs:List Sig:=[
 ⟨3,⟨[.d .str,.d t3],[]⟩,⟨[.d .bool],[]⟩,[]⟩,
 ⟨4,⟨[.d .str,.d t7,.d t3],[]⟩,⟨[.d .bool],[]⟩,[]⟩,
 ⟨5,⟨[.d .str,.d .str,.d t3],[]⟩,⟨[.d .bool],[]⟩,[]⟩,
 ⟨6,⟨[],[]⟩,⟨[.d .bool],[]⟩,[]⟩,
 ⟨7,⟨[.d t3],[]⟩,⟨[.d .bool],[]⟩,[]⟩,
 ⟨8,⟨[.d .str,.d t3],[]⟩,⟨[.d t2,.d t1,.d t1],[]⟩,[]⟩,
 ⟨9,⟨[.d t3],[]⟩,⟨[.osl 0],[.vec (.st t0)]⟩,[]⟩,
 ⟨10,⟨[.d t2],[]⟩,⟨[.d t1],[]⟩,[]⟩,
 ⟨11,⟨[.d t2,.d t2],[]⟩,⟨[.d .bool],[]⟩,[]⟩,
 ⟨12,⟨[.d t6,.d (.sl t2)],[]⟩,⟨[.d t2],[]⟩,[]⟩,
 ⟨13,⟨[.d t2,.d t1,.d t3],[]⟩,⟨[.d t2,.d t1,.d t1],[]⟩,[]⟩,
 ⟨14,⟨[.d t3],[]⟩,⟨[.d t1],[]⟩,[]⟩,
 ⟨15,⟨[.d .str],[]⟩,⟨[.d t2,.d t1,.d t1],[]⟩,[]⟩,
 ⟨16,⟨[.d t2,.d .bool],[]⟩,⟨[.d t1],[]⟩,[]⟩,
 ⟨17,⟨[.ptr 0 0],[.box [.d t2,.d t1,.d t3,.d t1,.d t1,.d t1,.d t1]]⟩,⟨[.d t2],[.box [.d t2,.d t1,.d t3,.d t1,.d t1,.d t1,.d t1]]⟩,[0]⟩,
 ⟨18,⟨[.ptr 0 0,.d t1,.d t1],[.box [.d t2,.d t1,.d t3,.d t1,.d t1,.d t1,.d t1]]⟩,⟨[.d t2],[.box [.d t2,.d t1,.d t3,.d t1,.d t1,.d t1,.d t1]]⟩,[0]⟩,
 ⟨19,⟨[.ptr 0 0,.d t1],[.box [.d t2,.d t1,.d t3,.d t1,.d t1,.d t1,.d t1]]⟩,⟨[.d t1],[.box [.d t2,.d t1,.d t3,.d t1,.d t1,.d t1,.d t1]]⟩,[0]⟩,
 ⟨20,⟨[.d t3,.fn 21 []],[]⟩,⟨[.d .bool],[]⟩,[]⟩,
 ⟨21,⟨[.d (.st t0)],[]⟩,⟨[.d .bool],[]⟩,[]⟩,
 ⟨22,⟨[.d (.st t0)],[]⟩,⟨[.d .bool],[]⟩,[]⟩,
 ⟨23,⟨[.d t3,.d .str],[]⟩,⟨[.d (.st t0),.d .bool],[]⟩,[]⟩,
 ⟨24,⟨[.d .str,.fn 48 []],[]⟩,⟨[.d t1],[]⟩,[]⟩,
 ⟨24,⟨[.d .str,.fn 50 []],[]⟩,⟨[.d t1],[]⟩,[]⟩,
 ⟨24,⟨[.d .str,.fn 52 []],[]⟩,⟨[.d t1],[]⟩,[]⟩,
 ⟨24,⟨[.d .str,.fn 25 []],[]⟩,⟨[.d t1],[]⟩,[]⟩,
 ⟨25,⟨[.d t7],[]⟩,⟨[.d .bool],[]⟩,[]⟩,
 ⟨26,⟨[.d .str],[]⟩,⟨[.d t6,.d t1,.d t1],[]⟩,[]⟩,
 ⟨27,⟨[.d t2],[]⟩,⟨[.d .bool],[]⟩,[]⟩,
 ⟨28,⟨[.d t2],[]⟩,⟨[.d t1],[]⟩,[]⟩,
 ⟨29,⟨[.d t2,.d t1,.d .bool,.fn 30 [.ref t2]],[]⟩,⟨[.d t1,.d t1],[]⟩,[]⟩,
 ⟨30,⟨[.d t1,.d .bool,.ref t2],[]⟩,⟨[.d t1],[]⟩,[]⟩,
 ⟨31,⟨[.d t2,.d t1,.d .bool],[]⟩,⟨[.d t1],[]⟩,[]⟩,
 ⟨32,⟨[.d t1,.ref t2],[]⟩,⟨[.d .bool],[]⟩,[]⟩,
 ⟨33,⟨[.d t2,.d t1],[]⟩,⟨[.d t2,.d t1],[]⟩,[]⟩,
 ⟨34,⟨[.d t2],[]⟩,⟨[.osl 0],[.vec .str]⟩,[]⟩,
 ⟨35,⟨[.osl 0],[.vec .str]⟩,⟨[],[.vec .str]⟩,[0]⟩,
 ⟨36,⟨[.osl 0],[.vec .str]⟩,⟨[.osl 1],[.gone,.vec .str]⟩,[]⟩,
 ⟨37,⟨[.d t2],[]⟩,⟨[.d t1],[]⟩,[]⟩,
 ⟨38,⟨[.d t1],[]⟩,⟨[.d .bool],[]⟩,[]⟩,
 ⟨39,⟨[.d t2,.d t1],[]⟩,⟨[.d t1],[]⟩,[]⟩,
 ⟨40,⟨[.ptr 0 0,.fn 1048617 [.ptr 0 0]],[.box [.d t2,.d t1,.d t3,.d t1,.d t1,.d t1,.d t1]]⟩,⟨[.d t2],[.box [.d t2,.d t1,.d t3,.d t1,.d t1,.d t1,.d t1]]⟩,[0]⟩,
 ⟨40,⟨[.ptr 0 0,.fn 1048713 [.ptr 0 0]],[.box [.d t2,.d t1,.d t3,.d t1,.d t1,.d t1,.d t1]]⟩,⟨[.d t2],[.box [.d t2,.d t1,.d t3,.d t1,.d t1,.d t1,.d t1]]⟩,[0]⟩,
 ⟨41,⟨[.ptr 0 0],[.box [.d t2,.d t1,.d t3,.d t1,.d t1,.d t1,.d t1]]⟩,⟨[.d t2],[.box [.d t2,.d t1,.d t3,.d t1,.d t1,.d t1,.d t1]]⟩,[0]⟩,
 ⟨42,⟨[.d t3,.fn 21 []],[]⟩,⟨[.d t1],[]⟩,[]⟩,
 ⟨42,⟨[.d t3,.fn 44 [.ref .str]],[]⟩,⟨[.d t1],[]⟩,[]⟩,
 ⟨43,⟨[.d t6],[]⟩,⟨[.d .bool],[]⟩,[]⟩,
 ⟨44,⟨[.d (.st t0),.ref .str],[]⟩,⟨[.d .bool],[]⟩,[]⟩,
 ⟨45,⟨[.d t1,.d t1,.ref .str],[]⟩,⟨[.d t6,.d t1,.d t1],[]⟩,[]⟩,
 ⟨46,⟨[.d .str],[]⟩,⟨[.d .bool],[]⟩,[]⟩,
 ⟨47,⟨[.d t7],[]⟩,⟨[.d .bool],[]⟩,[]⟩,
 ⟨48,⟨[.d t7],[]⟩,⟨[.d .bool],[]⟩,[]⟩,
 ⟨49,⟨[.d t7],[]⟩,⟨[.d .bool],[]⟩,[]⟩,
 ⟨50,⟨[.d t7],[]⟩,⟨[.d .bool],[]⟩,[]⟩,
 ⟨51,⟨[.d .str,.d .str],[]⟩,⟨[.d .bool],[]⟩,[]⟩,
 ⟨52,⟨[.d t7],[]⟩,⟨[.d .bool],[]⟩,[]⟩,
 ⟨53,⟨[.d .str],[]⟩,⟨[.d t1,.d t1],[]⟩,[]⟩,
 ⟨54,⟨[.d .str],[]⟩,⟨[.d .str,.d t1],[]⟩,[]⟩,
 ⟨55,⟨[.d t1],[]⟩,⟨[.agg [.d .bool,.d .bool,.fa [(75,false),(76,false)],.fa [(102,true),(77,false),(78,false)],.d .bool]],[]⟩,[]⟩,
 ⟨56,⟨[.d t1],[]⟩,⟨[.d t1],[]⟩,[]⟩,
 ⟨59,⟨[.ptr 0 0,.d t1,.d t1,.d (.sl .str)],[.box [.d t2,.d t1,.d t3,.d t1,.d t1,.d t1,.d t1]]⟩,⟨[.d .bool],[.box [.d t2,.d t1,.d t3,.d t1,.d t1,.d t1,.d t1]]⟩,[0]⟩,
 ⟨60,⟨[.ptr 0 0],[.box [.d t2,.d t1,.d t3,.d t1,.d t1,.d t1,.d t1]]⟩,⟨[.d t2],[.box [.d t2,.d t1,.d t3,.d t1,.d t1,.d t1,.d t1]]⟩,[0]⟩,
 ⟨61,⟨[.ptr 0 0],[.box [.d t2,.d t1,.d t3,.d t1,.d t1,.d t1,.d t1]]⟩,⟨[.d t6],[.box [.d t2,.d t1,.d t3,.d t1,.d t1,.d t1,.d t1]]⟩,[0]⟩,
 ⟨62,⟨[.ptr 0 0],[.box [.d t2,.d t1,.d t3,.d t1,.d t1,.d t1,.d t1]]⟩,⟨[.d .str],[.box [.d t2,.d t1,.d t3,.d t1,.d t1,.d t1,.d t1]]⟩,[0]⟩,
 ⟨63,⟨[.d t1,.d .str,.d (.sl t2)],[]⟩,⟨[.d t2],[]⟩,[]⟩,
 ⟨64,⟨[.ptr 0 0,.d .str],[.box [.d t2,.d t1,.d t3,.d t1,.d t1,.d t1,.d t1]]⟩,⟨[.d t2],[.box [.d t2,.d t1,.d t3,.d t1,.d t1,.d t1,.d t1]]⟩,[0]⟩,
 ⟨65,⟨[.ptr 0 0,.d .str],[.box [.d t2,.d t1,.d t3,.d t1,.d t1,.d t1,.d t1]]⟩,⟨[],[.box [.d t2,.d t1,.d t3,.d t1,.d t1,.d t1,.d t1]]⟩,[0]⟩,
 ⟨66,⟨[.fn 47 [],.ref t6],[]⟩,⟨[.d .bool],[]⟩,[]⟩,
 ⟨66,⟨[.fn 49 [],.ref t6],[]⟩,⟨[.d .bool],[]⟩,[]⟩,
 ⟨67,⟨[.d .str,.fn 48 []],[]⟩,⟨[.d .bool],[]⟩,[]⟩,
 ⟨67,⟨[.d .str,.fn 50 []],[]⟩,⟨[.d .bool],[]⟩,[]⟩,
 ⟨68,⟨[.d (.sl .str),.d .str],[]⟩,⟨[.d .bool],[]⟩,[]⟩,
 ⟨69,⟨[],[]⟩,⟨[.d (.sl .str)],[]⟩,[]⟩,
 ⟨70,⟨[.d .str,.d t7],[]⟩,⟨[.d t1],[]⟩,[]⟩,
 ⟨71,⟨[.d .str,.d .str],[]⟩,⟨[.d .bool],[]⟩,[]⟩,
 ⟨72,⟨[.d .str,.d .str],[]⟩,⟨[.d .str,.d .bool],[]⟩,[]⟩,
 ⟨73,⟨[.d t1],[]⟩,⟨[.d .str],[]⟩,[]⟩,
 ⟨74,⟨[.d t1],[]⟩,⟨[.fn 102 [.ref t1]],[]⟩,[]⟩,
 ⟨75,⟨[.d .str],[]⟩,⟨[.d .bool],[]⟩,[]⟩,
 ⟨76,⟨[.d .str],[]⟩,⟨[.d .bool],[]⟩,[]⟩,
 ⟨77,⟨[.d t1],[]⟩,⟨[.d .bool],[]⟩,[]⟩,
 ⟨78,⟨[.d t1],[]⟩,⟨[.d .bool],[]⟩,[]⟩,
 ⟨90,⟨[.ptr 0 0],[.box [.d t2,.d t1,.d t3,.d t1,.d t1,.d t1,.d t1]]⟩,⟨[.d t2],[.box [.d t2,.d t1,.d t3,.d t1,.d t1,.d t1,.d t1]]⟩,[0]⟩,
 ⟨91,⟨[.d .str,.ptr 0 0],[.box [.ptr 1 0],.box [.d t2,.d t1,.d t3,.d t1,.d t1,.d t1,.d t1]]⟩,⟨[.d .bool],[.box [.ptr 1 0],.box [.d t2,.d t1,.d t3,.d t1,.d t1,.d t1,.d t1]]⟩,[0,1]⟩,
 ⟨92,⟨[.d (.sl .str),.fn 91 [.ptr 0 0]],[.box [.ptr 1 0],.box [.d t2,.d t1,.d t3,.d t1,.d t1,.d t1,.d t1]]⟩,⟨[.d t1],[.box [.ptr 1 0],.box [.d t2,.d t1,.d t3,.d t1,.d t1,.d t1,.d t1]]⟩,[0,1]⟩,
 ⟨93,⟨[.d t3,.d (.sl .str)],[]⟩,⟨[.d (.sl t1),.d t1],[]⟩,[]⟩,
 ⟨94,⟨[.ptr 0 0,.ptr 1 0,.ptr 2 0,.ptr 3 0,.ptr 4 0],[.box [.d (.sl t1)],.box [.d t1],.box [.d (.sl t2)],.box [.d (.sl .str)],.box [.fn 94 [.ptr 0 0,.ptr 1 0,.ptr 2 0,.ptr 3 0,.ptr 4 0]]]⟩,⟨[.d t2],[.box [.d (.sl t1)],.box [.d t1],.box [.d (.sl t2)],.box [.d (.sl .str)],.box [.fn 94 [.ptr 0 0,.ptr 1 0,.ptr 2 0,.ptr 3 0,.ptr 4 0]]]⟩,[0,1,2,3,4]⟩,
 ⟨95,⟨[.d t6,.d (.sl t2)],[]⟩,⟨[.osl 0],[.vec t6]⟩,[]⟩,
 ⟨96,⟨[.d (.sl .str),.d .str],[]⟩,⟨[.d t1],[]⟩,[]⟩,
 ⟨97,⟨[.d .str],[]⟩,⟨[.d (.sl .str)],[]⟩,[]⟩,
 ⟨99,⟨[.d .str,.d .str],[]⟩,⟨[.d .str,.d .bool],[]⟩,[]⟩,
 ⟨100,⟨[.d .str,.d .str,.d .str,.d t1],[]⟩,⟨[.d .str],[]⟩,[]⟩,
 ⟨101,⟨[.d t1,.d t1],[]⟩,⟨[.d .str],[]⟩,[]⟩,
 ⟨102,⟨[.d t1,.ref t1],[]⟩,⟨[.d .bool],[]⟩,[]⟩,
 ⟨109,⟨[.ptr 0 0],[.box [.d t2,.d t1,.d t3,.d t1,.d t1,.d t1,.d t1]]⟩,⟨[.d t2],[.box [.d t2,.d t1,.d t3,.d t1,.d t1,.d t1,.d t1]]⟩,[0]⟩,
 ⟨110,⟨[.ptr 0 0],[.box [.d t2,.d t1,.d t3,.d t1,.d t1,.d t1,.d t1]]⟩,⟨[.d .bool],[.box [.d t2,.d t1,.d t3,.d t1,.d t1,.d t1,.d t1]]⟩,[0]⟩,
 ⟨111,⟨[.ptr 0 0,.ptr 1 0],[.box [.osl 2],.box [.osl 3],.vec t1,.vec (.sl t1)]⟩,⟨[],[.box [.osl 4],.box [.osl 5],.gone,.gone,.vec t1,.vec (.sl t1)]⟩,[0,1]⟩,
 ⟨112,⟨[.d (.sl (.sl t1))],[]⟩,⟨[.osl 0],[.vec t1]⟩,[]⟩,
 ⟨124,⟨[.ptr 0 0],[.box [.d t2,.d t1,.d t3,.d t1,.d t1,.d t1,.d t1]]⟩,⟨[.d t2],[.box [.d t2,.d t1,.d t3,.d t1,.d t1,.d t1,.d t1]]⟩,[0]⟩,
 ⟨125,⟨[.d (.sl t1),.d t1],[]⟩,⟨[.osl 0],[.vec t1]⟩,[]⟩,
 ⟨137,⟨[.ptr 0 0],[.box [.d t2,.d t1,.d t3,.d t1,.d t1,.d t1,.d t1]]⟩,⟨[.d t2],[.box [.d t2,.d t1,.d t3,.d t1,.d t1,.d t1,.d t1]]⟩,[0]⟩,
 ⟨149,⟨[.ptr 0 0],[.box [.d t2,.d t1,.d t3,.d t1,.d t1,.d t1,.d t1]]⟩,⟨[.d t2],[.box [.d t2,.d t1,.d t3,.d t1,.d t1,.d t1,.d t1]]⟩,[0]⟩]
def z2a:List Int:=[0,0,0,0,0,0,0,0,0,1,1,1,1,1,0,0,0,0,0,0,0,0,0,0,0,0,0,0,0,0,0,0,1,0,0,0,0,0,0,0,0,0,0,0,0,0,0,0,0,0,0,0,0,0,0,0,0,0,0,0,0,0,0,0,0,0,0,0,0,0,0,0,0,0,0,0,0,0,0,0,0,0,0,0,0,0,0,0,0,0,0,0,0,0,0,0,0,0,0,0,0,0,0,0,0,0,0,0,0,0,0,0,0,0,0,0,0,0,0,0,0,0,0,0,0,0,0,0,0,0,0,0,0,0,0,0,0,0,0,0,0,0,0,0,0,0,0,0,0,0,0,0,0,0,0,0,0,0,0,0,0,0,0,0,0,0,0,0,0,0,0,0,0,0,0,0,0,0,0,0,0,0,0,0,0,0,0,0,0,0,0,0,0,0,0,0,0,0,0,0,0,0,0,0,0,0,0,0,0,0,0,0,0,0,0,0,0,0,0,0,0,0,0,0,0,0,0,0,0,0,0,0,0,0,0,0,0,0,0,0,0,0,0,0,0,0,0,0,0,0,0,0,0,0,0,0]
def z0r:List Int:=[1,10,100,1000,10000,100000,1000000,10000000,100000000,1000000000,10000000000,100000000000,1000000000000,10000000000000,100000000000000,1000000000000000,10000000000000000,100000000000000000,1000000000000000000,10000000000000000000]
def glob:Nat→Option ((t:Ty)×den t)
 |0=>some ⟨.arr 256 (.int .u8),z2a⟩
 |5=>some ⟨.arr 20 (.int .u64),z0r⟩
 |_=>none
def tab:List (Nat×Ty):=[
 (2,t1),
 (3,t1),
 (4,.bool),
 (5,t7),
 (6,t7),
 (7,(.st (.pair t1 (.pair t1 (.pair .bool t7))))),
 (8,(.st (.pair t1 (.pair t1 (.pair .bool t7))))),
 (9,.str),
 (10,.str),
 (11,.str),
 (12,(.int .u64)),
 (13,(.st (.pair .str (.int .u64)))),
 (14,(.st (.pair .str (.int .u64)))),
 (21,(.int .i32)),
 (22,t3),
 (25,t2),
 (26,t1),
 (35,t1),
 (36,t6),
 (37,t6),
 (38,(.sl t2)),
 (40,(.st t0)),
 (41,(.st t0)),
 (43,t1),
 (44,t6),
 (45,t6),
 (46,t2),
 (52,t8),
 (53,t8),
 (73,(.sl .str)),
 (90,(.sl t1)),
 (97,(.int .u64)),
 (112,(.sl t7)),
 (114,(.int .u64)),
 (116,t1),
 (124,(.int .u32)),
 (134,(.int .u64)),
 (140,(.sl (.sl t1))),
 (142,(.arr 256 t7)),
 (160,(.sl (.st (.pair t1 t1)))),
 (161,(.st (.pair t1 t1))),
 (162,(.st (.pair t1 t1))),
 (168,(.arr 24 t7)),
 (172,(.sl t4)),
 (173,(.sl t5)),
 (174,(.st (.pair (.sl t4) (.pair (.sl t5) t1)))),
 (175,(.st (.pair (.sl t4) (.pair (.sl t5) t1)))),
 (176,(.int .u16)),
 (177,t4),
 (178,t4),
 (180,t5),
 (181,t5),
 (186,(.st (.pair t7 t7))),
 (187,(.st (.pair t7 t7))),
 (188,(.arr 16 (.st (.pair t7 t7)))),
 (190,(.arr 20 (.int .u64))),
 (191,(.arr 65 t7)),
 (196,(.arr 32 t7)),
 (197,(.arr 64 t7)),
 (204,t7),
 (205,t7),
 (207,(.int .i32)),
 (208,(.int .i32))]
def eqs:List Nat:=[37,41]
noncomputable def C:Cx:=⟨Tryz.prog,sigs,glob,tab,eqs,9999⟩
def z2b:denP (q0c C.sigs 35).ins.tys→Option (denP (q0c C.sigs 35).outs.tys):=fun x=>bif x.1.l.all qbg&&decide (x.1.l.length<4611686018427387904) then some ((⟨x.1.nil,x.1.l.mergeSort fun a b=>!strLt b a⟩:Sl (List Int)),()) else none
def g_ix:denP (q0c C.sigs 72).ins.tys→Option (denP (q0c C.sigs 72).outs.tys):=fun x=>some (ixB x.2.1 x.1,())
def z2c:denP (q0c C.sigs 98).ins.tys→Option (denP (q0c C.sigs 98).outs.tys):=fun x=>bif x.1.nil&&x.1.l.isEmpty&&decide (0≤x.2.1)&&decide (x.2.1≤1000000) then some ((⟨decide (x.2.1=0),([]:List Int)⟩:Sl Int),()) else none
def z2v:denP (q0c C.sigs 91).ins.tys→Option (denP (q0c C.sigs 91).outs.tys):=fun x=>bif decide (x.2.1=10)&&(decide (-9223372036854775808≤x.1)&&decide (x.1≤9223372036854775807)) then some (q9c x.1,()) else none
def z2w:denP (q0c C.sigs 90).ins.tys→Option (denP (q0c C.sigs 90).outs.tys):=fun x=>bif (x.2.1==[45])&&((x.2.2.1==[126])&&(decide (x.2.2.2.1=1)&&decide (x.1.length≤1000))) then some (rep1 x.1,()) else none
theorem c_ix:CallsAs C 72 g_ix:=by intro x y h;obtain ⟨l,c,u⟩:=x;have h:some ((ixB c l,()):Int×Unit)=some y:=h;injection h with h;subst h;exact Call.prim 72 _ _ (z19 (C:=C) (f:=70) ⟨_,Tryz.func70,by kernel_rfl⟩ (fun s c w=>Any.strings_IndexByte Tryz.ixL s c w) l c)
theorem z2d:CallsAs C 98 z2c:=by
 intro x y h;obtain ⟨⟨nil,l⟩,n,u⟩:=x;have h:(bif nil&&l.isEmpty&&decide (0≤n)&&decide (n≤1000000) then some ((⟨decide (n=0),([]:List Int)⟩,()):Sl Int×Unit) else none)=some y:=h;cases hb:(nil&&l.isEmpty&&decide (0≤n)&&decide (n≤1000000)) with
 |false=>rw [hb] at h;cases h
 |true=>
  rw [hb] at h;injection h with h;subst h;simp only [zd,decide_eq_true_eq] at hb;obtain ⟨⟨⟨h1,h2⟩,h3⟩,h4⟩:=hb;subst h1;obtain rfl:l=[]:=List.isEmpty_iff.1 h2;obtain ⟨k,rfl⟩:=Int.eq_ofNat_of_zero_le h3;have h4:(k:Int)≤1000000:=h4;have hc:(Tryz.prog.info? (Tryz.growL_ren.t 25)).map (fun i=>(i.zero,i.size,i.bytes))=some (some (.int .i64 0),1,8):=by kernel_rfl
  obtain ⟨i0,i1,i2⟩:=Option.map_eq_some_iff.1 hc;injection i2 with i2 i3;injection i3 with i3 i4;have key:=qvj (C:=C) (f:=125) ⟨_,Tryz.func125,by kernel_rfl⟩
   (fun w=>Any8.slices_Grow_room Tryz.growL none 0 0 0 w (Nat.le_refl _) (by decide) (by decide) (Nat.le_refl _))
   (fun n w hn hd=>by have g:=Any8.slices_Grow_grow Tryz.growL i0 (.int .i64 0) i1 i2 (by omega) none 0 0 n [] w (Nat.le_refl _) (by omega) (by rw [i4];omega) (by omega) (by rw [i3];rfl) (fun _=>rfl) (fun a h=>by cases h);refine Calls.mono g fun e w' ⟨e1,e2⟩=>⟨_,_,_,e1,e2,?_⟩;simp [Builtin.zeroCells];have hs:(Value.int IntKind.i64 0).cells.size=1:=rfl;rw [hs];omega) k (by omega)
  have e:decide ((k:Int)=0)=decide (k=0):=decide_eq_decide.2 (by omega);rw [e];exact Call.prim 98 _ _ key
theorem z2x:CallsAs C 91 z2v:=by
 intro x y h;obtain ⟨n,k,u⟩:=x;have h:(bif decide (k=10)&&(decide (-9223372036854775808≤n)&&decide (n≤9223372036854775807)) then some ((q9c n,()):List Int×Unit) else none)=some y:=h;cases hb:(decide (k=10)&&(decide (-9223372036854775808≤n)&&decide (n≤9223372036854775807))) with
 |false=>rw [hb] at h;cases h
 |true=>
  rw [hb] at h;injection h with h;subst h;simp only [zd,decide_eq_true_eq] at hb;obtain ⟨rfl,h2,h3⟩:=hb;have ht:z0r=Lib.pow10Tab:=by decide
  exact Call.prim 91 _ _ (qza (C:=C) (f:=101) ⟨_,Tryz.func101,by kernel_rfl⟩ (g:=5) (m:=20) (zs:=z0r) (by kernel_rfl) rfl
   (fun n h0 h1 w hc=>Any.strconv_FormatInt_10 Tryz.fmtL n h0 h1 w (by rw [←ht];exact hc)) n h2 h3)
theorem qwz:Builder.Extra Tryz.prog Tryz.repL_ren where
 sizeBuilder:=by kernel_rfl
 liesBuilder:=by kernel_rfl
 t5:=Tryz.repL.t5
 a5:=Tryz.repL.a5
 z5:=Tryz.repL.z5
 v5:=Tryz.repL.v5
 infoByte:=by kernel_rfl
 cellsByte:=by kernel_rfl
 sizeByte:=by kernel_rfl
 neB5:=by decide
theorem z2y:CallsAs C 90 z2w:=by
 intro x y h;obtain ⟨l,a,b,k,u⟩:=x;have h:(bif (a==[45])&&((b==[126])&&(decide (k=1)&&decide (l.length≤1000))) then some ((rep1 l,()):List Int×Unit) else none)=some y:=h;cases hb:((a==[45])&&((b==[126])&&(decide (k=1)&&decide (l.length≤1000)))) with
 |false=>rw [hb] at h;cases h
 |true=>rw [hb] at h;injection h with h;subst h;simp only [zd,decide_eq_true_eq,beq_iff_eq] at hb;obtain ⟨rfl,rfl,rfl,h3⟩:=hb;exact Call.prim 90 _ _ (qzb (C:=C) (f:=100) ⟨_,Tryz.func100,by kernel_rfl⟩ (fun s w hs=>qvn Tryz.repL qwz s w hs) l h3)
def q5n (x:List UInt8):List Int:=x.map fun b=>(b.toNat:Int)
def qgh (l:List Int):List UInt8:=l.map fun b=>UInt8.ofNat b.toNat
theorem qgi:∀x y:List UInt8,q5n x=q5n y→x=y
 |[],[],_=>rfl
 |[],_::_,h=>by cases h
 |_::_,[],h=>by cases h
 |a::x,b::y,h=>by injection h with h1 h2;have h1:(a.toNat:Int)=(b.toNat:Int):=h1;have e:a=b:=UInt8.toNat_inj.1 (by omega);rw [qgi x y h2,e]
theorem qav:∀l:List Int,(∀b,b∈l→0≤b∧b≤255)→q5n (qgh l)=l
 |[],_=>rfl
 |a::l,h=>by obtain ⟨h0,h1⟩:=h a (zj ..);show (((UInt8.ofNat a.toNat).toNat:Nat):Int)::q5n (qgh l)=_;rw [qav l fun b hb=>h b (zm _ hb),UInt8.toNat_ofNat',Nat.mod_eq_of_lt (by omega)];congr 1;omega
theorem qgj:∀x y:List UInt8,strLt (q5n x) (q5n y)=decide (x<y)
 |[],[]=>rfl
 |[],b::y=>by show true=_;exact (zt (List.nil_lt_cons b y)).symm
 |a::x,[]=>by show false=_;exact (zp (List.not_lt_nil _)).symm
 |a::x,b::y=>by
  show (decide ((a.toNat:Int)<(b.toNat:Int))||(decide ((a.toNat:Int)=(b.toNat:Int))&&strLt (q5n x) (q5n y)))=_;rw [qgj x y,Bool.eq_iff_iff,decide_eq_true_eq,List.cons_lt_cons_iff];simp only [Bool.or_eq_true,zd,decide_eq_true_eq];have e1:((a.toNat:Int)<(b.toNat:Int))↔a<b:=by rw [UInt8.lt_iff_toNat_lt];omega
  have e2:((a.toNat:Int)=(b.toNat:Int))↔a=b:=by rw [←UInt8.toNat_inj];omega
  rw [e1,e2]
theorem qu8 (imm:Nat→Prop) (w:World) (x:List UInt8) (hx:x.length≤9223372036854775807) (cs:List Value):relC imm w .str (q5n x) cs↔cs=[encStr x]:=by
 constructor
 ·rintro ⟨t,e3,h1,h2⟩;have h1:t.data.toList.map (fun b=>(b.toNat:Int))=q5n x:=h1;have h3:t.data.toList=x:=qgi _ _ h1;subst e3;have:t=⟨x.toArray⟩:=by rw [←h3]
  rw [this]
 ·intro e;subst e;refine ⟨⟨x.toArray⟩,rfl,rfl,?_⟩;show x.toArray.size≤_;simpa [maxL] using hx
theorem z2e:CallsAs C 35 z2b:=by
 intro x y h;obtain ⟨⟨nil,l⟩,u⟩:=x;have h:(bif l.all qbg&&decide (l.length<4611686018427387904) then some ((⟨nil,l.mergeSort fun a b=>!strLt b a⟩:Sl (List Int)),()) else none)=some y:=h;cases hg:(l.all qbg&&decide (l.length<4611686018427387904)) with
 |false=>rw [hg] at h;cases h
 |true=>
  rw [hg] at h;injection h with h;subst h;simp only [zd,decide_eq_true_eq] at hg;obtain ⟨g1,g3⟩:=hg;have gg:∀s,s∈l→(∀b,b∈s→0≤b∧b≤255)∧s.length≤9223372036854775807:=fun s hs=>qs8 (zT.1 g1 s hs);have hl:l=(l.map qgh).map q5n:=by rw [zZ];exact ((zX (g:=fun s=>s) fun s hs=>qav s (gg s hs).1).trans (List.map_id' l)).symm
  have key:=qsa (C:=C) (f:=35) (t:=.str) encStr q5n (fun x=>x.length≤9223372036854775807) (fun l=>l.mergeSort fun x y=>decide (x≤y)) (by intro h;cases h) rfl
   (fun imm w x hx cs=>qu8 imm w x hx cs) (fun l=>List.length_mergeSort l) (fun l x hx=>(List.mem_mergeSort).1 hx)
   ⟨_,Tryz.func35,by kernel_rfl⟩ (fun p cap w=>Any.slices_Sort_string_none Tryz.sortL p cap w)
   (fun blk off cap zs w hH hb hc=>calls_of_every_depth fun D=>AnyS.slices_Sort_string_alone Tryz.sortL D blk off cap zs w hH hb hc)
   nil (l.map qgh) (fun x hx=>by obtain ⟨s,hs,rfl⟩:=List.mem_map.1 hx;show (s.map _).length≤_;rw [zH];exact (gg s hs).2) (by rw [zH];exact g3)
  have e:((l.map qgh).mergeSort fun x y=>decide (x≤y)).map q5n=((l.map qgh).map q5n).mergeSort fun a b=>!strLt b a:=
   List.map_mergeSort (fun a _ b _=>by
    rw [qgj];by_cases h:b<a
    ·rw [zt h,zp (fun e:a≤b=>e h)];rfl
    ·rw [zp h,zt (show a≤b from h)];rfl)
  rw [e,←hl] at key;exact Call.prim 35 _ _ key
theorem c_c7:CallsAs C 39 f_c7:=mkC (fun L R x=>b_c7 L  x) q08 (fun _ _ _=>by kernel_rfl) (fun _=>by kernel_rfl)
theorem c_ca:CallsAs C 27 f_ca:=mkC (fun L R x=>b_ca L (R 39) x) (q03 c_c7 q08) (fun _ _ _=>by kernel_rfl) (fun _=>by kernel_rfl)
theorem c_c6:CallsAs C 28 f_c6:=mkC (fun L R x=>b_c6 L (R 27) x) (q03 c_ca q08) (fun _ _ _=>by kernel_rfl) (fun _=>by kernel_rfl)
theorem c_c4:CallsAs C 38 f_c4:=mkC (fun L R x=>b_c4 L  x) q08 (fun _ _ _=>by kernel_rfl) (fun _=>by kernel_rfl)
theorem c_c0:CallsAs C 76 f_c0:=mkC (fun L R x=>b_c0 L  x) q08 (fun _ _ _=>by kernel_rfl) (fun _=>by kernel_rfl)
theorem c_bx:CallsAs C 57 f_bx:=mkC (fun L R x=>b_bx L (R 76) x) (q03 c_c0 q08) (fun _ _ _=>by kernel_rfl) (fun _=>by kernel_rfl)
theorem c_cd:CallsAs C 58 f_cd:=mkC (fun L R x=>b_cd L  x) q08 (fun _ _ _=>by kernel_rfl) (fun _=>by kernel_rfl)
theorem c_bf:CallsAs C 87 f_bf:=mkC (fun L R x=>b_bf L  x) q08 (fun _ _ _=>by kernel_rfl) (fun _=>by kernel_rfl)
theorem c_bc:CallsAs C 70 f_bc:=mkC (fun L R x=>b_bc L (R 87) x) (q03 c_bf q08) (fun _ _ _=>by kernel_rfl) (fun _=>by kernel_rfl)
theorem c_bm:CallsAs C 88 f_bm:=mkC (fun L R x=>b_bm L  x) q08 (fun _ _ _=>by kernel_rfl) (fun _=>by kernel_rfl)
theorem c_at:CallsAs C 71 f_at:=mkC (fun L R x=>b_at L (R 88) x) (q03 c_bm q08) (fun _ _ _=>by kernel_rfl) (fun _=>by kernel_rfl)
theorem c_a9:CallsAs C 48 f_a9:=mkC (fun L R x=>b_a9 L (R 70) (R 71) x) (q03 c_bc (q03 c_at q08)) (fun _ _ _=>by kernel_rfl) (fun _=>by kernel_rfl)
theorem c_ao:CallsAs C 49 f_ao:=mkC (fun L R x=>b_ao L  x) q08 (fun _ _ _=>by kernel_rfl) (fun _=>by kernel_rfl)
theorem c_ai:CallsAs C 51 f_ai:=mkC (fun L R x=>b_ai L  x) q08 (fun _ _ _=>by kernel_rfl) (fun _=>by kernel_rfl)
theorem c_ah:CallsAs C 54 f_ah:=mkC (fun L R x=>b_ah L  x) q08 (fun _ _ _=>by kernel_rfl) (fun _=>by kernel_rfl)
theorem c_aj:CallsAs C 50 f_aj:=mkC (fun L R x=>b_aj L (R 49) (R 51) (R 54) x) (q03 c_ao (q03 c_ai (q03 c_ah q08))) (fun _ _ _=>by kernel_rfl) (fun _=>by kernel_rfl)
theorem c_af:CallsAs C 68 f_af:=mkC (fun L R x=>b_af L (R 50) x) (q03 c_aj q08) (fun _ _ _=>by kernel_rfl) (fun _=>by kernel_rfl)
theorem c_ad:CallsAs C 66 f_ad:=mkC (fun L R x=>b_ad L (R 48) (R 49) (R 68) x) (q03 c_a9 (q03 c_ao (q03 c_af q08))) (fun _ _ _=>by kernel_rfl) (fun _=>by kernel_rfl)
theorem c_ae:CallsAs C 67 f_ae:=mkC (fun L R x=>b_ae L (R 48) (R 51) (R 68) x) (q03 c_a9 (q03 c_ai (q03 c_af q08))) (fun _ _ _=>by kernel_rfl) (fun _=>by kernel_rfl)
theorem c_bo:CallsAs C 72 f_bo:=c_ix
theorem c_an:CallsAs C 52 f_an:=mkC (fun L R x=>b_an L (R 72) x) (q03 c_bo q08) (fun _ _ _=>by kernel_rfl) (fun _=>by kernel_rfl)
theorem c_ag:CallsAs C 69 f_ag:=mkC (fun L R x=>b_ag L (R 52) x) (q03 c_an q08) (fun _ _ _=>by kernel_rfl) (fun _=>by kernel_rfl)
theorem c_ac:CallsAs C 45 f_ac:=mkC (fun L R x=>b_ac L (R 48) (R 58) (R 66) (R 67) (R 69) x) (q03 c_a9 (q03 c_cd (q03 c_ad (q03 c_ae (q03 c_ag q08))))) (fun _ _ _=>by kernel_rfl) (fun _=>by kernel_rfl)
theorem c_bs:CallsAs C 77 f_bs:=mkC (fun L R x=>b_bs L (R 45) x) (q03 c_ac q08) (fun _ _ _=>by kernel_rfl) (fun _=>by kernel_rfl)
theorem c_br:CallsAs C 78 f_br:=mkC (fun L R x=>b_br L (R 45) x) (q03 c_ac q08) (fun _ _ _=>by kernel_rfl) (fun _=>by kernel_rfl)
theorem c_by:CallsAs C 79 f_by:=mkC (fun L R x=>b_by L  x) q08 (fun _ _ _=>by kernel_rfl) (fun _=>by kernel_rfl)
theorem c_bz:CallsAs C 80 f_bz:=mkC (fun L R x=>b_bz L  x) q08 (fun _ _ _=>by kernel_rfl) (fun _=>by kernel_rfl)
theorem c_c1:CallsAs C 92 f_c1:=mkC (fun L R x=>b_c1 L  x) q08 (fun _ _ _=>by kernel_rfl) (fun _=>by kernel_rfl)
theorem c_c3:CallsAs C 31 f_c3:=mkC (fun L R x=>b_c3 L (R 38) (R 57) (R 58) (R 77) (R 78) (R 79) (R 80) (R 92) x) (q03 c_c4 (q03 c_bx (q03 c_cd (q03 c_bs (q03 c_br (q03 c_by (q03 c_bz (q03 c_c1 q08)))))))) (fun _ _ _=>by kernel_rfl) (fun _=>by kernel_rfl)
theorem c_bu:CallsAs C 30 f_bu:=mkC (fun L R x=>b_bu L (R 31) x) (q03 c_c3 q08) (fun _ _ _=>by kernel_rfl) (fun _=>by kernel_rfl)
theorem c_c5:CallsAs C 29 f_c5:=mkG (C:=C) (k:=29) (fun L R x=>b_c5 L (R 29) (R 30) x) (F:=g_c5) (O:=fun g=>(orc1 29 g (orc1 30 f_bu orc0))) (fun g hg=>(q03 hg (q03 c_bu q08))) (fun _ _ _=>by kernel_rfl) (fun _ _=>by kernel_rfl)
theorem c_c9:CallsAs C 33 f_c9:=mkC (fun L R x=>b_c9 L (R 39) x) (q03 c_c7 q08) (fun _ _ _=>by kernel_rfl) (fun _=>by kernel_rfl)
theorem c_c2:CallsAs C 34 f_c2:=mkC (fun L R x=>b_c2 L  x) q08 (fun _ _ _=>by kernel_rfl) (fun _=>by kernel_rfl)
theorem c_bj:CallsAs C 35 f_bj:=z2e
theorem c_ba:CallsAs C 36 f_ba:=mkC (fun L R x=>b_ba L  x) q08 (fun _ _ _=>by kernel_rfl) (fun _=>by kernel_rfl)
theorem c_bw:CallsAs C 37 f_bw:=mkC (fun L R x=>b_bw L (R 34) x) (q03 c_c2 q08) (fun _ _ _=>by kernel_rfl) (fun _=>by kernel_rfl)
theorem c_bv:CallsAs C 32 f_bv:=mkC (fun L R x=>b_bv L (R 33) (R 34) (R 35) (R 36) (R 37) x) (q03 c_c9 (q03 c_c2 (q03 c_bj (q03 c_ba (q03 c_bw q08))))) (fun _ _ _=>by kernel_rfl) (fun _=>by kernel_rfl)
theorem c_bt:CallsAs C 13 f_bt:=mkC (fun L R x=>b_bt L (R 27) (R 28) (R 29) (R 32) (R 38) (R 39) x) (q03 c_ca (q03 c_c6 (q03 c_c5 (q03 c_bv (q03 c_c4 (q03 c_c7 q08)))))) (fun _ _ _=>by kernel_rfl) (fun _=>by kernel_rfl)
theorem c_bq:CallsAs C 7 f_bq:=mkC (fun L R x=>b_bq L (R 13) x) (q03 c_bt q08) (fun _ _ _=>by kernel_rfl) (fun _=>by kernel_rfl)
theorem c_a6:CallsAs C 19 f_a6:=mkC (fun L R x=>b_a6 L (R 45) x) (q03 c_ac q08) (fun _ _ _=>by kernel_rfl) (fun _=>by kernel_rfl)
theorem c_a1:CallsAs C 18 f_a1:=mkC (fun L R x=>b_a1 L (R 19) x) (q03 c_a6 q08) (fun _ _ _=>by kernel_rfl) (fun _=>by kernel_rfl)
theorem c_bg:CallsAs C 43 f_bg:=mkC (fun L R x=>b_bg L (R 18) x) (q03 c_a1 q08) (fun _ _ _=>by kernel_rfl) (fun _=>by kernel_rfl)
theorem c_bd:CallsAs C 17 f_bd:=mkC (fun L R x=>b_bd L (R 43) x) (q03 c_bg q08) (fun _ _ _=>by kernel_rfl) (fun _=>by kernel_rfl)
theorem c_a5:CallsAs C 46 f_a5:=mkC (fun L R x=>b_a5 L  x) q08 (fun _ _ _=>by kernel_rfl) (fun _=>by kernel_rfl)
theorem c_bh:CallsAs C 44 f_bh:=mkC (fun L R x=>b_bh L (R 46) x) (q03 c_a5 q08) (fun _ _ _=>by kernel_rfl) (fun _=>by kernel_rfl)
theorem c_a4:CallsAs C 20 f_a4:=mkC (fun L R x=>b_a4 L (R 44) x) (q03 c_bh q08) (fun _ _ _=>by kernel_rfl) (fun _=>by kernel_rfl)
theorem c_a0:CallsAs C 11 f_a0:=mkC (fun L R x=>b_a0 L (R 17) (R 20) x) (q03 c_bd (q03 c_a4 q08)) (fun _ _ _=>by kernel_rfl) (fun _=>by kernel_rfl)
theorem c_b1:CallsAs C 15 f_b1:=mkC (fun L R x=>b_b1 L  x) q08 (fun _ _ _=>by kernel_rfl) (fun _=>by kernel_rfl)
theorem c_b4:CallsAs C 16 f_b4:=mkC (fun L R x=>b_b4 L  x) q08 (fun _ _ _=>by kernel_rfl) (fun _=>by kernel_rfl)
theorem c_b2:CallsAs C 59 f_b2:=mkC (fun L R x=>b_b2 L (R 70) x) (q03 c_bc q08) (fun _ _ _=>by kernel_rfl) (fun _=>by kernel_rfl)
theorem c_b7:CallsAs C 61 f_b7:=mkC (fun L R x=>b_b7 L  x) q08 (fun _ _ _=>by kernel_rfl) (fun _=>by kernel_rfl)
theorem c_c8:CallsAs C 86 f_c8:=mkC (fun L R x=>b_c8 L  x) q08 (fun _ _ _=>by kernel_rfl) (fun _=>by kernel_rfl)
theorem c_aw:CallsAs C 63 f_aw:=mkC (fun L R x=>b_aw L (R 86) x) (q03 c_c8 q08) (fun _ _ _=>by kernel_rfl) (fun _=>by kernel_rfl)
theorem c_b3:CallsAs C 65 f_b3:=mkC (fun L R x=>b_b3 L (R 15) (R 16) (R 59) x) (q03 c_b1 (q03 c_b4 (q03 c_b2 q08))) (fun _ _ _=>by kernel_rfl) (fun _=>by kernel_rfl)
theorem c_ax:CallsAs C 94 f_ax:=mkC (fun L R x=>b_ax L (R 59) x) (q03 c_b2 q08) (fun _ _ _=>by kernel_rfl) (fun _=>by kernel_rfl)
theorem c_ay:CallsAs C 62 f_ay:=mkC (fun L R x=>b_ay L (R 15) (R 16) (R 59) (R 61) (R 65) x) (q03 c_b1 (q03 c_b4 (q03 c_b2 (q03 c_b7 (q03 c_b3 q08))))) (fun _ _ _=>by kernel_rfl) (fun _=>by kernel_rfl)
theorem q80 (g:denP (q0c C.sigs 41).ins.tys→Option (denP (q0c C.sigs 41).outs.tys)) (hg:CallsAs C 41 g):CallsAs C 100 (q0b g):=mkC (fun L R x=>q25 L (R 41) (R 59) (R 61) (R 62) (R 63) (R 65) (R 86) x) (O:=(orc1 41 g (orc1 59 f_b2 (orc1 61 f_b7 (orc1 62 f_ay (orc1 63 f_aw (orc1 65 f_b3 (orc1 86 f_c8 orc0)))))))) (q03 hg (q03 c_b2 (q03 c_b7 (q03 c_ay (q03 c_aw (q03 c_b3 (q03 c_c8 q08))))))) (fun _ _ _=>by kernel_rfl) (fun _=>by kernel_rfl)
theorem q9l (g:denP (q0c C.sigs 41).ins.tys→Option (denP (q0c C.sigs 41).outs.tys)) (hg:CallsAs C 41 g):CallsAs C 99 (q0x g):=mkC (fun L R x=>q2m L (R 59) (R 61) (R 63) (R 100) x) (O:=(orc1 59 f_b2 (orc1 61 f_b7 (orc1 63 f_aw (orc1 100 (q0b g) orc0))))) (q03 c_b2 (q03 c_b7 (q03 c_aw (q03 (q80 g hg) q08)))) (fun _ _ _=>by kernel_rfl) (fun _=>by kernel_rfl)
theorem c_az:CallsAs C 41 f_az:=mkG (C:=C) (k:=41) (fun L R x=>b_az L (R 15) (R 16) (R 99) x) (F:=g_az) (O:=fun g=>(orc1 15 f_b1 (orc1 16 f_b4 (orc1 99 (q0x g) orc0)))) (fun g hg=>(q03 c_b1 (q03 c_b4 (q03 (q9l g hg) q08)))) (fun _ _ _=>by kernel_rfl) (fun _ _=>by kernel_rfl)
theorem q45 (g:denP (q0c C.sigs 14).ins.tys→Option (denP (q0c C.sigs 14).outs.tys)) (hg:CallsAs C 14 g):CallsAs C 64 (q09 g):=mkC (fun L R x=>q20 L (R 14) (R 65) x) (O:=(orc1 14 g (orc1 65 f_b3 orc0))) (q03 hg (q03 c_b3 q08)) (fun _ _ _=>by kernel_rfl) (fun _=>by kernel_rfl)
theorem q81 (g:denP (q0c C.sigs 14).ins.tys→Option (denP (q0c C.sigs 14).outs.tys)) (hg:CallsAs C 14 g):CallsAs C 97 (q0q g):=mkC (fun L R x=>q26 L (R 14) (R 41) (R 59) (R 63) (R 64) (R 65) x) (O:=(orc1 14 g (orc1 41 f_az (orc1 59 f_b2 (orc1 63 f_aw (orc1 64 (q09 g) (orc1 65 f_b3 orc0))))))) (q03 hg (q03 c_az (q03 c_b2 (q03 c_aw (q03 (q45 g hg) (q03 c_b3 q08)))))) (fun _ _ _=>by kernel_rfl) (fun _=>by kernel_rfl)
theorem q8g (g:denP (q0c C.sigs 14).ins.tys→Option (denP (q0c C.sigs 14).outs.tys)) (hg:CallsAs C 14 g):CallsAs C 93 (q0k g):=mkC (fun L R x=>q2f L (R 14) (R 15) (R 16) (R 59) (R 61) (R 63) (R 65) (R 86) (R 94) (R 97) x) (O:=(orc1 14 g (orc1 15 f_b1 (orc1 16 f_b4 (orc1 59 f_b2 (orc1 61 f_b7 (orc1 63 f_aw (orc1 65 f_b3 (orc1 86 f_c8 (orc1 94 f_ax (orc1 97 (q0q g) orc0))))))))))) (q03 hg (q03 c_b1 (q03 c_b4 (q03 c_b2 (q03 c_b7 (q03 c_aw (q03 c_b3 (q03 c_c8 (q03 c_ax (q03 (q81 g hg) q08)))))))))) (fun _ _ _=>by kernel_rfl) (fun _=>by kernel_rfl)
theorem q9m (g:denP (q0c C.sigs 14).ins.tys→Option (denP (q0c C.sigs 14).outs.tys)) (hg:CallsAs C 14 g):CallsAs C 81 (q0o g):=mkC (fun L R x=>q2n L (R 63) (R 93) (R 94) x) (O:=(orc1 63 f_aw (orc1 93 (q0k g) (orc1 94 f_ax orc0)))) (q03 c_aw (q03 (q8g g hg) (q03 c_ax q08))) (fun _ _ _=>by kernel_rfl) (fun _=>by kernel_rfl)
theorem c_b5:CallsAs C 82 f_b5:=mkC (fun L R x=>b_b5 L (R 20) x) (q03 c_a4 q08) (fun _ _ _=>by kernel_rfl) (fun _=>by kernel_rfl)
theorem c_bi:CallsAs C 83 f_bi:=mkC (fun L R x=>b_bi L (R 82) x) (q03 c_b5 q08) (fun _ _ _=>by kernel_rfl) (fun _=>by kernel_rfl)
theorem c_be:CallsAs C 98 f_be:=z2d
theorem c_bb:CallsAs C 96 f_bb:=mkC (fun L R x=>b_bb L (R 98) x) (q03 c_be q08) (fun _ _ _=>by kernel_rfl) (fun _=>by kernel_rfl)
theorem c_a3:CallsAs C 95 f_a3:=mkC (fun L R x=>b_a3 L (R 96) x) (q03 c_bb q08) (fun _ _ _=>by kernel_rfl) (fun _=>by kernel_rfl)
theorem c_a2:CallsAs C 84 f_a2:=mkC (fun L R x=>b_a2 L (R 11) (R 20) (R 95) x) (q03 c_a0 (q03 c_a4 (q03 c_a3 q08))) (fun _ _ _=>by kernel_rfl) (fun _=>by kernel_rfl)
theorem c_b6:CallsAs C 85 f_b6:=mkG (C:=C) (k:=85) (fun L R x=>b_b6 L (R 63) (R 85) x) (F:=g_b6) (O:=fun g=>(orc1 63 f_aw (orc1 85 g orc0))) (fun g hg=>(q03 c_aw (q03 hg q08))) (fun _ _ _=>by kernel_rfl) (fun _ _=>by kernel_rfl)
theorem q9n (g:denP (q0c C.sigs 14).ins.tys→Option (denP (q0c C.sigs 14).outs.tys)) (hg:CallsAs C 14 g):CallsAs C 60 (q0y g):=mkC (fun L R x=>q2o L (R 15) (R 16) (R 59) (R 61) (R 81) (R 83) (R 84) (R 85) x) (O:=(orc1 15 f_b1 (orc1 16 f_b4 (orc1 59 f_b2 (orc1 61 f_b7 (orc1 81 (q0o g) (orc1 83 f_bi (orc1 84 f_a2 (orc1 85 f_b6 orc0))))))))) (q03 c_b1 (q03 c_b4 (q03 c_b2 (q03 c_b7 (q03 (q9m g hg) (q03 c_bi (q03 c_a2 (q03 c_b6 q08)))))))) (fun _ _ _=>by kernel_rfl) (fun _=>by kernel_rfl)
theorem q8h (g:denP (q0c C.sigs 14).ins.tys→Option (denP (q0c C.sigs 14).outs.tys)) (hg:CallsAs C 14 g):CallsAs C 42 (q0u g):=mkC (fun L R x=>q2g L (R 14) (R 59) (R 60) (R 61) (R 62) (R 63) (R 64) (R 65) x) (O:=(orc1 14 g (orc1 59 f_b2 (orc1 60 (q0y g) (orc1 61 f_b7 (orc1 62 f_ay (orc1 63 f_aw (orc1 64 (q09 g) (orc1 65 f_b3 orc0))))))))) (q03 hg (q03 c_b2 (q03 (q9n g hg) (q03 c_b7 (q03 c_ay (q03 c_aw (q03 (q45 g hg) (q03 c_b3 q08)))))))) (fun _ _ _=>by kernel_rfl) (fun _=>by kernel_rfl)
theorem q8i (g:denP (q0c C.sigs 14).ins.tys→Option (denP (q0c C.sigs 14).outs.tys)) (hg:CallsAs C 14 g):CallsAs C 40 (q0v g):=mkC (fun L R x=>q2h L (R 15) (R 16) (R 42) x) (O:=(orc1 15 f_b1 (orc1 16 f_b4 (orc1 42 (q0u g) orc0)))) (q03 c_b1 (q03 c_b4 (q03 (q8h g hg) q08))) (fun _ _ _=>by kernel_rfl) (fun _=>by kernel_rfl)
theorem c_b0:CallsAs C 14 f_b0:=mkG (C:=C) (k:=14) (fun L R x=>b_b0 L (R 40) x) (F:=g_b0) (O:=fun g=>(orc1 40 (q0v g) orc0)) (fun g hg=>(q03 (q8i g hg) q08)) (fun _ _ _=>by kernel_rfl) (fun _ _=>by kernel_rfl)
theorem c_av:CallsAs C 10 f_av:=mkC (fun L R x=>b_av L (R 7) (R 11) (R 14) (R 15) (R 16) x) (q03 c_bq (q03 c_a0 (q03 c_b0 (q03 c_b1 (q03 c_b4 q08))))) (fun _ _ _=>by kernel_rfl) (fun _=>by kernel_rfl)
theorem c_ab:CallsAs C 25 f_ab:=mkC (fun L R x=>b_ab L  x) q08 (fun _ _ _=>by kernel_rfl) (fun _=>by kernel_rfl)
theorem c_as:CallsAs C 24 f_as:=mkC (fun L R x=>b_as L (R 25) x) (q03 c_ab q08) (fun _ _ _=>by kernel_rfl) (fun _=>by kernel_rfl)
theorem c_ap:CallsAs C 21 f_ap:=mkC (fun L R x=>b_ap L (R 50) x) (q03 c_aj q08) (fun _ _ _=>by kernel_rfl) (fun _=>by kernel_rfl)
theorem c_aq:CallsAs C 22 f_aq:=mkC (fun L R x=>b_aq L (R 52) x) (q03 c_an q08) (fun _ _ _=>by kernel_rfl) (fun _=>by kernel_rfl)
theorem c_ar:CallsAs C 23 f_ar:=mkC (fun L R x=>b_ar L (R 54) x) (q03 c_ah q08) (fun _ _ _=>by kernel_rfl) (fun _=>by kernel_rfl)
theorem c_al:CallsAs C 47 f_al:=mkC (fun L R x=>b_al L (R 48) x) (q03 c_a9 q08) (fun _ _ _=>by kernel_rfl) (fun _=>by kernel_rfl)
theorem c_a8:CallsAs C 73 f_a8:=mkC (fun L R x=>b_a8 L  x) q08 (fun _ _ _=>by kernel_rfl) (fun _=>by kernel_rfl)
theorem c_bn:CallsAs C 53 f_bn:=mkC (fun L R x=>b_bn L (R 73) x) (q03 c_a8 q08) (fun _ _ _=>by kernel_rfl) (fun _=>by kernel_rfl)
theorem c_a7:CallsAs C 89 f_a7:=mkC (fun L R x=>b_a7 L (R 73) x) (q03 c_a8 q08) (fun _ _ _=>by kernel_rfl) (fun _=>by kernel_rfl)
theorem c_bl:CallsAs C 74 f_bl:=mkC (fun L R x=>b_bl L (R 89) x) (q03 c_a7 q08) (fun _ _ _=>by kernel_rfl) (fun _=>by kernel_rfl)
theorem c_bp:CallsAs C 90 f_bp:=z2y
theorem c_bk:CallsAs C 91 f_bk:=z2x
theorem c_cc:CallsAs C 75 f_cc:=mkC (fun L R x=>b_cc L (R 58) (R 90) (R 91) x) (q03 c_cd (q03 c_bp (q03 c_bk q08))) (fun _ _ _=>by kernel_rfl) (fun _=>by kernel_rfl)
theorem c_cb:CallsAs C 55 f_cb:=mkC (fun L R x=>b_cb L (R 74) (R 75) x) (q03 c_bl (q03 c_cc q08)) (fun _ _ _=>by kernel_rfl) (fun _=>by kernel_rfl)
theorem c_am:CallsAs C 56 f_am:=mkC (fun L R x=>b_am L (R 72) x) (q03 c_bo q08) (fun _ _ _=>by kernel_rfl) (fun _=>by kernel_rfl)
theorem c_ak:CallsAs C 26 f_ak:=mkC (fun L R x=>b_ak L (R 21) (R 22) (R 23) (R 47) (R 49) (R 51) (R 52) (R 53) (R 54) (R 55) (R 56) x) (q03 c_ap (q03 c_aq (q03 c_ar (q03 c_al (q03 c_ao (q03 c_ai (q03 c_an (q03 c_bn (q03 c_ah (q03 c_cb (q03 c_am q08))))))))))) (fun _ _ _=>by kernel_rfl) (fun _=>by kernel_rfl)
theorem c_aa:CallsAs C 12 f_aa:=mkC (fun L R x=>b_aa L (R 24) (R 26) x) (q03 c_as (q03 c_ak q08)) (fun _ _ _=>by kernel_rfl) (fun _=>by kernel_rfl)
theorem c_au:CallsAs C 5 f_au:=mkC (fun L R x=>b_au L (R 10) (R 11) (R 12) x) (q03 c_av (q03 c_a0 (q03 c_aa q08))) (fun _ _ _=>by kernel_rfl) (fun _=>by kernel_rfl)
theorem c_b9:CallsAs C 8 f_b9:=mkC (fun L R x=>b_b9 L  x) q08 (fun _ _ _=>by kernel_rfl) (fun _=>by kernel_rfl)
theorem q6z:CallsAs C 3 q13:=mkC (fun L R x=>q4r L (R 5) (R 8) (R 10) x) (q03 c_au (q03 c_b9 (q03 c_av q08))) (fun _ _ _=>by kernel_rfl) (fun _=>by kernel_rfl)
theorem q9o:CallsAs C 4 q24:=mkC (fun L R x=>qee L  x) q08 (fun _ _ _=>by kernel_rfl) (fun _=>by kernel_rfl)
theorem q9p:CallsAs C 6 q14:=mkC (fun L R x=>qef L  x) q08 (fun _ _ _=>by kernel_rfl) (fun _=>by kernel_rfl)
theorem c_law07_ParseFits:CallsAs C 0 f_law07_ParseFits:=mkC (fun L R x=>q68 L (R 3) (R 4) (R 5) (R 6) (R 7) x) (q03 q6z (q03 q9o (q03 c_au (q03 q9p (q03 c_bq q08))))) (fun _ _ _=>by kernel_rfl) (fun _=>by kernel_rfl)
theorem c_law07_ParseBlanks:CallsAs C 1 f_law07_ParseBlanks:=mkC (fun L R x=>q58 L (R 3) (R 4) (R 5) (R 6) (R 8) x) (q03 q6z (q03 q9o (q03 c_au (q03 q9p (q03 c_b9 q08))))) (fun _ _ _=>by kernel_rfl) (fun _=>by kernel_rfl)
theorem c_b8:CallsAs C 9 f_b8:=mkC (fun L R x=>b_b8 L  x) q08 (fun _ _ _=>by kernel_rfl) (fun _=>by kernel_rfl)
theorem c_law07_ParseCuts:CallsAs C 2 f_law07_ParseCuts:=mkC (fun L R x=>q69 L (R 3) (R 4) (R 5) (R 6) (R 8) (R 9) x) (q03 q6z (q03 q9o (q03 c_au (q03 q9p (q03 c_b9 (q03 c_b8 q08)))))) (fun _ _ _=>by kernel_rfl) (fun _=>by kernel_rfl)
theorem z2f:qfe C C.tab=true:=by kernel_rfl
theorem z2z:qld C C.eqs=true:=by kernel_rfl
theorem qu9:qeb C C.sigs=true:=by kernel_rfl
theorem mixed:C.P.follows .mixedOrders=true:=by kernel_rfl
theorem calls {i:Nat} {x:denP (q0c C.sigs i).ins.tys} {y:denP (q0c C.sigs i).outs.tys} (h:Ev.Call C i x y):FnOk C i x y:=qvg z2f z2z qu9 mixed h
theorem z2g:qnf C Rows.parseFitsRow.laid:=by
 refine ⟨by kernel_rfl,fun g t x h=>?_⟩
 match g with
 |0=>cases h;exact ⟨_,_,142,List.Mem.tail _ (List.Mem.tail _ (List.Mem.tail _ (List.Mem.tail _ (List.Mem.tail _ (List.Mem.head _))))),by kernel_rfl,by kernel_rfl,by kernel_rfl,rfl,by kernel_rfl⟩
 |5=>cases h;exact ⟨_,_,190,List.Mem.tail _ (List.Mem.tail _ (List.Mem.head _)),by kernel_rfl,by kernel_rfl,by kernel_rfl,rfl,by kernel_rfl⟩
 |1=>cases h
 |2=>cases h
 |3=>cases h
 |4=>cases h
 |n+6=>cases h
theorem seatOk:qng C Rows.parseFitsRow.laid:=qs5 z2f (by kernel_rfl) (by kernel_rfl) (by kernel_rfl) z2g
end Go.Proofs.YtidhnphmmajobaaGreatDoor.Seat

