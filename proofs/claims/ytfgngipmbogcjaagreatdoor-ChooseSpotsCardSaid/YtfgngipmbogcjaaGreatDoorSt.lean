/- The functions of this seat as data: each is what the model's code gives, by the kernel's reckoning over the verified evaluator. No statement of its own about the program. -/
import Derived.Test.YtfgngipmbogcjaaGreatDoorFnA
import Derived.Test.YtfgngipmbogcjaaGreatDoorEvJ
import Derived.Test.YtfgngipmbogcjaaGreatDoorPl
import Derived.Test.YtfgngipmbogcjaaGreatDoorProg
import Derived.Test.YtfgngipmbogcjaaGreatDoorSlp
import Derived.Sort.EveryDepth
import Derived.Test.YtfgngipmbogcjaaGreatDoorRows
import Derived.KernelRfl
namespace Go.Proofs.YtfgngipmbogcjaaGreatDoor.lL
open Go Go.Proofs Go.Shelf Go.RowKit Go.Sort Ev Ev.Fn
abbrev t2:Ty:=.int .i64
abbrev t3:Ty:=.st (.pair t2 (.pair .str (.pair t2 t2)))
abbrev t0:Ty:=.sl t3
abbrev tc:Ty:=.st (.pair .str (.sl t0))
abbrev t4:Ty:=.sl tc
abbrev t1:Ty:=.st (.pair .str (.pair t2 t4))
abbrev t5:Ty:=.st (.pair .str t0)
abbrev t6:Ty:=.st (.pair (.sl t0) t2)
abbrev t7:Ty:=.st (.pair (.int .u16) (.pair (.int .u16) (.int .u16)))
abbrev t8:Ty:=.st (.pair (.int .u32) (.pair (.int .u32) (.int .u32)))
abbrev t9:Ty:=.int .u8
abbrev ta:Ty:=.st (.pair .str .str)
abbrev tb:Ty:=.st (.pair t2 t0)
def sigs:List mZ:=[
 ⟨3,⟨[.d (.sl t1),.d t0,.d (.sl t0)],[]⟩,⟨[.d .bool],[]⟩,[]⟩,
 ⟨4,⟨[.d (.sl t1),.d t0,.d (.sl t0)],[]⟩,⟨[.d .bool],[]⟩,[]⟩,
 ⟨5,⟨[.d t0,.d t0],[]⟩,⟨[.d .bool],[]⟩,[]⟩,
 ⟨6,⟨[.d (.sl t1),.d t0,.d (.sl t0),.d t0],[]⟩,⟨[.d .bool],[]⟩,[]⟩,
 ⟨7,⟨[],[]⟩,⟨[.d .bool],[]⟩,[]⟩,
 ⟨8,⟨[.d (.sl t1),.d t0,.d (.sl t0)],[]⟩,⟨[.d .bool],[]⟩,[]⟩,
 ⟨9,⟨[.d (.sl t1),.d t0,.d (.sl t0)],[]⟩,⟨[.d t0,.d t2],[]⟩,[]⟩,
 ⟨10,⟨[.d t0],[]⟩,⟨[.d t0],[]⟩,[]⟩,
 ⟨11,⟨[.d (.sl t0)],[]⟩,⟨[.d (.sl t0)],[]⟩,[]⟩,
 ⟨12,⟨[.d (.sl t1),.d t0,.d t0],[]⟩,⟨[.d .bool],[]⟩,[]⟩,
 ⟨13,⟨[.d (.sl t1),.d t0,.d (.sl t0)],[]⟩,⟨[.d t0,.d .bool],[]⟩,[]⟩,
 ⟨14,⟨[.d t0,.d t0],[]⟩,⟨[.d .bool],[]⟩,[]⟩,
 ⟨15,⟨[.d t0],[]⟩,⟨[.d t2],[]⟩,[]⟩,
 ⟨16,⟨[.d t0,.d t2,.d (.sl .str)],[]⟩,⟨[.d .bool],[]⟩,[]⟩,
 ⟨17,⟨[.d (.sl t0)],[]⟩,⟨[.d .bool],[]⟩,[]⟩,
 ⟨18,⟨[.d t0,.d t0],[]⟩,⟨[.d (.sl t5),.d .bool],[]⟩,[]⟩,
 ⟨19,⟨[.d t0],[]⟩,⟨[.d (.sl ta)],[]⟩,[]⟩,
 ⟨20,⟨[.d t0],[]⟩,⟨[.d .bool],[]⟩,[]⟩,
 ⟨21,⟨[.d t0,.d .str],[]⟩,⟨[.d t0,.d .bool],[]⟩,[]⟩,
 ⟨22,⟨[.d (.sl t1),.d t0,.d t0],[]⟩,⟨[.d .bool],[]⟩,[]⟩,
 ⟨23,⟨[.d t0,.d t0],[]⟩,⟨[.d t2],[]⟩,[]⟩,
 ⟨24,⟨[.d (.sl t0),.d t0],[]⟩,⟨[.d t2],[]⟩,[]⟩,
 ⟨25,⟨[.d (.sl t1)],[]⟩,⟨[.d .bool],[]⟩,[]⟩,
 ⟨26,⟨[.d (.sl t1),.d t0,.d t0],[]⟩,⟨[.d t2],[]⟩,[]⟩,
 ⟨28,⟨[.ptr 0 0,.d (.sl t5),.d (.sl t6)],[.box [.d (.sl t1),.d t2]]⟩,⟨[.bP,.d .bool,.d t0],[.box [.d (.sl t1),.d t2]]⟩,[0]⟩,
 ⟨29,⟨[.d (.sl t1)],[]⟩,⟨[.d t2],[]⟩,[]⟩,
 ⟨30,⟨[.d t0],[]⟩,⟨[.d .bool],[]⟩,[]⟩,
 ⟨31,⟨[.d t0,.d .bool],[]⟩,⟨[.d t2],[]⟩,[]⟩,
 ⟨32,⟨[.d (.sl t1),.d t0,.d t0,.d t2],[]⟩,⟨[.d .bool],[]⟩,[]⟩,
 ⟨33,⟨[.d (.sl t1),.d (.sl t5),.d (.sl t6)],[]⟩,⟨[.d t0,.d .bool],[]⟩,[]⟩,
 ⟨34,⟨[.d t0],[]⟩,⟨[.d .bool],[]⟩,[]⟩,
 ⟨35,⟨[.d t0,.d t2],[]⟩,⟨[.d t2,.d .bool],[]⟩,[]⟩,
 ⟨36,⟨[.d (.sl .str),.d .str],[]⟩,⟨[.d .bool],[]⟩,[]⟩,
 ⟨37,⟨[.d t0,.d t2],[]⟩,⟨[.d (.sl t2)],[]⟩,[]⟩,
 ⟨38,⟨[.d t0],[]⟩,⟨[.d t2],[]⟩,[]⟩,
 ⟨39,⟨[.d t0],[]⟩,⟨[.d .bool],[]⟩,[]⟩,
 ⟨40,⟨[.d .str,.d t0,.ptr 0 0],[.box [.cR 1],.vec t5]⟩,⟨[],[.box [.cR 2],.gone,.vec t5]⟩,[0]⟩,
 ⟨41,⟨[.d t0],[]⟩,⟨[.d t0],[]⟩,[]⟩,
 ⟨42,⟨[.d t0,.d t0,.fn 40 [.ptr 0 0]],[.box [.cR 1],.vec t5]⟩,⟨[.d .bool],[.box [.cR 2],.gone,.vec t5]⟩,[0]⟩,
 ⟨43,⟨[.d t0,.d .str,.ptr 0 0,.ptr 1 0],[.box [.cR 2],.box [.fn 43 [.ptr 0 0,.ptr 1 0]],.vec ta]⟩,⟨[],[.box [.cR 3],.box [.fn 43 [.ptr 0 0,.ptr 1 0]],.gone,.vec ta]⟩,[0,1]⟩,
 ⟨44,⟨[.d t0],[]⟩,⟨[.d (.sl t0)],[]⟩,[]⟩,
 ⟨45,⟨[.d .str,.d t2],[]⟩,⟨[.d .str],[]⟩,[]⟩,
 ⟨46,⟨[.d t0,.d .str],[]⟩,⟨[.d t0,.d .bool],[]⟩,[]⟩,
 ⟨47,⟨[.d t0],[]⟩,⟨[.d .bool],[]⟩,[]⟩,
 ⟨48,⟨[.d (.sl t1)],[]⟩,⟨[.d t2],[]⟩,[]⟩,
 ⟨49,⟨[.d t0],[]⟩,⟨[.d t2],[]⟩,[]⟩,
 ⟨50,⟨[.d (.sl t1),.d t0,.d t0],[]⟩,⟨[.d .bool],[]⟩,[]⟩,
 ⟨51,⟨[.d t0,.d t2],[]⟩,⟨[.d (.sl t2)],[]⟩,[]⟩,
 ⟨52,⟨[.d (.sl t0),.fn 109 [.ptr 0 0]],[.box [.fn 104 [.ptr 1 0]],.box [.d (.sl t1)]]⟩,⟨[.d t2],[.box [.fn 104 [.ptr 1 0]],.box [.d (.sl t1)]]⟩,[0,1]⟩,
 ⟨52,⟨[.d (.sl t0),.fn 150 [.ptr 0 0]],[.box [.fn 146 [.ptr 1 0]],.box [.d .str,.d t2,.d t4]]⟩,⟨[.d t2],[.box [.fn 146 [.ptr 1 0]],.box [.d .str,.d t2,.d t4]]⟩,[0,1]⟩,
 ⟨52,⟨[.d (.sl t0),.fn 53 [.ref t0]],[]⟩,⟨[.d t2],[]⟩,[]⟩,
 ⟨52,⟨[.d (.sl t0),.fn 56 []],[]⟩,⟨[.d t2],[]⟩,[]⟩,
 ⟨53,⟨[.d t0,.ref t0],[]⟩,⟨[.d .bool],[]⟩,[]⟩,
 ⟨54,⟨[.d (.sl t1),.d t0,.d t0],[]⟩,⟨[.d .bool],[]⟩,[]⟩,
 ⟨55,⟨[.ptr 0 0,.d t3],[.box [.d (.sl t1),.d t2]]⟩,⟨[.bP,.d .bool,.d t3],[.box [.d (.sl t1),.d t2]]⟩,[0]⟩,
 ⟨56,⟨[.d t0],[]⟩,⟨[.d .bool],[]⟩,[]⟩,
 ⟨57,⟨[.d t0],[]⟩,⟨[.d .bool],[]⟩,[]⟩,
 ⟨58,⟨[.d t0],[]⟩,⟨[.d t3],[]⟩,[]⟩,
 ⟨59,⟨[.d t0,.d t3],[]⟩,⟨[.d .bool],[]⟩,[]⟩,
 ⟨60,⟨[.fn 63 [.ptr 0 0,.ptr 1 0],.ptr 2 0,.ptr 3 0],[.box [.d (.sl t0)],.box [.d t2,.d .str,.d t2,.d t2],.box [.d (.sl t6)],.box [.d t2]]⟩,⟨[.d (.sl t6)],[.box [.d (.sl t0)],.box [.d t2,.d .str,.d t2,.d t2],.box [.d (.sl t6)],.box [.d t2]]⟩,[0,1,2,3]⟩,
 ⟨60,⟨[.fn 67 [],.ptr 0 0,.ptr 1 0],[.box [.d (.sl t6)],.box [.d t2]]⟩,⟨[.d (.sl t6)],[.box [.d (.sl t6)],.box [.d t2]]⟩,[0,1]⟩,
 ⟨61,⟨[.d (.sl (.sl t0))],[]⟩,⟨[.cR 0],[.vec t0]⟩,[]⟩,
 ⟨62,⟨[.d (.sl t1),.d t0,.d .str],[]⟩,⟨[.d (.sl t0),.d .bool],[]⟩,[]⟩,
 ⟨63,⟨[.d t0,.ptr 0 0,.ptr 1 0],[.box [.d (.sl t0)],.box [.d t2,.d .str,.d t2,.d t2]]⟩,⟨[.d (.sl t0),.d .bool],[.box [.d (.sl t0)],.box [.d t2,.d .str,.d t2,.d t2]]⟩,[0,1]⟩,
 ⟨64,⟨[.d (.sl (.sl t5))],[]⟩,⟨[.cR 0],[.vec t5]⟩,[]⟩,
 ⟨65,⟨[.d (.sl t1),.fn 98 []],[]⟩,⟨[.d t2],[]⟩,[]⟩,
 ⟨65,⟨[.d (.sl t1),.fn 100 [.ref t1]],[]⟩,⟨[.d t2],[]⟩,[]⟩,
 ⟨65,⟨[.d (.sl t1),.fn 106 [.ref t3]],[]⟩,⟨[.d t2],[]⟩,[]⟩,
 ⟨65,⟨[.d (.sl t1),.fn 177 [.ref t0]],[]⟩,⟨[.d t2],[]⟩,[]⟩,
 ⟨65,⟨[.d (.sl t1),.fn 66 [.ptr 0 0]],[.box [.d .str,.d t0]]⟩,⟨[.d t2],[.box [.d .str,.d t0]]⟩,[0]⟩,
 ⟨66,⟨[.d t1,.ptr 0 0],[.box [.d .str,.d t0]]⟩,⟨[.d .bool],[.box [.d .str,.d t0]]⟩,[0]⟩,
 ⟨67,⟨[.d t0],[]⟩,⟨[.d (.sl t0),.d .bool],[]⟩,[]⟩,
 ⟨68,⟨[.d t1],[]⟩,⟨[.d .bool],[]⟩,[]⟩,
 ⟨69,⟨[.d (.sl t1)],[]⟩,⟨[.d (.sl .str)],[]⟩,[]⟩,
 ⟨70,⟨[.d .str],[]⟩,⟨[.d .bool],[]⟩,[]⟩,
 ⟨71,⟨[.d (.sl t1),.d t3],[]⟩,⟨[.d .bool],[]⟩,[]⟩,
 ⟨72,⟨[.d t0],[]⟩,⟨[.d .bool],[]⟩,[]⟩,
 ⟨73,⟨[.d t3],[]⟩,⟨[.d .bool],[]⟩,[]⟩,
 ⟨74,⟨[.d t0,.d t2],[]⟩,⟨[.d t2],[]⟩,[]⟩,
 ⟨75,⟨[.d t0,.d t2,.d .bool],[]⟩,⟨[.d t2],[]⟩,[]⟩,
 ⟨76,⟨[.d t0,.d t2],[]⟩,⟨[.d .bool],[]⟩,[]⟩,
 ⟨77,⟨[.d (.sl t1),.d t0,.d .str],[]⟩,⟨[.d (.sl t0),.d .bool],[]⟩,[]⟩,
 ⟨78,⟨[.d t0],[]⟩,⟨[.d .bool],[]⟩,[]⟩,
 ⟨79,⟨[.d t6,.d t2,.d (.sl t0)],[]⟩,⟨[.d t6],[]⟩,[]⟩,
 ⟨80,⟨[.d t0,.d t3],[]⟩,⟨[.d .bool],[]⟩,[]⟩,
 ⟨81,⟨[.d t0],[]⟩,⟨[.d t3],[]⟩,[]⟩,
 ⟨82,⟨[.d .str,.d t2],[]⟩,⟨[.d .str],[]⟩,[]⟩,
 ⟨83,⟨[.d t0],[]⟩,⟨[.d (.sl t0)],[]⟩,[]⟩,
 ⟨84,⟨[.d (.sl t5),.d t2,.d (.sl t5)],[]⟩,⟨[.d (.sl t5)],[]⟩,[]⟩,
 ⟨85,⟨[.d (.sl t1),.d t0],[]⟩,⟨[.d t2],[]⟩,[]⟩,
 ⟨86,⟨[.d t3,.d (.sl t0)],[]⟩,⟨[.d t0],[]⟩,[]⟩,
 ⟨87,⟨[.d t0,.d t2],[]⟩,⟨[.d t2],[]⟩,[]⟩,
 ⟨88,⟨[.d .str],[]⟩,⟨[.d (.sl t2),.d .bool],[]⟩,[]⟩,
 ⟨89,⟨[.d .str],[]⟩,⟨[.d .bool],[]⟩,[]⟩,
 ⟨90,⟨[.d t0,.d t2],[]⟩,⟨[.d t2],[]⟩,[]⟩,
 ⟨91,⟨[.d t0,.d .bool],[]⟩,⟨[.d t2],[]⟩,[]⟩,
 ⟨92,⟨[.d t0,.fn 110 []],[]⟩,⟨[.d .bool],[]⟩,[]⟩,
 ⟨92,⟨[.d t0,.fn 93 []],[]⟩,⟨[.d .bool],[]⟩,[]⟩,
 ⟨92,⟨[.d t0,.fn 104 [.ptr 0 0]],[.box [.d (.sl t1)]]⟩,⟨[.d .bool],[.box [.d (.sl t1)]]⟩,[0]⟩,
 ⟨93,⟨[.d t3],[]⟩,⟨[.d .bool],[]⟩,[]⟩,
 ⟨94,⟨[.d t3],[]⟩,⟨[.d .bool],[]⟩,[]⟩,
 ⟨95,⟨[.d t0],[]⟩,⟨[.d (.sl t0)],[]⟩,[]⟩,
 ⟨96,⟨[.d t2],[]⟩,⟨[.d .str],[]⟩,[]⟩,
 ⟨97,⟨[.d (.sl t1),.fn 98 []],[]⟩,⟨[.d .bool],[]⟩,[]⟩,
 ⟨97,⟨[.d (.sl t1),.fn 106 [.ref t3]],[]⟩,⟨[.d .bool],[]⟩,[]⟩,
 ⟨98,⟨[.d t1],[]⟩,⟨[.d .bool],[]⟩,[]⟩,
 ⟨99,⟨[.d t1],[]⟩,⟨[.d .bool],[]⟩,[]⟩,
 ⟨100,⟨[.d t1,.ref t1],[]⟩,⟨[.d .bool],[]⟩,[]⟩,
 ⟨101,⟨[.d t2,.d t2,.ptr 0 0],[.box [.d (.sl t1)]]⟩,⟨[.d .bool],[.box [.d (.sl t1)]]⟩,[0]⟩,
 ⟨102,⟨[.d (.sl t1),.d .str],[]⟩,⟨[.d t2,.d t2,.d .bool],[]⟩,[]⟩,
 ⟨103,⟨[.d (.sl t1),.fn 101 [.ptr 0 0]],[.box [.d (.sl t1)]]⟩,⟨[.d .bool],[.box [.d (.sl t1)]]⟩,[0]⟩,
 ⟨103,⟨[.d (.sl t1),.fn 107 [.ptr 0 0,.ptr 1 0]],[.box [.d (.sl t1)],.box [.fn 104 [.ptr 0 0]]]⟩,⟨[.d .bool],[.box [.d (.sl t1)],.box [.fn 104 [.ptr 0 0]]]⟩,[0,1]⟩,
 ⟨103,⟨[.d (.sl t1),.fn 151 [.ref (.sl t1),.ref .str,.ptr 0 0,.ptr 1 0]],[.box [.d t2],.box [.d t2]]⟩,⟨[.d .bool],[.box [.d t2],.box [.d t2]]⟩,[0,1]⟩,
 ⟨104,⟨[.d t3,.ptr 0 0],[.box [.d (.sl t1)]]⟩,⟨[.d .bool],[.box [.d (.sl t1)]]⟩,[0]⟩,
 ⟨105,⟨[.d .str],[]⟩,⟨[.d .bool],[]⟩,[]⟩,
 ⟨106,⟨[.d t1,.ref t3],[]⟩,⟨[.d .bool],[]⟩,[]⟩,
 ⟨107,⟨[.d t2,.d t2,.ptr 0 0,.ptr 1 0],[.box [.d (.sl t1)],.box [.fn 104 [.ptr 0 0]]]⟩,⟨[.d .bool],[.box [.d (.sl t1)],.box [.fn 104 [.ptr 0 0]]]⟩,[0,1]⟩,
 ⟨108,⟨[.d (.sl t0),.fn 109 [.ptr 0 0]],[.box [.fn 104 [.ptr 1 0]],.box [.d (.sl t1)]]⟩,⟨[.d .bool],[.box [.fn 104 [.ptr 1 0]],.box [.d (.sl t1)]]⟩,[0,1]⟩,
 ⟨108,⟨[.d (.sl t0),.fn 150 [.ptr 0 0]],[.box [.fn 146 [.ptr 1 0]],.box [.d .str,.d t2,.d t4]]⟩,⟨[.d .bool],[.box [.fn 146 [.ptr 1 0]],.box [.d .str,.d t2,.d t4]]⟩,[0,1]⟩,
 ⟨109,⟨[.d t0,.ptr 0 0],[.box [.fn 104 [.ptr 1 0]],.box [.d (.sl t1)]]⟩,⟨[.d .bool],[.box [.fn 104 [.ptr 1 0]],.box [.d (.sl t1)]]⟩,[0,1]⟩,
 ⟨110,⟨[.d t3],[]⟩,⟨[.d .bool],[]⟩,[]⟩,
 ⟨111,⟨[.d t3],[]⟩,⟨[.d .bool],[]⟩,[]⟩,
 ⟨112,⟨[.d (.sl t1),.d t0,.d t0,.fn 114 [.ref (.sl t1)]],[]⟩,⟨[.d .bool],[]⟩,[]⟩,
 ⟨112,⟨[.d (.sl t1),.d t0,.d t0,.fn 113 [.ref (.sl t1)]],[]⟩,⟨[.d .bool],[]⟩,[]⟩,
 ⟨113,⟨[.d t0,.d t0,.ref (.sl t1)],[]⟩,⟨[.d .bool],[]⟩,[]⟩,
 ⟨114,⟨[.d t0,.d t0,.ref (.sl t1)],[]⟩,⟨[.d .bool],[]⟩,[]⟩,
 ⟨115,⟨[.d t0,.d t3],[]⟩,⟨[.d t2],[]⟩,[]⟩,
 ⟨116,⟨[.d (.sl t0),.d t2],[]⟩,⟨[.cR 0],[.vec t0]⟩,[]⟩,
 ⟨117,⟨[.d (.sl t1),.d t0,.d .str],[]⟩,⟨[.d (.sl t0),.d .bool],[]⟩,[]⟩,
 ⟨118,⟨[.d (.sl t5),.d t2],[]⟩,⟨[.cR 0],[.vec t5]⟩,[]⟩,
 ⟨119,⟨[.d t0],[]⟩,⟨[.d (.sl t2)],[]⟩,[]⟩,
 ⟨120,⟨[.d t9],[]⟩,⟨[.d t2],[]⟩,[]⟩,
 ⟨121,⟨[.d .str,.d t2,.d t2,.d t2],[]⟩,⟨[.d t2],[]⟩,[]⟩,
 ⟨122,⟨[.d .str],[]⟩,⟨[.d .bool],[]⟩,[]⟩,
 ⟨123,⟨[.d t2],[]⟩,⟨[.d t2],[]⟩,[]⟩,
 ⟨124,⟨[.d t0,.d t2,.d .bool],[]⟩,⟨[.d t2],[]⟩,[]⟩,
 ⟨125,⟨[.d t2],[]⟩,⟨[.d .bool],[]⟩,[]⟩,
 ⟨126,⟨[.d t0,.d t2],[]⟩,⟨[.cR 0],[.vec .str]⟩,[]⟩,
 ⟨127,⟨[.d t0,.d t2],[]⟩,⟨[.d t0],[]⟩,[]⟩,
 ⟨128,⟨[.d (.sl tb),.d t0],[]⟩,⟨[.d t0],[]⟩,[]⟩,
 ⟨129,⟨[.d t2],[]⟩,⟨[.d .str],[]⟩,[]⟩,
 ⟨131,⟨[.d t3],[]⟩,⟨[.d .bool],[]⟩,[]⟩,
 ⟨132,⟨[.d t0],[]⟩,⟨[.d t2],[]⟩,[]⟩,
 ⟨133,⟨[.d t0,.d t2,.d .bool,.fn 134 [.ref t0]],[]⟩,⟨[.d t2,.d t2],[]⟩,[]⟩,
 ⟨134,⟨[.d t2,.d .bool,.ref t0],[]⟩,⟨[.d t2],[]⟩,[]⟩,
 ⟨135,⟨[.d t0,.d t2,.d .bool],[]⟩,⟨[.d t2],[]⟩,[]⟩,
 ⟨136,⟨[.d t2,.ref t0],[]⟩,⟨[.d .bool],[]⟩,[]⟩,
 ⟨137,⟨[.d t0,.d t2],[]⟩,⟨[.d t0,.d t2],[]⟩,[]⟩,
 ⟨138,⟨[.d t0],[]⟩,⟨[.cR 0],[.vec .str]⟩,[]⟩,
 ⟨139,⟨[.cR 0],[.vec .str]⟩,⟨[],[.vec .str]⟩,[0]⟩,
 ⟨140,⟨[.cR 0],[.vec .str]⟩,⟨[.cR 1],[.gone,.vec .str]⟩,[]⟩,
 ⟨141,⟨[.d t0],[]⟩,⟨[.d t2],[]⟩,[]⟩,
 ⟨142,⟨[.d t2],[]⟩,⟨[.d .bool],[]⟩,[]⟩,
 ⟨143,⟨[.d t0,.fn 110 []],[]⟩,⟨[.d t2],[]⟩,[]⟩,
 ⟨143,⟨[.d t0,.fn 93 []],[]⟩,⟨[.d t2],[]⟩,[]⟩,
 ⟨143,⟨[.d t0,.fn 104 [.ptr 0 0]],[.box [.d (.sl t1)]]⟩,⟨[.d t2],[.box [.d (.sl t1)]]⟩,[0]⟩,
 ⟨144,⟨[.d t2],[]⟩,⟨[.d t2],[]⟩,[]⟩,
 ⟨145,⟨[.d t2],[]⟩,⟨[.d .str],[]⟩,[]⟩,
 ⟨146,⟨[.d t0,.ptr 0 0],[.box [.d .str,.d t2,.d t4]]⟩,⟨[.d .bool],[.box [.d .str,.d t2,.d t4]]⟩,[0]⟩,
 ⟨147,⟨[.d t2,.ptr 0 0],[.box [.d .str,.d t2,.d t4]]⟩,⟨[.d .bool],[.box [.d .str,.d t2,.d t4]]⟩,[0]⟩,
 ⟨148,⟨[.d (.sl t2),.fn 147 [.ptr 0 0]],[.box [.d .str,.d t2,.d t4]]⟩,⟨[.d .bool],[.box [.d .str,.d t2,.d t4]]⟩,[0]⟩,
 ⟨149,⟨[.d t0],[]⟩,⟨[.d (.sl t2)],[]⟩,[]⟩,
 ⟨150,⟨[.d t0,.ptr 0 0],[.box [.fn 146 [.ptr 1 0]],.box [.d .str,.d t2,.d t4]]⟩,⟨[.d .bool],[.box [.fn 146 [.ptr 1 0]],.box [.d .str,.d t2,.d t4]]⟩,[0,1]⟩,
 ⟨151,⟨[.d t2,.d t2,.ref (.sl t1),.ref .str,.ptr 0 0,.ptr 1 0],[.box [.d t2],.box [.d t2]]⟩,⟨[.d .bool],[.box [.d t2],.box [.d t2]]⟩,[0,1]⟩,
 ⟨152,⟨[.d (.sl t1),.d t0],[]⟩,⟨[.d t1,.d .bool],[]⟩,[]⟩,
 ⟨153,⟨[.d t4,.fn 154 [.ref .str]],[]⟩,⟨[.d t2],[]⟩,[]⟩,
 ⟨154,⟨[.d tc,.ref .str],[]⟩,⟨[.d .bool],[]⟩,[]⟩,
 ⟨155,⟨[.d (.sl tb),.d t0],[]⟩,⟨[.d t0],[]⟩,[]⟩,
 ⟨156,⟨[.d (.sl t2),.d t2],[]⟩,⟨[.d t2],[]⟩,[]⟩,
 ⟨157,⟨[],[]⟩,⟨[.d (.sl .str)],[]⟩,[]⟩,
 ⟨158,⟨[.d (.int .u64)],[]⟩,⟨[.d t2],[]⟩,[]⟩,
 ⟨159,⟨[.d t2],[]⟩,⟨[.d t2],[]⟩,[]⟩,
 ⟨160,⟨[.d t2,.d t2],[]⟩,⟨[.d .bool],[]⟩,[]⟩,
 ⟨161,⟨[.d .str],[]⟩,⟨[.d .bool],[]⟩,[]⟩,
 ⟨162,⟨[.d .str],[]⟩,⟨[.d .bool],[]⟩,[]⟩,
 ⟨164,⟨[.fn 168 [],.ref t3],[]⟩,⟨[.d .bool],[]⟩,[]⟩,
 ⟨164,⟨[.fn 169 [],.ref t3],[]⟩,⟨[.d .bool],[]⟩,[]⟩,
 ⟨165,⟨[.d .str,.fn 166 []],[]⟩,⟨[.d .bool],[]⟩,[]⟩,
 ⟨165,⟨[.d .str,.fn 170 []],[]⟩,⟨[.d .bool],[]⟩,[]⟩,
 ⟨166,⟨[.d t9],[]⟩,⟨[.d .bool],[]⟩,[]⟩,
 ⟨167,⟨[.d .str],[]⟩,⟨[.d .bool],[]⟩,[]⟩,
 ⟨168,⟨[.d t9],[]⟩,⟨[.d .bool],[]⟩,[]⟩,
 ⟨169,⟨[.d t9],[]⟩,⟨[.d .bool],[]⟩,[]⟩,
 ⟨170,⟨[.d t9],[]⟩,⟨[.d .bool],[]⟩,[]⟩,
 ⟨171,⟨[.d t2],[]⟩,⟨[.agg [.d .bool,.d .bool,.fa [(188,false),(89,false)],.fa [(212,true),(189,false),(190,false)],.d .bool]],[]⟩,[]⟩,
 ⟨174,⟨[.d t2,.d t2],[]⟩,⟨[.d .str],[]⟩,[]⟩,
 ⟨175,⟨[.d (.sl t2),.fn 147 [.ptr 0 0]],[.box [.d .str,.d t2,.d t4]]⟩,⟨[.d t2],[.box [.d .str,.d t2,.d t4]]⟩,[0]⟩,
 ⟨176,⟨[.d (.sl t2),.d t2],[]⟩,⟨[.d .bool],[]⟩,[]⟩,
 ⟨177,⟨[.d t1,.ref t0],[]⟩,⟨[.d .bool],[]⟩,[]⟩,
 ⟨178,⟨[.d (.sl tb),.fn 179 [.ref t3]],[]⟩,⟨[.d t2],[]⟩,[]⟩,
 ⟨179,⟨[.d tb,.ref t3],[]⟩,⟨[.d .bool],[]⟩,[]⟩,
 ⟨183,⟨[.d t9],[]⟩,⟨[.d .bool],[]⟩,[]⟩,
 ⟨184,⟨[.d (.sl .str),.d .str],[]⟩,⟨[.d .bool],[]⟩,[]⟩,
 ⟨185,⟨[],[]⟩,⟨[.d (.sl .str)],[]⟩,[]⟩,
 ⟨186,⟨[.d .str,.d t9],[]⟩,⟨[.d t2],[]⟩,[]⟩,
 ⟨187,⟨[.d t2],[]⟩,⟨[.fn 212 [.ref t2]],[]⟩,[]⟩,
 ⟨188,⟨[.d .str],[]⟩,⟨[.d .bool],[]⟩,[]⟩,
 ⟨189,⟨[.d t2],[]⟩,⟨[.d .bool],[]⟩,[]⟩,
 ⟨190,⟨[.d t2],[]⟩,⟨[.d .bool],[]⟩,[]⟩,
 ⟨206,⟨[.d (.sl t2),.d t2],[]⟩,⟨[.d t2],[]⟩,[]⟩,
 ⟨209,⟨[.d (.sl .str),.d .str],[]⟩,⟨[.d t2],[]⟩,[]⟩,
 ⟨210,⟨[.d .str],[]⟩,⟨[.d (.sl .str)],[]⟩,[]⟩,
 ⟨212,⟨[.d t2,.ref t2],[]⟩,⟨[.d .bool],[]⟩,[]⟩]
def z7t:List Int:=[0,0,0,0,0,0,0,0,0,1,1,1,1,1,0,0,0,0,0,0,0,0,0,0,0,0,0,0,0,0,0,0,1,0,0,0,0,0,0,0,0,0,0,0,0,0,0,0,0,0,0,0,0,0,0,0,0,0,0,0,0,0,0,0,0,0,0,0,0,0,0,0,0,0,0,0,0,0,0,0,0,0,0,0,0,0,0,0,0,0,0,0,0,0,0,0,0,0,0,0,0,0,0,0,0,0,0,0,0,0,0,0,0,0,0,0,0,0,0,0,0,0,0,0,0,0,0,0,0,0,0,0,0,0,0,0,0,0,0,0,0,0,0,0,0,0,0,0,0,0,0,0,0,0,0,0,0,0,0,0,0,0,0,0,0,0,0,0,0,0,0,0,0,0,0,0,0,0,0,0,0,0,0,0,0,0,0,0,0,0,0,0,0,0,0,0,0,0,0,0,0,0,0,0,0,0,0,0,0,0,0,0,0,0,0,0,0,0,0,0,0,0,0,0,0,0,0,0,0,0,0,0,0,0,0,0,0,0,0,0,0,0,0,0,0,0,0,0,0,0,0,0,0,0,0,0]
def z66:List Int:=[1,10,100,1000,10000,100000,1000000,10000000,100000000,1000000000,10000000000,100000000000,1000000000000,10000000000000,100000000000000,1000000000000000,10000000000000000,100000000000000000,1000000000000000000,10000000000000000000]
def lu:Nat->Option ((t:Ty)×den t)
 |4=>some ⟨.arr 256 (.int .u8),z7t⟩
 |0=>some ⟨.arr 20 (.int .u64),z66⟩
 |_=>none
def ef:List (Nat×Ty):=[
 (2,t2),
 (3,t2),
 (4,.bool),
 (5,t9),
 (6,t9),
 (7,(.st (.pair t2 (.pair t2 (.pair .bool t9))))),
 (8,(.st (.pair t2 (.pair t2 (.pair .bool t9))))),
 (9,.str),
 (10,.str),
 (11,.str),
 (12,(.int .u64)),
 (13,(.st (.pair .str (.int .u64)))),
 (14,(.st (.pair .str (.int .u64)))),
 (21,(.int .i32)),
 (22,(.sl t1)),
 (23,t0),
 (24,(.sl t0)),
 (27,t2),
 (32,t2),
 (33,t3),
 (34,t3),
 (42,(.sl t5)),
 (45,(.sl ta)),
 (47,ta),
 (48,ta),
 (51,t5),
 (52,t5),
 (56,tc),
 (57,tc),
 (58,t4),
 (59,t1),
 (60,t1),
 (62,(.sl t6)),
 (64,t6),
 (65,t6),
 (67,(.st (.pair (.sl t1) t2))),
 (68,(.st (.pair (.sl t1) t2))),
 (70,t5),
 (71,t5),
 (72,(.sl t5)),
 (76,(.sl t6)),
 (77,t6),
 (78,t6),
 (80,t5),
 (81,t5),
 (82,(.sl t5)),
 (85,(.sl .str)),
 (87,(.sl t2)),
 (110,t2),
 (111,t3),
 (112,t3),
 (132,(.st .unit)),
 (133,(.st .unit)),
 (135,(.sl (.sl t0))),
 (137,(.sl (.sl t5))),
 (145,(.sl tb)),
 (147,tb),
 (148,tb),
 (171,(.int .u64)),
 (183,(.int .u64)),
 (195,t2),
 (203,(.int .u32)),
 (205,(.arr 24 t9)),
 (207,(.sl t9)),
 (212,(.int .u64)),
 (220,(.arr 20 (.int .u64))),
 (221,(.arr 65 t9)),
 (222,(.arr 256 t9)),
 (223,(.st (.pair t9 t9))),
 (224,(.st (.pair t9 t9))),
 (225,(.arr 16 (.st (.pair t9 t9)))),
 (233,(.sl (.st (.pair t2 t2)))),
 (234,(.st (.pair t2 t2))),
 (235,(.st (.pair t2 t2))),
 (238,(.arr 32 t9)),
 (239,(.arr 64 t9)),
 (240,(.sl t7)),
 (241,(.sl t8)),
 (242,(.st (.pair (.sl t7) (.pair (.sl t8) t2)))),
 (243,(.st (.pair (.sl t7) (.pair (.sl t8) t2)))),
 (244,(.int .u16)),
 (245,t7),
 (246,t7),
 (248,t8),
 (249,t8),
 (260,t9),
 (261,t9),
 (264,(.int .i32)),
 (265,(.int .i32))]
def eqs:List Nat:=[33,34,47,48]
def IW:CO:=⟨27,2,[(0,23,.eQ,.slice none 0 0),(1,27,.d (.int .i64) (131:Int),.int .i64 131)]⟩
noncomputable def C:Cx:=⟨Tryz.prog,sigs,lu,ef,eqs,999999,999999⟩
set_option maxRecDepth 100000 in
theorem z2p(zs:List Value)(w:World)(hz:zs.length=2):CallsD Tryz.prog 27 zs.toArray .returning w fun e u w'=>e=.returned (.tuple #[])/\u=.returning/\w'=w:=by
 match zs,hz with
 |[z0,z1],_=>
  refine callsD_of_wpS Tryz.func27 rfl fun NR cs hu=>?_;apply wpS_seq;apply wpS_region;simp[wpOpsS,go_sem,recoverD,hu,Tryz.ntmps27,Exit.thenS];refine wpS_cond (t:=false) (by simp[Act.eval,Array.replicate]) ?_;simp only[Bool.false_eq_true,if_false];refine wpS_of_wp (wp_skip ?_);cases NR
  simp_all[bodyPostS,results]
set_option maxRecDepth 100000 in
theorem z67(zs:List Value)(w w':World)(t:TypeId)(v:Value)(hz:zs.length=2)(h:(yr IW.st zs).run Tryz.prog w=.ok () w'):CallsD Tryz.prog 27 zs.toArray (.panicking (oC t v)) w fun e u w2=>e=.returned (.tuple #[])/\u=.panicking [{v:=.iface t v,recovered:=true}]/\w2=w':=by
 match zs,hz with
 |[z0,z1],_=>
  obtain⟨w1,h1,h2⟩:∃w1,(Instr.storeAt 23 z0 (.slice none 0 0)).run Tryz.prog w=.ok () w1/\(Instr.storeAt 27 z1 (.int .i64 131)).run Tryz.prog w1=.ok () w':=by
   have h:((Instr.storeAt 23 z0 (.slice none 0 0))>>=fun _=>(Instr.storeAt 27 z1 (.int .i64 131))>>=fun _=>pure ()).run Tryz.prog w=.ok () w':=h;rw[Sem.run_bind] at h;cases e:(Instr.storeAt 23 z0 (.slice none 0 0)).run Tryz.prog w with
   |halt a b=>rw[e] at h;cases h
   |ok a w1=>
    rw[e] at h;refine⟨w1,rfl,?_⟩;have h:((Instr.storeAt 27 z1 (.int .i64 131))>>=fun _=>pure ()).run Tryz.prog w1=.ok () w':=h;rw[Sem.run_bind] at h;cases e2:(Instr.storeAt 27 z1 (.int .i64 131)).run Tryz.prog w1 with
    |halt a b=>rw[e2] at h;cases h
    |ok a w2=>rw[e2] at h;exact h
  refine callsD_of_wpS Tryz.func27 rfl fun NR cs hu=>?_;apply wpS_seq;apply wpS_region;simp[wpOpsS,go_sem,recoverD,hu,oC,Tryz.ntmps27,Exit.thenS];refine wpS_cond (t:=true) (by simp[Act.eval,Array.replicate]) ?_;simp only[if_true];apply wpS_region;show wpOpsS _ _ _ [0,1] _ _ _;simp[wpOpsS,execOp,Act.put,Act.eval,Array.replicate,Region.wanted,Oper.upon,h1,h2,bodyPostS,results]
theorem quf:PM Tryz.prog IW where
 idle:=z2p
 vh:=z67
 cD:=fun q hq φ o imm w=>by
  simp only[IW,zu,List.not_mem_nil,or_false] at hq;rcases hq with rfl|rfl
  ·rfl
  ·exact ng (by show(-9223372036854775808:Int)<=_/\_<=(9223372036854775807:Int);decide)
 fn:=⟨_,Tryz.func27,by kernel_rfl,by kernel_rfl⟩
def z7u:ai (aK C.sigs 149).ins.aW->Option (ai (aK C.sigs 149).outs.aW):=fun x=>bif x.1.l.all wK&&decide (x.1.l.length<4611686018427387904) then some ((⟨x.1.nil,x.1.l.mergeSort fun a b=>!strLt b a⟩:Sl (List Int)),()) else none
def z8n:ai (aK C.sigs 194).ins.aW->Option (ai (aK C.sigs 194).outs.aW):=fun x=>some (pa x.2.1 x.1,())
def z7v:ai (aK C.sigs 127).ins.aW->Option (ai (aK C.sigs 127).outs.aW):=fun x=>bif x.1.nil&&x.1.l.isEmpty&&decide (0<=x.2.1)&&decide (x.2.1<=1000000) then some ((⟨decide (x.2.1=0),([]:List (Sl (Int×(List Int)×Int×Int)))⟩:Sl (Sl (Int×(List Int)×Int×Int))),()) else none
def z68:ai (aK C.sigs 129).ins.aW->Option (ai (aK C.sigs 129).outs.aW):=fun x=>bif x.1.nil&&x.1.l.isEmpty&&decide (0<=x.2.1)&&decide (x.2.1<=1000000) then some ((⟨decide (x.2.1=0),([]:List ((List Int)×Sl (Int×(List Int)×Int×Int)))⟩:Sl ((List Int)×Sl (Int×(List Int)×Int×Int))),()) else none
theorem z8o:ae C 194 z8n:=by intro x y h;obtain⟨l,c,u⟩:=x;have h:some ((pa c l,()):Int×Unit)=some y:=h;injection h with h;subst h;exact Call.tC 194 _ _ (z6u (C:=C) (f:=186) ⟨_,Tryz.func186,by kernel_rfl⟩ (fun s c w=>Any.strings_IndexByte Tryz.ixL s c w) l c)
theorem z7w:ae C 127 z7v:=by
 intro x y h;obtain⟨⟨nil,l⟩,n,u⟩:=x;have h:(bif nil&&l.isEmpty&&decide (0<=n)&&decide (n<=1000000) then some ((⟨decide (n=0),([]:List (Sl (Int×(List Int)×Int×Int)))⟩,()):Sl (Sl (Int×(List Int)×Int×Int))×Unit) else none)=some y:=h;cases hb:(nil&&l.isEmpty&&decide (0<=n)&&decide (n<=1000000)) with
 |false=>rw[hb] at h;cases h
 |true=>
  rw[hb] at h;injection h with h;subst h;simp only[zd,decide_eq_true_eq] at hb;obtain⟨⟨⟨h1,h2⟩,h3⟩,h4⟩:=hb;subst h1;obtain rfl:l=[]:=List.isEmpty_iff.1 h2;obtain⟨k,rfl⟩:=Int.eq_ofNat_of_zero_le h3;have h4:(k:Int)<=1000000:=h4;have he:(Tryz.prog.info? (Tryz.growL_ren.t 25)).map (fun i=>(i.zero,i.size,i.bytes))=some (some (.slice none 0 0),1,24):=by kernel_rfl
  obtain⟨i0,i1,i2⟩:=Option.map_eq_some_iff.1 he;injection i2 with i2 i3;injection i3 with i3 i4;have key:=qmd (C:=C) (f:=116) (t:=.sl (.st (.pair (.int .i64) (.pair .str (.pair (.int .i64) (.int .i64)))))) (by intro h;cases h) ⟨_,Tryz.func116,by kernel_rfl⟩
   (fun w=>Any8.slices_Grow_room Tryz.growL none 0 0 0 w (Nat.le_refl _) dc dc (Nat.le_refl _))
   (fun n w hn hf=>by
    have g:=Any8.slices_Grow_grow Tryz.growL i0 (.slice none 0 0) i1 i2 om none 0 0 n [] w (Nat.le_refl _) om (by rw[i4];omega) om (by rw[i3];rfl) (fun _=>rfl) (fun a h=>by cases h);refine Calls.mono g fun e w' ⟨e1,e2⟩=>⟨_,_,_,e1,e2,?_⟩;have hc:aN (.sl (.st (.pair (.int .i64) (.pair .str (.pair (.int .i64) (.int .i64))))))=1:=rfl;rw[hc];have hs:(Value.slice none 0 0).cells.size=1:=by kernel_rfl
    simp[Builtin.zeroCells];rw[hs];omega) k om
  have e:decide ((k:Int)=0)=decide (k=0):=decide_eq_decide.2 om;rw[e];exact Call.tC 127 _ _ key
theorem z69:ae C 129 z68:=by
 intro x y h;obtain⟨⟨nil,l⟩,n,u⟩:=x;have h:(bif nil&&l.isEmpty&&decide (0<=n)&&decide (n<=1000000) then some ((⟨decide (n=0),([]:List ((List Int)×Sl (Int×(List Int)×Int×Int)))⟩,()):Sl ((List Int)×Sl (Int×(List Int)×Int×Int))×Unit) else none)=some y:=h;cases hb:(nil&&l.isEmpty&&decide (0<=n)&&decide (n<=1000000)) with
 |false=>rw[hb] at h;cases h
 |true=>
  rw[hb] at h;injection h with h;subst h;simp only[zd,decide_eq_true_eq] at hb;obtain⟨⟨⟨h1,h2⟩,h3⟩,h4⟩:=hb;subst h1;obtain rfl:l=[]:=List.isEmpty_iff.1 h2;obtain⟨k,rfl⟩:=Int.eq_ofNat_of_zero_le h3;have h4:(k:Int)<=1000000:=h4;have he:(Tryz.prog.info? (Tryz.growcL_ren.t 25)).map (fun i=>(i.zero,i.size,i.bytes))=some (some (.agg #[.string ByteArray.empty,.slice none 0 0]),2,40):=by kernel_rfl
  obtain⟨i0,i1,i2⟩:=Option.map_eq_some_iff.1 he;injection i2 with i2 i3;injection i3 with i3 i4;have key:=qmd (C:=C) (f:=118) (t:=.st (.pair .str (.sl (.st (.pair (.int .i64) (.pair .str (.pair (.int .i64) (.int .i64)))))))) (by intro h;cases h) ⟨_,Tryz.func118,by kernel_rfl⟩
   (fun w=>Any8.slices_Grow_room Tryz.growcL none 0 0 0 w (Nat.le_refl _) dc dc (Nat.le_refl _))
   (fun n w hn hf=>by
    have g:=Any8.slices_Grow_grow Tryz.growcL i0 (.agg #[.string ByteArray.empty,.slice none 0 0]) i1 i2 om none 0 0 n [] w (Nat.le_refl _) om (by rw[i4];omega) om (by rw[i3];rfl) (fun _=>rfl) (fun a h=>by cases h);refine Calls.mono g fun e w' ⟨e1,e2⟩=>⟨_,_,_,e1,e2,?_⟩;have hc:aN (.st (.pair .str (.sl (.st (.pair (.int .i64) (.pair .str (.pair (.int .i64) (.int .i64))))))))=2:=rfl;rw[hc];have hs:(Value.agg #[.string ByteArray.empty,.slice none 0 0]).cells.size=2:=by kernel_rfl
    simp[Builtin.zeroCells];rw[hs];omega) k om
  have e:decide ((k:Int)=0)=decide (k=0):=decide_eq_decide.2 om;rw[e];exact Call.tC 129 _ _ key
def wg(x:List UInt8):List Int:=x.map fun b=>(b.toNat:Int)
def Ky(l:List Int):List UInt8:=l.map fun b=>UInt8.ofNat b.toNat
theorem qif:∀x y:List UInt8,wg x=wg y->x=y
 |[],[],_=>rfl
 |[],_::_,h=>by cases h
 |_::_,[],h=>by cases h
 |a::x,b::y,h=>by injection h with h1 h2;have h1:(a.toNat:Int)=(b.toNat:Int):=h1;have e:a=b:=UInt8.toNat_inj.1 om;rw[qif x y h2,e]
theorem qbp:∀l:List Int,(∀b,b∈l->0<=b/\b<=255)->wg (Ky l)=l
 |[],_=>rfl
 |a::l,h=>by obtain⟨h0,h1⟩:=h a (zf ..);show(((UInt8.ofNat a.toNat).toNat:Nat):Int)::wg (Ky l)=_;rw[qbp l fun b hb=>h b (zg _ hb),UInt8.toNat_ofNat',Nat.mod_eq_of_lt om];congr 1;omega
theorem qig:∀x y:List UInt8,strLt (wg x) (wg y)=decide (x<y)
 |[],[]=>rfl
 |[],b::y=>by show true=_;exact(zn (List.nil_lt_cons b y)).symm
 |a::x,[]=>by show false=_;exact(zm (List.not_lt_nil _)).symm
 |a::x,b::y=>by
  show(decide ((a.toNat:Int)<(b.toNat:Int))||(decide ((a.toNat:Int)=(b.toNat:Int))&&strLt (wg x) (wg y)))=_;rw[qig x y,Bool.eq_iff_iff,decide_eq_true_eq,List.cons_lt_cons_iff];simp only[Bool.or_eq_true,zd,decide_eq_true_eq];have e1:((a.toNat:Int)<(b.toNat:Int))↔a<b:=by rw[UInt8.lt_iff_toNat_lt];omega
  have e2:((a.toNat:Int)=(b.toNat:Int))↔a=b:=by rw[<-UInt8.toNat_inj];omega
  rw[e1,e2]
theorem qzk(imm:Nat->Prop)(w:World)(x:List UInt8)(hx:x.length<=9223372036854775807)(cs:List Value):aC imm w .str (wg x) cs↔cs=[encStr x]:=by
 constructor
 ·rintro⟨t,e3,h1,h2⟩;have h1:t.data.toList.map (fun b=>(b.toNat:Int))=wg x:=h1;have h3:t.data.toList=x:=qif _ _ h1;subst e3;have:t=⟨x.toArray⟩:=by rw[<-h3]
  rw[this]
 ·intro e;subst e;refine⟨⟨x.toArray⟩,rfl,rfl,?_⟩;show x.toArray.size<=_;simpa[cC] using hx
theorem z7x:ae C 149 z7u:=by
 intro x y h;obtain⟨⟨nil,l⟩,u⟩:=x;have h:(bif l.all wK&&decide (l.length<4611686018427387904) then some ((⟨nil,l.mergeSort fun a b=>!strLt b a⟩:Sl (List Int)),()) else none)=some y:=h;cases hg:(l.all wK&&decide (l.length<4611686018427387904)) with
 |false=>rw[hg] at h;cases h
 |true=>
  rw[hg] at h;injection h with h;subst h;simp only[zd,decide_eq_true_eq] at hg;obtain⟨g1,g3⟩:=hg;have gg:∀s,s∈l->(∀b,b∈s->0<=b/\b<=255)/\s.length<=9223372036854775807:=fun s hs=>qwu (zJ.1 g1 s hs);have hl:l=(l.map Ky).map wg:=by rw[zY];exact((zW (g:=fun s=>s) fun s hs=>qbp s (gg s hs).1).trans (List.map_id' l)).symm
  have key:=qwx (C:=C) (f:=139) (t:=.str) encStr wg (fun x=>x.length<=9223372036854775807) (fun l=>l.mergeSort fun x y=>decide (x<=y)) (by intro h;cases h) rfl
   (fun imm w x hx cs=>qzk imm w x hx cs) (fun l=>List.length_mergeSort l) (fun l x hx=>(List.mem_mergeSort).1 hx)
   ⟨_,Tryz.func139,by kernel_rfl⟩ (fun p cap w=>Any.slices_Sort_string_none Tryz.sortL p cap w)
   (fun nB off cap zs w hH hb hc=>calls_of_every_depth fun D=>AnyS.slices_Sort_string_alone Tryz.sortL D nB off cap zs w hH hb hc)
   nil (l.map Ky) (fun x hx=>by obtain⟨s,hs,rfl⟩:=zS.1 hx;show(s.map _).length<=_;rw[zA];exact(gg s hs).2) (by rw[zA];exact g3)
  have e:((l.map Ky).mergeSort fun x y=>decide (x<=y)).map wg=((l.map Ky).map wg).mergeSort fun a b=>!strLt b a:=
   List.map_mergeSort (fun a _ b _=>by
    rw[qig];by_cases h:b<a
    ·rw[zn h,zm (fun e:a<=b=>e h)];rfl
    ·rw[zm h,zn (show a<=b from h)];rfl)
  rw[e,<-hl] at key;exact Call.tC 149 _ _ key
theorem aaf{C:Cx}{k:Nat}{O:gF C.sigs}{D:CO}(hD:PM C.P D)(b:Lf->gF C.sigs->ai (aK C.sigs k).ins.aW->Option (ai (aK C.sigs k).outs.aW)){f:ai (aK C.sigs k).ins.aW->Option (ai (aK C.sigs k).outs.aW)}(hO:GC C O)(e:∀L R x,PN L C R D k x=b L R x)(o:∀x,b lf O x=f x):ae C k f:=fun x y h=>Call.mkD (C:=C) D hD O hO k x y (((e lf O x).trans (o x)).trans h)
def z8p:ai (aK C.sigs 185).ins.aW->Option (ai (aK C.sigs 185).outs.aW):=fun x=>bif decide (x.2.1=10)&&(decide (-9223372036854775808<=x.1)&&decide (x.1<=9223372036854775807)) then some (sY x.1,()) else none
def z6a:ai (aK C.sigs 92).ins.aW->Option (ai (aK C.sigs 92).outs.aW):=fun x=>bif decide (x.1.length<=1000000) then some (qv x.1) else none
set_option maxRecDepth 100000 in
theorem z8q(s:ByteArray)(w:World):Calls Tryz.prog 182 #[.string s,.string ⟨#[46]⟩] w fun e w'=>e=.returned (.int .i64 (Lib.indexByte s.data.toList 46))/\w'=w:=by
 have h:CallsIn Fence.wide 2 Tryz.prog 182 #[.string s,.string ⟨#[46]⟩] w fun e w'=>e=.returned (.int .i64 (Lib.indexByte s.data.toList 46))/\w'=w:=by
  refine callsIn_of_wp Tryz.func182 rfl trivial ?_ rfl;simp only[Tryz.ntmps182,List.size_toArray,zw,List.length_nil,Nat.reduceAdd,Nat.reduceSub,Array.replicate_succ,Array.replicate_zero,List.push_toArray,List.append_toArray,List.nil_append,List.cons_append]
  gi_wp2_with (refine⟨trivial,?_⟩;gi_at_call 208;refine(callsIn_wide.2 (Any.stringslite_Index_one Tryz.indexL s 46 w)).mono ?_;rintro e w' ⟨rfl,rfl⟩)
  go_ret
  exact⟨rfl,rfl⟩
 exact callsIn_wide.1 h
theorem z8r:ae C 185 z8p:=by
 intro x y h;obtain⟨n,k,u⟩:=x;have h:(bif decide (k=10)&&(decide (-9223372036854775808<=n)&&decide (n<=9223372036854775807)) then some ((sY n,()):List Int×Unit) else none)=some y:=h;cases hb:(decide (k=10)&&(decide (-9223372036854775808<=n)&&decide (n<=9223372036854775807))) with
 |false=>rw[hb] at h;cases h
 |true=>
  rw[hb] at h;injection h with h;subst h;simp only[zd,decide_eq_true_eq] at hb;obtain⟨rfl,h2,h3⟩:=hb;have ht:z66=Lib.pow10Tab:=dc
  exact Call.tC 185 _ _ (z4w (C:=C) (f:=174) ⟨_,Tryz.func174,by kernel_rfl⟩ (g:=0) (m:=20) (zs:=z66) (by kernel_rfl) rfl
   (fun n h0 h1 w hc=>Any.internal_strconv_FormatInt_10 Tryz.fmtL n h0 h1 w (by rw[<-ht];exact hc)) n h2 h3)
theorem z6b:ae C 92 z6a:=by
 intro x y h;obtain⟨l,u⟩:=x;have h:(bif decide (l.length<=1000000) then some (qv l) else none)=some y:=h;cases hb:decide (l.length<=1000000) with
 |false=>rw[hb] at h;cases h
 |true=>rw[hb] at h;injection h with h;subst h;exact Call.tC 92 _ _ (qx6 (C:=C) (f:=88) ⟨_,Tryz.func88,by kernel_rfl⟩ (fun s w hs=>callsIn_wide.1 (z15 z8q s hs w)) l (zM hb))
theorem bC{C:Cx}{k:Nat}{O:gF C.sigs}(b:Lf->gF C.sigs->(ai (aK C.sigs k).ins.aW->Option (ai (aK C.sigs k).outs.aW))){f:(ai (aK C.sigs k).ins.aW->Option (ai (aK C.sigs k).outs.aW))}(hO:GC C O)(e:∀L R x,Jr L C R k x=b L R x:=by intro _ _ _;kernel_rfl)(o:∀x,b lf O x=f x:=by intro _;kernel_rfl):ae C k f:=mkC b hO e o
theorem sP:ae C 91 fL:=bC (fun L R x=>C2 L  x) a8
theorem BF:ae C 30 lF:=bC (fun L R x=>yG L (R 91) x) (aJ sP a8)
theorem aag:ae C 142 tJ:=bC (fun L R x=>C3 L (R 30) x) (aJ BF a8)
theorem IX:ae C 156 pX:=bC (fun L R x=>yH L  x) a8
theorem NS:ae C 181 qR:=bC (fun L R x=>yI L  x) a8
theorem NT:ae C 182 qS:=bC (fun L R x=>yJ L  x) a8
theorem aah:ae C 191 tK:=bC (fun L R x=>yK L  x) a8
theorem aai:ae C 179 qT:=bC (fun L R x=>yL L (R 181) (R 182) (R 191) x) (aJ NS (aJ NT (aJ aah a8)))
theorem NU:ae C 177 tL:=bC (fun L R x=>C4 L (R 179) x) (aJ aai a8)
theorem aaj:ae C 200 yM:=bC (fun L R x=>C5 L  x) a8
theorem aak:ae C 192 wQ:=bC (fun L R x=>yN L (R 200) x) (aJ aaj a8)
theorem aal:ae C 201 tM:=bC (fun L R x=>C6 L  x) a8
theorem aam:ae C 193 tN:=bC (fun L R x=>yO L (R 201) x) (aJ aal a8)
theorem IY:ae C 180 pY:=bC (fun L R x=>yP L (R 192) (R 193) x) (aJ aak (aJ aam a8))
theorem aan:ae C 175 tO:=bC (fun L R x=>yQ L (R 177) (R 180) (R 181) x) (aJ NU (aJ IY (aJ NS a8)))
theorem aao:ae C 176 tP:=bC (fun L R x=>yR L (R 177) (R 180) (R 182) x) (aJ NU (aJ IY (aJ NT a8)))
theorem aap:ae C 194 yS:=z8o
theorem aaq:ae C 183 qU:=bC (fun L R x=>yT L (R 194) x) (aJ aap a8)
theorem aar:ae C 178 wR:=bC (fun L R x=>C7 L (R 183) x) (aJ aaq a8)
theorem EP:ae C 141 mM:=bC (fun L R x=>yU L (R 156) (R 175) (R 176) (R 178) (R 180) x) (aJ IX (aJ aan (aJ aao (aJ aar (aJ IY a8)))))
theorem IZ:ae C 93 mN:=bC (fun L R x=>yV L (R 141) x) (aJ EP a8)
theorem NV:ae C 152 pZ:=bC (fun L R x=>yW L  x) a8
theorem aas:ae C 195 C9:=bC (fun L R x=>C8 L  x) a8
theorem aat:ae C 184 fo:=bC (fun L R x=>yX L (R 195) x) (aJ aas a8)
theorem aau:ae C 196 tQ:=bC (fun L R x=>yY L (R 141) x) (aJ EP a8)
theorem aav:ae C 197 tR:=bC (fun L R x=>yZ L  x) a8
theorem aaw:ae C 198 wS:=bC (fun L R x=>Da L  x) a8
theorem aax:ae C 202 tS:=bC (fun L R x=>y0 L  x) a8
theorem aay:ae C 145 tU:=bC (fun L R x=>y5 L (R 93) (R 152) (R 156) (R 184) (R 196) (R 197) (R 198) (R 202) x) (aJ IZ (aJ NV (aJ IX (aJ aat (aJ aau (aJ aav (aJ aaw (aJ aax a8))))))))
theorem aaz:ae C 144 qV:=bC (fun L R x=>y6 L (R 145) x) (aJ aay a8)
theorem aaA:ae C 143 y7:=CU (C:=C) (k:=143) (fun L R x=>Db L (R 143) (R 144) x) (F:=nD) (O:=fun g=>(cU 143 g (cU 144 qV kG))) (fun g hg=>(aJ hg (aJ aaz a8))) (fun _ _ _=>by kernel_rfl) (fun _ _=>by kernel_rfl)
theorem aaB:ae C 147 tV:=bC (fun L R x=>y8 L (R 91) x) (aJ sP a8)
theorem NW:ae C 148 tW:=bC (fun L R x=>Dc L  x) a8
theorem aaC:ae C 149 tX:=z7x
theorem aaD:ae C 150 tY:=bC (fun L R x=>Dd L  x) a8
theorem aaE:ae C 151 tZ:=bC (fun L R x=>y9 L (R 148) x) (aJ NW a8)
theorem aaF:ae C 146 qW:=bC (fun L R x=>z6 L (R 147) (R 148) (R 149) (R 150) (R 151) x) (aJ aaB (aJ NW (aJ aaC (aJ aaD (aJ aaE a8)))))
theorem aaG:ae C 95 ua:=bC (fun L R x=>De L (R 30) (R 91) (R 142) (R 143) (R 146) (R 152) x) (aJ BF (aJ sP (aJ aag (aJ aaA (aJ aaF (aJ NV a8))))))
theorem I0:ae C 34 nE:=bC (fun L R x=>z7 L (R 95) x) (aJ aaG a8)
theorem aaH:ae C 107 ub:=bC (fun L R x=>z8 L  x) a8
theorem aaI:ae C 66 uc:=bC (fun L R x=>Df L (R 107) x) (aJ aaH a8)
theorem NX:ae C 114 oF:=bC (fun L R x=>Aa L (R 141) x) (aJ EP a8)
theorem aaJ:ae C 121 ud:=bC (fun L R x=>Ab L (R 141) x) (aJ EP a8)
theorem aaK:ae C 120 ue:=bC (fun L R x=>Ac L (R 121) x) (aJ aaJ a8)
theorem aaL:ae C 153 Ad:=bC (fun L R x=>Dg L (R 120) x) (aJ aaK a8)
theorem aaM:ae C 96 uf:=bC (fun L R x=>Ae L (R 153) x) (aJ aaL a8)
theorem BG:ae C 45 mO:=bC (fun L R x=>Af L (R 30) (R 96) x) (aJ BF (aJ aaM a8))
theorem aaN:ae C 159 ug:=bC (fun L R x=>Ag L  x) a8
theorem aaO:ae C 186 Ah:=bC (fun L R x=>Dh L (R 159) x) (aJ aaN a8)
theorem aaP:ae C 160 wT:=bC (fun L R x=>Ai L (R 186) x) (aJ aaO a8)
theorem aaQ:ae C 199 Aj:=bC (fun L R x=>Di L  x) a8
theorem aaR:ae C 187 qX:=bC (fun L R x=>Ak L (R 199) x) (aJ aaQ a8)
theorem aaS:ae C 161 wU:=bC (fun L R x=>Dj L (R 45) (R 187) x) (aJ BG (aJ aaR a8))
theorem aaT:ae C 158 wV:=bC (fun L R x=>Al L (R 45) (R 160) (R 161) x) (aJ BG (aJ aaP (aJ aaS a8)))
theorem aaU:ae C 162 qY:=bC (fun L R x=>Am L (R 158) x) (aJ aaT a8)
theorem aaV:ae C 49 An:=bC (fun L R x=>Dk L (R 162) x) (aJ aaU a8)
theorem aaW:ae C 118 qZ:=bC (fun L R x=>Ao L (R 49) x) (aJ aaV a8)
theorem aaX:ae C 106 wW:=bC (fun L R x=>Dl L (R 114) (R 118) x) (aJ NX (aJ aaW a8))
theorem aaY:ae C 105 uh:=bC (fun L R x=>Aq L (R 106) x) (aJ aaX a8)
theorem aaZ:ae C 65 Ar:=bC (fun L R x=>Dm L (R 105) x) (aJ aaY a8)
theorem aa0:ae C 103 q7:=bC (fun L R x=>Au L (R 65) x) (aJ aaZ a8)
theorem aa1:ae C 163 ui:=bC (fun L R x=>Av L  x) a8
theorem aa2:ae C 112 wX:=bC (fun L R x=>Dn L (R 163) x) (aJ aa1 a8)
theorem aa3:ae C 109 wY:=bC (fun L R x=>Aw L (R 112) x) (aJ aa2 a8)
theorem aa4:ae C 108 q8:=bC (fun L R x=>Ax L (R 109) x) (aJ aa3 a8)
theorem aa5:ae C 110 uj:=bC (fun L R x=>Dp L (R 108) x) (aJ aa4 a8)
theorem aa6:ae C 115 uk:=bC (fun L R x=>Ay L  x) a8
theorem aa7:ae C 67 Az:=bC (fun L R x=>Dq L (R 115) x) (aJ aa6 a8)
theorem aa8:ae C 104 um:=bC (fun L R x=>AA L (R 67) x) (aJ aa7 a8)
theorem aa9:ae C 113 q9:=bC (fun L R x=>AB L (R 104) (R 114) x) (aJ aa8 (aJ NX a8))
theorem aba:ae C 155 AD:=bC (fun L R x=>Dr L (R 113) x) (aJ aa9 a8)
theorem abb:ae C 98 wZ:=bC (fun L R x=>AE L (R 155) x) (aJ aba a8)
theorem abc:ae C 119 re:=bC (fun L R x=>AF L (R 98) x) (aJ abb a8)
theorem abd:ae C 48 AG:=bC (fun L R x=>Ds L (R 119) x) (aJ abc a8)
theorem abe:ae C 117 w5:=bC (fun L R x=>AH L (R 48) x) (aJ abd a8)
theorem abf:ae C 116 rf:=bC (fun L R x=>AI L (R 117) x) (aJ abe a8)
theorem abg:ae C 111 uo:=bC (fun L R x=>Dt L (R 116) x) (aJ abf a8)
theorem I1:ae C 44 nG:=bC (fun L R x=>Du L (R 66) (R 103) (R 110) (R 111) x) (aJ aaI (aJ aa0 (aJ aa5 (aJ abg a8))))
theorem BH:ae C 47 jG:=bC (fun L R x=>Dv L (R 91) x) (aJ sP a8)
theorem I2:ae C 101 fU:=bC (fun L R x=>Dw L (R 47) (R 91) x) (aJ BH (aJ sP a8))
theorem qpl(g:ai (aK C.sigs 53).ins.aW->Option (ai (aK C.sigs 53).outs.aW))(hg:ae C 53 g):ae C 125 (Fx g):=bC (fun L R x=>LW L (R 53) x) (O:=(cU 53 g kG)) (aJ hg a8)
theorem abh:ae C 188 uq:=bC (fun L R x=>AJ L  x) a8
theorem abi:ae C 68 w6:=bC (fun L R x=>Dx L (R 188) x) (aJ abh a8)
theorem abj:ae C 164 p0:=bC (fun L R x=>AK L (R 68) x) (aJ abi a8)
theorem abk:ae C 166 ur:=bC (fun L R x=>AL L  x) a8
theorem abl:ae C 165 uu:=bC (fun L R x=>Dy L (R 166) x) (aJ abk a8)
theorem abm:ae C 190 uv:=bC (fun L R x=>AM L  x) a8
theorem abn:ae C 189 uw:=bC (fun L R x=>Dz L (R 190) x) (aJ abm a8)
theorem abo:ae C 167 ux:=bC (fun L R x=>DB L (R 189) x) (aJ abn a8)
theorem I3:ae C 128 kI:=bC (fun L R x=>DC L (R 47) (R 91) (R 164) (R 165) (R 167) x) (aJ BH (aJ sP (aJ abj (aJ abl (aJ abo a8)))))
theorem qug(g:ai (aK C.sigs 53).ins.aW->Option (ai (aK C.sigs 53).outs.aW))(hg:ae C 53 g):ae C 122 (Kc g):=bC (fun L R x=>Qf L (R 101) (R 125) (R 128) x) (O:=(cU 101 fU (cU 125 (Fx g) (cU 128 kI kG)))) (aJ I2 (aJ (qpl g hg) (aJ I3 a8)))
theorem abp:ae C 53 DE:=CU (C:=C) (k:=53) (fun L R x=>AN L (R 122) x) (F:=p4) (O:=fun g=>(cU 122 (Kc g) kG)) (fun g hg=>(aJ (qug g hg) a8)) (fun _ _ _=>by kernel_rfl) (fun _ _=>by kernel_rfl)
theorem abq:ae C 23 jX:=bC (fun L R x=>AO L (R 34) (R 44) (R 45) (R 53) x) (aJ I0 (aJ I1 (aJ BG (aJ abp a8))))
theorem abr:ae C 185 w7:=z8r
theorem abt:ae C 157 w8:=bC (fun L R x=>AP L (R 185) x) (aJ abr a8)
theorem abu:ae C 102 uy:=bC (fun L R x=>AQ L (R 157) x) (aJ abt a8)
theorem NY:ae C 41 mP:=bC (fun L R x=>AR L (R 102) x) (aJ abu a8)
theorem ER:ae C 56 mR:=bC (fun L R x=>AS L  x) a8
theorem abv:ae C 55 uz:=bC (fun L R x=>AT L (R 56) x) (aJ ER a8)
theorem abw:ae C 51 rh:=bC (fun L R x=>DF L (R 55) x) (aJ abv a8)
theorem abx:ae C 54 mT:=bC (fun L R x=>AU L  x) a8
theorem NZ:ae C 57 oG:=bC (fun L R x=>AV L  x) a8
theorem aby:ae C 126 w9:=bC (fun L R x=>DG L  x) a8
theorem abz:ae C 58 p5:=bC (fun L R x=>AW L (R 126) x) (aJ aby a8)
theorem abA:ae C 127 uA:=z7w
theorem N0:ae C 61 oH:=bC (fun L R x=>DH L (R 127) x) (aJ abA a8)
theorem N1:ae C 40 oI:=bC (fun L R x=>DI L (R 47) (R 91) x) (aJ BH (aJ sP a8))
theorem abB:ae C 63 uB:=bC (fun L R x=>AX L (R 40) (R 56) (R 57) x) (aJ N1 (aJ ER (aJ NZ a8)))
theorem abC:ae C 59 ri:=bC (fun L R x=>DJ L (R 61) (R 63) x) (aJ N0 (aJ abB a8))
theorem abD:ae C 71 uC:=bC (fun L R x=>AY L (R 56) x) (aJ ER a8)
theorem abE:ae C 60 rj:=bC (fun L R x=>DK L (R 61) (R 71) x) (aJ N0 (aJ abD a8))
theorem abF:ae C 62 nH:=bC (fun L R x=>AZ L (R 44) (R 45) (R 128) x) (aJ I1 (aJ BG (aJ I3 a8)))
theorem abG:ae C 129 uD:=z69
theorem abH:ae C 64 p6:=bC (fun L R x=>DL L (R 129) x) (aJ abG a8)
theorem abI:ae C 70 uE:=bC (fun L R x=>A0 L  x) a8
theorem abJ:ae C 69 rk:=bC (fun L R x=>DM L (R 70) x) (aJ abI a8)
theorem abK:ae C 24 xa:=CU (C:=C) (k:=24) (fun L R x=>DN L (R 24) (R 41) (R 51) (R 54) (R 56) (R 57) (R 58) (R 59) (R 60) (R 62) (R 64) (R 69) x) (F:=p7) (O:=fun g=>(cU 24 g (cU 41 mP (cU 51 rh (cU 54 mT (cU 56 mR (cU 57 oG (cU 58 p5 (cU 59 ri (cU 60 rj (cU 62 nH (cU 64 p6 (cU 69 rk kG))))))))))))) (fun g hg=>(aJ hg (aJ NY (aJ abw (aJ abx (aJ ER (aJ NZ (aJ abz (aJ abC (aJ abE (aJ abF (aJ abH (aJ abJ a8))))))))))))) (fun _ _ _=>by kernel_rfl) (fun _ _=>by kernel_rfl)
theorem I4:ae C 6 nI:=aaf quf (fun L R x=>DO L (R 23) (R 24) x) (aJ abq (aJ abK a8)) (fun _ _ _=>by kernel_rfl) (fun _=>by kernel_rfl)
theorem N2:ae C 92 mU:=z6b
theorem abL:ae C 31 DQ:=CU (C:=C) (k:=31) (fun L R x=>DP L (R 31) (R 92) (R 93) x) (F:=nJ) (O:=fun g=>(cU 31 g (cU 92 mU (cU 93 mN kG)))) (fun g hg=>(aJ hg (aJ N2 (aJ IZ a8)))) (fun _ _ _=>by kernel_rfl) (fun _ _=>by kernel_rfl)
theorem I5:ae C 12 oJ:=bC (fun L R x=>A1 L (R 30) (R 31) x) (aJ BF (aJ abL a8))
theorem abM:ae C 39 DS:=CU (C:=C) (k:=39) (fun L R x=>DR L (R 39) (R 40) (R 41) x) (F:=oK) (O:=fun g=>(cU 39 g (cU 40 oI (cU 41 mP kG)))) (fun g hg=>(aJ hg (aJ N1 (aJ NY a8)))) (fun _ _ _=>by kernel_rfl) (fun _ _=>by kernel_rfl)
theorem N3:ae C 16 p8:=bC (fun L R x=>A2 L (R 34) (R 39) x) (aJ I0 (aJ abM a8))
theorem N4:ae C 37 rl:=bC (fun L R x=>A3 L  x) a8
theorem N5:ae C 42 p9:=bC (fun L R x=>DT L (R 47) (R 91) (R 92) x) (aJ BH (aJ sP (aJ N2 a8)))
theorem abN:ae C 100 uF:=bC (fun L R x=>A4 L (R 93) (R 156) x) (aJ IZ (aJ IX a8))
theorem abO:ae C 99 uG:=bC (fun L R x=>A5 L (R 100) x) (aJ abN a8)
theorem abP:ae C 154 A6:=bC (fun L R x=>DU L (R 99) x) (aJ abO a8)
theorem abQ:ae C 97 uH:=bC (fun L R x=>A7 L (R 154) x) (aJ abP a8)
theorem N6:ae C 35 rm:=bC (fun L R x=>A8 L (R 30) (R 97) x) (aJ BF (aJ abQ a8))
theorem abR:ae C 36 rn:=bC (fun L R x=>A9 L (R 37) x) (aJ N4 a8)
theorem abS:ae C 38 DW:=CU (C:=C) (k:=38) (fun L R x=>DV L (R 36) (R 38) (R 101) x) (F:=rq) (O:=fun g=>(cU 36 rn (cU 38 g (cU 101 fU kG)))) (fun g hg=>(aJ abR (aJ hg (aJ I2 a8)))) (fun _ _ _=>by kernel_rfl) (fun _ _=>by kernel_rfl)
theorem I6:ae C 15 nK:=bC (fun L R x=>Ba L (R 34) (R 35) (R 38) x) (aJ I0 (aJ N6 (aJ abS a8)))
theorem N7:ae C 43 qc:=bC (fun L R x=>Bb L (R 15) x) (aJ I6 a8)
theorem N8:ae C 18 oL:=bC (fun L R x=>Bc L (R 37) (R 42) (R 43) x) (aJ N4 (aJ N5 (aJ N7 a8)))
theorem N9:ae C 20 uI:=bC (fun L R x=>DX L (R 12) (R 42) (R 43) (R 47) x) (aJ I5 (aJ N5 (aJ N7 (aJ BH a8))))
theorem q7g:ae C 4 DY:=bC (fun L R x=>Qg L (R 6) (R 12) (R 16) (R 18) (R 20) x) (aJ I4 (aJ I5 (aJ N3 (aJ N8 (aJ N9 a8)))))
theorem I7:ae C 14 uJ:=bC (fun L R x=>LX L  x) a8
theorem abT:ae C 22 DZ:=bC (fun L R x=>LY L  x) a8
theorem qgb:ae C 5 Kd:=bC (fun L R x=>TN L (R 14) (R 22) x) (aJ I7 (aJ abT a8))
theorem QY:ae C 7 xc:=bC (fun L R x=>TO L  x) a8
theorem qdk:ae C 8 GK:=bC (fun L R x=>qdc L (R 7) x) (aJ QY a8)
theorem abU:ae C 94 qd:=CU (C:=C) (k:=94) (fun L R x=>LZ L (R 94) x) (F:=ru) (O:=fun g=>(cU 94 g kG)) (fun g hg=>(aJ hg a8)) (fun _ _ _=>by kernel_rfl) (fun _ _=>by kernel_rfl)
theorem abV:ae C 33 fV:=bC (fun L R x=>L6 L (R 94) x) (aJ abU a8)
theorem abW:ae C 11 xh:=bC (fun L R x=>Ml L  x) a8
theorem abX:ae C 32 xi:=bC (fun L R x=>Mm L  x) a8
theorem abY:ae C 13 GO:=CU (C:=C) (k:=13) (fun L R x=>Mn L (R 13) (R 32) (R 33) x) (F:=qf) (O:=fun g=>(cU 13 g (cU 32 xi (cU 33 fV kG)))) (fun g hg=>(aJ hg (aJ abX (aJ abV a8)))) (fun _ _ _=>by kernel_rfl) (fun _ _=>by kernel_rfl)
theorem j5:ae C 1 cA:=bC (fun L R x=>Ug L (R 4) (R 5) (R 6) (R 7) (R 8) (R 12) (R 13) x) (aJ q7g (aJ qgb (aJ I4 (aJ QY (aJ qdk (aJ I5 (aJ abY a8)))))))
theorem qn9:ae C 17 Ke:=bC (fun L R x=>qdd L  x) a8
theorem jK:ae C 2 cN:=bC (fun L R x=>q5f L (R 4) (R 7) (R 11) (R 14) (R 15) (R 16) (R 17) (R 18) x) (aJ q7g (aJ QY (aJ abW (aJ I7 (aJ I6 (aJ N3 (aJ qn9 (aJ N8 a8))))))))
theorem qna(g:ai (aK C.sigs 46).ins.aW->Option (ai (aK C.sigs 46).outs.aW))(hg:ae C 46 g):ae C 124 (Kf g):=bC (fun L R x=>Uh L (R 46) x) (O:=(cU 46 g kG)) (aJ hg a8)
theorem qkd(g:ai (aK C.sigs 46).ins.aW->Option (ai (aK C.sigs 46).outs.aW))(hg:ae C 46 g):ae C 123 (Qh g):=bC (fun L R x=>qde L (R 101) (R 124) (R 128) x) (O:=(cU 101 fU (cU 124 (Kf g) (cU 128 kI kG)))) (aJ I2 (aJ (qna g hg) (aJ I3 a8)))
theorem abZ:ae C 46 GQ:=CU (C:=C) (k:=46) (fun L R x=>GP L (R 123) x) (F:=rA) (O:=fun g=>(cU 123 (Qh g) kG)) (fun g hg=>(aJ (qkd g hg) a8)) (fun _ _ _=>by kernel_rfl) (fun _ _=>by kernel_rfl)
theorem ab0:ae C 19 Bl:=bC (fun L R x=>GR L (R 35) (R 44) (R 45) (R 46) x) (aJ N6 (aJ I1 (aJ BG (aJ abZ a8))))
theorem ab1:ae C 52 Bm:=bC (fun L R x=>GS L (R 15) x) (aJ I6 a8)
theorem ab2:ae C 50 GU:=bC (fun L R x=>Mo L (R 52) x) (aJ ab1 a8)
theorem ab3:ae C 21 Bn:=bC (fun L R x=>GV L (R 50) x) (aJ ab2 a8)
theorem jL:ae C 3 cv:=bC (fun L R x=>Ui L (R 4) (R 5) (R 6) (R 7) (R 8) (R 14) (R 19) (R 20) (R 21) x) (aJ q7g (aJ qgb (aJ I4 (aJ QY (aJ qdk (aJ I7 (aJ ab0 (aJ N9 (aJ ab3 a8)))))))))
theorem z7y:JA C C.ef=true:=by kernel_rfl
theorem z8s:Gi C C.eqs=true:=by kernel_rfl
theorem qzl:LO C C.sigs=true:=by kernel_rfl
theorem PQ:C.P.follows .mixedOrders=true:=by kernel_rfl
theorem calls{i:Nat}{x:ai (aK C.sigs i).ins.aW}{y:ai (aK C.sigs i).outs.aW}(h:Ev.Call C i x y):oD C i x y:=z0z z7y z8s qzl PQ h
theorem z7z:P2 C Rows.chooseBuildsRow.laid:=by
 refine⟨by kernel_rfl,fun g t x h=>?_⟩
 match g with
 |0=>cases h;exact⟨_,_,220,List.Mem.tail _ (List.Mem.tail _ (List.Mem.head _)),by kernel_rfl,by kernel_rfl,by kernel_rfl,rfl,by kernel_rfl⟩
 |4=>cases h;exact⟨_,_,222,List.Mem.tail _ (List.Mem.tail _ (List.Mem.tail _ (List.Mem.tail _ (List.Mem.tail _ (List.Mem.head _))))),by kernel_rfl,by kernel_rfl,by kernel_rfl,rfl,by kernel_rfl⟩
 |1=>cases h
 |2=>cases h
 |3=>cases h
 |n+5=>cases h
theorem uT:P3 C Rows.chooseBuildsRow.laid:=qwq z7y (by kernel_rfl) (by kernel_rfl) (by kernel_rfl) z7z
end Go.Proofs.YtfgngipmbogcjaaGreatDoor.lL