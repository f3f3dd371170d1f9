/- The functions of this seat as data: each is what the model's code gives, by the kernel's reckoning over the verified evaluator. No statement of its own about the program. -/
import Derived.Test.YtfgngipmbogcjaaGreatDoorFnA
import Derived.Test.YtfgngipmbogcjaaGreatDoorEvJ
import Derived.Test.YtfgngipmbogcjaaGreatDoorPl
import Derived.Test.YtfgngipmbogcjaaGreatDoorProg
import Derived.Test.YtfgngipmbogcjaaGreatDoorSlp
import Derived.Sort.EveryDepth
import Derived.Test.YtfgngipmbogcjaaGreatDoorRows
import Derived.KernelRfl
namespace Go.Proofs.YtfgngipmbogcjaaGreatDoor.Am
open Go Go.Proofs Go.Shelf Go.RowKit Go.Sort Ev Ev.Fn
abbrev t2:Ty:=.int .i64
abbrev t3:Ty:=.st (.pair t2 (.pair .str (.pair t2 t2)))
abbrev t0:Ty:=.sl t3
abbrev tc:Ty:=.st (.pair .str (.sl t0))
abbrev t4:Ty:=.sl tc
abbrev t1:Ty:=.st (.pair .str (.pair t2 t4))
abbrev t5:Ty:=.st (.pair .str t0)
abbrev t6:Ty:=.st (.pair (.sl t0) t2)
abbrev t7:Ty:=.st (.pair (.int .u16) (.pair (.int .u16) (.int .u16)))
abbrev t8:Ty:=.st (.pair (.int .u32) (.pair (.int .u32) (.int .u32)))
abbrev t9:Ty:=.int .u8
abbrev ta:Ty:=.st (.pair .str .str)
abbrev tb:Ty:=.st (.pair t2 t0)
def sigs:List lE:=[
 ⟨3,⟨[.d (.sl t1),.d t0,.d (.sl t0)],[]⟩,⟨[.d .bool],[]⟩,[]⟩,
 ⟨4,⟨[.d (.sl t1),.d t0,.d (.sl t0)],[]⟩,⟨[.d .bool],[]⟩,[]⟩,
 ⟨5,⟨[.d t0,.d t0],[]⟩,⟨[.d .bool],[]⟩,[]⟩,
 ⟨6,⟨[.d (.sl t1),.d t0,.d (.sl t0),.d t0],[]⟩,⟨[.d .bool],[]⟩,[]⟩,
 ⟨7,⟨[],[]⟩,⟨[.d .bool],[]⟩,[]⟩,
 ⟨8,⟨[.d (.sl t1),.d t0,.d (.sl t0)],[]⟩,⟨[.d .bool],[]⟩,[]⟩,
 ⟨9,⟨[.d (.sl t1),.d t0,.d (.sl t0)],[]⟩,⟨[.d t0,.d t2],[]⟩,[]⟩,
 ⟨10,⟨[.d t0],[]⟩,⟨[.d t0],[]⟩,[]⟩,
 ⟨11,⟨[.d (.sl t0)],[]⟩,⟨[.d (.sl t0)],[]⟩,[]⟩,
 ⟨12,⟨[.d (.sl t1),.d t0,.d t0],[]⟩,⟨[.d .bool],[]⟩,[]⟩,
 ⟨13,⟨[.d (.sl t1),.d t0,.d (.sl t0)],[]⟩,⟨[.d t0,.d .bool],[]⟩,[]⟩,
 ⟨14,⟨[.d t0,.d t0],[]⟩,⟨[.d .bool],[]⟩,[]⟩,
 ⟨15,⟨[.d t0],[]⟩,⟨[.d t2],[]⟩,[]⟩,
 ⟨16,⟨[.d t0,.d t2,.d (.sl .str)],[]⟩,⟨[.d .bool],[]⟩,[]⟩,
 ⟨17,⟨[.d (.sl t0)],[]⟩,⟨[.d .bool],[]⟩,[]⟩,
 ⟨18,⟨[.d t0,.d t0],[]⟩,⟨[.d (.sl t5),.d .bool],[]⟩,[]⟩,
 ⟨19,⟨[.d t0],[]⟩,⟨[.d (.sl ta)],[]⟩,[]⟩,
 ⟨20,⟨[.d t0],[]⟩,⟨[.d .bool],[]⟩,[]⟩,
 ⟨21,⟨[.d t0,.d .str],[]⟩,⟨[.d t0,.d .bool],[]⟩,[]⟩,
 ⟨22,⟨[.d (.sl t1),.d t0,.d t0],[]⟩,⟨[.d .bool],[]⟩,[]⟩,
 ⟨23,⟨[.d t0,.d t0],[]⟩,⟨[.d t2],[]⟩,[]⟩,
 ⟨24,⟨[.d (.sl t0),.d t0],[]⟩,⟨[.d t2],[]⟩,[]⟩,
 ⟨25,⟨[.d (.sl t1)],[]⟩,⟨[.d .bool],[]⟩,[]⟩,
 ⟨26,⟨[.d (.sl t1),.d t0,.d t0],[]⟩,⟨[.d t2],[]⟩,[]⟩,
 ⟨28,⟨[.ptr 0 0,.d (.sl t5),.d (.sl t6)],[.box [.d (.sl t1),.d t2]]⟩,⟨[.bM,.d .bool,.d t0],[.box [.d (.sl t1),.d t2]]⟩,[0]⟩,
 ⟨29,⟨[.d (.sl t1)],[]⟩,⟨[.d t2],[]⟩,[]⟩,
 ⟨30,⟨[.d t0],[]⟩,⟨[.d .bool],[]⟩,[]⟩,
 ⟨31,⟨[.d t0,.d .bool],[]⟩,⟨[.d t2],[]⟩,[]⟩,
 ⟨32,⟨[.d (.sl t1),.d t0,.d t0,.d t2],[]⟩,⟨[.d .bool],[]⟩,[]⟩,
 ⟨33,⟨[.d (.sl t1),.d (.sl t5),.d (.sl t6)],[]⟩,⟨[.d t0,.d .bool],[]⟩,[]⟩,
 ⟨34,⟨[.d t0],[]⟩,⟨[.d .bool],[]⟩,[]⟩,
 ⟨35,⟨[.d t0,.d t2],[]⟩,⟨[.d t2,.d .bool],[]⟩,[]⟩,
 ⟨36,⟨[.d (.sl .str),.d .str],[]⟩,⟨[.d .bool],[]⟩,[]⟩,
 ⟨37,⟨[.d t0,.d t2],[]⟩,⟨[.d (.sl t2)],[]⟩,[]⟩,
 ⟨38,⟨[.d t0],[]⟩,⟨[.d t2],[]⟩,[]⟩,
 ⟨39,⟨[.d t0],[]⟩,⟨[.d .bool],[]⟩,[]⟩,
 ⟨40,⟨[.d .str,.d t0,.ptr 0 0],[.box [.cK 1],.vec t5]⟩,⟨[],[.box [.cK 2],.gone,.vec t5]⟩,[0]⟩,
 ⟨41,⟨[.d t0],[]⟩,⟨[.d t0],[]⟩,[]⟩,
 ⟨42,⟨[.d t0,.d t0,.fn 40 [.ptr 0 0]],[.box [.cK 1],.vec t5]⟩,⟨[.d .bool],[.box [.cK 2],.gone,.vec t5]⟩,[0]⟩,
 ⟨43,⟨[.d t0,.d .str,.ptr 0 0,.ptr 1 0],[.box [.cK 2],.box [.fn 43 [.ptr 0 0,.ptr 1 0]],.vec ta]⟩,⟨[],[.box [.cK 3],.box [.fn 43 [.ptr 0 0,.ptr 1 0]],.gone,.vec ta]⟩,[0,1]⟩,
 ⟨44,⟨[.d t0],[]⟩,⟨[.d (.sl t0)],[]⟩,[]⟩,
 ⟨45,⟨[.d .str,.d t2],[]⟩,⟨[.d .str],[]⟩,[]⟩,
 ⟨46,⟨[.d t0,.d .str],[]⟩,⟨[.d t0,.d .bool],[]⟩,[]⟩,
 ⟨47,⟨[.d t0],[]⟩,⟨[.d .bool],[]⟩,[]⟩,
 ⟨48,⟨[.d (.sl t1)],[]⟩,⟨[.d t2],[]⟩,[]⟩,
 ⟨49,⟨[.d t0],[]⟩,⟨[.d t2],[]⟩,[]⟩,
 ⟨50,⟨[.d (.sl t1),.d t0,.d t0],[]⟩,⟨[.d .bool],[]⟩,[]⟩,
 ⟨51,⟨[.d t0,.d t2],[]⟩,⟨[.d (.sl t2)],[]⟩,[]⟩,
 ⟨52,⟨[.d (.sl t0),.fn 109 [.ptr 0 0]],[.box [.fn 104 [.ptr 1 0]],.box [.d (.sl t1)]]⟩,⟨[.d t2],[.box [.fn 104 [.ptr 1 0]],.box [.d (.sl t1)]]⟩,[0,1]⟩,
 ⟨52,⟨[.d (.sl t0),.fn 150 [.ptr 0 0]],[.box [.fn 146 [.ptr 1 0]],.box [.d .str,.d t2,.d t4]]⟩,⟨[.d t2],[.box [.fn 146 [.ptr 1 0]],.box [.d .str,.d t2,.d t4]]⟩,[0,1]⟩,
 ⟨52,⟨[.d (.sl t0),.fn 53 [.ref t0]],[]⟩,⟨[.d t2],[]⟩,[]⟩,
 ⟨52,⟨[.d (.sl t0),.fn 56 []],[]⟩,⟨[.d t2],[]⟩,[]⟩,
 ⟨53,⟨[.d t0,.ref t0],[]⟩,⟨[.d .bool],[]⟩,[]⟩,
 ⟨54,⟨[.d (.sl t1),.d t0,.d t0],[]⟩,⟨[.d .bool],[]⟩,[]⟩,
 ⟨55,⟨[.ptr 0 0,.d t3],[.box [.d (.sl t1),.d t2]]⟩,⟨[.bM,.d .bool,.d t3],[.box [.d (.sl t1),.d t2]]⟩,[0]⟩,
 ⟨56,⟨[.d t0],[]⟩,⟨[.d .bool],[]⟩,[]⟩,
 ⟨57,⟨[.d t0],[]⟩,⟨[.d .bool],[]⟩,[]⟩,
 ⟨58,⟨[.d t0],[]⟩,⟨[.d t3],[]⟩,[]⟩,
 ⟨59,⟨[.d t0,.d t3],[]⟩,⟨[.d .bool],[]⟩,[]⟩,
 ⟨60,⟨[.fn 63 [.ptr 0 0,.ptr 1 0],.ptr 2 0,.ptr 3 0],[.box [.d (.sl t0)],.box [.d t2,.d .str,.d t2,.d t2],.box [.d (.sl t6)],.box [.d t2]]⟩,⟨[.d (.sl t6)],[.box [.d (.sl t0)],.box [.d t2,.d .str,.d t2,.d t2],.box [.d (.sl t6)],.box [.d t2]]⟩,[0,1,2,3]⟩,
 ⟨60,⟨[.fn 67 [],.ptr 0 0,.ptr 1 0],[.box [.d (.sl t6)],.box [.d t2]]⟩,⟨[.d (.sl t6)],[.box [.d (.sl t6)],.box [.d t2]]⟩,[0,1]⟩,
 ⟨61,⟨[.d (.sl (.sl t0))],[]⟩,⟨[.cK 0],[.vec t0]⟩,[]⟩,
 ⟨62,⟨[.d (.sl t1),.d t0,.d .str],[]⟩,⟨[.d (.sl t0),.d .bool],[]⟩,[]⟩,
 ⟨63,⟨[.d t0,.ptr 0 0,.ptr 1 0],[.box [.d (.sl t0)],.box [.d t2,.d .str,.d t2,.d t2]]⟩,⟨[.d (.sl t0),.d .bool],[.box [.d (.sl t0)],.box [.d t2,.d .str,.d t2,.d t2]]⟩,[0,1]⟩,
 ⟨64,⟨[.d (.sl (.sl t5))],[]⟩,⟨[.cK 0],[.vec t5]⟩,[]⟩,
 ⟨65,⟨[.d (.sl t1),.fn 98 []],[]⟩,⟨[.d t2],[]⟩,[]⟩,
 ⟨65,⟨[.d (.sl t1),.fn 100 [.ref t1]],[]⟩,⟨[.d t2],[]⟩,[]⟩,
 ⟨65,⟨[.d (.sl t1),.fn 106 [.ref t3]],[]⟩,⟨[.d t2],[]⟩,[]⟩,
 ⟨65,⟨[.d (.sl t1),.fn 177 [.ref t0]],[]⟩,⟨[.d t2],[]⟩,[]⟩,
 ⟨65,⟨[.d (.sl t1),.fn 66 [.ptr 0 0]],[.box [.d .str,.d t0]]⟩,⟨[.d t2],[.box [.d .str,.d t0]]⟩,[0]⟩,
 ⟨66,⟨[.d t1,.ptr 0 0],[.box [.d .str,.d t0]]⟩,⟨[.d .bool],[.box [.d .str,.d t0]]⟩,[0]⟩,
 ⟨67,⟨[.d t0],[]⟩,⟨[.d (.sl t0),.d .bool],[]⟩,[]⟩,
 ⟨68,⟨[.d t1],[]⟩,⟨[.d .bool],[]⟩,[]⟩,
 ⟨69,⟨[.d (.sl t1)],[]⟩,⟨[.d (.sl .str)],[]⟩,[]⟩,
 ⟨70,⟨[.d .str],[]⟩,⟨[.d .bool],[]⟩,[]⟩,
 ⟨71,⟨[.d (.sl t1),.d t3],[]⟩,⟨[.d .bool],[]⟩,[]⟩,
 ⟨72,⟨[.d t0],[]⟩,⟨[.d .bool],[]⟩,[]⟩,
 ⟨73,⟨[.d t3],[]⟩,⟨[.d .bool],[]⟩,[]⟩,
 ⟨74,⟨[.d t0,.d t2],[]⟩,⟨[.d t2],[]⟩,[]⟩,
 ⟨75,⟨[.d t0,.d t2,.d .bool],[]⟩,⟨[.d t2],[]⟩,[]⟩,
 ⟨76,⟨[.d t0,.d t2],[]⟩,⟨[.d .bool],[]⟩,[]⟩,
 ⟨77,⟨[.d (.sl t1),.d t0,.d .str],[]⟩,⟨[.d (.sl t0),.d .bool],[]⟩,[]⟩,
 ⟨78,⟨[.d t0],[]⟩,⟨[.d .bool],[]⟩,[]⟩,
 ⟨79,⟨[.d t6,.d t2,.d (.sl t0)],[]⟩,⟨[.d t6],[]⟩,[]⟩,
 ⟨80,⟨[.d t0,.d t3],[]⟩,⟨[.d .bool],[]⟩,[]⟩,
 ⟨81,⟨[.d t0],[]⟩,⟨[.d t3],[]⟩,[]⟩,
 ⟨82,⟨[.d .str,.d t2],[]⟩,⟨[.d .str],[]⟩,[]⟩,
 ⟨83,⟨[.d t0],[]⟩,⟨[.d (.sl t0)],[]⟩,[]⟩,
 ⟨84,⟨[.d (.sl t5),.d t2,.d (.sl t5)],[]⟩,⟨[.d (.sl t5)],[]⟩,[]⟩,
 ⟨85,⟨[.d (.sl t1),.d t0],[]⟩,⟨[.d t2],[]⟩,[]⟩,
 ⟨86,⟨[.d t3,.d (.sl t0)],[]⟩,⟨[.d t0],[]⟩,[]⟩,
 ⟨87,⟨[.d t0,.d t2],[]⟩,⟨[.d t2],[]⟩,[]⟩,
 ⟨88,⟨[.d .str],[]⟩,⟨[.d (.sl t2),.d .bool],[]⟩,[]⟩,
 ⟨89,⟨[.d .str],[]⟩,⟨[.d .bool],[]⟩,[]⟩,
 ⟨90,⟨[.d t0,.d t2],[]⟩,⟨[.d t2],[]⟩,[]⟩,
 ⟨91,⟨[.d t0,.d .bool],[]⟩,⟨[.d t2],[]⟩,[]⟩,
 ⟨92,⟨[.d t0,.fn 110 []],[]⟩,⟨[.d .bool],[]⟩,[]⟩,
 ⟨92,⟨[.d t0,.fn 93 []],[]⟩,⟨[.d .bool],[]⟩,[]⟩,
 ⟨92,⟨[.d t0,.fn 104 [.ptr 0 0]],[.box [.d (.sl t1)]]⟩,⟨[.d .bool],[.box [.d (.sl t1)]]⟩,[0]⟩,
 ⟨93,⟨[.d t3],[]⟩,⟨[.d .bool],[]⟩,[]⟩,
 ⟨94,⟨[.d t3],[]⟩,⟨[.d .bool],[]⟩,[]⟩,
 ⟨95,⟨[.d t0],[]⟩,⟨[.d (.sl t0)],[]⟩,[]⟩,
 ⟨96,⟨[.d t2],[]⟩,⟨[.d .str],[]⟩,[]⟩,
 ⟨97,⟨[.d (.sl t1),.fn 98 []],[]⟩,⟨[.d .bool],[]⟩,[]⟩,
 ⟨97,⟨[.d (.sl t1),.fn 106 [.ref t3]],[]⟩,⟨[.d .bool],[]⟩,[]⟩,
 ⟨98,⟨[.d t1],[]⟩,⟨[.d .bool],[]⟩,[]⟩,
 ⟨99,⟨[.d t1],[]⟩,⟨[.d .bool],[]⟩,[]⟩,
 ⟨100,⟨[.d t1,.ref t1],[]⟩,⟨[.d .bool],[]⟩,[]⟩,
 ⟨101,⟨[.d t2,.d t2,.ptr 0 0],[.box [.d (.sl t1)]]⟩,⟨[.d .bool],[.box [.d (.sl t1)]]⟩,[0]⟩,
 ⟨102,⟨[.d (.sl t1),.d .str],[]⟩,⟨[.d t2,.d t2,.d .bool],[]⟩,[]⟩,
 ⟨103,⟨[.d (.sl t1),.fn 101 [.ptr 0 0]],[.box [.d (.sl t1)]]⟩,⟨[.d .bool],[.box [.d (.sl t1)]]⟩,[0]⟩,
 ⟨103,⟨[.d (.sl t1),.fn 107 [.ptr 0 0,.ptr 1 0]],[.box [.d (.sl t1)],.box [.fn 104 [.ptr 0 0]]]⟩,⟨[.d .bool],[.box [.d (.sl t1)],.box [.fn 104 [.ptr 0 0]]]⟩,[0,1]⟩,
 ⟨103,⟨[.d (.sl t1),.fn 151 [.ref (.sl t1),.ref .str,.ptr 0 0,.ptr 1 0]],[.box [.d t2],.box [.d t2]]⟩,⟨[.d .bool],[.box [.d t2],.box [.d t2]]⟩,[0,1]⟩,
 ⟨104,⟨[.d t3,.ptr 0 0],[.box [.d (.sl t1)]]⟩,⟨[.d .bool],[.box [.d (.sl t1)]]⟩,[0]⟩,
 ⟨105,⟨[.d .str],[]⟩,⟨[.d .bool],[]⟩,[]⟩,
 ⟨106,⟨[.d t1,.ref t3],[]⟩,⟨[.d .bool],[]⟩,[]⟩,
 ⟨107,⟨[.d t2,.d t2,.ptr 0 0,.ptr 1 0],[.box [.d (.sl t1)],.box [.fn 104 [.ptr 0 0]]]⟩,⟨[.d .bool],[.box [.d (.sl t1)],.box [.fn 104 [.ptr 0 0]]]⟩,[0,1]⟩,
 ⟨108,⟨[.d (.sl t0),.fn 109 [.ptr 0 0]],[.box [.fn 104 [.ptr 1 0]],.box [.d (.sl t1)]]⟩,⟨[.d .bool],[.box [.fn 104 [.ptr 1 0]],.box [.d (.sl t1)]]⟩,[0,1]⟩,
 ⟨108,⟨[.d (.sl t0),.fn 150 [.ptr 0 0]],[.box [.fn 146 [.ptr 1 0]],.box [.d .str,.d t2,.d t4]]⟩,⟨[.d .bool],[.box [.fn 146 [.ptr 1 0]],.box [.d .str,.d t2,.d t4]]⟩,[0,1]⟩,
 ⟨109,⟨[.d t0,.ptr 0 0],[.box [.fn 104 [.ptr 1 0]],.box [.d (.sl t1)]]⟩,⟨[.d .bool],[.box [.fn 104 [.ptr 1 0]],.box [.d (.sl t1)]]⟩,[0,1]⟩,
 ⟨110,⟨[.d t3],[]⟩,⟨[.d .bool],[]⟩,[]⟩,
 ⟨111,⟨[.d t3],[]⟩,⟨[.d .bool],[]⟩,[]⟩,
 ⟨112,⟨[.d (.sl t1),.d t0,.d t0,.fn 114 [.ref (.sl t1)]],[]⟩,⟨[.d .bool],[]⟩,[]⟩,
 ⟨112,⟨[.d (.sl t1),.d t0,.d t0,.fn 113 [.ref (.sl t1)]],[]⟩,⟨[.d .bool],[]⟩,[]⟩,
 ⟨113,⟨[.d t0,.d t0,.ref (.sl t1)],[]⟩,⟨[.d .bool],[]⟩,[]⟩,
 ⟨114,⟨[.d t0,.d t0,.ref (.sl t1)],[]⟩,⟨[.d .bool],[]⟩,[]⟩,
 ⟨115,⟨[.d t0,.d t3],[]⟩,⟨[.d t2],[]⟩,[]⟩,
 ⟨116,⟨[.d (.sl t0),.d t2],[]⟩,⟨[.cK 0],[.vec t0]⟩,[]⟩,
 ⟨117,⟨[.d (.sl t1),.d t0,.d .str],[]⟩,⟨[.d (.sl t0),.d .bool],[]⟩,[]⟩,
 ⟨118,⟨[.d (.sl t5),.d t2],[]⟩,⟨[.cK 0],[.vec t5]⟩,[]⟩,
 ⟨119,⟨[.d t0],[]⟩,⟨[.d (.sl t2)],[]⟩,[]⟩,
 ⟨120,⟨[.d t9],[]⟩,⟨[.d t2],[]⟩,[]⟩,
 ⟨121,⟨[.d .str,.d t2,.d t2,.d t2],[]⟩,⟨[.d t2],[]⟩,[]⟩,
 ⟨122,⟨[.d .str],[]⟩,⟨[.d .bool],[]⟩,[]⟩,
 ⟨123,⟨[.d t2],[]⟩,⟨[.d t2],[]⟩,[]⟩,
 ⟨124,⟨[.d t0,.d t2,.d .bool],[]⟩,⟨[.d t2],[]⟩,[]⟩,
 ⟨125,⟨[.d t2],[]⟩,⟨[.d .bool],[]⟩,[]⟩,
 ⟨126,⟨[.d t0,.d t2],[]⟩,⟨[.cK 0],[.vec .str]⟩,[]⟩,
 ⟨127,⟨[.d t0,.d t2],[]⟩,⟨[.d t0],[]⟩,[]⟩,
 ⟨128,⟨[.d (.sl tb),.d t0],[]⟩,⟨[.d t0],[]⟩,[]⟩,
 ⟨129,⟨[.d t2],[]⟩,⟨[.d .str],[]⟩,[]⟩,
 ⟨131,⟨[.d t3],[]⟩,⟨[.d .bool],[]⟩,[]⟩,
 ⟨132,⟨[.d t0],[]⟩,⟨[.d t2],[]⟩,[]⟩,
 ⟨133,⟨[.d t0,.d t2,.d .bool,.fn 134 [.ref t0]],[]⟩,⟨[.d t2,.d t2],[]⟩,[]⟩,
 ⟨134,⟨[.d t2,.d .bool,.ref t0],[]⟩,⟨[.d t2],[]⟩,[]⟩,
 ⟨135,⟨[.d t0,.d t2,.d .bool],[]⟩,⟨[.d t2],[]⟩,[]⟩,
 ⟨136,⟨[.d t2,.ref t0],[]⟩,⟨[.d .bool],[]⟩,[]⟩,
 ⟨137,⟨[.d t0,.d t2],[]⟩,⟨[.d t0,.d t2],[]⟩,[]⟩,
 ⟨138,⟨[.d t0],[]⟩,⟨[.cK 0],[.vec .str]⟩,[]⟩,
 ⟨139,⟨[.cK 0],[.vec .str]⟩,⟨[],[.vec .str]⟩,[0]⟩,
 ⟨140,⟨[.cK 0],[.vec .str]⟩,⟨[.cK 1],[.gone,.vec .str]⟩,[]⟩,
 ⟨141,⟨[.d t0],[]⟩,⟨[.d t2],[]⟩,[]⟩,
 ⟨142,⟨[.d t2],[]⟩,⟨[.d .bool],[]⟩,[]⟩,
 ⟨143,⟨[.d t0,.fn 110 []],[]⟩,⟨[.d t2],[]⟩,[]⟩,
 ⟨143,⟨[.d t0,.fn 93 []],[]⟩,⟨[.d t2],[]⟩,[]⟩,
 ⟨143,⟨[.d t0,.fn 104 [.ptr 0 0]],[.box [.d (.sl t1)]]⟩,⟨[.d t2],[.box [.d (.sl t1)]]⟩,[0]⟩,
 ⟨144,⟨[.d t2],[]⟩,⟨[.d t2],[]⟩,[]⟩,
 ⟨145,⟨[.d t2],[]⟩,⟨[.d .str],[]⟩,[]⟩,
 ⟨146,⟨[.d t0,.ptr 0 0],[.box [.d .str,.d t2,.d t4]]⟩,⟨[.d .bool],[.box [.d .str,.d t2,.d t4]]⟩,[0]⟩,
 ⟨147,⟨[.d t2,.ptr 0 0],[.box [.d .str,.d t2,.d t4]]⟩,⟨[.d .bool],[.box [.d .str,.d t2,.d t4]]⟩,[0]⟩,
 ⟨148,⟨[.d (.sl t2),.fn 147 [.ptr 0 0]],[.box [.d .str,.d t2,.d t4]]⟩,⟨[.d .bool],[.box [.d .str,.d t2,.d t4]]⟩,[0]⟩,
 ⟨149,⟨[.d t0],[]⟩,⟨[.d (.sl t2)],[]⟩,[]⟩,
 ⟨150,⟨[.d t0,.ptr 0 0],[.box [.fn 146 [.ptr 1 0]],.box [.d .str,.d t2,.d t4]]⟩,⟨[.d .bool],[.box [.fn 146 [.ptr 1 0]],.box [.d .str,.d t2,.d t4]]⟩,[0,1]⟩,
 ⟨151,⟨[.d t2,.d t2,.ref (.sl t1),.ref .str,.ptr 0 0,.ptr 1 0],[.box [.d t2],.box [.d t2]]⟩,⟨[.d .bool],[.box [.d t2],.box [.d t2]]⟩,[0,1]⟩,
 ⟨152,⟨[.d (.sl t1),.d t0],[]⟩,⟨[.d t1,.d .bool],[]⟩,[]⟩,
 ⟨153,⟨[.d t4,.fn 154 [.ref .str]],[]⟩,⟨[.d t2],[]⟩,[]⟩,
 ⟨154,⟨[.d tc,.ref .str],[]⟩,⟨[.d .bool],[]⟩,[]⟩,
 ⟨155,⟨[.d (.sl tb),.d t0],[]⟩,⟨[.d t0],[]⟩,[]⟩,
 ⟨156,⟨[.d (.sl t2),.d t2],[]⟩,⟨[.d t2],[]⟩,[]⟩,
 ⟨157,⟨[],[]⟩,⟨[.d (.sl .str)],[]⟩,[]⟩,
 ⟨158,⟨[.d (.int .u64)],[]⟩,⟨[.d t2],[]⟩,[]⟩,
 ⟨159,⟨[.d t2],[]⟩,⟨[.d t2],[]⟩,[]⟩,
 ⟨160,⟨[.d t2,.d t2],[]⟩,⟨[.d .bool],[]⟩,[]⟩,
 ⟨161,⟨[.d .str],[]⟩,⟨[.d .bool],[]⟩,[]⟩,
 ⟨162,⟨[.d .str],[]⟩,⟨[.d .bool],[]⟩,[]⟩,
 ⟨164,⟨[.fn 168 [],.ref t3],[]⟩,⟨[.d .bool],[]⟩,[]⟩,
 ⟨164,⟨[.fn 169 [],.ref t3],[]⟩,⟨[.d .bool],[]⟩,[]⟩,
 ⟨165,⟨[.d .str,.fn 166 []],[]⟩,⟨[.d .bool],[]⟩,[]⟩,
 ⟨165,⟨[.d .str,.fn 170 []],[]⟩,⟨[.d .bool],[]⟩,[]⟩,
 ⟨166,⟨[.d t9],[]⟩,⟨[.d .bool],[]⟩,[]⟩,
 ⟨167,⟨[.d .str],[]⟩,⟨[.d .bool],[]⟩,[]⟩,
 ⟨168,⟨[.d t9],[]⟩,⟨[.d .bool],[]⟩,[]⟩,
 ⟨169,⟨[.d t9],[]⟩,⟨[.d .bool],[]⟩,[]⟩,
 ⟨170,⟨[.d t9],[]⟩,⟨[.d .bool],[]⟩,[]⟩,
 ⟨171,⟨[.d t2],[]⟩,⟨[.agg [.d .bool,.d .bool,.fa [(188,false),(89,false)],.fa [(212,true),(189,false),(190,false)],.d .bool]],[]⟩,[]⟩,
 ⟨174,⟨[.d t2,.d t2],[]⟩,⟨[.d .str],[]⟩,[]⟩,
 ⟨175,⟨[.d (.sl t2),.fn 147 [.ptr 0 0]],[.box [.d .str,.d t2,.d t4]]⟩,⟨[.d t2],[.box [.d .str,.d t2,.d t4]]⟩,[0]⟩,
 ⟨176,⟨[.d (.sl t2),.d t2],[]⟩,⟨[.d .bool],[]⟩,[]⟩,
 ⟨177,⟨[.d t1,.ref t0],[]⟩,⟨[.d .bool],[]⟩,[]⟩,
 ⟨178,⟨[.d (.sl tb),.fn 179 [.ref t3]],[]⟩,⟨[.d t2],[]⟩,[]⟩,
 ⟨179,⟨[.d tb,.ref t3],[]⟩,⟨[.d .bool],[]⟩,[]⟩,
 ⟨183,⟨[.d t9],[]⟩,⟨[.d .bool],[]⟩,[]⟩,
 ⟨184,⟨[.d (.sl .str),.d .str],[]⟩,⟨[.d .bool],[]⟩,[]⟩,
 ⟨185,⟨[],[]⟩,⟨[.d (.sl .str)],[]⟩,[]⟩,
 ⟨186,⟨[.d .str,.d t9],[]⟩,⟨[.d t2],[]⟩,[]⟩,
 ⟨187,⟨[.d t2],[]⟩,⟨[.fn 212 [.ref t2]],[]⟩,[]⟩,
 ⟨188,⟨[.d .str],[]⟩,⟨[.d .bool],[]⟩,[]⟩,
 ⟨189,⟨[.d t2],[]⟩,⟨[.d .bool],[]⟩,[]⟩,
 ⟨190,⟨[.d t2],[]⟩,⟨[.d .bool],[]⟩,[]⟩,
 ⟨206,⟨[.d (.sl t2),.d t2],[]⟩,⟨[.d t2],[]⟩,[]⟩,
 ⟨209,⟨[.d (.sl .str),.d .str],[]⟩,⟨[.d t2],[]⟩,[]⟩,
 ⟨210,⟨[.d .str],[]⟩,⟨[.d (.sl .str)],[]⟩,[]⟩,
 ⟨212,⟨[.d t2,.ref t2],[]⟩,⟨[.d .bool],[]⟩,[]⟩]
def z4i:List Int:=[0,0,0,0,0,0,0,0,0,1,1,1,1,1,0,0,0,0,0,0,0,0,0,0,0,0,0,0,0,0,0,0,1,0,0,0,0,0,0,0,0,0,0,0,0,0,0,0,0,0,0,0,0,0,0,0,0,0,0,0,0,0,0,0,0,0,0,0,0,0,0,0,0,0,0,0,0,0,0,0,0,0,0,0,0,0,0,0,0,0,0,0,0,0,0,0,0,0,0,0,0,0,0,0,0,0,0,0,0,0,0,0,0,0,0,0,0,0,0,0,0,0,0,0,0,0,0,0,0,0,0,0,0,0,0,0,0,0,0,0,0,0,0,0,0,0,0,0,0,0,0,0,0,0,0,0,0,0,0,0,0,0,0,0,0,0,0,0,0,0,0,0,0,0,0,0,0,0,0,0,0,0,0,0,0,0,0,0,0,0,0,0,0,0,0,0,0,0,0,0,0,0,0,0,0,0,0,0,0,0,0,0,0,0,0,0,0,0,0,0,0,0,0,0,0,0,0,0,0,0,0,0,0,0,0,0,0,0,0,0,0,0,0,0,0,0,0,0,0,0,0,0,0,0,0,0]
def Yw:List Int:=[1,10,100,1000,10000,100000,1000000,10000000,100000000,1000000000,10000000000,100000000000,1000000000000,10000000000000,100000000000000,1000000000000000,10000000000000000,100000000000000000,1000000000000000000,10000000000000000000]
def kl:Nat->Option ((t:Ty)×den t)
 |4=>some ⟨.arr 256 (.int .u8),z4i⟩
 |0=>some ⟨.arr 20 (.int .u64),Yw⟩
 |_=>none
def dP:List (Nat×Ty):=[
 (2,t2),
 (3,t2),
 (4,.bool),
 (5,t9),
 (6,t9),
 (7,(.st (.pair t2 (.pair t2 (.pair .bool t9))))),
 (8,(.st (.pair t2 (.pair t2 (.pair .bool t9))))),
 (9,.str),
 (10,.str),
 (11,.str),
 (12,(.int .u64)),
 (13,(.st (.pair .str (.int .u64)))),
 (14,(.st (.pair .str (.int .u64)))),
 (21,(.int .i32)),
 (22,(.sl t1)),
 (23,t0),
 (24,(.sl t0)),
 (27,t2),
 (32,t2),
 (33,t3),
 (34,t3),
 (42,(.sl t5)),
 (45,(.sl ta)),
 (47,ta),
 (48,ta),
 (51,t5),
 (52,t5),
 (56,tc),
 (57,tc),
 (58,t4),
 (59,t1),
 (60,t1),
 (62,(.sl t6)),
 (64,t6),
 (65,t6),
 (67,(.st (.pair (.sl t1) t2))),
 (68,(.st (.pair (.sl t1) t2))),
 (70,t5),
 (71,t5),
 (72,(.sl t5)),
 (76,(.sl t6)),
 (77,t6),
 (78,t6),
 (80,t5),
 (81,t5),
 (82,(.sl t5)),
 (85,(.sl .str)),
 (87,(.sl t2)),
 (110,t2),
 (111,t3),
 (112,t3),
 (132,(.st .unit)),
 (133,(.st .unit)),
 (135,(.sl (.sl t0))),
 (137,(.sl (.sl t5))),
 (145,(.sl tb)),
 (147,tb),
 (148,tb),
 (171,(.int .u64)),
 (183,(.int .u64)),
 (195,t2),
 (203,(.int .u32)),
 (205,(.arr 24 t9)),
 (207,(.sl t9)),
 (212,(.int .u64)),
 (220,(.arr 20 (.int .u64))),
 (221,(.arr 65 t9)),
 (222,(.arr 256 t9)),
 (223,(.st (.pair t9 t9))),
 (224,(.st (.pair t9 t9))),
 (225,(.arr 16 (.st (.pair t9 t9)))),
 (233,(.sl (.st (.pair t2 t2)))),
 (234,(.st (.pair t2 t2))),
 (235,(.st (.pair t2 t2))),
 (238,(.arr 32 t9)),
 (239,(.arr 64 t9)),
 (240,(.sl t7)),
 (241,(.sl t8)),
 (242,(.st (.pair (.sl t7) (.pair (.sl t8) t2)))),
 (243,(.st (.pair (.sl t7) (.pair (.sl t8) t2)))),
 (244,(.int .u16)),
 (245,t7),
 (246,t7),
 (248,t8),
 (249,t8),
 (260,t9),
 (261,t9),
 (264,(.int .i32)),
 (265,(.int .i32))]
def eqs:List Nat:=[33,34,47,48]
def HZ:Bv:=⟨27,2,[(0,23,.eE,.slice none 0 0),(1,27,.d (.int .i64) (131:Int),.int .i64 131)]⟩
noncomputable def C:Cx:=⟨Tryz.prog,sigs,kl,dP,eqs,999999,999999⟩
set_option maxRecDepth 100000 in
theorem qzw(zs:List Value)(w:World)(hz:zs.length=2):CallsD Tryz.prog 27 zs.toArray .returning w fun e u w'=>e=.returned (.tuple #[])/\u=.returning/\w'=w:=by
 match zs,hz with
 |[z0,z1],_=>
  refine callsD_of_wpS Tryz.func27 rfl fun MD cs hu=>?_;apply wpS_seq;apply wpS_region;simp[wpOpsS,go_sem,recoverD,hu,Tryz.ntmps27,Exit.thenS];refine wpS_cond (t:=false) (by simp[Act.eval,Array.replicate]) ?_;simp only[Bool.false_eq_true,if_false];refine wpS_of_wp (wp_skip ?_);cases MD
  simp_all[bodyPostS,results]
set_option maxRecDepth 100000 in
theorem z31(zs:List Value)(w w':World)(t:TypeId)(v:Value)(hz:zs.length=2)(h:(w9 HZ.st zs).run Tryz.prog w=.ok () w'):CallsD Tryz.prog 27 zs.toArray (.panicking (ni t v)) w fun e u w2=>e=.returned (.tuple #[])/\u=.panicking [{v:=.iface t v,recovered:=true}]/\w2=w':=by
 match zs,hz with
 |[z0,z1],_=>
  obtain⟨w1,h1,h2⟩:∃w1,(Instr.storeAt 23 z0 (.slice none 0 0)).run Tryz.prog w=.ok () w1/\(Instr.storeAt 27 z1 (.int .i64 131)).run Tryz.prog w1=.ok () w':=by
   have h:((Instr.storeAt 23 z0 (.slice none 0 0))>>=fun _=>(Instr.storeAt 27 z1 (.int .i64 131))>>=fun _=>pure ()).run Tryz.prog w=.ok () w':=h;rw[Sem.run_bind] at h;cases e:(Instr.storeAt 23 z0 (.slice none 0 0)).run Tryz.prog w with
   |halt a b=>rw[e] at h;cases h
   |ok a w1=>
    rw[e] at h;refine⟨w1,rfl,?_⟩;have h:((Instr.storeAt 27 z1 (.int .i64 131))>>=fun _=>pure ()).run Tryz.prog w1=.ok () w':=h;rw[Sem.run_bind] at h;cases e2:(Instr.storeAt 27 z1 (.int .i64 131)).run Tryz.prog w1 with
    |halt a b=>rw[e2] at h;cases h
    |ok a w2=>rw[e2] at h;exact h
  refine callsD_of_wpS Tryz.func27 rfl fun MD cs hu=>?_;apply wpS_seq;apply wpS_region;simp[wpOpsS,go_sem,recoverD,hu,ni,Tryz.ntmps27,Exit.thenS];refine wpS_cond (t:=true) (by simp[Act.eval,Array.replicate]) ?_;simp only[if_true];apply wpS_region;show wpOpsS _ _ _ [0,1] _ _ _;simp[wpOpsS,execOp,Act.put,Act.eval,Array.replicate,Region.wanted,Oper.upon,h1,h2,bodyPostS,results]
theorem qs8:OL Tryz.prog HZ where
 idle:=qzw
 tP:=z31
 cm:=fun q hq φ o imm w=>by
  simp only[HZ,zt,List.not_mem_nil,or_false] at hq;rcases hq with rfl|rfl
  ·rfl
  ·exact lH (by show(-9223372036854775808:Int)<=_/\_<=(9223372036854775807:Int);decide)
 fn:=⟨_,Tryz.func27,by kernel_rfl,by kernel_rfl⟩
def z4j:ai (aL C.sigs 149).ins.aW->Option (ai (aL C.sigs 149).outs.aW):=fun x=>bif x.1.l.all vn&&decide (x.1.l.length<4611686018427387904) then some ((⟨x.1.nil,x.1.l.mergeSort fun a b=>!strLt b a⟩:Sl (List Int)),()) else none
def z5a:ai (aL C.sigs 194).ins.aW->Option (ai (aL C.sigs 194).outs.aW):=fun x=>some (nL x.2.1 x.1,())
def z4k:ai (aL C.sigs 127).ins.aW->Option (ai (aL C.sigs 127).outs.aW):=fun x=>bif x.1.nil&&x.1.l.isEmpty&&decide (0<=x.2.1)&&decide (x.2.1<=1000000) then some ((⟨decide (x.2.1=0),([]:List (Sl (Int×(List Int)×Int×Int)))⟩:Sl (Sl (Int×(List Int)×Int×Int))),()) else none
def z32:ai (aL C.sigs 129).ins.aW->Option (ai (aL C.sigs 129).outs.aW):=fun x=>bif x.1.nil&&x.1.l.isEmpty&&decide (0<=x.2.1)&&decide (x.2.1<=1000000) then some ((⟨decide (x.2.1=0),([]:List ((List Int)×Sl (Int×(List Int)×Int×Int)))⟩:Sl ((List Int)×Sl (Int×(List Int)×Int×Int))),()) else none
theorem z5b:ae C 194 z5a:=by intro x y h;obtain⟨l,c,u⟩:=x;have h:some ((nL c l,()):Int×Unit)=some y:=h;injection h with h;subst h;exact Call.rZ 194 _ _ (z3o (C:=C) (f:=186) ⟨_,Tryz.func186,by kernel_rfl⟩ (fun s c w=>Any.strings_IndexByte Tryz.ixL s c w) l c)
theorem z4l:ae C 127 z4k:=by
 intro x y h;obtain⟨⟨nil,l⟩,n,u⟩:=x;have h:(bif nil&&l.isEmpty&&decide (0<=n)&&decide (n<=1000000) then some ((⟨decide (n=0),([]:List (Sl (Int×(List Int)×Int×Int)))⟩,()):Sl (Sl (Int×(List Int)×Int×Int))×Unit) else none)=some y:=h;cases hb:(nil&&l.isEmpty&&decide (0<=n)&&decide (n<=1000000)) with
 |false=>rw[hb] at h;cases h
 |true=>
  rw[hb] at h;injection h with h;subst h;simp only[zd,decide_eq_true_eq] at hb;obtain⟨⟨⟨h1,h2⟩,h3⟩,h4⟩:=hb;subst h1;obtain rfl:l=[]:=List.isEmpty_iff.1 h2;obtain⟨k,rfl⟩:=Int.eq_ofNat_of_zero_le h3;have h4:(k:Int)<=1000000:=h4;have he:(Tryz.prog.info? (Tryz.growL_ren.t 25)).map (fun i=>(i.zero,i.size,i.bytes))=some (some (.slice none 0 0),1,24):=by kernel_rfl
  obtain⟨i0,i1,i2⟩:=Option.map_eq_some_iff.1 he;injection i2 with i2 i3;injection i3 with i3 i4;have key:=qkp (C:=C) (f:=116) (t:=.sl (.st (.pair (.int .i64) (.pair .str (.pair (.int .i64) (.int .i64)))))) (by intro h;cases h) ⟨_,Tryz.func116,by kernel_rfl⟩
   (fun w=>Any8.slices_Grow_room Tryz.growL none 0 0 0 w (Nat.le_refl _) dc dc (Nat.le_refl _))
   (fun n w hn hf=>by
    have g:=Any8.slices_Grow_grow Tryz.growL i0 (.slice none 0 0) i1 i2 om none 0 0 n [] w (Nat.le_refl _) om (by rw[i4];omega) om (by rw[i3];rfl) (fun _=>rfl) (fun a h=>by cases h);refine Calls.mono g fun e w' ⟨e1,e2⟩=>⟨_,_,_,e1,e2,?_⟩;have hc:aM (.sl (.st (.pair (.int .i64) (.pair .str (.pair (.int .i64) (.int .i64))))))=1:=rfl;rw[hc];have hs:(Value.slice none 0 0).cells.size=1:=by kernel_rfl
    simp[Builtin.zeroCells];rw[hs];omega) k om
  have e:decide ((k:Int)=0)=decide (k=0):=decide_eq_decide.2 om;rw[e];exact Call.rZ 127 _ _ key
theorem z33:ae C 129 z32:=by
 intro x y h;obtain⟨⟨nil,l⟩,n,u⟩:=x;have h:(bif nil&&l.isEmpty&&decide (0<=n)&&decide (n<=1000000) then some ((⟨decide (n=0),([]:List ((List Int)×Sl (Int×(List Int)×Int×Int)))⟩,()):Sl ((List Int)×Sl (Int×(List Int)×Int×Int))×Unit) else none)=some y:=h;cases hb:(nil&&l.isEmpty&&decide (0<=n)&&decide (n<=1000000)) with
 |false=>rw[hb] at h;cases h
 |true=>
  rw[hb] at h;injection h with h;subst h;simp only[zd,decide_eq_true_eq] at hb;obtain⟨⟨⟨h1,h2⟩,h3⟩,h4⟩:=hb;subst h1;obtain rfl:l=[]:=List.isEmpty_iff.1 h2;obtain⟨k,rfl⟩:=Int.eq_ofNat_of_zero_le h3;have h4:(k:Int)<=1000000:=h4;have he:(Tryz.prog.info? (Tryz.growcL_ren.t 25)).map (fun i=>(i.zero,i.size,i.bytes))=some (some (.agg #[.string ByteArray.empty,.slice none 0 0]),2,40):=by kernel_rfl
  obtain⟨i0,i1,i2⟩:=Option.map_eq_some_iff.1 he;injection i2 with i2 i3;injection i3 with i3 i4;have key:=qkp (C:=C) (f:=118) (t:=.st (.pair .str (.sl (.st (.pair (.int .i64) (.pair .str (.pair (.int .i64) (.int .i64)))))))) (by intro h;cases h) ⟨_,Tryz.func118,by kernel_rfl⟩
   (fun w=>Any8.slices_Grow_room Tryz.growcL none 0 0 0 w (Nat.le_refl _) dc dc (Nat.le_refl _))
   (fun n w hn hf=>by
    have g:=Any8.slices_Grow_grow Tryz.growcL i0 (.agg #[.string ByteArray.empty,.slice none 0 0]) i1 i2 om none 0 0 n [] w (Nat.le_refl _) om (by rw[i4];omega) om (by rw[i3];rfl) (fun _=>rfl) (fun a h=>by cases h);refine Calls.mono g fun e w' ⟨e1,e2⟩=>⟨_,_,_,e1,e2,?_⟩;have hc:aM (.st (.pair .str (.sl (.st (.pair (.int .i64) (.pair .str (.pair (.int .i64) (.int .i64))))))))=2:=rfl;rw[hc];have hs:(Value.agg #[.string ByteArray.empty,.slice none 0 0]).cells.size=2:=by kernel_rfl
    simp[Builtin.zeroCells];rw[hs];omega) k om
  have e:decide ((k:Int)=0)=decide (k=0):=decide_eq_decide.2 om;rw[e];exact Call.rZ 129 _ _ key
def uP(x:List UInt8):List Int:=x.map fun b=>(b.toNat:Int)
def Ju(l:List Int):List UInt8:=l.map fun b=>UInt8.ofNat b.toNat
theorem qgw:∀x y:List UInt8,uP x=uP y->x=y
 |[],[],_=>rfl
 |[],_::_,h=>by cases h
 |_::_,[],h=>by cases h
 |a::x,b::y,h=>by injection h with h1 h2;have h1:(a.toNat:Int)=(b.toNat:Int):=h1;have e:a=b:=UInt8.toNat_inj.1 om;rw[qgw x y h2,e]
theorem qan:∀l:List Int,(∀b,b∈l->0<=b/\b<=255)->uP (Ju l)=l
 |[],_=>rfl
 |a::l,h=>by obtain⟨h0,h1⟩:=h a (zf ..);show(((UInt8.ofNat a.toNat).toNat:Nat):Int)::uP (Ju l)=_;rw[qan l fun b hb=>h b (zh _ hb),UInt8.toNat_ofNat',Nat.mod_eq_of_lt om];congr 1;omega
theorem qgx:∀x y:List UInt8,strLt (uP x) (uP y)=decide (x<y)
 |[],[]=>rfl
 |[],b::y=>by show true=_;exact(zu (List.nil_lt_cons b y)).symm
 |a::x,[]=>by show false=_;exact(zn (List.not_lt_nil _)).symm
 |a::x,b::y=>by
  show(decide ((a.toNat:Int)<(b.toNat:Int))||(decide ((a.toNat:Int)=(b.toNat:Int))&&strLt (uP x) (uP y)))=_;rw[qgx x y,Bool.eq_iff_iff,decide_eq_true_eq,List.cons_lt_cons_iff];simp only[Bool.or_eq_true,zd,decide_eq_true_eq];have e1:((a.toNat:Int)<(b.toNat:Int))↔a<b:=by rw[UInt8.lt_iff_toNat_lt];omega
  have e2:((a.toNat:Int)=(b.toNat:Int))↔a=b:=by rw[<-UInt8.toNat_inj];omega
  rw[e1,e2]
theorem qx0(imm:Nat->Prop)(w:World)(x:List UInt8)(hx:x.length<=9223372036854775807)(cs:List Value):aC imm w .str (uP x) cs↔cs=[encStr x]:=by
 constructor
 ·rintro⟨t,e3,h1,h2⟩;have h1:t.data.toList.map (fun b=>(b.toNat:Int))=uP x:=h1;have h3:t.data.toList=x:=qgw _ _ h1;subst e3;have:t=⟨x.toArray⟩:=by rw[<-h3]
  rw[this]
 ·intro e;subst e;refine⟨⟨x.toArray⟩,rfl,rfl,?_⟩;show x.toArray.size<=_;simpa[cj] using hx
theorem z4m:ae C 149 z4j:=by
 intro x y h;obtain⟨⟨nil,l⟩,u⟩:=x;have h:(bif l.all vn&&decide (l.length<4611686018427387904) then some ((⟨nil,l.mergeSort fun a b=>!strLt b a⟩:Sl (List Int)),()) else none)=some y:=h;cases hg:(l.all vn&&decide (l.length<4611686018427387904)) with
 |false=>rw[hg] at h;cases h
 |true=>
  rw[hg] at h;injection h with h;subst h;simp only[zd,decide_eq_true_eq] at hg;obtain⟨g1,g3⟩:=hg;have gg:∀s,s∈l->(∀b,b∈s->0<=b/\b<=255)/\s.length<=9223372036854775807:=fun s hs=>qum (zO.1 g1 s hs);have hl:l=(l.map Ju).map uP:=by rw[ja];exact((zY (g:=fun s=>s) fun s hs=>qan s (gg s hs).1).trans (List.map_id' l)).symm
  have key:=qur (C:=C) (f:=139) (t:=.str) encStr uP (fun x=>x.length<=9223372036854775807) (fun l=>l.mergeSort fun x y=>decide (x<=y)) (by intro h;cases h) rfl
   (fun imm w x hx cs=>qx0 imm w x hx cs) (fun l=>List.length_mergeSort l) (fun l x hx=>(List.mem_mergeSort).1 hx)
   ⟨_,Tryz.func139,by kernel_rfl⟩ (fun p cap w=>Any.slices_Sort_string_none Tryz.sortL p cap w)
   (fun lO off cap zs w hH hb hc=>calls_of_every_depth fun D=>AnyS.slices_Sort_string_alone Tryz.sortL D lO off cap zs w hH hb hc)
   nil (l.map Ju) (fun x hx=>by obtain⟨s,hs,rfl⟩:=zW.1 hx;show(s.map _).length<=_;rw[zC];exact(gg s hs).2) (by rw[zC];exact g3)
  have e:((l.map Ju).mergeSort fun x y=>decide (x<=y)).map uP=((l.map Ju).map uP).mergeSort fun a b=>!strLt b a:=
   List.map_mergeSort (fun a _ b _=>by
    rw[qgx];by_cases h:b<a
    ·rw[zu h,zn (fun e:a<=b=>e h)];rfl
    ·rw[zn h,zu (show a<=b from h)];rfl)
  rw[e,<-hl] at key;exact Call.rZ 149 _ _ key
theorem Yx{C:Cx}{k:Nat}{O:fI C.sigs}{D:Bv}(hD:OL C.P D)(b:Lf->fI C.sigs->ai (aL C.sigs k).ins.aW->Option (ai (aL C.sigs k).outs.aW)){f:ai (aL C.sigs k).ins.aW->Option (ai (aL C.sigs k).outs.aW)}(hO:Ft C O)(e:∀L R x,OM L C R D k x=b L R x)(o:∀x,b lf O x=f x):ae C k f:=fun x y h=>Call.mkD (C:=C) D hD O hO k x y (((e lf O x).trans (o x)).trans h)
def z5c:ai (aL C.sigs 185).ins.aW->Option (ai (aL C.sigs 185).outs.aW):=fun x=>bif decide (x.2.1=10)&&(decide (-9223372036854775808<=x.1)&&decide (x.1<=9223372036854775807)) then some (pF x.1,()) else none
def z34:ai (aL C.sigs 92).ins.aW->Option (ai (aL C.sigs 92).outs.aW):=fun x=>bif decide (x.1.length<=1000000) then some (KQ x.1) else none
set_option maxRecDepth 100000 in
theorem z5d(s:ByteArray)(w:World):Calls Tryz.prog 182 #[.string s,.string ⟨#[46]⟩] w fun e w'=>e=.returned (.int .i64 (Lib.indexByte s.data.toList 46))/\w'=w:=by
 have h:CallsIn Fence.wide 2 Tryz.prog 182 #[.string s,.string ⟨#[46]⟩] w fun e w'=>e=.returned (.int .i64 (Lib.indexByte s.data.toList 46))/\w'=w:=by
  refine callsIn_of_wp Tryz.func182 rfl trivial ?_ rfl;simp only[Tryz.ntmps182,List.size_toArray,zw,List.length_nil,Nat.reduceAdd,Nat.reduceSub,Array.replicate_succ,Array.replicate_zero,List.push_toArray,List.append_toArray,List.nil_append,List.cons_append]
  gi_wp2_with (refine⟨trivial,?_⟩;gi_at_call 208;refine(callsIn_wide.2 (Any.stringslite_Index_one Tryz.indexL s 46 w)).mono ?_;rintro e w' ⟨rfl,rfl⟩)
  go_ret
  exact⟨rfl,rfl⟩
 exact callsIn_wide.1 h
theorem z5e:ae C 185 z5c:=by
 intro x y h;obtain⟨n,k,u⟩:=x;have h:(bif decide (k=10)&&(decide (-9223372036854775808<=n)&&decide (n<=9223372036854775807)) then some ((pF n,()):List Int×Unit) else none)=some y:=h;cases hb:(decide (k=10)&&(decide (-9223372036854775808<=n)&&decide (n<=9223372036854775807))) with
 |false=>rw[hb] at h;cases h
 |true=>
  rw[hb] at h;injection h with h;subst h;simp only[zd,decide_eq_true_eq] at hb;obtain⟨rfl,h2,h3⟩:=hb;have ht:Yw=Lib.pow10Tab:=dc
  exact Call.rZ 185 _ _ (z1x (C:=C) (f:=174) ⟨_,Tryz.func174,by kernel_rfl⟩ (g:=0) (m:=20) (zs:=Yw) (by kernel_rfl) rfl
   (fun n h0 h1 w hc=>Any.internal_strconv_FormatInt_10 Tryz.fmtL n h0 h1 w (by rw[<-ht];exact hc)) n h2 h3)
theorem z35:ae C 92 z34:=by
 intro x y h;obtain⟨l,u⟩:=x;have h:(bif decide (l.length<=1000000) then some (KQ l) else none)=some y:=h;cases hb:decide (l.length<=1000000) with
 |false=>rw[hb] at h;cases h
 |true=>rw[hb] at h;injection h with h;subst h;exact Call.rZ 92 _ _ (quz (C:=C) (f:=88) ⟨_,Tryz.func88,by kernel_rfl⟩ (fun s w hs=>callsIn_wide.1 (qym z5d s hs w)) l (zP hb))
theorem aU{C:Cx}{k:Nat}{O:fI C.sigs}(b:Lf->fI C.sigs->(ai (aL C.sigs k).ins.aW->Option (ai (aL C.sigs k).outs.aW))){f:(ai (aL C.sigs k).ins.aW->Option (ai (aL C.sigs k).outs.aW))}(hO:Ft C O)(e:∀L R x,Iu L C R k x=b L R x:=by intro _ _ _;kernel_rfl)(o:∀x,b lf O x=f x:=by intro _;kernel_rfl):ae C k f:=mkC b hO e o
theorem rm:ae C 91 fB:=aU (fun L R x=>BK L  x) aR
theorem An:ae C 30 kF:=aU (fun L R x=>xj L (R 91) x) (aD rm aR)
theorem Yy:ae C 142 sf:=aU (fun L R x=>BL L (R 30) x) (aD An aR)
theorem H0:ae C 156 oC:=aU (fun L R x=>xk L  x) aR
theorem ME:ae C 181 pJ:=aU (fun L R x=>xl L  x) aR
theorem MF:ae C 182 pK:=aU (fun L R x=>xm L  x) aR
theorem Yz:ae C 191 si:=aU (fun L R x=>xn L  x) aR
theorem YA:ae C 179 pL:=aU (fun L R x=>xo L (R 181) (R 182) (R 191) x) (aD ME (aD MF (aD Yz aR)))
theorem MG:ae C 177 sj:=aU (fun L R x=>BM L (R 179) x) (aD YA aR)
theorem YB:ae C 200 xq:=aU (fun L R x=>BN L  x) aR
theorem YC:ae C 192 vA:=aU (fun L R x=>xr L (R 200) x) (aD YB aR)
theorem YD:ae C 201 so:=aU (fun L R x=>BO L  x) aR
theorem YE:ae C 193 sq:=aU (fun L R x=>xt L (R 201) x) (aD YD aR)
theorem H2:ae C 180 oD:=aU (fun L R x=>xu L (R 192) (R 193) x) (aD YC (aD YE aR))
theorem YF:ae C 175 sr:=aU (fun L R x=>xv L (R 177) (R 180) (R 181) x) (aD MG (aD H2 (aD ME aR)))
theorem YG:ae C 176 su:=aU (fun L R x=>xw L (R 177) (R 180) (R 182) x) (aD MG (aD H2 (aD MF aR)))
theorem YH:ae C 194 xx:=z5b
theorem YI:ae C 183 pM:=aU (fun L R x=>xy L (R 194) x) (aD YH aR)
theorem YJ:ae C 178 vB:=aU (fun L R x=>BP L (R 183) x) (aD YI aR)
theorem DH:ae C 141 ly:=aU (fun L R x=>xA L (R 156) (R 175) (R 176) (R 178) (R 180) x) (aD H0 (aD YF (aD YG (aD YJ (aD H2 aR)))))
theorem H3:ae C 93 nn:=aU (fun L R x=>xB L (R 141) x) (aD DH aR)
theorem MH:ae C 152 oE:=aU (fun L R x=>xC L  x) aR
theorem YK:ae C 195 BR:=aU (fun L R x=>BQ L  x) aR
theorem YL:ae C 184 fb:=aU (fun L R x=>xD L (R 195) x) (aD YK aR)
theorem YM:ae C 196 sv:=aU (fun L R x=>xE L (R 141) x) (aD DH aR)
theorem YN:ae C 197 sw:=aU (fun L R x=>xF L  x) aR
theorem YO:ae C 198 vC:=aU (fun L R x=>BS L  x) aR
theorem YP:ae C 202 sx:=aU (fun L R x=>xG L  x) aR
theorem YQ:ae C 145 sy:=aU (fun L R x=>xH L (R 93) (R 152) (R 156) (R 184) (R 196) (R 197) (R 198) (R 202) x) (aD H3 (aD MH (aD H0 (aD YL (aD YM (aD YN (aD YO (aD YP aR))))))))
theorem YR:ae C 144 pP:=aU (fun L R x=>xI L (R 145) x) (aD YQ aR)
theorem YS:ae C 143 xJ:=vo (C:=C) (k:=143) (fun L R x=>BT L (R 143) (R 144) x) (F:=lQ) (O:=fun g=>(bV 143 g (bV 144 pP iI))) (fun g hg=>(aD hg (aD YR aR))) (fun _ _ _=>by kernel_rfl) (fun _ _=>by kernel_rfl)
theorem YT:ae C 147 sA:=aU (fun L R x=>xK L (R 91) x) (aD rm aR)
theorem MI:ae C 148 sB:=aU (fun L R x=>BU L  x) aR
theorem YU:ae C 149 sC:=z4m
theorem YV:ae C 150 sD:=aU (fun L R x=>BV L  x) aR
theorem YW:ae C 151 sE:=aU (fun L R x=>xL L (R 148) x) (aD MI aR)
theorem YX:ae C 146 pQ:=aU (fun L R x=>xM L (R 147) (R 148) (R 149) (R 150) (R 151) x) (aD YT (aD MI (aD YU (aD YV (aD YW aR)))))
theorem YY:ae C 95 sF:=aU (fun L R x=>BW L (R 30) (R 91) (R 142) (R 143) (R 146) (R 152) x) (aD An (aD rm (aD Yy (aD YS (aD YX (aD MH aR))))))
theorem H4:ae C 34 lR:=aU (fun L R x=>xN L (R 95) x) (aD YY aR)
theorem YZ:ae C 107 sG:=aU (fun L R x=>xO L  x) aR
theorem Za:ae C 66 sH:=aU (fun L R x=>BX L (R 107) x) (aD YZ aR)
theorem MJ:ae C 114 nq:=aU (fun L R x=>xP L (R 141) x) (aD DH aR)
theorem Zb:ae C 121 sI:=aU (fun L R x=>xQ L (R 141) x) (aD DH aR)
theorem Zc:ae C 120 sJ:=aU (fun L R x=>xR L (R 121) x) (aD Zb aR)
theorem Zd:ae C 153 xS:=aU (fun L R x=>BY L (R 120) x) (aD Zc aR)
theorem Ze:ae C 96 sK:=aU (fun L R x=>xT L (R 153) x) (aD Zd aR)
theorem DI:ae C 45 lS:=aU (fun L R x=>xU L (R 30) (R 96) x) (aD An (aD Ze aR))
theorem Zf:ae C 159 sL:=aU (fun L R x=>xV L  x) aR
theorem Zg:ae C 186 xW:=aU (fun L R x=>BZ L (R 159) x) (aD Zf aR)
theorem Zh:ae C 160 vD:=aU (fun L R x=>xX L (R 186) x) (aD Zg aR)
theorem Zi:ae C 199 xY:=aU (fun L R x=>B5 L  x) aR
theorem Zj:ae C 187 pR:=aU (fun L R x=>xZ L (R 199) x) (aD Zi aR)
theorem Zk:ae C 161 vE:=aU (fun L R x=>B6 L (R 45) (R 187) x) (aD DI (aD Zj aR))
theorem Zl:ae C 158 vF:=aU (fun L R x=>ya L (R 45) (R 160) (R 161) x) (aD DI (aD Zh (aD Zk aR)))
theorem Zm:ae C 162 pS:=aU (fun L R x=>yc L (R 158) x) (aD Zl aR)
theorem Zn:ae C 49 yd:=aU (fun L R x=>B7 L (R 162) x) (aD Zm aR)
theorem Zo:ae C 118 pT:=aU (fun L R x=>ye L (R 49) x) (aD Zn aR)
theorem Zp:ae C 106 vG:=aU (fun L R x=>B8 L (R 114) (R 118) x) (aD MJ (aD Zo aR))
theorem Zq:ae C 105 sM:=aU (fun L R x=>yf L (R 106) x) (aD Zp aR)
theorem Zr:ae C 65 yg:=aU (fun L R x=>B9 L (R 105) x) (aD Zq aR)
theorem Zs:ae C 103 pU:=aU (fun L R x=>yh L (R 65) x) (aD Zr aR)
theorem Zt:ae C 163 sN:=aU (fun L R x=>yi L  x) aR
theorem Zu:ae C 112 vH:=aU (fun L R x=>Ca L (R 163) x) (aD Zt aR)
theorem Zv:ae C 109 vI:=aU (fun L R x=>yj L (R 112) x) (aD Zu aR)
theorem Zw:ae C 108 pV:=aU (fun L R x=>yk L (R 109) x) (aD Zv aR)
theorem Zx:ae C 110 sO:=aU (fun L R x=>Cb L (R 108) x) (aD Zw aR)
theorem Zy:ae C 115 sP:=aU (fun L R x=>yl L  x) aR
theorem Zz:ae C 67 ym:=aU (fun L R x=>Cc L (R 115) x) (aD Zy aR)
theorem ZA:ae C 104 sQ:=aU (fun L R x=>yn L (R 67) x) (aD Zz aR)
theorem ZB:ae C 113 pW:=aU (fun L R x=>yo L (R 104) (R 114) x) (aD ZA (aD MJ aR))
theorem ZC:ae C 155 yp:=aU (fun L R x=>Cd L (R 113) x) (aD ZB aR)
theorem ZD:ae C 98 vJ:=aU (fun L R x=>yq L (R 155) x) (aD ZC aR)
theorem ZE:ae C 119 pX:=aU (fun L R x=>yr L (R 98) x) (aD ZD aR)
theorem ZF:ae C 48 yu:=aU (fun L R x=>Ce L (R 119) x) (aD ZE aR)
theorem ZG:ae C 117 vK:=aU (fun L R x=>yv L (R 48) x) (aD ZF aR)
theorem ZH:ae C 116 pY:=aU (fun L R x=>yw L (R 117) x) (aD ZG aR)
theorem ZI:ae C 111 sR:=aU (fun L R x=>Cf L (R 116) x) (aD ZH aR)
theorem MK:ae C 44 oF:=aU (fun L R x=>Cg L (R 66) (R 103) (R 110) (R 111) x) (aD Za (aD Zs (aD Zx (aD ZI aR))))
theorem Ao:ae C 47 kG:=aU (fun L R x=>Ch L (R 91) x) (aD rm aR)
theorem ML:ae C 101 lU:=aU (fun L R x=>Ci L (R 47) (R 91) x) (aD Ao (aD rm aR))
theorem qni(g:ai (aL C.sigs 53).ins.aW->Option (ai (aL C.sigs 53).outs.aW))(hg:ae C 53 g):ae C 125 (Eh g):=aU (fun L R x=>KY L (R 53) x) (O:=(bV 53 g iI)) (aD hg aR)
theorem ZJ:ae C 188 sS:=aU (fun L R x=>yx L  x) aR
theorem ZK:ae C 68 vL:=aU (fun L R x=>Cj L (R 188) x) (aD ZJ aR)
theorem ZL:ae C 164 oG:=aU (fun L R x=>yz L (R 68) x) (aD ZK aR)
theorem ZM:ae C 166 sT:=aU (fun L R x=>yA L  x) aR
theorem ZN:ae C 165 sU:=aU (fun L R x=>Ck L (R 166) x) (aD ZM aR)
theorem ZO:ae C 190 sV:=aU (fun L R x=>yB L  x) aR
theorem ZP:ae C 189 sW:=aU (fun L R x=>Cl L (R 190) x) (aD ZO aR)
theorem ZQ:ae C 167 sX:=aU (fun L R x=>Cm L (R 189) x) (aD ZP aR)
theorem MM:ae C 128 lV:=aU (fun L R x=>Cn L (R 47) (R 91) (R 164) (R 165) (R 167) x) (aD Ao (aD rm (aD ZL (aD ZN (aD ZQ aR)))))
theorem qs9(g:ai (aL C.sigs 53).ins.aW->Option (ai (aL C.sigs 53).outs.aW))(hg:ae C 53 g):ae C 122 (Jf g):=aU (fun L R x=>Pc L (R 101) (R 125) (R 128) x) (O:=(bV 101 lU (bV 125 (Eh g) (bV 128 lV iI)))) (aD ML (aD (qni g hg) (aD MM aR)))
theorem ZR:ae C 53 Co:=vo (C:=C) (k:=53) (fun L R x=>yC L (R 122) x) (F:=oH) (O:=fun g=>(bV 122 (Jf g) iI)) (fun g hg=>(aD (qs9 g hg) aR)) (fun _ _ _=>by kernel_rfl) (fun _ _=>by kernel_rfl)
theorem ZS:ae C 23 iU:=aU (fun L R x=>yD L (R 34) (R 44) (R 45) (R 53) x) (aD H4 (aD MK (aD DI (aD ZR aR))))
theorem ZT:ae C 185 vM:=z5e
theorem ZU:ae C 157 vN:=aU (fun L R x=>yE L (R 185) x) (aD ZT aR)
theorem ZV:ae C 102 sY:=aU (fun L R x=>yF L (R 157) x) (aD ZU aR)
theorem MN:ae C 41 lW:=aU (fun L R x=>yG L (R 102) x) (aD ZV aR)
theorem DJ:ae C 56 kH:=aU (fun L R x=>yH L  x) aR
theorem ZW:ae C 55 sZ:=aU (fun L R x=>yI L (R 56) x) (aD DJ aR)
theorem ZX:ae C 51 pZ:=aU (fun L R x=>Cp L (R 55) x) (aD ZW aR)
theorem ZY:ae C 54 lz:=aU (fun L R x=>yJ L  x) aR
theorem MO:ae C 57 lX:=aU (fun L R x=>yK L  x) aR
theorem ZZ:ae C 126 vO:=aU (fun L R x=>Cq L  x) aR
theorem Z0:ae C 58 oI:=aU (fun L R x=>yL L (R 126) x) (aD ZZ aR)
theorem Z1:ae C 127 s5:=z4l
theorem MP:ae C 61 nr:=aU (fun L R x=>Cr L (R 127) x) (aD Z1 aR)
theorem MQ:ae C 40 p0:=aU (fun L R x=>Cs L (R 47) (R 91) x) (aD Ao (aD rm aR))
theorem Z2:ae C 63 s6:=aU (fun L R x=>yM L (R 40) (R 56) (R 57) x) (aD MQ (aD DJ (aD MO aR)))
theorem Z3:ae C 59 p4:=aU (fun L R x=>Ct L (R 61) (R 63) x) (aD MP (aD Z2 aR))
theorem Z4:ae C 71 s7:=aU (fun L R x=>yN L (R 56) x) (aD DJ aR)
theorem Z5:ae C 60 p5:=aU (fun L R x=>Cu L (R 61) (R 71) x) (aD MP (aD Z4 aR))
theorem Z6:ae C 62 lY:=aU (fun L R x=>yO L (R 44) (R 45) (R 128) x) (aD MK (aD DI (aD MM aR)))
theorem Z7:ae C 129 s8:=z33
theorem Z8:ae C 64 oJ:=aU (fun L R x=>Cv L (R 129) x) (aD Z7 aR)
theorem Z9:ae C 70 s9:=aU (fun L R x=>yP L  x) aR
theorem aaa:ae C 69 p6:=aU (fun L R x=>Cw L (R 70) x) (aD Z9 aR)
theorem aab:ae C 24 vP:=vo (C:=C) (k:=24) (fun L R x=>Cy L (R 24) (R 41) (R 51) (R 54) (R 56) (R 57) (R 58) (R 59) (R 60) (R 62) (R 64) (R 69) x) (F:=oK) (O:=fun g=>(bV 24 g (bV 41 lW (bV 51 pZ (bV 54 lz (bV 56 kH (bV 57 lX (bV 58 oI (bV 59 p4 (bV 60 p5 (bV 62 lY (bV 64 oJ (bV 69 p6 iI))))))))))))) (fun g hg=>(aD hg (aD MN (aD ZX (aD ZY (aD DJ (aD MO (aD Z0 (aD Z3 (aD Z5 (aD Z6 (aD Z8 (aD aaa aR))))))))))))) (fun _ _ _=>by kernel_rfl) (fun _ _=>by kernel_rfl)
theorem MR:ae C 6 lZ:=Yx qs8 (fun L R x=>Cz L (R 23) (R 24) x) (aD ZS (aD aab aR)) (fun _ _ _=>by kernel_rfl) (fun _=>by kernel_rfl)
theorem MS:ae C 92 vQ:=z35
theorem aac:ae C 31 Fx:=vo (C:=C) (k:=31) (fun L R x=>CA L (R 31) (R 92) (R 93) x) (F:=Fw) (O:=fun g=>(bV 31 g (bV 92 vQ (bV 93 nn iI)))) (fun g hg=>(aD hg (aD MS (aD H3 aR)))) (fun _ _ _=>by kernel_rfl) (fun _ _=>by kernel_rfl)
theorem MT:ae C 12 yQ:=aU (fun L R x=>CB L (R 30) (R 31) x) (aD An (aD aac aR))
theorem aad:ae C 39 Fz:=vo (C:=C) (k:=39) (fun L R x=>CC L (R 39) (R 40) (R 41) x) (F:=Fy) (O:=fun g=>(bV 39 g (bV 40 p0 (bV 41 lW iI)))) (fun g hg=>(aD hg (aD MQ (aD MN aR)))) (fun _ _ _=>by kernel_rfl) (fun _ _=>by kernel_rfl)
theorem aae:ae C 16 CE:=aU (fun L R x=>CD L (R 34) (R 39) x) (aD H4 (aD aad aR))
theorem MU:ae C 37 yR:=aU (fun L R x=>CF L  x) aR
theorem MV:ae C 42 yS:=aU (fun L R x=>CG L (R 47) (R 91) (R 92) x) (aD Ao (aD rm (aD MS aR)))
theorem aaf:ae C 100 CI:=aU (fun L R x=>CH L (R 93) (R 156) x) (aD H3 (aD H0 aR))
theorem aag:ae C 99 CK:=aU (fun L R x=>CJ L (R 100) x) (aD aaf aR)
theorem aah:ae C 154 CM:=aU (fun L R x=>CL L (R 99) x) (aD aag aR)
theorem aai:ae C 97 CO:=aU (fun L R x=>CN L (R 154) x) (aD aah aR)
theorem aaj:ae C 35 CQ:=aU (fun L R x=>CP L (R 30) (R 97) x) (aD An (aD aai aR))
theorem aak:ae C 36 yT:=aU (fun L R x=>CR L (R 37) x) (aD MU aR)
theorem aal:ae C 38 FB:=vo (C:=C) (k:=38) (fun L R x=>CS L (R 36) (R 38) (R 101) x) (F:=FA) (O:=fun g=>(bV 36 yT (bV 38 g (bV 101 lU iI)))) (fun g hg=>(aD aak (aD hg (aD ML aR)))) (fun _ _ _=>by kernel_rfl) (fun _ _=>by kernel_rfl)
theorem aam:ae C 15 CV:=aU (fun L R x=>CU L (R 34) (R 35) (R 38) x) (aD H4 (aD aaj (aD aal aR)))
theorem MW:ae C 43 yU:=aU (fun L R x=>CW L (R 15) x) (aD aam aR)
theorem aan:ae C 18 CY:=aU (fun L R x=>CX L (R 37) (R 42) (R 43) x) (aD MU (aD MV (aD MW aR)))
theorem aao:ae C 20 C0:=aU (fun L R x=>CZ L (R 12) (R 42) (R 43) (R 47) x) (aD MT (aD MV (aD MW (aD Ao aR))))
theorem qip:ae C 4 FC:=aU (fun L R x=>Pe L (R 6) (R 12) (R 16) (R 18) (R 20) x) (aD MR (aD MT (aD aae (aD aan (aD aao aR)))))
theorem aap:ae C 14 C1:=aU (fun L R x=>KZ L  x) aR
theorem aaq:ae C 22 C2:=aU (fun L R x=>K0 L  x) aR
theorem qnj:ae C 5 Jg:=aU (fun L R x=>SF L (R 14) (R 22) x) (aD aap (aD aaq aR))
theorem qew:ae C 7 Ei:=aU (fun L R x=>SG L  x) aR
theorem qlh:ae C 8 Jh:=aU (fun L R x=>qc8 L (R 7) x) (aD qew aR)
theorem H5:ae C 94 oL:=vo (C:=C) (k:=94) (fun L R x=>K1 L (R 94) x) (F:=p7) (O:=fun g=>(bV 94 g iI)) (fun g hg=>(aD hg aR)) (fun _ _ _=>by kernel_rfl) (fun _ _=>by kernel_rfl)
theorem MX:ae C 76 td:=aU (fun L R x=>FD L (R 94) x) (aD H5 aR)
theorem MY:ae C 131 oM:=aU (fun L R x=>K2 L  x) aR
theorem aar:ae C 132 vR:=aU (fun L R x=>K3 L (R 131) x) (aD MY aR)
theorem aas:ae C 169 vS:=aU (fun L R x=>FE L  x) aR
theorem aat:ae C 133 yV:=aU (fun L R x=>K4 L (R 169) x) (aD aas aR)
theorem aau:ae C 170 C3:=aU (fun L R x=>FF L  x) aR
theorem MZ:ae C 134 vT:=aU (fun L R x=>FG L (R 170) x) (aD aau aR)
theorem DK:ae C 77 l4:=aU (fun L R x=>FH L (R 131) (R 132) (R 133) (R 134) x) (aD MY (aD aar (aD aat (aD MZ aR))))
theorem M0:ae C 26 vU:=aU (fun L R x=>K5 L (R 76) (R 77) x) (aD MX (aD DK aR))
theorem M3:ae C 74 oN:=aU (fun L R x=>FI L (R 77) x) (aD DK aR)
theorem aav:ae C 168 yW:=aU (fun L R x=>K6 L  x) aR
theorem aaw:ae C 130 yX:=aU (fun L R x=>K7 L (R 168) x) (aD aav aR)
theorem aax:ae C 72 yY:=aU (fun L R x=>K8 L (R 26) (R 74) (R 130) x) (aD M0 (aD M3 (aD aaw aR)))
theorem aay:ae C 73 yZ:=aU (fun L R x=>K9 L  x) aR
theorem aaz:ae C 75 y0:=aU (fun L R x=>La L  x) aR
theorem aaA:ae C 25 y5:=aU (fun L R x=>Lb L (R 72) (R 73) (R 74) (R 75) x) (aD aax (aD aay (aD M3 (aD aaz aR))))
theorem tA:ae C 33 eI:=aU (fun L R x=>Lc L (R 94) x) (aD H5 aR)
theorem aaB:ae C 78 FJ:=vo (C:=C) (k:=78) (fun L R x=>Ld L (R 33) (R 78) x) (F:=nu) (O:=fun g=>(bV 33 eI (bV 78 g iI))) (fun g hg=>(aD tA (aD hg aR))) (fun _ _ _=>by kernel_rfl) (fun _ _=>by kernel_rfl)
theorem M4:ae C 136 p8:=aU (fun L R x=>FK L  x) aR
theorem aaC:ae C 171 y6:=aU (fun L R x=>FL L  x) aR
theorem aaD:ae C 172 vV:=aU (fun L R x=>FM L  x) aR
theorem aaE:ae C 173 y7:=aU (fun L R x=>FN L (R 77) x) (aD DK aR)
theorem aaF:ae C 174 y8:=aU (fun L R x=>FO L (R 77) x) (aD DK aR)
theorem aaG:ae C 135 tf:=aU (fun L R x=>FP L (R 134) (R 136) (R 171) (R 172) (R 173) (R 174) x) (aD MZ (aD M4 (aD aaC (aD aaD (aD aaE (aD aaF aR))))))
theorem aaH:ae C 79 FQ:=vo (C:=C) (k:=79) (fun L R x=>Le L (R 33) (R 79) (R 135) x) (F:=l7) (O:=fun g=>(bV 33 eI (bV 79 g (bV 135 tf iI)))) (fun g hg=>(aD tA (aD hg (aD aaG aR)))) (fun _ _ _=>by kernel_rfl) (fun _ _=>by kernel_rfl)
theorem aaI:ae C 137 y9:=vo (C:=C) (k:=137) (fun L R x=>Lg L (R 33) (R 137) x) (F:=l8) (O:=fun g=>(bV 33 eI (bV 137 g iI))) (fun g hg=>(aD tA (aD hg aR))) (fun _ _ _=>by kernel_rfl) (fun _ _=>by kernel_rfl)
theorem aaJ:ae C 80 FR:=vo (C:=C) (k:=80) (fun L R x=>Lh L (R 33) (R 80) (R 136) (R 137) x) (F:=l9) (O:=fun g=>(bV 33 eI (bV 80 g (bV 136 p8 (bV 137 y9 iI))))) (fun g hg=>(aD tA (aD hg (aD M4 (aD aaI aR))))) (fun _ _ _=>by kernel_rfl) (fun _ _=>by kernel_rfl)
theorem aaK:ae C 27 tg:=aU (fun L R x=>FT L (R 76) (R 78) (R 79) (R 80) x) (aD MX (aD aaB (aD aaH (aD aaJ aR))))
theorem M5:ae C 138 p9:=aU (fun L R x=>FU L (R 94) x) (aD H5 aR)
theorem aaL:ae C 139 th:=aU (fun L R x=>Li L  x) aR
theorem M6:ae C 81 kI:=aU (fun L R x=>Lj L (R 33) (R 138) (R 139) x) (aD tA (aD M5 (aD aaL aR)))
theorem aaM:ae C 28 FV:=vo (C:=C) (k:=28) (fun L R x=>Lk L (R 28) (R 33) (R 81) x) (F:=qc) (O:=fun g=>(bV 28 g (bV 33 eI (bV 81 kI iI)))) (fun g hg=>(aD hg (aD tA (aD M6 aR)))) (fun _ _ _=>by kernel_rfl) (fun _ _=>by kernel_rfl)
theorem aaN:ae C 9 nv:=aU (fun L R x=>FW L (R 25) (R 26) (R 27) (R 28) x) (aD aaA (aD M0 (aD aaK (aD aaM aR))))
theorem aaO:ae C 82 ti:=aU (fun L R x=>Ll L  x) aR
theorem aaP:ae C 83 oO:=aU (fun L R x=>FX L  x) aR
theorem aaQ:ae C 84 vW:=aU (fun L R x=>Lm L  x) aR
theorem aaR:ae C 85 tj:=aU (fun L R x=>Ln L  x) aR
theorem aaS:ae C 140 FY:=aU (fun L R x=>Lo L  x) aR
theorem aaT:ae C 86 tl:=aU (fun L R x=>FZ L (R 140) x) (aD aaS aR)
theorem aaU:ae C 87 tm:=aU (fun L R x=>Lp L (R 33) (R 138) x) (aD tA (aD M5 aR))
theorem aaV:ae C 88 qd:=aU (fun L R x=>F0 L  x) aR
theorem aaW:ae C 89 vX:=aU (fun L R x=>Lq L  x) aR
theorem aaX:ae C 90 tn:=aU (fun L R x=>Lr L  x) aR
theorem aaY:ae C 29 C4:=vo (C:=C) (k:=29) (fun L R x=>Ls L (R 29) (R 81) (R 82) (R 83) (R 84) (R 85) (R 86) (R 87) (R 88) (R 89) (R 90) x) (F:=oP) (O:=fun g=>(bV 29 g (bV 81 kI (bV 82 ti (bV 83 oO (bV 84 vW (bV 85 tj (bV 86 tl (bV 87 tm (bV 88 qd (bV 89 vX (bV 90 tn iI)))))))))))) (fun g hg=>(aD hg (aD M6 (aD aaO (aD aaP (aD aaQ (aD aaR (aD aaT (aD aaU (aD aaV (aD aaW (aD aaX aR)))))))))))) (fun _ _ _=>by kernel_rfl) (fun _ _=>by kernel_rfl)
theorem aaZ:ae C 10 vY:=aU (fun L R x=>Lt L (R 29) x) (aD aaY aR)
theorem aa0:ae C 11 z6:=aU (fun L R x=>Lu L  x) aR
theorem iA:ae C 0 cA:=aU (fun L R x=>q4g L (R 4) (R 5) (R 6) (R 7) (R 8) (R 9) (R 10) (R 11) x) (aD qip (aD qnj (aD MR (aD qew (aD qlh (aD aaN (aD aaZ (aD aa0 aR))))))))
theorem z4n:ID C C.dP=true:=by kernel_rfl
theorem z5f:E8 C C.eqs=true:=by kernel_rfl
theorem qx1:KL C C.sigs=true:=by kernel_rfl
theorem OO:C.P.follows .mixedOrders=true:=by kernel_rfl
theorem calls{i:Nat}{x:ai (aL C.sigs i).ins.aW}{y:ai (aL C.sigs i).outs.aW}(h:Ev.Call C i x y):nj C i x y:=qyf z4n z5f qx1 OO h
theorem z4o:OY C Rows.chooseBuildsRow.laid:=by
 refine⟨by kernel_rfl,fun g t x h=>?_⟩
 match g with
 |0=>cases h;exact⟨_,_,220,List.Mem.tail _ (List.Mem.tail _ (List.Mem.head _)),by kernel_rfl,by kernel_rfl,by kernel_rfl,rfl,by kernel_rfl⟩
 |4=>cases h;exact⟨_,_,222,List.Mem.tail _ (List.Mem.tail _ (List.Mem.tail _ (List.Mem.tail _ (List.Mem.tail _ (List.Mem.head _))))),by kernel_rfl,by kernel_rfl,by kernel_rfl,rfl,by kernel_rfl⟩
 |1=>cases h
 |2=>cases h
 |3=>cases h
 |n+5=>cases h
theorem H6:OZ C Rows.chooseBuildsRow.laid:=qui z4n (by kernel_rfl) (by kernel_rfl) (by kernel_rfl) z4o
end Go.Proofs.YtfgngipmbogcjaaGreatDoor.Am