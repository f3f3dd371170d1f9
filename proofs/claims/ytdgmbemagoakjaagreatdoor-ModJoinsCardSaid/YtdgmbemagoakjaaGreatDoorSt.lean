/- The functions of this seat as data: each is what the model's code gives, by the kernel's reckoning over the verified evaluator. No statement of its own about the program. -/
import Derived.Test.YtdgmbemagoakjaaGreatDoorFnA
import Derived.Test.YtdgmbemagoakjaaGreatDoorEvJ
import Derived.Test.YtdgmbemagoakjaaGreatDoorProg
import Derived.Test.YtdgmbemagoakjaaGreatDoorSlp
import Derived.Sort.EveryDepth
import Derived.Test.YtdgmbemagoakjaaGreatDoorRows
import Derived.KernelRfl
namespace Go.Proofs.YtdgmbemagoakjaaGreatDoor.BL
open Go Go.Proofs Go.Shelf Go.RowKit Go.Sort Ev Ev.Fn
abbrev t1:Ty:=.int .i64
abbrev t5:Ty:=.st (.pair t1 (.pair .str (.pair t1 t1)))
abbrev t0:Ty:=.sl t5
abbrev t2:Ty:=.st (.pair .str (.pair t1 t1))
abbrev tg:Ty:=.st (.pair .str (.sl t0))
abbrev t6:Ty:=.sl tg
abbrev t3:Ty:=.st (.pair .str (.pair t1 t6))
abbrev tc:Ty:=.sl .str
abbrev t8:Ty:=.st (.pair .str (.pair .bool t0))
abbrev t4:Ty:=.st (.pair .str (.pair tc (.pair (.sl t2) (.pair (.sl t3) (.sl t8)))))
abbrev t7:Ty:=.int .u8
abbrev te:Ty:=.st (.pair .str (.int .u32))
abbrev t9:Ty:=.st (.pair .str (.pair (.sl te) (.pair (.sl t3) (.pair (.sl t2) (.sl (.st (.pair .str t0)))))))
abbrev ta:Ty:=.st (.pair (.int .u16) (.pair (.int .u16) (.int .u16)))
abbrev tb:Ty:=.st (.pair (.int .u32) (.pair (.int .u32) (.int .u32)))
abbrev td:Ty:=.st (.pair t0 (.sl t2))
abbrev tf:Ty:=.st (.pair t0 (.pair t1 (.pair (.sl t2) (.pair t1 (.pair t1 (.pair t1 t1))))))
abbrev th:Ty:=.int .u64
def sigs:List jY:=[
 ⟨3,⟨[.d t4,.d (.sl t2)],[]⟩,⟨[.d .bool],[]⟩,[]⟩,
 ⟨4,⟨[.d .str,.d .str,.d (.sl t2)],[]⟩,⟨[.d .bool],[]⟩,[]⟩,
 ⟨5,⟨[.d .str,.d .str,.d .str,.d (.sl t2)],[]⟩,⟨[.d .bool],[]⟩,[]⟩,
 ⟨6,⟨[],[]⟩,⟨[.d .bool],[]⟩,[]⟩,
 ⟨7,⟨[.d t4],[]⟩,⟨[.d .bool],[]⟩,[]⟩,
 ⟨8,⟨[.d (.sl t2)],[]⟩,⟨[.d .bool],[]⟩,[]⟩,
 ⟨9,⟨[.d t4,.d (.sl t2)],[]⟩,⟨[.d .str,.d t1],[]⟩,[]⟩,
 ⟨10,⟨[.d (.sl t2)],[]⟩,⟨[.d (.sl t2)],[]⟩,[]⟩,
 ⟨11,⟨[.d t4],[]⟩,⟨[.d t1],[]⟩,[]⟩,
 ⟨12,⟨[.d t4],[]⟩,⟨[.d t1],[]⟩,[]⟩,
 ⟨13,⟨[.d (.sl t2)],[]⟩,⟨[.d t1],[]⟩,[]⟩,
 ⟨14,⟨[.d t4,.d (.sl t2)],[]⟩,⟨[.d .str,.d t1],[]⟩,[]⟩,
 ⟨15,⟨[.d .str,.d .str,.d (.sl t2)],[]⟩,⟨[.d t4,.d t1,.d t1],[]⟩,[]⟩,
 ⟨16,⟨[.d t4,.d t4],[]⟩,⟨[.d .bool],[]⟩,[]⟩,
 ⟨17,⟨[.d .str],[]⟩,⟨[.d tc],[]⟩,[]⟩,
 ⟨18,⟨[.d t9],[]⟩,⟨[.d .bool],[]⟩,[]⟩,
 ⟨19,⟨[.d (.sl t2)],[]⟩,⟨[.d t1],[]⟩,[]⟩,
 ⟨20,⟨[.ptr 0 0,.d .str],[.box [.cG 0,.aX 1],.vec t7]⟩,⟨[.d t1,.ga],[.box [.cG 0,.aX 2],.gone,.vec t7]⟩,[0]⟩,
 ⟨20,⟨[.ptr 0 0,.d .str],[.box [.cG 0,.aX 1,.d .cJ,.d t1],.vec t7]⟩,⟨[.d t1,.ga],[.box [.cG 0,.aX 2,.d .cJ,.d t1],.gone,.vec t7]⟩,[0]⟩,
 ⟨21,⟨[.d (.sl t2)],[]⟩,⟨[.aX 0],[.vec t2]⟩,[]⟩,
 ⟨22,⟨[.d (.sl t2),.d t2],[]⟩,⟨[.d (.sl t2),.d t1],[]⟩,[]⟩,
 ⟨23,⟨[.d t3],[]⟩,⟨[.d .str],[]⟩,[]⟩,
 ⟨24,⟨[.d t0,.d (.sl t2)],[]⟩,⟨[.d .str,.d t1],[]⟩,[]⟩,
 ⟨25,⟨[.d .str],[]⟩,⟨[.d .str],[]⟩,[]⟩,
 ⟨26,⟨[.ptr 0 0],[.box [.cG 0,.aX 1],.vec t7]⟩,⟨[.d t1],[.box [.cG 0,.aX 1],.vec t7]⟩,[0,1]⟩,
 ⟨27,⟨[.ptr 0 0],[.box [.cG 0,.aX 1],.vec t7]⟩,⟨[.d .str],[.gone,.gone]⟩,[]⟩,
 ⟨27,⟨[.ptr 0 0],[.box [.cG 0,.aX 1,.d .cJ,.d t1],.vec t7]⟩,⟨[.d .str],[.gone,.gone]⟩,[]⟩,
 ⟨28,⟨[.d .str],[]⟩,⟨[.d .bool],[]⟩,[]⟩,
 ⟨29,⟨[.d (.sl t3)],[]⟩,⟨[.d .bool],[]⟩,[]⟩,
 ⟨30,⟨[.d t8],[]⟩,⟨[.d .bool],[]⟩,[]⟩,
 ⟨31,⟨[.d tc,.d .str],[]⟩,⟨[.d .bool],[]⟩,[]⟩,
 ⟨32,⟨[.d .str],[]⟩,⟨[.d .bool],[]⟩,[]⟩,
 ⟨33,⟨[.d .str],[]⟩,⟨[.d .bool],[]⟩,[]⟩,
 ⟨34,⟨[.d tc,.fn 32 []],[]⟩,⟨[.d .bool],[]⟩,[]⟩,
 ⟨35,⟨[.d (.sl t8),.fn 36 []],[]⟩,⟨[.d .bool],[]⟩,[]⟩,
 ⟨36,⟨[.d t8],[]⟩,⟨[.d .bool],[]⟩,[]⟩,
 ⟨37,⟨[.d t8],[]⟩,⟨[.d .bool],[]⟩,[]⟩,
 ⟨38,⟨[.d (.sl t3)],[]⟩,⟨[.d t1],[]⟩,[]⟩,
 ⟨39,⟨[.d tc],[]⟩,⟨[.d .bool],[]⟩,[]⟩,
 ⟨40,⟨[.d t2],[]⟩,⟨[.d .bool],[]⟩,[]⟩,
 ⟨41,⟨[.d (.sl t2),.d t2],[]⟩,⟨[.d (.sl t2),.d t1],[]⟩,[]⟩,
 ⟨42,⟨[.d t1],[]⟩,⟨[.d .str],[]⟩,[]⟩,
 ⟨43,⟨[.d t0,.d t1,.d t1],[]⟩,⟨[.d .str],[]⟩,[]⟩,
 ⟨44,⟨[.d t0,.d (.sl t2),.d t1],[]⟩,⟨[.d .str,.d t1],[]⟩,[]⟩,
 ⟨45,⟨[.d .str],[]⟩,⟨[.d .str],[]⟩,[]⟩,
 ⟨46,⟨[.d .str],[]⟩,⟨[.d t0,.d t1,.d t1],[]⟩,[]⟩,
 ⟨47,⟨[.ptr 0 0,.d t0,.d t1],[.box [.d .str,.aX 1,.aX 2,.aX 3,.aX 4,.d (.sl t2)],.vec .str,.vec t2,.vec t3,.vec t8]⟩,⟨[.d t1,.d t1],[.box [.d .str,.aX 5,.aX 6,.aX 7,.aX 8,.d (.sl t2)],.gone,.gone,.gone,.gone,.vec .str,.vec t2,.vec t3,.vec t8]⟩,[0]⟩,
 ⟨48,⟨[.d tc,.d tc],[]⟩,⟨[.d .bool],[]⟩,[]⟩,
 ⟨49,⟨[.d (.sl t3),.d (.sl t3)],[]⟩,⟨[.d .bool],[]⟩,[]⟩,
 ⟨50,⟨[.d t0,.d t0],[]⟩,⟨[.d .bool],[]⟩,[]⟩,
 ⟨51,⟨[.d (.sl t3)],[]⟩,⟨[.d .bool],[]⟩,[]⟩,
 ⟨52,⟨[.d (.sl t2),.fn 53 []],[]⟩,⟨[.d .bool],[]⟩,[]⟩,
 ⟨53,⟨[.d t2],[]⟩,⟨[.d .bool],[]⟩,[]⟩,
 ⟨54,⟨[.d t2],[]⟩,⟨[.d .bool],[]⟩,[]⟩,
 ⟨55,⟨[.d (.sl t2),.d .str],[]⟩,⟨[.d t2,.d .bool],[]⟩,[]⟩,
 ⟨56,⟨[.ptr 0 0],[.box [.cG 0,.aX 1],.vec t7]⟩,⟨[],[.box [.cG 0,.aX 1],.vec t7]⟩,[0,1]⟩,
 ⟨56,⟨[.ptr 0 0],[.box [.cG 0,.aX 1,.d .cJ,.d t1],.vec t7]⟩,⟨[],[.box [.cG 0,.aX 1,.d .cJ,.d t1],.vec t7]⟩,[0,1]⟩,
 ⟨57,⟨[.aX 0,.fn 58 [.ref t2]],[.vec t2]⟩,⟨[.aX 1],[.gone,.vec t2]⟩,[]⟩,
 ⟨58,⟨[.d t2,.ref t2],[]⟩,⟨[.d .bool],[]⟩,[]⟩,
 ⟨59,⟨[.aX 0,.fn 60 []],[.vec t2]⟩,⟨[],[.vec t2]⟩,[0]⟩,
 ⟨60,⟨[.d t2,.d t2],[]⟩,⟨[.d t1],[]⟩,[]⟩,
 ⟨61,⟨[.d .str,.d .str],[]⟩,⟨[.d t1],[]⟩,[]⟩,
 ⟨62,⟨[.d t0,.d t1,.d .bool,.d .bool],[]⟩,⟨[.d .str],[]⟩,[]⟩,
 ⟨63,⟨[.d t0,.d (.sl t2)],[]⟩,⟨[.d t0,.d t1],[]⟩,[]⟩,
 ⟨64,⟨[.d t0],[]⟩,⟨[.d .str,.d t1],[]⟩,[]⟩,
 ⟨65,⟨[.d t5],[]⟩,⟨[.d .bool],[]⟩,[]⟩,
 ⟨66,⟨[.d .str],[]⟩,⟨[.d .bool],[]⟩,[]⟩,
 ⟨67,⟨[.d (.sl t3)],[]⟩,⟨[.d t1],[]⟩,[]⟩,
 ⟨68,⟨[.d .str],[]⟩,⟨[.d .bool],[]⟩,[]⟩,
 ⟨69,⟨[.d t0,.d .bool],[]⟩,⟨[.d t1],[]⟩,[]⟩,
 ⟨70,⟨[.d .str],[]⟩,⟨[.d .bool],[]⟩,[]⟩,
 ⟨71,⟨[.d tc,.fn 307 [.ptr 0 0]],[.box [.ptr 1 0],.box [.d t0,.d t1,.d (.sl t2),.d t1,.d t1,.d t1,.d t1]]⟩,⟨[.d t1],[.box [.ptr 1 0],.box [.d t0,.d t1,.d (.sl t2),.d t1,.d t1,.d t1,.d t1]]⟩,[0,1]⟩,
 ⟨71,⟨[.d tc,.fn 32 []],[]⟩,⟨[.d t1],[]⟩,[]⟩,
 ⟨72,⟨[.d (.sl t8),.fn 36 []],[]⟩,⟨[.d t1],[]⟩,[]⟩,
 ⟨73,⟨[.d .str],[]⟩,⟨[.d .bool],[]⟩,[]⟩,
 ⟨74,⟨[.d t0],[]⟩,⟨[.d t1],[]⟩,[]⟩,
 ⟨75,⟨[.d (.sl t3),.fn 76 []],[]⟩,⟨[.d .bool],[]⟩,[]⟩,
 ⟨75,⟨[.d (.sl t3),.fn 85 [.ref t5]],[]⟩,⟨[.d .bool],[]⟩,[]⟩,
 ⟨76,⟨[.d t3],[]⟩,⟨[.d .bool],[]⟩,[]⟩,
 ⟨77,⟨[.d t3],[]⟩,⟨[.d .bool],[]⟩,[]⟩,
 ⟨78,⟨[.d (.sl t3),.fn 76 []],[]⟩,⟨[.d t1],[]⟩,[]⟩,
 ⟨78,⟨[.d (.sl t3),.fn 79 [.ref t3]],[]⟩,⟨[.d t1],[]⟩,[]⟩,
 ⟨78,⟨[.d (.sl t3),.fn 85 [.ref t5]],[]⟩,⟨[.d t1],[]⟩,[]⟩,
 ⟨79,⟨[.d t3,.ref t3],[]⟩,⟨[.d .bool],[]⟩,[]⟩,
 ⟨80,⟨[.d t1,.d t1,.ptr 0 0],[.box [.d (.sl t3)]]⟩,⟨[.d .bool],[.box [.d (.sl t3)]]⟩,[0]⟩,
 ⟨81,⟨[.d (.sl t3),.d .str],[]⟩,⟨[.d t1,.d t1,.d .bool],[]⟩,[]⟩,
 ⟨82,⟨[.d (.sl t3),.fn 80 [.ptr 0 0]],[.box [.d (.sl t3)]]⟩,⟨[.d .bool],[.box [.d (.sl t3)]]⟩,[0]⟩,
 ⟨82,⟨[.d (.sl t3),.fn 86 [.ptr 0 0,.ptr 1 0]],[.box [.d (.sl t3)],.box [.fn 83 [.ptr 0 0]]]⟩,⟨[.d .bool],[.box [.d (.sl t3)],.box [.fn 83 [.ptr 0 0]]]⟩,[0,1]⟩,
 ⟨82,⟨[.d (.sl t3),.fn 143 [.ref (.sl t3),.ref .str,.ptr 0 0,.ptr 1 0]],[.box [.d t1],.box [.d t1]]⟩,⟨[.d .bool],[.box [.d t1],.box [.d t1]]⟩,[0,1]⟩,
 ⟨83,⟨[.d t5,.ptr 0 0],[.box [.d (.sl t3)]]⟩,⟨[.d .bool],[.box [.d (.sl t3)]]⟩,[0]⟩,
 ⟨84,⟨[.d .str],[]⟩,⟨[.d .bool],[]⟩,[]⟩,
 ⟨85,⟨[.d t3,.ref t5],[]⟩,⟨[.d .bool],[]⟩,[]⟩,
 ⟨86,⟨[.d t1,.d t1,.ptr 0 0,.ptr 1 0],[.box [.d (.sl t3)],.box [.fn 83 [.ptr 0 0]]]⟩,⟨[.d .bool],[.box [.d (.sl t3)],.box [.fn 83 [.ptr 0 0]]]⟩,[0,1]⟩,
 ⟨87,⟨[.d (.sl t0),.fn 88 [.ptr 0 0]],[.box [.fn 83 [.ptr 1 0]],.box [.d (.sl t3)]]⟩,⟨[.d .bool],[.box [.fn 83 [.ptr 1 0]],.box [.d (.sl t3)]]⟩,[0,1]⟩,
 ⟨87,⟨[.d (.sl t0),.fn 142 [.ptr 0 0]],[.box [.fn 137 [.ptr 1 0]],.box [.d .str,.d t1,.d t6]]⟩,⟨[.d .bool],[.box [.fn 137 [.ptr 1 0]],.box [.d .str,.d t1,.d t6]]⟩,[0,1]⟩,
 ⟨88,⟨[.d t0,.ptr 0 0],[.box [.fn 83 [.ptr 1 0]],.box [.d (.sl t3)]]⟩,⟨[.d .bool],[.box [.fn 83 [.ptr 1 0]],.box [.d (.sl t3)]]⟩,[0,1]⟩,
 ⟨89,⟨[.d t0,.fn 223 []],[]⟩,⟨[.d .bool],[]⟩,[]⟩,
 ⟨89,⟨[.d t0,.fn 83 [.ptr 0 0]],[.box [.d (.sl t3)]]⟩,⟨[.d .bool],[.box [.d (.sl t3)]]⟩,[0]⟩,
 ⟨90,⟨[.d tc,.d .str],[]⟩,⟨[.d .bool],[]⟩,[]⟩,
 ⟨91,⟨[.d t5],[]⟩,⟨[.d .bool],[]⟩,[]⟩,
 ⟨92,⟨[.d t0,.d t1],[]⟩,⟨[.d (.sl t1)],[]⟩,[]⟩,
 ⟨93,⟨[.d .str,.d .bool],[]⟩,⟨[.d .str],[]⟩,[]⟩,
 ⟨94,⟨[.d t0,.d (.sl t2)],[]⟩,⟨[.d t1],[]⟩,[]⟩,
 ⟨95,⟨[.d t0,.d t1,.d (.sl t2)],[]⟩,⟨[.d t0],[]⟩,[]⟩,
 ⟨96,⟨[.d t0],[]⟩,⟨[.d .bool],[]⟩,[]⟩,
 ⟨97,⟨[.d t0,.d t1],[]⟩,⟨[.d .str],[]⟩,[]⟩,
 ⟨98,⟨[.d t0,.d t1],[]⟩,⟨[.d .str],[]⟩,[]⟩,
 ⟨99,⟨[.d .str,.fn 122 []],[]⟩,⟨[.d t1],[]⟩,[]⟩,
 ⟨99,⟨[.d .str,.fn 127 []],[]⟩,⟨[.d t1],[]⟩,[]⟩,
 ⟨99,⟨[.d .str,.fn 168 []],[]⟩,⟨[.d t1],[]⟩,[]⟩,
 ⟨99,⟨[.d .str,.fn 100 []],[]⟩,⟨[.d t1],[]⟩,[]⟩,
 ⟨100,⟨[.d t7],[]⟩,⟨[.d .bool],[]⟩,[]⟩,
 ⟨101,⟨[.d .str],[]⟩,⟨[.d t5,.d t1,.d t1],[]⟩,[]⟩,
 ⟨102,⟨[.d .bool,.ptr 0 0,.ptr 1 0],[.box [.ptr 2 0],.box [.d t0],.box [.d t0,.d t1,.d .bool,.aX 3],.vec .str]⟩,⟨[.d t1,.d t1],[.box [.ptr 2 0],.box [.d t0],.box [.d t0,.d t1,.d .bool,.aX 3],.vec .str]⟩,[0,1,2,3]⟩,
 ⟨103,⟨[.ptr 0 0,.d t1,.d .str],[.box [.d t0,.d t1,.d .bool,.aX 1],.vec .str]⟩,⟨[.d t5],[.box [.d t0,.d t1,.d .bool,.aX 1],.vec .str]⟩,[0,1]⟩,
 ⟨104,⟨[.ptr 0 0],[.box [.d t0,.d t1,.d .bool,.aX 1],.vec .str]⟩,⟨[.d t2],[.box [.d t0,.d t1,.d .bool,.aX 1],.vec .str]⟩,[0,1]⟩,
 ⟨105,⟨[.ptr 0 0],[.box [.d t0,.d t1,.d .bool,.aX 1],.vec .str]⟩,⟨[.d t3],[.box [.d t0,.d t1,.d .bool,.aX 2],.gone,.vec .str]⟩,[0]⟩,
 ⟨106,⟨[.ptr 0 0,.d t1,.d .str],[.box [.d t0,.d t1,.d .bool,.aX 1],.vec .str]⟩,⟨[.d .bool],[.box [.d t0,.d t1,.d .bool,.aX 1],.vec .str]⟩,[0,1]⟩,
 ⟨107,⟨[.ptr 0 0],[.box [.d t0,.d t1,.d .bool,.aX 1],.vec .str]⟩,⟨[.d .str],[.box [.d t0,.d t1,.d .bool,.aX 1],.vec .str]⟩,[0,1]⟩,
 ⟨108,⟨[.d t0,.d t1,.d (.sl t2)],[]⟩,⟨[.d t0,.d t1,.d t1],[]⟩,[]⟩,
 ⟨109,⟨[.d (.sl t0),.d (.sl t0)],[]⟩,⟨[.d .bool],[]⟩,[]⟩,
 ⟨110,⟨[.d (.sl t2),.fn 53 []],[]⟩,⟨[.d t1],[]⟩,[]⟩,
 ⟨110,⟨[.d (.sl t2),.fn 111 [.ref .str]],[]⟩,⟨[.d t1],[]⟩,[]⟩,
 ⟨110,⟨[.d (.sl t2),.fn 58 [.ref t2]],[]⟩,⟨[.d t1],[]⟩,[]⟩,
 ⟨111,⟨[.d t2,.ref .str],[]⟩,⟨[.d .bool],[]⟩,[]⟩,
 ⟨115,⟨[.d .str],[]⟩,⟨[.d .bool],[]⟩,[]⟩,
 ⟨116,⟨[.d t0,.d t1],[]⟩,⟨[.d (.sl t1)],[]⟩,[]⟩,
 ⟨117,⟨[.ptr 0 0,.d t1],[.box [.d t0,.d (.sl t2)]]⟩,⟨[.d t0],[.box [.d t0,.d (.sl t2)]]⟩,[0]⟩,
 ⟨118,⟨[.d t0],[]⟩,⟨[.d t1],[]⟩,[]⟩,
 ⟨119,⟨[.ptr 0 0,.d t0,.d t1,.d t1,.d .bool],[.box [.cG 0,.aX 1,.d .cJ,.d t1],.vec t7]⟩,⟨[.d t1],[.box [.cG 0,.aX 2,.d .cJ,.d t1],.gone,.vec t7]⟩,[0]⟩,
 ⟨120,⟨[.fn 124 [],.ref t5],[]⟩,⟨[.d .bool],[]⟩,[]⟩,
 ⟨120,⟨[.fn 125 [],.ref t5],[]⟩,⟨[.d .bool],[]⟩,[]⟩,
 ⟨121,⟨[.d .str,.fn 122 []],[]⟩,⟨[.d .bool],[]⟩,[]⟩,
 ⟨121,⟨[.d .str,.fn 127 []],[]⟩,⟨[.d .bool],[]⟩,[]⟩,
 ⟨122,⟨[.d t7],[]⟩,⟨[.d .bool],[]⟩,[]⟩,
 ⟨123,⟨[.d .str],[]⟩,⟨[.d .bool],[]⟩,[]⟩,
 ⟨124,⟨[.d t7],[]⟩,⟨[.d .bool],[]⟩,[]⟩,
 ⟨125,⟨[.d t7],[]⟩,⟨[.d .bool],[]⟩,[]⟩,
 ⟨126,⟨[.d t1],[]⟩,⟨[.d t1],[]⟩,[]⟩,
 ⟨127,⟨[.d t7],[]⟩,⟨[.d .bool],[]⟩,[]⟩,
 ⟨128,⟨[.d t3],[]⟩,⟨[.d .bool],[]⟩,[]⟩,
 ⟨129,⟨[.d (.sl t3)],[]⟩,⟨[.d tc],[]⟩,[]⟩,
 ⟨130,⟨[.d .str],[]⟩,⟨[.d .bool],[]⟩,[]⟩,
 ⟨131,⟨[.d (.sl t3),.d t5],[]⟩,⟨[.d .bool],[]⟩,[]⟩,
 ⟨132,⟨[.d t0],[]⟩,⟨[.d .bool],[]⟩,[]⟩,
 ⟨133,⟨[.d t0,.d t1],[]⟩,⟨[.d t1],[]⟩,[]⟩,
 ⟨134,⟨[.d t0,.d t1,.d .bool],[]⟩,⟨[.d t1],[]⟩,[]⟩,
 ⟨135,⟨[.d t0,.d t1],[]⟩,⟨[.d .bool],[]⟩,[]⟩,
 ⟨136,⟨[.d t0,.d .bool],[]⟩,⟨[.d t1],[]⟩,[]⟩,
 ⟨137,⟨[.d t0,.ptr 0 0],[.box [.d .str,.d t1,.d t6]]⟩,⟨[.d .bool],[.box [.d .str,.d t1,.d t6]]⟩,[0]⟩,
 ⟨138,⟨[.d t1,.ptr 0 0],[.box [.d .str,.d t1,.d t6]]⟩,⟨[.d .bool],[.box [.d .str,.d t1,.d t6]]⟩,[0]⟩,
 ⟨139,⟨[.d t0],[]⟩,⟨[.d t1],[]⟩,[]⟩,
 ⟨140,⟨[.d (.sl t1),.fn 138 [.ptr 0 0]],[.box [.d .str,.d t1,.d t6]]⟩,⟨[.d .bool],[.box [.d .str,.d t1,.d t6]]⟩,[0]⟩,
 ⟨141,⟨[.d t0],[]⟩,⟨[.d (.sl t1)],[]⟩,[]⟩,
 ⟨142,⟨[.d t0,.ptr 0 0],[.box [.fn 137 [.ptr 1 0]],.box [.d .str,.d t1,.d t6]]⟩,⟨[.d .bool],[.box [.fn 137 [.ptr 1 0]],.box [.d .str,.d t1,.d t6]]⟩,[0,1]⟩,
 ⟨143,⟨[.d t1,.d t1,.ref (.sl t3),.ref .str,.ptr 0 0,.ptr 1 0],[.box [.d t1],.box [.d t1]]⟩,⟨[.d .bool],[.box [.d t1],.box [.d t1]]⟩,[0,1]⟩,
 ⟨144,⟨[.d (.sl t0),.fn 88 [.ptr 0 0]],[.box [.fn 83 [.ptr 1 0]],.box [.d (.sl t3)]]⟩,⟨[.d t1],[.box [.fn 83 [.ptr 1 0]],.box [.d (.sl t3)]]⟩,[0,1]⟩,
 ⟨144,⟨[.d (.sl t0),.fn 142 [.ptr 0 0]],[.box [.fn 137 [.ptr 1 0]],.box [.d .str,.d t1,.d t6]]⟩,⟨[.d t1],[.box [.fn 137 [.ptr 1 0]],.box [.d .str,.d t1,.d t6]]⟩,[0,1]⟩,
 ⟨145,⟨[.d t0,.fn 223 []],[]⟩,⟨[.d t1],[]⟩,[]⟩,
 ⟨145,⟨[.d t0,.fn 83 [.ptr 0 0]],[.box [.d (.sl t3)]]⟩,⟨[.d t1],[.box [.d (.sl t3)]]⟩,[0]⟩,
 ⟨146,⟨[.d tc,.d .str],[]⟩,⟨[.d t1],[]⟩,[]⟩,
 ⟨147,⟨[.d t7],[]⟩,⟨[.d t1],[]⟩,[]⟩,
 ⟨148,⟨[.d .str,.d t1,.d t1,.d t1],[]⟩,⟨[.d t1],[]⟩,[]⟩,
 ⟨149,⟨[.d .str],[]⟩,⟨[.d .bool],[]⟩,[]⟩,
 ⟨150,⟨[.d t1],[]⟩,⟨[.d t1],[]⟩,[]⟩,
 ⟨151,⟨[.d t0,.d t1],[]⟩,⟨[.d t1],[]⟩,[]⟩,
 ⟨152,⟨[.d .str],[]⟩,⟨[.d t0],[]⟩,[]⟩,
 ⟨153,⟨[.d t1],[]⟩,⟨[.d .str],[]⟩,[]⟩,
 ⟨154,⟨[.d .str],[]⟩,⟨[.d .str],[]⟩,[]⟩,
 ⟨155,⟨[.d (.sl t0)],[]⟩,⟨[.d t0],[]⟩,[]⟩,
 ⟨156,⟨[.d t0],[]⟩,⟨[.d t0],[]⟩,[]⟩,
 ⟨157,⟨[],[]⟩,⟨[.d t0],[]⟩,[]⟩,
 ⟨158,⟨[.d (.sl t0)],[]⟩,⟨[.d t0],[]⟩,[]⟩,
 ⟨159,⟨[.d t0,.d t1],[]⟩,⟨[.d .str],[]⟩,[]⟩,
 ⟨160,⟨[.d t0,.d t1,.d (.sl t2)],[]⟩,⟨[.d t2,.d .bool],[]⟩,[]⟩,
 ⟨161,⟨[.d t0,.d t1,.d (.sl t2),.d t2,.d t1],[]⟩,⟨[.d t0],[]⟩,[]⟩,
 ⟨162,⟨[.d t0,.d t1,.d (.sl t2)],[]⟩,⟨[.aX 0,.d t1],[.vec t0]⟩,[]⟩,
 ⟨163,⟨[.d t0,.d t1,.d (.sl t2)],[]⟩,⟨[.d t1],[]⟩,[]⟩,
 ⟨164,⟨[.d t0,.d t1,.d (.sl t2),.d .bool],[]⟩,⟨[.d t0],[]⟩,[]⟩,
 ⟨165,⟨[.d t0,.d t1,.d t1,.d t1,.d t1],[]⟩,⟨[.d .str],[]⟩,[]⟩,
 ⟨166,⟨[.d t1,.d t1,.ref .str],[]⟩,⟨[.d t5,.d t1,.d t1],[]⟩,[]⟩,
 ⟨167,⟨[.d .str,.d .str],[]⟩,⟨[.d .bool],[]⟩,[]⟩,
 ⟨168,⟨[.d t7],[]⟩,⟨[.d .bool],[]⟩,[]⟩,
 ⟨169,⟨[.d .str],[]⟩,⟨[.d t1,.d t1],[]⟩,[]⟩,
 ⟨170,⟨[.d .str],[]⟩,⟨[.d .str,.d t1],[]⟩,[]⟩,
 ⟨171,⟨[.ptr 0 0],[.box [.d t0,.d t1,.d .bool,.aX 1],.vec .str]⟩,⟨[.d tg],[.box [.d t0,.d t1,.d .bool,.aX 1],.vec .str]⟩,[0,1]⟩,
 ⟨172,⟨[.ptr 0 0],[.box [.d t0,.d t1,.d (.sl t2),.d t1,.d t1,.d t1,.d t1]]⟩,⟨[.d t0],[.box [.d t0,.d t1,.d (.sl t2),.d t1,.d t1,.d t1,.d t1]]⟩,[0]⟩,
 ⟨173,⟨[.ptr 0 0,.d t1,.d t1],[.box [.d t0,.d t1,.d (.sl t2),.d t1,.d t1,.d t1,.d t1]]⟩,⟨[.d t0],[.box [.d t0,.d t1,.d (.sl t2),.d t1,.d t1,.d t1,.d t1]]⟩,[0]⟩,
 ⟨174,⟨[.ptr 0 0,.d t1],[.box [.d t0,.d t1,.d (.sl t2),.d t1,.d t1,.d t1,.d t1]]⟩,⟨[.d t1],[.box [.d t0,.d t1,.d (.sl t2),.d t1,.d t1,.d t1,.d t1]]⟩,[0]⟩,
 ⟨185,⟨[.d t0,.d t1],[]⟩,⟨[.d t1],[]⟩,[]⟩,
 ⟨186,⟨[.d t1,.ptr 0 0,.ptr 1 0],[.box [.ptr 2 0],.box [.d t1],.box [.d t0,.d (.sl t2)]]⟩,⟨[.d t0],[.box [.ptr 2 0],.box [.d t1],.box [.d t0,.d (.sl t2)]]⟩,[0,1,2]⟩,
 ⟨187,⟨[.d .str],[]⟩,⟨[.d t0],[]⟩,[]⟩,
 ⟨188,⟨[.d t1],[]⟩,⟨[.d .str],[]⟩,[]⟩,
 ⟨189,⟨[.d .str],[]⟩,⟨[.d .str],[]⟩,[]⟩,
 ⟨190,⟨[.d .str],[]⟩,⟨[.d .str],[]⟩,[]⟩,
 ⟨191,⟨[.d (.sl t0)],[]⟩,⟨[.d t0],[]⟩,[]⟩,
 ⟨192,⟨[.d t0],[]⟩,⟨[.d t0],[]⟩,[]⟩,
 ⟨193,⟨[],[]⟩,⟨[.d t0],[]⟩,[]⟩,
 ⟨194,⟨[.ptr 0 0,.d t1],[.box [.d t0,.d (.sl t2)]]⟩,⟨[.d t0],[.box [.d t0,.d (.sl t2)]]⟩,[0]⟩,
 ⟨195,⟨[.ref td,.d t1],[]⟩,⟨[.d t1],[]⟩,[]⟩,
 ⟨196,⟨[.ptr 0 0,.d t1],[.box [.d t0,.d (.sl t2)]]⟩,⟨[.d t0],[.box [.d t0,.d (.sl t2)]]⟩,[0]⟩,
 ⟨197,⟨[.ptr 0 0,.d t1],[.box [.d t0,.d (.sl t2)]]⟩,⟨[.d t0],[.box [.d t0,.d (.sl t2)]]⟩,[0]⟩,
 ⟨198,⟨[.d t0],[]⟩,⟨[.d .bool],[]⟩,[]⟩,
 ⟨199,⟨[.d t5],[]⟩,⟨[.d .bool],[]⟩,[]⟩,
 ⟨200,⟨[.d t1,.d .bool,.ptr 0 0,.ptr 1 0,.ptr 2 0,.ptr 3 0],[.box [.d t1],.box [.d t1,.d .str,.d t1,.d t1],.box [.ptr 4 0],.box [.d t0],.box [.cG 4,.aX 5,.d .cJ,.d t1],.vec t7]⟩,⟨[.d t1],[.box [.d t1],.box [.d t1,.d .str,.d t1,.d t1],.box [.ptr 4 0],.box [.d t0],.box [.cG 4,.aX 6,.d .cJ,.d t1],.gone,.vec t7]⟩,[0,1,2,3,4]⟩,
 ⟨201,⟨[.ptr 0 0,.d .str],[.box [.cG 0,.aX 1,.d .cJ,.d t1],.vec t7]⟩,⟨[],[.box [.cG 0,.aX 2,.d .cJ,.d t1],.gone,.vec t7]⟩,[0]⟩,
 ⟨202,⟨[.ptr 0 0,.d t1],[.box [.cG 0,.aX 1,.d .cJ,.d t1],.vec t7]⟩,⟨[],[.box [.cG 0,.aX 2,.d .cJ,.d t1],.gone,.vec t7]⟩,[0]⟩,
 ⟨203,⟨[.ptr 0 0,.d t1],[.box [.cG 0,.aX 1,.d .cJ,.d t1],.vec t7]⟩,⟨[.d .bool],[.box [.cG 0,.aX 1,.d .cJ,.d t1],.vec t7]⟩,[0,1]⟩,
 ⟨204,⟨[.d t0],[]⟩,⟨[.d t1],[]⟩,[]⟩,
 ⟨205,⟨[],[]⟩,⟨[.d tc],[]⟩,[]⟩,
 ⟨206,⟨[.d .str,.d t7],[]⟩,⟨[.d t1],[]⟩,[]⟩,
 ⟨207,⟨[.d t0],[]⟩,⟨[.d .bool],[]⟩,[]⟩,
 ⟨208,⟨[.d t0],[]⟩,⟨[.d (.sl t1)],[]⟩,[]⟩,
 ⟨209,⟨[.d t0,.d t1,.d .bool],[]⟩,⟨[.d t1],[]⟩,[]⟩,
 ⟨210,⟨[.d t1],[]⟩,⟨[.d .bool],[]⟩,[]⟩,
 ⟨211,⟨[.d t0,.d t1],[]⟩,⟨[.aX 0],[.vec .str]⟩,[]⟩,
 ⟨212,⟨[.d t0],[]⟩,⟨[.d t1],[]⟩,[]⟩,
 ⟨213,⟨[.d t0,.d t1,.d .bool,.fn 214 [.ref t0]],[]⟩,⟨[.d t1,.d t1],[]⟩,[]⟩,
 ⟨214,⟨[.d t1,.d .bool,.ref t0],[]⟩,⟨[.d t1],[]⟩,[]⟩,
 ⟨215,⟨[.d t0,.d t1,.d .bool],[]⟩,⟨[.d t1],[]⟩,[]⟩,
 ⟨216,⟨[.d t1,.ref t0],[]⟩,⟨[.d .bool],[]⟩,[]⟩,
 ⟨217,⟨[.d t0,.d t1],[]⟩,⟨[.d t0,.d t1],[]⟩,[]⟩,
 ⟨218,⟨[.d t0],[]⟩,⟨[.aX 0],[.vec .str]⟩,[]⟩,
 ⟨219,⟨[.aX 0],[.vec .str]⟩,⟨[],[.vec .str]⟩,[0]⟩,
 ⟨220,⟨[.aX 0],[.vec .str]⟩,⟨[.aX 1],[.gone,.vec .str]⟩,[]⟩,
 ⟨221,⟨[.d t0],[]⟩,⟨[.d t1],[]⟩,[]⟩,
 ⟨222,⟨[.d t1],[]⟩,⟨[.d .bool],[]⟩,[]⟩,
 ⟨223,⟨[.d t5],[]⟩,⟨[.d .bool],[]⟩,[]⟩,
 ⟨224,⟨[.d t5],[]⟩,⟨[.d .bool],[]⟩,[]⟩,
 ⟨225,⟨[.d (.sl t1),.fn 138 [.ptr 0 0]],[.box [.d .str,.d t1,.d t6]]⟩,⟨[.d t1],[.box [.d .str,.d t1,.d t6]]⟩,[0]⟩,
 ⟨226,⟨[.d (.sl t1),.d t1],[]⟩,⟨[.d .bool],[]⟩,[]⟩,
 ⟨227,⟨[],[]⟩,⟨[.d tc],[]⟩,[]⟩,
 ⟨228,⟨[.d th],[]⟩,⟨[.d t1],[]⟩,[]⟩,
 ⟨229,⟨[.d t1],[]⟩,⟨[.d th],[]⟩,[]⟩,
 ⟨230,⟨[.d t5,.d (.sl t0)],[]⟩,⟨[.d t0],[]⟩,[]⟩,
 ⟨231,⟨[.d (.sl t0)],[]⟩,⟨[.d t0],[]⟩,[]⟩,
 ⟨232,⟨[.d (.sl t2),.d .str],[]⟩,⟨[.d t2,.d .bool],[]⟩,[]⟩,
 ⟨233,⟨[.d .str,.d t1],[]⟩,⟨[.d t1],[]⟩,[]⟩,
 ⟨234,⟨[.d .str,.d .str],[]⟩,⟨[.d .bool],[]⟩,[]⟩,
 ⟨235,⟨[.d .str,.d .str],[]⟩,⟨[.d .str,.d .bool],[]⟩,[]⟩,
 ⟨236,⟨[.ptr 0 0],[.box [.d t0,.d t1,.d .bool,.aX 1],.vec .str]⟩,⟨[.d t0],[.box [.d t0,.d t1,.d .bool,.aX 1],.vec .str]⟩,[0,1]⟩,
 ⟨237,⟨[.ptr 0 0],[.box [.d t0,.d t1,.d .bool,.aX 1],.vec .str]⟩,⟨[.d (.sl t0)],[.box [.d t0,.d t1,.d .bool,.aX 1],.vec .str]⟩,[0,1]⟩,
 ⟨238,⟨[.ptr 0 0,.fn 1048815 [.ptr 0 0]],[.box [.d t0,.d t1,.d (.sl t2),.d t1,.d t1,.d t1,.d t1]]⟩,⟨[.d t0],[.box [.d t0,.d t1,.d (.sl t2),.d t1,.d t1,.d t1,.d t1]]⟩,[0]⟩,
 ⟨238,⟨[.ptr 0 0,.fn 1048923 [.ptr 0 0]],[.box [.d t0,.d t1,.d (.sl t2),.d t1,.d t1,.d t1,.d t1]]⟩,⟨[.d t0],[.box [.d t0,.d t1,.d (.sl t2),.d t1,.d t1,.d t1,.d t1]]⟩,[0]⟩,
 ⟨239,⟨[.ptr 0 0],[.box [.d t0,.d t1,.d (.sl t2),.d t1,.d t1,.d t1,.d t1]]⟩,⟨[.d t0],[.box [.d t0,.d t1,.d (.sl t2),.d t1,.d t1,.d t1,.d t1]]⟩,[0]⟩,
 ⟨245,⟨[.d .str],[]⟩,⟨[.d t0],[]⟩,[]⟩,
 ⟨246,⟨[.d .str,.d .str,.d .str,.d t1],[]⟩,⟨[.d .str],[]⟩,[]⟩,
 ⟨247,⟨[.d t1,.d t1],[]⟩,⟨[.d .str],[]⟩,[]⟩,
 ⟨248,⟨[.ptr 0 0,.d t7],[.box [.cG 0,.aX 1],.vec t7]⟩,⟨[.ga],[.box [.cG 0,.aX 2],.gone,.vec t7]⟩,[0]⟩,
 ⟨248,⟨[.ptr 0 0,.d t7],[.box [.cG 0,.aX 1,.d .cJ,.d t1],.vec t7]⟩,⟨[.ga],[.box [.cG 0,.aX 2,.d .cJ,.d t1],.gone,.vec t7]⟩,[0]⟩,
 ⟨249,⟨[.d t0],[]⟩,⟨[.d t0],[]⟩,[]⟩,
 ⟨250,⟨[.d (.sl t0)],[]⟩,⟨[.d t0],[]⟩,[]⟩,
 ⟨251,⟨[.d (.sl t0)],[]⟩,⟨[.d t0],[]⟩,[]⟩,
 ⟨252,⟨[.d t5,.d (.sl t0)],[]⟩,⟨[.aX 0],[.vec t5]⟩,[]⟩,
 ⟨253,⟨[.d t0,.d t1,.d .bool],[]⟩,⟨[.d .str],[]⟩,[]⟩,
 ⟨254,⟨[.ref td,.d t1],[]⟩,⟨[.d t2,.d .bool],[]⟩,[]⟩,
 ⟨255,⟨[.ptr 0 0,.d t1,.d t2,.d t1],[.box [.d t0,.d (.sl t2)]]⟩,⟨[.d t0],[.box [.d t0,.d (.sl t2)]]⟩,[0]⟩,
 ⟨256,⟨[.ptr 0 0,.d t1,.d .bool],[.box [.d t0,.d (.sl t2)]]⟩,⟨[.d t0],[.box [.d t0,.d (.sl t2)]]⟩,[0]⟩,
 ⟨257,⟨[.d .str,.fn 258 []],[]⟩,⟨[.d .bool],[]⟩,[]⟩,
 ⟨258,⟨[.d (.int .i32)],[]⟩,⟨[.d .bool],[]⟩,[]⟩,
 ⟨259,⟨[.d .str,.d t1],[]⟩,⟨[.d .str],[]⟩,[]⟩,
 ⟨260,⟨[.d .str],[]⟩,⟨[.d tc],[]⟩,[]⟩,
 ⟨262,⟨[.d (.sl t1),.d t1],[]⟩,⟨[.d t1],[]⟩,[]⟩,
 ⟨263,⟨[.d t1],[]⟩,⟨[.d t1],[]⟩,[]⟩,
 ⟨264,⟨[.d t1,.d t1],[]⟩,⟨[.d .bool],[]⟩,[]⟩,
 ⟨265,⟨[.d t1],[]⟩,⟨[.agg [.d .bool,.d .bool,.fa [(73,false),(70,false)],.fa [(323,true),(294,false),(295,false)],.d .bool]],[]⟩,[]⟩,
 ⟨267,⟨[.d (.sl t1),.d t1],[]⟩,⟨[.d t1],[]⟩,[]⟩,
 ⟨268,⟨[.d .str,.d .str],[]⟩,⟨[.d .str,.d .bool],[]⟩,[]⟩,
 ⟨269,⟨[.ptr 0 0,.d .str],[.box [.d t0,.d t1,.d .bool,.aX 1],.vec .str]⟩,⟨[.d t0],[.box [.d t0,.d t1,.d .bool,.aX 1],.vec .str]⟩,[0,1]⟩,
 ⟨270,⟨[.ptr 0 0],[.box [.d t0,.d t1,.d .bool,.aX 1],.vec .str]⟩,⟨[.d t0],[.box [.d t0,.d t1,.d .bool,.aX 1],.vec .str]⟩,[0,1]⟩,
 ⟨271,⟨[.ptr 0 0],[.box [.d t0,.d t1,.d .bool,.aX 1],.vec .str]⟩,⟨[.d .bool],[.box [.d t0,.d t1,.d .bool,.aX 1],.vec .str]⟩,[0,1]⟩,
 ⟨272,⟨[.ptr 0 0,.d t1,.d t1,.d tc],[.box [.d t0,.d t1,.d (.sl t2),.d t1,.d t1,.d t1,.d t1]]⟩,⟨[.d .bool],[.box [.d t0,.d t1,.d (.sl t2),.d t1,.d t1,.d t1,.d t1]]⟩,[0]⟩,
 ⟨273,⟨[.ptr 0 0],[.box [.d t0,.d t1,.d (.sl t2),.d t1,.d t1,.d t1,.d t1]]⟩,⟨[.d t0],[.box [.d t0,.d t1,.d (.sl t2),.d t1,.d t1,.d t1,.d t1]]⟩,[0]⟩,
 ⟨274,⟨[.ptr 0 0],[.box [.d t0,.d t1,.d (.sl t2),.d t1,.d t1,.d t1,.d t1]]⟩,⟨[.d t5],[.box [.d t0,.d t1,.d (.sl t2),.d t1,.d t1,.d t1,.d t1]]⟩,[0]⟩,
 ⟨275,⟨[.ptr 0 0],[.box [.d t0,.d t1,.d (.sl t2),.d t1,.d t1,.d t1,.d t1]]⟩,⟨[.d .str],[.box [.d t0,.d t1,.d (.sl t2),.d t1,.d t1,.d t1,.d t1]]⟩,[0]⟩,
 ⟨276,⟨[.d t1,.d .str,.d (.sl t0)],[]⟩,⟨[.d t0],[]⟩,[]⟩,
 ⟨277,⟨[.ptr 0 0,.d .str],[.box [.d t0,.d t1,.d (.sl t2),.d t1,.d t1,.d t1,.d t1]]⟩,⟨[.d t0],[.box [.d t0,.d t1,.d (.sl t2),.d t1,.d t1,.d t1,.d t1]]⟩,[0]⟩,
 ⟨278,⟨[.ptr 0 0,.d .str],[.box [.d t0,.d t1,.d (.sl t2),.d t1,.d t1,.d t1,.d t1]]⟩,⟨[],[.box [.d t0,.d t1,.d (.sl t2),.d t1,.d t1,.d t1,.d t1]]⟩,[0]⟩,
 ⟨285,⟨[.d (.sl t0)],[]⟩,⟨[.d t0],[]⟩,[]⟩,
 ⟨286,⟨[.d t1,.d t0],[]⟩,⟨[.d t0],[]⟩,[]⟩,
 ⟨287,⟨[.rr td,.ref t1,.ref t2,.ref t1],[]⟩,⟨[.d .bool],[]⟩,[]⟩,
 ⟨288,⟨[.d .str,.fn 258 []],[]⟩,⟨[.d t1],[]⟩,[]⟩,
 ⟨293,⟨[.d t1],[]⟩,⟨[.fn 323 [.ref t1]],[]⟩,[]⟩,
 ⟨294,⟨[.d t1],[]⟩,⟨[.d .bool],[]⟩,[]⟩,
 ⟨295,⟨[.d t1],[]⟩,⟨[.d .bool],[]⟩,[]⟩,
 ⟨305,⟨[.d (.sl t0),.d t0],[]⟩,⟨[.d t0],[]⟩,[]⟩,
 ⟨306,⟨[.ptr 0 0],[.box [.d t0,.d t1,.d (.sl t2),.d t1,.d t1,.d t1,.d t1]]⟩,⟨[.d t0],[.box [.d t0,.d t1,.d (.sl t2),.d t1,.d t1,.d t1,.d t1]]⟩,[0]⟩,
 ⟨307,⟨[.d .str,.ptr 0 0],[.box [.ptr 1 0],.box [.d t0,.d t1,.d (.sl t2),.d t1,.d t1,.d t1,.d t1]]⟩,⟨[.d .bool],[.box [.ptr 1 0],.box [.d t0,.d t1,.d (.sl t2),.d t1,.d t1,.d t1,.d t1]]⟩,[0,1]⟩,
 ⟨308,⟨[.d (.sl t2),.d tc],[]⟩,⟨[.d (.sl t1),.d t1],[]⟩,[]⟩,
 ⟨309,⟨[.ptr 0 0,.ptr 1 0,.ptr 2 0,.ptr 3 0,.ptr 4 0],[.box [.d (.sl t1)],.box [.d t1],.box [.d (.sl t0)],.box [.d tc],.box [.fn 309 [.ptr 0 0,.ptr 1 0,.ptr 2 0,.ptr 3 0,.ptr 4 0]]]⟩,⟨[.d t0],[.box [.d (.sl t1)],.box [.d t1],.box [.d (.sl t0)],.box [.d tc],.box [.fn 309 [.ptr 0 0,.ptr 1 0,.ptr 2 0,.ptr 3 0,.ptr 4 0]]]⟩,[0,1,2,3,4]⟩,
 ⟨319,⟨[.d .str,.fn 258 [],.d .bool],[]⟩,⟨[.d t1],[]⟩,[]⟩,
 ⟨323,⟨[.d t1,.ref t1],[]⟩,⟨[.d .bool],[]⟩,[]⟩,
 ⟨327,⟨[.ptr 0 0],[.box [.d t0,.d t1,.d (.sl t2),.d t1,.d t1,.d t1,.d t1]]⟩,⟨[.d t0],[.box [.d t0,.d t1,.d (.sl t2),.d t1,.d t1,.d t1,.d t1]]⟩,[0]⟩,
 ⟨328,⟨[.ptr 0 0],[.box [.d t0,.d t1,.d (.sl t2),.d t1,.d t1,.d t1,.d t1]]⟩,⟨[.d .bool],[.box [.d t0,.d t1,.d (.sl t2),.d t1,.d t1,.d t1,.d t1]]⟩,[0]⟩,
 ⟨329,⟨[.ptr 0 0,.ptr 1 0],[.box [.aX 2],.box [.aX 3],.vec t1,.vec (.sl t1)]⟩,⟨[],[.box [.aX 4],.box [.aX 5],.gone,.gone,.vec t1,.vec (.sl t1)]⟩,[0,1]⟩,
 ⟨330,⟨[.d (.sl (.sl t1))],[]⟩,⟨[.aX 0],[.vec t1]⟩,[]⟩,
 ⟨342,⟨[.ptr 0 0],[.box [.d t0,.d t1,.d (.sl t2),.d t1,.d t1,.d t1,.d t1]]⟩,⟨[.d t0],[.box [.d t0,.d t1,.d (.sl t2),.d t1,.d t1,.d t1,.d t1]]⟩,[0]⟩,
 ⟨343,⟨[.d (.sl t1),.d t1],[]⟩,⟨[.aX 0],[.vec t1]⟩,[]⟩,
 ⟨347,⟨[.ptr 0 0],[.box [.d t0,.d t1,.d (.sl t2),.d t1,.d t1,.d t1,.d t1]]⟩,⟨[.d t0],[.box [.d t0,.d t1,.d (.sl t2),.d t1,.d t1,.d t1,.d t1]]⟩,[0]⟩,
 ⟨348,⟨[.ptr 0 0],[.box [.d t0,.d t1,.d (.sl t2),.d t1,.d t1,.d t1,.d t1]]⟩,⟨[.d t0],[.box [.d t0,.d t1,.d (.sl t2),.d t1,.d t1,.d t1,.d t1]]⟩,[0]⟩]
def za9:List Int:=[0,0,0,0,0,0,0,0,0,1,1,1,1,1,0,0,0,0,0,0,0,0,0,0,0,0,0,0,0,0,0,0,1,0,0,0,0,0,0,0,0,0,0,0,0,0,0,0,0,0,0,0,0,0,0,0,0,0,0,0,0,0,0,0,0,0,0,0,0,0,0,0,0,0,0,0,0,0,0,0,0,0,0,0,0,0,0,0,0,0,0,0,0,0,0,0,0,0,0,0,0,0,0,0,0,0,0,0,0,0,0,0,0,0,0,0,0,0,0,0,0,0,0,0,0,0,0,0,0,0,0,0,0,0,0,0,0,0,0,0,0,0,0,0,0,0,0,0,0,0,0,0,0,0,0,0,0,0,0,0,0,0,0,0,0,0,0,0,0,0,0,0,0,0,0,0,0,0,0,0,0,0,0,0,0,0,0,0,0,0,0,0,0,0,0,0,0,0,0,0,0,0,0,0,0,0,0,0,0,0,0,0,0,0,0,0,0,0,0,0,0,0,0,0,0,0,0,0,0,0,0,0,0,0,0,0,0,0,0,0,0,0,0,0,0,0,0,0,0,0,0,0,0,0,0,0]
def z8c:List Int:=[1,10,100,1000,10000,100000,1000000,10000000,100000000,1000000000,10000000000,100000000000,1000000000000,10000000000000,100000000000000,1000000000000000,10000000000000000,100000000000000000,1000000000000000000,10000000000000000000]
def jz:Nat->Option ((t:Ty)×den t)
 |0=>some ⟨.arr 256 (.int .u8),za9⟩
 |5=>some ⟨.arr 20 (.int .u64),z8c⟩
 |_=>none
def dQ:List (Nat×Ty):=[
 (2,t1),
 (3,t1),
 (4,.bool),
 (5,t7),
 (6,t7),
 (7,(.st (.pair t1 (.pair t1 (.pair .bool t7))))),
 (8,(.st (.pair t1 (.pair t1 (.pair .bool t7))))),
 (9,.str),
 (10,.str),
 (11,.str),
 (12,th),
 (13,(.st (.pair .str th))),
 (14,(.st (.pair .str th))),
 (21,(.int .i32)),
 (22,tc),
 (23,(.sl t2)),
 (24,(.sl t3)),
 (25,(.sl t8)),
 (26,t4),
 (27,t4),
 (31,t1),
 (45,(.sl te)),
 (46,(.sl (.st (.pair .str t0)))),
 (47,t9),
 (48,t9),
 (49,t0),
 (50,t8),
 (51,t8),
 (52,t1),
 (53,t5),
 (54,t5),
 (55,t2),
 (56,t2),
 (58,(.sl t7)),
 (65,(.arr 3 .str)),
 (68,t6),
 (69,t3),
 (70,t3),
 (86,(.sl t0)),
 (87,tg),
 (88,tg),
 (91,t0),
 (95,(.st (.pair t4 (.sl t2)))),
 (96,(.st (.pair t4 (.sl t2)))),
 (97,t1),
 (98,t5),
 (99,t5),
 (105,(.int .u32)),
 (106,te),
 (107,te),
 (108,(.st (.pair .str t0))),
 (109,(.st (.pair .str t0))),
 (138,(.sl t1)),
 (149,(.st (.pair t0 (.pair t1 (.pair .bool tc))))),
 (150,(.st (.pair t0 (.pair t1 (.pair .bool tc))))),
 (164,th),
 (166,td),
 (167,td),
 (170,.cJ),
 (210,tf),
 (211,tf),
 (215,t1),
 (224,th),
 (226,t1),
 (252,th),
 (268,.ej),
 (289,(.arr 256 t7)),
 (301,(.arr 24 t7)),
 (310,(.sl (.st (.pair t1 t1)))),
 (311,(.st (.pair t1 t1))),
 (312,(.st (.pair t1 t1))),
 (317,(.sl (.sl t1))),
 (320,(.st (.pair t7 t7))),
 (321,(.st (.pair t7 t7))),
 (322,(.arr 16 (.st (.pair t7 t7)))),
 (324,(.arr 20 th)),
 (325,(.arr 65 t7)),
 (326,(.sl ta)),
 (327,(.sl tb)),
 (328,(.st (.pair (.sl ta) (.pair (.sl tb) t1)))),
 (329,(.st (.pair (.sl ta) (.pair (.sl tb) t1)))),
 (330,(.int .u16)),
 (331,ta),
 (332,ta),
 (334,tb),
 (335,tb),
 (342,(.arr 32 t7)),
 (343,(.arr 64 t7)),
 (349,t7),
 (350,t7),
 (352,(.int .i32)),
 (353,(.int .i32))]
def eqs:List Nat:=[54,56]
noncomputable def C:Cx:=⟨Tryz.prog,sigs,jz,dQ,eqs,60,172⟩
theorem QH:Tryz.prog.underlying 57=some (.pointer 60):=by kernel_rfl
theorem Gl:Tryz.prog.underlying 160=some .unsafePointer:=by kernel_rfl
theorem i87:(Tryz.prog.info? 60).map (fun x=>x.size)=some 2:=by kernel_rfl
theorem zaa:liesAt Tryz.prog Tryz.prog.depth 60 (2 / Tryz.prog.cellsOf 60) 0 60 1=true:=by kernel_rfl
set_option maxHeartbeats 1000000 in
set_option maxRecDepth 100000 in
theorem qzz(b:Nat)(w:World)(h0:w.cell? ⟨b,0,none⟩=some (.pointer (some ⟨b,0,none⟩))):Calls Tryz.prog 56 #[.pointer (some ⟨b,0,none⟩)] w fun e w'=>e=.returned (.tuple #[])/\w'=w:=by
 obtain⟨j,hj,_⟩:=Option.map_eq_some_iff.1 i87
 go_enter Tryz.func56,Tryz.ntmps56
 go_wp2
 rw[Lib.run_neq_ptr_same w _ QH hj]
 go_wp2
 go_end0
 exact⟨rfl,rfl⟩
set_option maxHeartbeats 1000000 in
set_option maxRecDepth 100000 in
theorem z3u(b:Nat)(w:World)(h0:w.cell? ⟨b,0,none⟩=some (.pointer none))(hc:w.shape? b=some (60,2))(he:w.frozen? ⟨b,0,none⟩=false):Calls Tryz.prog 56 #[.pointer (some ⟨b,0,none⟩)] w fun e w'=>e=.returned (.tuple #[])/\w'=w.setCell ⟨b,0,none⟩ (.pointer (some ⟨b,0,none⟩)):=by
 obtain⟨j,hj,hd⟩:=Option.map_eq_some_iff.1 i87
 go_enter Tryz.func56,Tryz.ntmps56
 go_wp2
 rw[Lib.run_to_unsafe w ⟨b,0,none⟩ QH Gl hj (by rw[hd];decide) hc (Nat.zero_lt_succ 1)];simp only[Result.andThen];rw[Oper.upon_value]
 go_wp2
 rw[run_callFunc_extern Tryz.func112 (by kernel_rfl) (by kernel_rfl) (by kernel_rfl) (e:=Extern.AbiNoEscape.same) (by kernel_rfl)];rw[Lib.run_noEscape];simp only[Result.andThen];rw[Oper.upon_value]
 go_wp2
 rw[Lib.run_from_unsafe w ⟨b,0,none⟩ Gl QH hj hc zaa];simp only[Result.andThen];rw[Oper.upon_value]
 go_wp2
 go_end0
 exact⟨rfl,rfl⟩
theorem zab:liesAt Tryz.prog Tryz.prog.depth 172 (4 / Tryz.prog.cellsOf 172) 0 60 1=true:=by kernel_rfl
set_option maxHeartbeats 1000000 in
set_option maxRecDepth 100000 in
theorem z00(b:Nat)(w:World)(h0:w.cell? ⟨b,0,none⟩=some (.pointer none))(hc:w.shape? b=some (172,4))(he:w.frozen? ⟨b,0,none⟩=false):Calls Tryz.prog 56 #[.pointer (some ⟨b,0,none⟩)] w fun e w'=>e=.returned (.tuple #[])/\w'=w.setCell ⟨b,0,none⟩ (.pointer (some ⟨b,0,none⟩)):=by
 obtain⟨j,hj,hd⟩:=Option.map_eq_some_iff.1 i87
 go_enter Tryz.func56,Tryz.ntmps56
 go_wp2
 rw[Lib.run_to_unsafe w ⟨b,0,none⟩ QH Gl hj (by rw[hd];decide) hc (Nat.zero_lt_succ 3)];simp only[Result.andThen];rw[Oper.upon_value]
 go_wp2
 rw[run_callFunc_extern Tryz.func112 (by kernel_rfl) (by kernel_rfl) (by kernel_rfl) (e:=Extern.AbiNoEscape.same) (by kernel_rfl)];rw[Lib.run_noEscape];simp only[Result.andThen];rw[Oper.upon_value]
 go_wp2
 rw[Lib.run_from_unsafe w ⟨b,0,none⟩ Gl QH hj hc zab];simp only[Result.andThen];rw[Oper.upon_value]
 go_wp2
 go_end0
 exact⟨rfl,rfl⟩
theorem z54:Tryz.prog.follows .mixedOrders=true:=by kernel_rfl
set_option maxHeartbeats 2000000 in
set_option maxRecDepth 100000 in
theorem z01:WX Tryz.prog 27 58 122 3 9 5 where
 walk:=by
  intro b base q n cap bs w w2 c1 he hf;have mixed:=z54
  go_enter Tryz.func27,Tryz.ntmps27
  go_wp2
  go_region_o
  all_goals (go_wp2;go_ret;exact⟨rfl,rfl⟩)
 xB:=by
  intro b a cs el fz w hc hd sh hg;have hf:∀(W:World) (q:Option Addr),(Builtin.unsafeString_ #[122,3] 9 #[.pointer q,.int .i64 0]).run Tryz.prog W=.ok (.string .empty) W:=fun W q=>Lib.run_unsafeString_none W _ _ _ q;have hj:b<w.heap.size:=(Array.getElem?_eq_some_iff.1 hc).1;have c1:w.drew.cell? ⟨b,1,none⟩=some (.slice (some a) 0 0):=by have:w.drew.heap[b]?=some (.cells cs el fz):=hc;simp only[World.cell?,this];exact hd
  have he:(Builtin.unsafeSliceData_ #[58] 122 #[.slice (some a) 0 0]).run Tryz.prog w.drew=.ok (.pointer (some ⟨w.drew.heap.size,0,none⟩)) (w.drew.alloc (.view a 5)):=Lib.run_unsafeSliceData_zero w.drew _ _ 5 (by kernel_rfl) a 0 sh hg;have c2:(w.drew.alloc (.view a 5)).cell? ⟨b,1,none⟩=some (.slice (some a) 0 0):=by have:(w.drew.alloc (.view a 5)).heap[b]?=_:=(Lib.alloc_old w.drew _ b hj).trans hc;simp only[World.cell?,this];exact hd
  have c3:(w.alloc (.view a 5)).drew.cell? ⟨b,1,none⟩=some (.slice (some a) 0 0):=c2;have c0:w.cell? ⟨b,1,none⟩=some (.slice (some a) 0 0):=c1;have mixed:=z54
  go_enter Tryz.func27,Tryz.ntmps27
  go_wp2
  go_region_o
  all_goals (go_wp2;go_ret;exact⟨rfl,rfl⟩)
set_option maxHeartbeats 1000000 in
set_option maxRecDepth 100000 in
theorem z3v(s:ByteArray)(W:World):Calls Tryz.prog 115 #[.string s] W fun e w'=>e=.returned (.bool false)/\w'=W:=by
 go_enter Tryz.func115,Tryz.ntmps115
 go_wp2
 go_ret
 exact⟨rfl,rfl⟩
theorem z3w{P:Program}(t:TypeId)(a b:ByteArray)(w:World):(binOp .gtr t (.string a) (.string b)).run P w=.ok (.bool (!(Op.bytesLess a.toList b.toList||a.toList==b.toList))) w:=by simp[binOp,Op.stringOp,pure]
def wg(s t:ByteArray):Int:=bif Op.bytesLess s.toList t.toList then -1 else bif !(Op.bytesLess s.toList t.toList||s.toList==t.toList) then 1 else 0
set_option maxHeartbeats 1000000 in
set_option maxRecDepth 100000 in
theorem z8d(s t:ByteArray)(W:World):Calls Tryz.prog 61 #[.string s,.string t] W fun e w'=>e=.returned (.int .i64 (wg s t))/\w'=W:=by
 have h:=z3v;unfold wg
 go_enter Tryz.func61,Tryz.ntmps61
 go_wp2_with (go_at_call 115;refine(h _ _).mono ?_;rintro e w' ⟨rfl,rfl⟩)
 ·go_ret
  rename_i e1;exact⟨by rw[e1];rfl,rfl⟩
 ·rename_i e1 _ _ _ _ _ _;rw[z3w];simp only[Result.andThen];rw[Oper.upon_value];generalize hg:(!(Op.bytesLess s.toList t.toList||s.toList==t.toList))=g
  go_wp2
  ·go_ret
   rename_i e2;rw[e2,e1] at hg;exact⟨by rw[e1,hg];rfl,rfl⟩
  ·go_ret
   rename_i e2;rw[e2,e1] at hg;exact⟨by rw[e1,hg];rfl,rfl⟩
theorem z8e(W:World)(a b:Go.Obj):(W.alloc a).alloc b=grow (W.drewN 0) #[a,b]:=by simp only[alloc_eq_grow,grow_grow];rfl
set_option maxHeartbeats 1000000 in
set_option maxRecDepth 100000 in
theorem qv0(n m p q:Int)(s t:ByteArray)(W:World):Calls Tryz.prog 60 #[.agg #[.string s,.int .i64 n,.int .i64 m],.agg #[.string t,.int .i64 p,.int .i64 q]] W fun e w'=>e=.returned (.int .i64 (wg s t))/\∃q os',w'=grow (W.drewN q) os':=by
 have h:=z8d;generalize wg=f at h ⊢
 go_enter Tryz.func60,Tryz.ntmps60
 go_wp2_with (go_at_call 61;refine(h _ _ _).mono ?_;rintro e w' ⟨rfl,rfl⟩)
 go_ret
 exact⟨rfl,0,_,z8e _ _ _⟩
abbrev QI:Ty:=.st (.pair .str (.pair (.int .i64) (.int .i64)))
abbrev FT(m:List ay):={x:ay // x∈m}
def um(l:List Int):ByteArray:=⟨(l.map fun b=>UInt8.ofNat b.toNat).toArray⟩
def wh(x:ay):List Value:=[.string (um x.1),.int .i64 x.2.1,.int .i64 x.2.2]
theorem q9g(l:List Int)(h:∀b,b∈l->0<=b/\b<=255):(um l).data.toList.map (fun b=>(b.toNat:Int))=l:=by
 show(l.map fun b=>UInt8.ofNat b.toNat).map (fun b=>(b.toNat:Int))=l;rw[zX]
 induction l with
 |nil=>rfl
 |cons a l ih=>rw[zI,ih fun b hb=>h b (zm _ hb)];obtain⟨h0,h1⟩:=h a (zj ..);congr 1;show((UInt8.ofNat a.toNat).toNat:Int)=a;rw[UInt8.toNat_ofNat',Nat.mod_eq_of_lt om];omega
theorem qv1(s:ByteArray):um (s.data.toList.map fun b=>(b.toNat:Int))=s:=qma s
theorem aag(imm:Nat->Prop)(w:World)(x:ay)(hx:uP x=true)(cs:List Value):az imm w QI x cs↔cs=wh x:=by
 obtain⟨s,n,m⟩:=x;obtain⟨h5,h6,⟨h3,h4⟩,h7,h8⟩:=WS hx;constructor
 ·rintro⟨c1,d1,e1,⟨t,e3,h1,h2⟩,c2,d2,e2,g2,g3⟩;have h1:t.data.toList.map (fun b=>(b.toNat:Int))=s:=h1;obtain⟨g2,_⟩:=g2;have g2:c2=[.int .i64 n]:=g2;obtain⟨g3,_⟩:=g3;have g3:d2=[.int .i64 m]:=g3;subst e1 e2 e3 h1 g2 g3;show _=[Value.string (um _),_,_];rw[qv1];rfl
 ·intro e;subst e;refine⟨[.string (um s)],_,rfl,⟨um s,rfl,q9g s h5,?_⟩,[.int .i64 n],_,rfl,⟨rfl,h3,h4⟩,rfl,h7,h8⟩;show(s.map fun b=>UInt8.ofNat b.toNat).toArray.size<=_;simpa[bU] using h6
def UA(m:List ay)(x y:FT m):Int:=wg (um x.1.1) (um y.1.1)
theorem QJ{m:List ay}(hm:∀x,x∈m->uP x=true)(x y:FT m):ltOf (UA m) x y=uQ x.1 y.1:=by have hs:=q9g x.1.1 (WS (hm _ x.2)).1;have ht:=q9g y.1.1 (WS (hm _ y.2)).1;have h:=Vr (um x.1.1).data.toList (um y.1.1).data.toList;rw[hs,ht] at h;unfold ltOf UA wg uQ;rw[h,ByteArray.toList_eq,ByteArray.toList_eq];cases Op.bytesLess (um x.1.1).data.toList (um y.1.1).data.toList<;>cases ((um x.1.1).data.toList==(um y.1.1).data.toList)<;>rfl
theorem aah{m:List ay}(hm:∀x,x∈m->uP x=true):Go.Sort.SWO (ltOf (UA m)) where
 irrefl x:=by rw[QJ hm];exact WR _
 trans x y z h1 h2:=by rw[QJ hm] at*;exact OB _ _ _ h1 h2
 ntrans x y z h1 h2:=by
  rw[QJ hm] at*
  unfold uQ at*
  cases h:strLt x.1.1 z.1.1 with
  |false=>rfl
  |true=>
   exfalso;cases h3:strLt y.1.1 x.1.1 with
   |true=>rw[OB _ _ _ h3 h] at h2;cases h2
   |false=>have e:=OC _ _ h1 h3;rw[e] at h;rw[h] at h2;cases h2
def zac:aj (aR C.sigs 223).ins.aU->Option (aj (aR C.sigs 223).outs.aU):=fun x=>bif x.1.l.all uO&&decide (x.1.l.length<4611686018427387904) then some ((⟨x.1.nil,x.1.l.mergeSort fun a b=>!strLt b a⟩:Sl (List Int)),()) else none
def zbb:aj (aR C.sigs 210).ins.aU->Option (aj (aR C.sigs 210).outs.aU):=fun x=>some (lQ x.2.1 x.1,())
def zad:aj (aR C.sigs 297).ins.aU->Option (aj (aR C.sigs 297).outs.aU):=fun x=>bif x.1.nil&&x.1.l.isEmpty&&decide (0<=x.2.1)&&decide (x.2.1<=1000000) then some ((⟨decide (x.2.1=0),([]:List Int)⟩:Sl Int),()) else none
def zbc:aj (aR C.sigs 247).ins.aU->Option (aj (aR C.sigs 247).outs.aU):=fun x=>bif decide (x.2.1=10)&&(decide (-9223372036854775808<=x.1)&&decide (x.1<=9223372036854775807)) then some (rC x.1,()) else none
def zbd:aj (aR C.sigs 246).ins.aU->Option (aj (aR C.sigs 246).outs.aU):=fun x=>bif (x.2.1==[45])&&((x.2.2.1==[126])&&(decide (x.2.2.2.1=1)&&decide (x.1.length<=1000))) then some (kM x.1,()) else none
theorem zbe:aa C 210 zbb:=by intro x y h;obtain⟨l,c,u⟩:=x;have h:some ((lQ c l,()):Int×Unit)=some y:=h;injection h with h;subst h;exact Call.jG 210 _ _ (z8x (C:=C) (f:=206) ⟨_,Tryz.func206,by kernel_rfl⟩ (fun s c w=>Any.strings_IndexByte Tryz.ixL s c w) l c)
theorem zae:aa C 297 zad:=by
 intro x y h;obtain⟨⟨nil,l⟩,n,u⟩:=x;have h:(bif nil&&l.isEmpty&&decide (0<=n)&&decide (n<=1000000) then some ((⟨decide (n=0),([]:List Int)⟩,()):Sl Int×Unit) else none)=some y:=h;cases hb:(nil&&l.isEmpty&&decide (0<=n)&&decide (n<=1000000)) with
 |false=>rw[hb] at h;cases h
 |true=>
  rw[hb] at h;injection h with h;subst h;simp only[zd,decide_eq_true_eq] at hb;obtain⟨⟨⟨h1,h2⟩,h3⟩,h4⟩:=hb;subst h1;obtain rfl:l=[]:=List.isEmpty_iff.1 h2;obtain⟨k,rfl⟩:=Int.eq_ofNat_of_zero_le h3;have h4:(k:Int)<=1000000:=h4;have hc:(Tryz.prog.info? (Tryz.growL_ren.t 25)).map (fun i=>(i.zero,i.size,i.bytes))=some (some (.int .i64 0),1,8):=by kernel_rfl
  obtain⟨i0,i1,i2⟩:=Option.map_eq_some_iff.1 hc;injection i2 with i2 i3;injection i3 with i3 i4;have key:=z1e (C:=C) (f:=343) ⟨_,Tryz.func343,by kernel_rfl⟩
   (fun w=>Any8.slices_Grow_room Tryz.growL none 0 0 0 w (Nat.le_refl _) dc dc (Nat.le_refl _))
   (fun n w hn hd=>by have g:=Any8.slices_Grow_grow Tryz.growL i0 (.int .i64 0) i1 i2 om none 0 0 n [] w (Nat.le_refl _) om (by rw[i4];omega) om (by rw[i3];rfl) (fun _=>rfl) (fun a h=>by cases h);refine Calls.mono g fun e w' ⟨e1,e2⟩=>⟨_,_,_,e1,e2,?_⟩;simp[Builtin.zeroCells];have hs:(Value.int IntKind.i64 0).cells.size=1:=rfl;rw[hs];omega) k om
  have e:decide ((k:Int)=0)=decide (k=0):=decide_eq_decide.2 om;rw[e];exact Call.jG 297 _ _ key
theorem zbf:aa C 247 zbc:=by
 intro x y h;obtain⟨n,k,u⟩:=x;have h:(bif decide (k=10)&&(decide (-9223372036854775808<=n)&&decide (n<=9223372036854775807)) then some ((rC n,()):List Int×Unit) else none)=some y:=h;cases hb:(decide (k=10)&&(decide (-9223372036854775808<=n)&&decide (n<=9223372036854775807))) with
 |false=>rw[hb] at h;cases h
 |true=>
  rw[hb] at h;injection h with h;subst h;simp only[zd,decide_eq_true_eq] at hb;obtain⟨rfl,h2,h3⟩:=hb;have ht:z8c=Lib.pow10Tab:=dc
  exact Call.jG 247 _ _ (z6h (C:=C) (f:=247) ⟨_,Tryz.func247,by kernel_rfl⟩ (g:=5) (m:=20) (zs:=z8c) (by kernel_rfl) rfl
   (fun n h0 h1 w hc=>Any.strconv_FormatInt_10 Tryz.fmtL n h0 h1 w (by rw[<-ht];exact hc)) n h2 h3)
theorem z3x:Builder.Extra Tryz.prog Tryz.repL_ren where
 sizeBuilder:=by kernel_rfl
 liesBuilder:=by kernel_rfl
 t5:=Tryz.repL.t5
 a5:=Tryz.repL.a5
 z5:=Tryz.repL.z5
 v5:=Tryz.repL.v5
 infoByte:=by kernel_rfl
 cellsByte:=by kernel_rfl
 sizeByte:=by kernel_rfl
 neB5:=dc
theorem zbg:aa C 246 zbd:=by
 intro x y h;obtain⟨l,a,b,k,u⟩:=x;have h:(bif (a==[45])&&((b==[126])&&(decide (k=1)&&decide (l.length<=1000))) then some ((kM l,()):List Int×Unit) else none)=some y:=h;cases hb:((a==[45])&&((b==[126])&&(decide (k=1)&&decide (l.length<=1000)))) with
 |false=>rw[hb] at h;cases h
 |true=>rw[hb] at h;injection h with h;subst h;simp only[zd,decide_eq_true_eq,beq_iff_eq] at hb;obtain⟨rfl,rfl,rfl,h3⟩:=hb;exact Call.jG 246 _ _ (z6i (C:=C) (f:=246) ⟨_,Tryz.func246,by kernel_rfl⟩ (fun s w hs=>z1k Tryz.repL z3x s w hs) l h3)
def uo(x:List UInt8):List Int:=x.map fun b=>(b.toNat:Int)
def Nh(l:List Int):List UInt8:=l.map fun b=>UInt8.ofNat b.toNat
theorem qjo:∀x y:List UInt8,uo x=uo y->x=y
 |[],[],_=>rfl
 |[],_::_,h=>by cases h
 |_::_,[],h=>by cases h
 |a::x,b::y,h=>by injection h with h1 h2;have h1:(a.toNat:Int)=(b.toNat:Int):=h1;have e:a=b:=UInt8.toNat_inj.1 om;rw[qjo x y h2,e]
theorem qco:∀l:List Int,(∀b,b∈l->0<=b/\b<=255)->uo (Nh l)=l
 |[],_=>rfl
 |a::l,h=>by obtain⟨h0,h1⟩:=h a (zj ..);show(((UInt8.ofNat a.toNat).toNat:Nat):Int)::uo (Nh l)=_;rw[qco l fun b hb=>h b (zm _ hb),UInt8.toNat_ofNat',Nat.mod_eq_of_lt om];congr 1;omega
theorem qjp:∀x y:List UInt8,strLt (uo x) (uo y)=decide (x<y)
 |[],[]=>rfl
 |[],b::y=>by show true=_;exact(zo (List.nil_lt_cons b y)).symm
 |a::x,[]=>by show false=_;exact(zn (List.not_lt_nil _)).symm
 |a::x,b::y=>by
  show(decide ((a.toNat:Int)<(b.toNat:Int))||(decide ((a.toNat:Int)=(b.toNat:Int))&&strLt (uo x) (uo y)))=_;rw[qjp x y,Bool.eq_iff_iff,decide_eq_true_eq,List.cons_lt_cons_iff];simp only[Bool.or_eq_true,zd,decide_eq_true_eq];have e1:((a.toNat:Int)<(b.toNat:Int))↔a<b:=by rw[UInt8.lt_iff_toNat_lt];omega
  have e2:((a.toNat:Int)=(b.toNat:Int))↔a=b:=by rw[<-UInt8.toNat_inj];omega
  rw[e1,e2]
theorem z03(imm:Nat->Prop)(w:World)(x:List UInt8)(hx:x.length<=9223372036854775807)(cs:List Value):az imm w .str (uo x) cs↔cs=[encStr x]:=by
 constructor
 ·rintro⟨t,e3,h1,h2⟩;have h1:t.data.toList.map (fun b=>(b.toNat:Int))=uo x:=h1;have h3:t.data.toList=x:=qjo _ _ h1;subst e3;have:t=⟨x.toArray⟩:=by rw[<-h3]
  rw[this]
 ·intro e;subst e;refine⟨⟨x.toArray⟩,rfl,rfl,?_⟩;show x.toArray.size<=_;simpa[bU] using hx
theorem zaf:aa C 223 zac:=by
 intro x y h;obtain⟨⟨nil,l⟩,u⟩:=x;have h:(bif l.all uO&&decide (l.length<4611686018427387904) then some ((⟨nil,l.mergeSort fun a b=>!strLt b a⟩:Sl (List Int)),()) else none)=some y:=h;cases hg:(l.all uO&&decide (l.length<4611686018427387904)) with
 |false=>rw[hg] at h;cases h
 |true=>
  rw[hg] at h;injection h with h;subst h;simp only[zd,decide_eq_true_eq] at hg;obtain⟨g1,g3⟩:=hg;have gg:∀s,s∈l->(∀b,b∈s->0<=b/\b<=255)/\s.length<=9223372036854775807:=fun s hs=>qxa (zS.1 g1 s hs);have hl:l=(l.map Nh).map uo:=by rw[zX];exact((jd (g:=fun s=>s) fun s hs=>qco s (gg s hs).1).trans (List.map_id' l)).symm
  have key:=qxi (C:=C) (f:=219) (t:=.str) encStr uo (fun x=>x.length<=9223372036854775807) (fun l=>l.mergeSort fun x y=>decide (x<=y)) (by intro h;cases h) rfl
   (fun imm w x hx cs=>z03 imm w x hx cs) (fun l=>List.length_mergeSort l) (fun l x hx=>(List.mem_mergeSort).1 hx)
   ⟨_,Tryz.func219,by kernel_rfl⟩ (fun p cap w=>Any.slices_Sort_string_none Tryz.sortL p cap w)
   (fun eg off cap zs w hH hb hc=>calls_of_every_depth fun D=>AnyS.slices_Sort_string_alone Tryz.sortL D eg off cap zs w hH hb hc)
   nil (l.map Nh) (fun x hx=>by obtain⟨s,hs,rfl⟩:=zZ.1 hx;show(s.map _).length<=_;rw[zA];exact(gg s hs).2) (by rw[zA];exact g3)
  have e:((l.map Nh).mergeSort fun x y=>decide (x<=y)).map uo=((l.map Nh).map uo).mergeSort fun a b=>!strLt b a:=
   List.map_mergeSort (fun a _ b _=>by
    rw[qjp];by_cases h:b<a
    ·rw[zo h,zn (fun e:a<=b=>e h)];rfl
    ·rw[zn h,zo (show a<=b from h)];rfl)
  rw[e,<-hl] at key;exact Call.jG 223 _ _ key
def zbh:aj (aR C.sigs 260).ins.aU->Option (aj (aR C.sigs 260).outs.aU):=fun x=>bif (x.1==[32])&&(decide (0<=x.2.1)&&decide (x.2.1<=1000000)) then some (List.replicate x.2.1.toNat (32:Int),()) else none
theorem qb2:∀n:Nat,(Lib.repeatL [32] n).map (fun b=>(b.toNat:Int))=List.replicate n 32
 |0=>rfl
 |n+1=>by show(([32]++Lib.repeatL [32] n).map _)=_;rw[zP,qb2 n,List.replicate_succ];rfl
theorem z3y:Builder.Extra Tryz.prog Tryz.rptL_ren where
 sizeBuilder:=by kernel_rfl
 liesBuilder:=by kernel_rfl
 t5:=Tryz.rptL.t5
 a5:=Tryz.rptL.a5
 z5:=Tryz.rptL.z5
 v5:=Tryz.rptL.v5
 infoByte:=by kernel_rfl
 cellsByte:=by kernel_rfl
 sizeByte:=by kernel_rfl
 neB5:=dc
theorem zbi:aa C 260 zbh:=by
 intro x y h;obtain⟨l,n,u⟩:=x;have h:(bif (l==[32])&&(decide (0<=n)&&decide (n<=1000000)) then some ((List.replicate n.toNat (32:Int),()):List Int×Unit) else none)=some y:=h;cases hb:((l==[32])&&(decide (0<=n)&&decide (n<=1000000))) with
 |false=>rw[hb] at h;cases h
 |true=>
  rw[hb] at h;injection h with h;subst h;simp only[zd,decide_eq_true_eq,beq_iff_eq] at hb;obtain⟨rfl,h2,h3⟩:=hb;obtain⟨k,rfl⟩:=Int.eq_ofNat_of_zero_le h2;refine Call.jG 260 _ _ ?_;intro X φ w OD hm hz;have hm:MRel C X φ lP w:=hm;have hz:bV φ lP (ah X φ lP w) w [.d .str ([32]:List Int),.d (.int .i64) (k:Int)] OD:=hz;refine⟨⟨_,Tryz.func259,by kernel_rfl⟩,?_⟩;obtain⟨z0,r0,rfl,g1,z1,r1,rfl,g2,g3⟩:=hz;have g3:r1=[]:=g3;subst g3;obtain⟨s,rfl,hs,he⟩:=nz g1;obtain⟨rfl,_⟩:=kI g2;have hc:s=⟨#[32]⟩:=by
   obtain⟨⟨d⟩⟩:=s
   match d,hs with
   |[],hs=>cases hs
   |[b],hs=>
    have hs:[(b.toNat:Int)]=[32]:=hs;injection hs with hs _;have e:b=32:=UInt8.toNat_inj.1 (by
     have:(32:UInt8).toNat=32:=rfl;omega)
    rw[e]
   |_::_::_,hs=>exact absurd (congrArg List.length hs) (by simp)
  subst hc;have hd:(⟨#[32]⟩:ByteArray).size=1:=rfl;have hk:(k:Int)<=1000000:=h3;refine Calls.mono (Any.strings_Repeat Tryz.rptL z3y ⟨#[32]⟩ k w om (by rw[hd];omega)) fun e w' ⟨e1,e2⟩=>?_;subst e1;refine WU hm (b:=⟨(Lib.repeatL [32] k).toArray⟩) e2 ?_ ?_
  ·exact qb2 k
  ·have:=congrArg List.length (qb2 k);rw[zA,List.length_replicate] at this;show(Lib.repeatL [32] k).toArray.size<=bU;unfold bU;simp only[List.size_toArray];omega
theorem z55:OE Tryz.prog Tryz.prog.types.size=true:=by kernel_rfl
def zbj:aj (aR C.sigs 55).ins.aU->Option (aj (aR C.sigs 55).outs.aU):=fun x=>some (true,x.2.1,())
def zbk:aj (aR C.sigs 56).ins.aU->Option (aj (aR C.sigs 56).outs.aU):=fun x=>some (true,x.2.1,x.2.2.1,x.2.2.2.1,())
def zbl:aj (aR C.sigs 25).ins.aU->Option (aj (aR C.sigs 25).outs.aU):=fun x=>some (x.2.1.l,())
def zag:aj (aR C.sigs 26).ins.aU->Option (aj (aR C.sigs 26).outs.aU):=fun x=>some (x.2.2.2.1.l,())
theorem zbm:aa C 55 zbj:=by intro x y h;obtain⟨b,s,u⟩:=x;have h:some ((true,s,()):Bool×Sl Int×Unit)=some y:=h;injection h with h;subst h;exact Call.jG 55 _ _ (z92 (C:=C) (f:=56) ⟨_,Tryz.func56,by kernel_rfl⟩ qzz z3u b s)
theorem zbn:aa C 56 zbk:=by intro x y h;obtain⟨b,q,n,s,u⟩:=x;have h:some ((true,q,n,s,()):Bool×(Nat×Nat)×Int×Sl Int×Unit)=some y:=h;injection h with h;subst h;exact Call.jG 56 _ _ (z95 (C:=C) (f:=56) ⟨_,Tryz.func56,by kernel_rfl⟩ qzz z00 b q n s)
theorem zbo:aa C 25 zbl:=by intro x y h;obtain⟨b,s,u⟩:=x;have h:some ((s.l,()):List Int×Unit)=some y:=h;injection h with h;subst h;exact Call.jG 25 _ _ (z6k (C:=C) (f:=27) z01 (by kernel_rfl) ⟨_,Tryz.func27,by kernel_rfl⟩ (by kernel_rfl) (qn6 z55) b s)
theorem zah:aa C 26 zag:=by intro x y h;obtain⟨b,q,n,s,u⟩:=x;have h:some ((s.l,()):List Int×Unit)=some y:=h;injection h with h;subst h;exact Call.jG 26 _ _ (z6l (C:=C) (f:=27) z01 (by kernel_rfl) ⟨_,Tryz.func27,by kernel_rfl⟩ (by kernel_rfl) (qn6 z55) b q n s)
def z8f:aj (aR C.sigs 59).ins.aU->Option (aj (aR C.sigs 59).outs.aU):=fun x=>bif x.1.l.all uP&&GZ x.1.l&&decide (x.1.l.length<4611686018427387904) then some ((⟨x.1.nil,x.1.l.mergeSort fun a b=>!uQ b a⟩:Sl ay),()) else none
theorem z8g:aa C 59 z8f:=by
 intro x y h;obtain⟨⟨nil,l⟩,u⟩:=x;have h:(bif l.all uP&&GZ l&&decide (l.length<4611686018427387904) then some ((⟨nil,l.mergeSort fun a b=>!uQ b a⟩:Sl ay),()) else none)=some y:=h;cases hg:(l.all uP&&GZ l&&decide (l.length<4611686018427387904)) with
 |false=>rw[hg] at h;cases h
 |true=>
  rw[hg] at h;injection h with h;subst h;simp only[zd,decide_eq_true_eq] at hg;obtain⟨⟨g1,g2⟩,g3⟩:=hg;have main:∀(m:List ay) (hm:∀x,x∈m->uP x=true) (hu:∀x y,x∈m->y∈m->x.1=y.1->x=y) (d:ay) (hd:d∈m) (l':List (FT m)),l'.length<4611686018427387904->
    tG C (qxg 59 60 QI) (⟨nil,l'.map (·.1)⟩,()) (⟨nil,(l'.map (·.1)).mergeSort fun a b=>!uQ b a⟩,()):=by
   intro m hm hu d hd l' hc
   letI:Inhabited (FT m):=⟨⟨d,hd⟩⟩
   have hs:∀(eg off cap:Nat) (a:Array (FT m)) (w:World),HoldsK (fun x:FT m=>wh x.1) (aI QI) w eg off a->eg<w.heap.size->a.size<4611686018427387904->
     Calls C.P 59 #[.slice (some ⟨eg,off,none⟩) a.size cap,.func (.func 60) #[] #[]] w fun e w'=>e=.returned (.tuple #[])/\∃n os,w'=sortWorldK (fun x:FT m=>wh x.1) (aI QI) w eg off n (a.toList.mergeSort fun x y=>!uQ y.1 x.1).toArray os:=by
    intro eg off cap a w hH hb he;have:=AnyQ.slices_SortFunc_total Tryz.sortfL 3 Tryz.isAgg56 Tryz.sizeOf56 (fun x:FT m=>wh x.1) (fun _=>rfl) (fun x v hv=>by
     simp only[wh,zt,List.not_mem_nil,or_false] at hv;rcases hv with rfl|rfl|rfl<;>rfl) (UA m) (aah hm) 60 #[] eg off cap a w (enters_of Tryz.func60 (by kernel_rfl) rfl) (fun _ _ _ _ x y=>qv0 _ _ _ _ _ _ _) hH hb he
     (fun x y h1 h2=>by rw[QJ hm] at h1 h2;exact Subtype.ext (hu _ _ x.2 y.2 (OC _ _ h1 h2)))
    simp only[QJ hm] at this;exact this
   have key:=z1g (C:=C) (f:=59) (g:=60) (t:=QI) (fun x:FT m=>wh x.1) (·.1) (fun l=>l.mergeSort fun x y=>!uQ y.1 x.1) (by intro h;cases h) (fun imm w x cs=>aag imm w x.1 (hm _ x.2) cs) (fun _=>rfl) (fun l=>List.length_mergeSort l)
    ⟨_,Tryz.func59,by kernel_rfl⟩ (fun p cap fv w=>AnyF.slices_SortFunc_none Tryz.sortfL p cap fv w) hs dc nil l' hc
   have e:(l'.mergeSort fun x y=>!uQ y.1 x.1).map (·.1)=(l'.map (·.1)).mergeSort fun a b=>!uQ b a:=List.map_mergeSort (fun a _ b _=>rfl);rw[e] at key;exact key
  cases l with
  |nil=>exact Call.jG 59 _ _ (main [([],0,0)] (fun x hx=>by rw[zB.1 hx];decide) (fun x y hx hy _=>by rw[zB.1 hx,zB.1 hy]) _ (zB.2 rfl) [] dc)
  |cons a r=>have key:=main (a::r) (fun x hx=>zS.1 g1 x hx) (fun x y hx hy e=>qtu g2 hx hy e) a (zj ..) (a::r).attach (by rw[List.length_attach];exact g3);rw[List.attach_map_subtype_val] at key;exact Call.jG 59 _ _ key
theorem aL{C:Cx}{k:Nat}{O:gY C.sigs}(b:Lf->gY C.sigs->(aj (aR C.sigs k).ins.aU->Option (aj (aR C.sigs k).outs.aU))){f:(aj (aR C.sigs k).ins.aU->Option (aj (aR C.sigs k).outs.aU))}(hO:MF C O)(e:∀L R x,Me L C R k x=b L R x:=by intro _ _ _;kernel_rfl)(o:∀x,b lf O x=f x:=by intro _;kernel_rfl):aa C k f:=mkC b hO e o
theorem Ly:aa C 136 nI:=aL (fun L R x=>xR L  x) aK
theorem Lz:aa C 137 nJ:=aL (fun L R x=>xS L  x) aK
theorem LA:aa C 182 mg:=aL (fun L R x=>xT L  x) aK
theorem QK:aa C 134 mh:=aL (fun L R x=>xU L (R 136) (R 137) (R 182) x) (au Ly (au Lz (au LA aK)))
theorem QL:aa C 132 rP:=aL (fun L R x=>Dm L (R 134) x) (au QK aK)
theorem QM:aa C 160 o7:=aL (fun L R x=>Dn L  x) aK
theorem Gm:aa C 98 iW:=aL (fun L R x=>xV L (R 160) x) (au QM aK)
theorem aai:aa C 261 Dq:=aL (fun L R x=>Dp L  x) aK
theorem aaj:aa C 209 xW:=aL (fun L R x=>Dr L (R 261) x) (au aai aK)
theorem Gn:aa C 135 mi:=aL (fun L R x=>xX L (R 98) (R 209) x) (au Gm (au aaj aK))
theorem aak:aa C 130 rQ:=aL (fun L R x=>xY L (R 132) (R 135) (R 136) x) (au QL (au Gn (au Ly aK)))
theorem aal:aa C 131 rR:=aL (fun L R x=>xZ L (R 132) (R 135) (R 137) x) (au QL (au Gn (au Lz aK)))
theorem QN:aa C 210 mj:=zbe
theorem LC:aa C 139 kN:=aL (fun L R x=>ya L (R 210) x) (au QN aK)
theorem aam:aa C 133 uY:=aL (fun L R x=>Ds L (R 139) x) (au LC aK)
theorem LD:aa C 138 ml:=aL (fun L R x=>yc L  x) aK
theorem s9:aa C 65 il:=aL (fun L R x=>yd L (R 130) (R 131) (R 133) (R 135) (R 138) x) (au aak (au aal (au aam (au Gn (au LD aK)))))
theorem QO:aa C 53 kO:=aL (fun L R x=>ye L (R 65) x) (au s9 aK)
theorem aan:aa C 52 o8:=aL (fun L R x=>yf L (R 53) x) (au QO aK)
theorem aao:aa C 121 yg:=aL (fun L R x=>Dt L (R 52) x) (au aan aK)
theorem aap:aa C 51 rS:=aL (fun L R x=>yh L (R 121) x) (au aao aK)
theorem aaq:aa C 124 o9:=aL (fun L R x=>yi L  x) aK
theorem aar:aa C 122 yj:=aL (fun L R x=>Du L (R 124) x) (au aaq aK)
theorem Gp:aa C 54 kg:=aL (fun L R x=>yk L (R 122) x) (au aar aK)
theorem qG:aa C 16 fK:=aL (fun L R x=>Dv L (R 51) (R 54) x) (au aap (au Gp aK))
theorem QP:aa C 70 pa:=aL (fun L R x=>yl L (R 65) x) (au s9 aK)
theorem LG:aa C 32 kP:=aL (fun L R x=>ym L (R 70) x) (au QP aK)
theorem aas:aa C 31 rT:=aL (fun L R x=>yo L (R 32) x) (au LG aK)
theorem aat:aa C 72 yp:=aL (fun L R x=>Dw L (R 31) x) (au aas aK)
theorem aau:aa C 33 nK:=aL (fun L R x=>yq L (R 72) x) (au aat aK)
theorem QQ:aa C 74 pb:=aL (fun L R x=>yu L (R 65) x) (au s9 aK)
theorem BM:aa C 189 kh:=aL (fun L R x=>Dx L  x) aK
theorem Gq:aa C 202 kl:=aL (fun L R x=>yv L (R 189) x) (au BM aK)
theorem aav:aa C 216 rU:=aL (fun L R x=>Dy L (R 202) x) (au Gq aK)
theorem QR:aa C 226 nL:=aL (fun L R x=>yw L  x) aK
theorem aaw:aa C 282 DA:=aL (fun L R x=>Dz L  x) aK
theorem aax:aa C 265 eT:=aL (fun L R x=>yx L (R 282) x) (au aaw aK)
theorem aay:aa C 283 rV:=aL (fun L R x=>yz L  x) aK
theorem aaz:aa C 284 uZ:=aL (fun L R x=>DB L  x) aK
theorem aaA:aa C 291 rW:=aL (fun L R x=>yA L  x) aK
theorem aaB:aa C 219 rY:=aL (fun L R x=>yB L (R 70) (R 74) (R 138) (R 226) (R 265) (R 283) (R 284) (R 291) x) (au QP (au QQ (au LD (au QR (au aax (au aay (au aaz (au aaA aK))))))))
theorem aaC:aa C 218 pc:=aL (fun L R x=>yC L (R 219) x) (au aaB aK)
theorem aaD:aa C 217 yD:=C8 (C:=C) (k:=217) (fun L R x=>DC L (R 217) (R 218) x) (F:=kQ) (O:=fun g=>(aC 217 g (aC 218 pc dK))) (fun g hg=>(au hg (au aaC aK))) (fun _ _ _=>by kernel_rfl) (fun _ _=>by kernel_rfl)
theorem aaE:aa C 221 rZ:=aL (fun L R x=>yE L (R 189) x) (au BM aK)
theorem QT:aa C 222 r7:=aL (fun L R x=>DE L  x) aK
theorem aaF:aa C 223 r8:=zaf
theorem aaG:aa C 224 r9:=aL (fun L R x=>DF L  x) aK
theorem aaH:aa C 225 sa:=aL (fun L R x=>yF L (R 222) x) (au QT aK)
theorem aaI:aa C 220 pe:=aL (fun L R x=>yG L (R 221) (R 222) (R 223) (R 224) (R 225) x) (au aaE (au QT (au aaF (au aaG (au aaH aK)))))
theorem aaJ:aa C 148 sb:=aL (fun L R x=>DG L (R 189) (R 202) (R 216) (R 217) (R 220) (R 226) x) (au BM (au Gq (au aav (au aaD (au aaI (au QR aK))))))
theorem LH:aa C 75 im:=aL (fun L R x=>yH L (R 148) x) (au aaJ aK)
theorem QU:aa C 36 kS:=aL (fun L R x=>yI L (R 74) (R 75) x) (au QQ (au LH aK))
theorem aaK:aa C 35 sc:=aL (fun L R x=>yJ L (R 36) x) (au QU aK)
theorem aaL:aa C 73 yK:=aL (fun L R x=>DH L (R 35) x) (au aaK aK)
theorem aaM:aa C 34 nM:=aL (fun L R x=>yL L (R 73) x) (au aaL aK)
theorem QV:aa C 90 mm:=aL (fun L R x=>yM L (R 65) x) (au s9 aK)
theorem aaN:aa C 228 se:=aL (fun L R x=>yN L (R 65) x) (au s9 aK)
theorem aaO:aa C 227 si:=aL (fun L R x=>yO L (R 228) x) (au aaN aK)
theorem aaP:aa C 158 yP:=aL (fun L R x=>DI L (R 227) x) (au aaO aK)
theorem aaQ:aa C 96 sj:=aL (fun L R x=>yQ L (R 158) x) (au aaP aK)
theorem QW:aa C 151 nN:=aL (fun L R x=>yR L (R 96) (R 202) x) (au aaQ (au Gq aK))
theorem aaR:aa C 150 sq:=aL (fun L R x=>yS L  x) aK
theorem aaS:aa C 229 yT:=aL (fun L R x=>DJ L (R 150) x) (au aaR aK)
theorem aaT:aa C 152 u0:=aL (fun L R x=>yU L (R 229) x) (au aaS aK)
theorem aaU:aa C 266 yV:=aL (fun L R x=>DK L  x) aK
theorem aaV:aa C 230 pf:=aL (fun L R x=>yW L (R 266) x) (au aaU aK)
theorem aaW:aa C 153 u7:=aL (fun L R x=>DL L (R 151) (R 230) x) (au QW (au aaV aK))
theorem aaX:aa C 149 vc:=aL (fun L R x=>yX L (R 151) (R 152) (R 153) x) (au QW (au aaT (au aaW aK)))
theorem aaY:aa C 154 pg:=aL (fun L R x=>yY L (R 149) x) (au aaX aK)
theorem aaZ:aa C 157 yZ:=aL (fun L R x=>DM L (R 154) x) (au aaY aK)
theorem aa0:aa C 94 ph:=aL (fun L R x=>y0 L (R 157) x) (au aaZ aK)
theorem aa1:aa C 79 ve:=aL (fun L R x=>DN L (R 90) (R 94) x) (au QV (au aa0 aK))
theorem aa2:aa C 78 su:=aL (fun L R x=>y5 L (R 79) x) (au aa1 aK)
theorem aa3:aa C 80 y6:=aL (fun L R x=>DO L (R 78) x) (au aa2 aK)
theorem aa4:aa C 76 pj:=aL (fun L R x=>y7 L (R 80) x) (au aa3 aK)
theorem aa5:aa C 83 sw:=aL (fun L R x=>y8 L  x) aK
theorem aa6:aa C 81 sx:=aL (fun L R x=>DP L (R 83) x) (au aa5 aK)
theorem aa7:aa C 155 sy:=aL (fun L R x=>y9 L  x) aK
theorem aa8:aa C 88 vf:=aL (fun L R x=>DQ L (R 155) x) (au aa7 aK)
theorem aa9:aa C 85 vg:=aL (fun L R x=>z6 L (R 88) x) (au aa8 aK)
theorem aba:aa C 84 pn:=aL (fun L R x=>z7 L (R 85) x) (au aa9 aK)
theorem abb:aa C 86 sA:=aL (fun L R x=>DR L (R 84) x) (au aba aK)
theorem abc:aa C 91 sB:=aL (fun L R x=>z8 L  x) aK
theorem abd:aa C 82 Aa:=aL (fun L R x=>DS L (R 91) x) (au abc aK)
theorem abe:aa C 77 sC:=aL (fun L R x=>Ab L (R 82) x) (au abd aK)
theorem abf:aa C 89 po:=aL (fun L R x=>Ac L (R 77) (R 90) x) (au abe (au QV aK))
theorem abg:aa C 159 Ad:=aL (fun L R x=>DT L (R 89) x) (au abf aK)
theorem abh:aa C 97 vh:=aL (fun L R x=>Ae L (R 159) x) (au abg aK)
theorem abi:aa C 95 pq:=aL (fun L R x=>Af L (R 97) x) (au abh aK)
theorem abj:aa C 156 Ag:=aL (fun L R x=>DU L (R 95) x) (au abi aK)
theorem abk:aa C 93 vi:=aL (fun L R x=>Ah L (R 156) x) (au abj aK)
theorem abl:aa C 92 pr:=aL (fun L R x=>Ai L (R 93) x) (au abk aK)
theorem abm:aa C 87 sD:=aL (fun L R x=>DV L (R 92) x) (au abl aK)
theorem QX:aa C 37 kT:=aL (fun L R x=>DW L (R 76) (R 81) (R 86) (R 87) x) (au aa4 (au aa6 (au abb (au abm aK))))
theorem abn:aa C 38 mn:=aL (fun L R x=>DY L (R 98) x) (au Gm aK)
theorem LI:aa C 9 nO:=aL (fun L R x=>DZ L (R 16) (R 32) (R 33) (R 34) (R 37) (R 38) x) (au qG (au LG (au aau (au aaM (au QX (au abn aK))))))
theorem QY:aa C 55 Aj:=zbm
theorem QZ:aa C 17 Ak:=aL (fun L R x=>D0 L (R 55) x) (au QY aK)
theorem LJ:aa C 19 kU:=aL (fun L R x=>Al L  x) aK
theorem Q0:aa C 58 kV:=aL (fun L R x=>Am L  x) aK
theorem abo:aa C 123 sE:=aL (fun L R x=>D1 L (R 58) x) (au Q0 aK)
theorem abp:aa C 57 pv:=aL (fun L R x=>D3 L (R 58) (R 123) x) (au Q0 (au abo aK))
theorem abq:aa C 59 vj:=z8g
theorem Q3:aa C 20 kW:=aL (fun L R x=>An L (R 16) (R 19) (R 53) (R 57) (R 59) x) (au qG (au LJ (au QO (au abp (au abq aK)))))
theorem wi:aa C 126 iq:=aL (fun L R x=>D4 L (R 189) x) (au BM aK)
theorem abr:aa C 62 IW:=C8 (C:=C) (k:=62) (fun L R x=>D5 L (R 62) (R 126) x) (F:=IV) (O:=fun g=>(aC 62 g (aC 126 iq dK))) (fun g hg=>(au hg (au wi aK))) (fun _ _ _=>by kernel_rfl) (fun _ _=>by kernel_rfl)
theorem abt:aa C 21 D7:=aL (fun L R x=>D6 L (R 62) x) (au abr aK)
theorem qb3(g:aj (aR C.sigs 127).ins.aU->Option (aj (aR C.sigs 127).outs.aU))(hg:aa C 127 g):aa C 190 (OO g):=aL (fun L R x=>Tq L (R 126) (R 127) x) (O:=(aC 126 iq (aC 127 g dK))) (au wi (au hg aK))
theorem ox:aa C 253 fp:=aL (fun L R x=>D8 L  x) aK
theorem abu:aa C 245 Ea:=aL (fun L R x=>D9 L (R 253) x) (au ox aK)
theorem Gr:aa C 191 kX:=aL (fun L R x=>Eb L (R 245) x) (au abu aK)
theorem abv:aa C 246 Ao:=zbg
theorem abw:aa C 247 Ap:=zbf
theorem LK:aa C 192 ir:=aL (fun L R x=>Aq L (R 138) (R 246) (R 247) x) (au LD (au abv (au abw aK)))
theorem Q4:aa C 25 Ar:=zbo
theorem abx:aa C 248 IX:=aL (fun L R x=>vk L (R 55) x) (au QY aK)
theorem aby:aa C 193 As:=aL (fun L R x=>Ec L (R 17) (R 25) (R 248) x) (au QZ (au Q4 (au abx aK)))
theorem Q5:aa C 194 sF:=aL (fun L R x=>Ed L (R 65) x) (au s9 aK)
theorem abz:aa C 250 Ef:=aL (fun L R x=>Ee L (R 253) x) (au ox aK)
theorem Q6:aa C 278 vm:=aL (fun L R x=>Eg L (R 253) x) (au ox aK)
theorem Q7:aa C 251 Au:=aL (fun L R x=>Eh L (R 278) x) (au Q6 aK)
theorem Gs:aa C 195 kY:=aL (fun L R x=>Ei L (R 250) (R 251) x) (au abz (au Q7 aK))
theorem BN:aa C 197 km:=aL (fun L R x=>Ej L (R 253) x) (au ox aK)
theorem abA:aa C 279 El:=aL (fun L R x=>Ek L (R 253) x) (au ox aK)
theorem Gt:aa C 252 mo:=aL (fun L R x=>Em L (R 251) (R 279) x) (au Q7 (au abA aK))
theorem Q8:aa C 196 sG:=aL (fun L R x=>Eo L (R 197) (R 252) x) (au BN (au Gt aK))
theorem abB:aa C 254 Es:=C8 (C:=C) (k:=254) (fun L R x=>Ep L (R 126) (R 192) (R 194) (R 254) x) (F:=IY) (O:=fun g=>(aC 126 iq (aC 192 ir (aC 194 sF (aC 254 g dK))))) (fun g hg=>(au wi (au LK (au Q5 (au hg aK))))) (fun _ _ _=>by kernel_rfl) (fun _ _=>by kernel_rfl)
theorem qb4(g:aj (aR C.sigs 127).ins.aU->Option (aj (aR C.sigs 127).outs.aU))(hg:aa C 127 g):aa C 198 (OP g):=aL (fun L R x=>Tt L (R 126) (R 127) (R 191) (R 195) (R 196) (R 197) (R 252) (R 254) x) (O:=(aC 126 iq (aC 127 g (aC 191 kX (aC 195 kY (aC 196 sG (aC 197 km (aC 252 mo (aC 254 Es dK))))))))) (au wi (au hg (au Gr (au Gs (au Q8 (au BN (au Gt (au abB aK))))))))
theorem LL:aa C 255 sH:=aL (fun L R x=>Et L (R 54) x) (au Gp aK)
theorem LM:aa C 199 nP:=aL (fun L R x=>Eu L (R 255) x) (au LL aK)
theorem q74(g:aj (aR C.sigs 127).ins.aU->Option (aj (aR C.sigs 127).outs.aU))(hg:aa C 127 g):aa C 257 (IZ g):=aL (fun L R x=>Tu L (R 127) (R 191) (R 278) x) (O:=(aC 127 g (aC 191 kX (aC 278 vm dK)))) (au hg (au Gr (au Q6 aK)))
theorem abC:aa C 280 Av:=aL (fun L R x=>Ew L (R 255) x) (au LL aK)
theorem qcp(g:aj (aR C.sigs 127).ins.aU->Option (aj (aR C.sigs 127).outs.aU))(hg:aa C 127 g):aa C 256 (OQ g):=aL (fun L R x=>Tv L (R 199) (R 257) (R 280) x) (O:=(aC 199 nP (aC 257 (IZ g) (aC 280 Av dK)))) (au LM (au (q74 g hg) (au abC aK)))
theorem qcq(g:aj (aR C.sigs 127).ins.aU->Option (aj (aR C.sigs 127).outs.aU))(hg:aa C 127 g):aa C 200 (OR g):=aL (fun L R x=>Tw L (R 126) (R 191) (R 195) (R 197) (R 252) (R 255) (R 256) x) (O:=(aC 126 iq (aC 191 kX (aC 195 kY (aC 197 km (aC 252 mo (aC 255 sH (aC 256 (OQ g) dK)))))))) (au wi (au Gr (au Gs (au BN (au Gt (au LL (au (qcp g hg) aK)))))))
theorem qcr(g:aj (aR C.sigs 127).ins.aU->Option (aj (aR C.sigs 127).outs.aU))(hg:aa C 127 g):aa C 201 (OS g):=aL (fun L R x=>Tz L (R 126) (R 195) (R 197) (R 199) (R 252) (R 257) x) (O:=(aC 126 iq (aC 195 kY (aC 197 km (aC 199 nP (aC 252 mo (aC 257 (IZ g) dK))))))) (au wi (au Gs (au BN (au LM (au Gt (au (q74 g hg) aK))))))
theorem abD:aa C 127 I1:=C8 (C:=C) (k:=127) (fun L R x=>Ey L (R 190) (R 191) (R 192) (R 193) (R 194) (R 195) (R 196) (R 197) (R 198) (R 199) (R 200) (R 201) x) (F:=I0) (O:=fun g=>(aC 190 (OO g) (aC 191 kX (aC 192 ir (aC 193 As (aC 194 sF (aC 195 kY (aC 196 sG (aC 197 km (aC 198 (OP g) (aC 199 nP (aC 200 (OR g) (aC 201 (OS g) dK))))))))))))) (fun g hg=>(au (qb3 g hg) (au Gr (au LK (au aby (au Q5 (au Gs (au Q8 (au BN (au (qb4 g hg) (au LM (au (qcq g hg) (au (qcr g hg) aK))))))))))))) (fun _ _ _=>by kernel_rfl) (fun _ _=>by kernel_rfl)
theorem abE:aa C 63 EA:=aL (fun L R x=>Ez L (R 16) (R 75) (R 127) x) (au qG (au LH (au abD aK)))
theorem abF:aa C 26 EB:=zah
theorem abG:aa C 259 ED:=aL (fun L R x=>EC L  x) aK
theorem abH:aa C 290 EF:=aL (fun L R x=>EE L (R 259) x) (au abG aK)
theorem abI:aa C 281 EH:=aL (fun L R x=>EG L (R 290) x) (au abH aK)
theorem abJ:aa C 258 EJ:=aL (fun L R x=>EI L (R 281) x) (au abI aK)
theorem abK:aa C 203 EL:=aL (fun L R x=>EK L (R 258) x) (au abJ aK)
theorem abL:aa C 128 EN:=aL (fun L R x=>EM L (R 202) (R 203) x) (au Gq (au abK aK))
theorem qb5(g:aj (aR C.sigs 129).ins.aU->Option (aj (aR C.sigs 129).outs.aU))(hg:aa C 129 g):aa C 204 (OV g):=aL (fun L R x=>TA L (R 129) x) (O:=(aC 129 g dK)) (au hg aK)
theorem Q9:aa C 56 Aw:=zbn
theorem abM:aa C 18 EP:=aL (fun L R x=>EO L (R 56) x) (au Q9 aK)
theorem Ra:aa C 205 vp:=aL (fun L R x=>ER L (R 18) x) (au abM aK)
theorem abN:aa C 249 I3:=aL (fun L R x=>vq L (R 56) x) (au Q9 aK)
theorem abO:aa C 260 ES:=zbi
theorem abP:aa C 206 Ax:=aL (fun L R x=>ET L (R 205) (R 249) (R 260) x) (au Ra (au abN (au abO aK)))
theorem abQ:aa C 207 Ay:=aL (fun L R x=>EU L  x) aK
theorem abR:aa C 208 Az:=aL (fun L R x=>EV L  x) aK
theorem abS:aa C 129 I5:=C8 (C:=C) (k:=129) (fun L R x=>EW L (R 189) (R 204) (R 205) (R 206) (R 207) (R 208) x) (F:=I4) (O:=fun g=>(aC 189 kh (aC 204 (OV g) (aC 205 vp (aC 206 Ax (aC 207 Ay (aC 208 Az dK))))))) (fun g hg=>(au BM (au (qb5 g hg) (au Ra (au abP (au abQ (au abR aK))))))) (fun _ _ _=>by kernel_rfl) (fun _ _=>by kernel_rfl)
theorem abT:aa C 64 EY:=aL (fun L R x=>EX L (R 26) (R 128) (R 129) x) (au abF (au abL (au abS aK)))
theorem abU:aa C 22 E0:=aL (fun L R x=>EZ L (R 63) (R 64) x) (au abE (au abT aK))
theorem abV:aa C 23 E2:=aL (fun L R x=>E1 L (R 65) x) (au s9 aK)
theorem abW:aa C 24 E4:=aL (fun L R x=>E3 L  x) aK
theorem abX:aa C 6 E6:=aL (fun L R x=>E5 L (R 9) (R 16) (R 17) (R 19) (R 20) (R 21) (R 22) (R 23) (R 24) (R 25) x) (au LI (au qG (au QZ (au LJ (au Q3 (au abt (au abU (au abV (au abW (au Q4 aK))))))))))
theorem abY:aa C 111 sI:=aL (fun L R x=>AA L  x) aK
theorem abZ:aa C 110 sJ:=aL (fun L R x=>E7 L (R 111) x) (au abY aK)
theorem ab0:aa C 107 vr:=aL (fun L R x=>E8 L (R 134) x) (au QK aK)
theorem ab1:aa C 108 vu:=aL (fun L R x=>E9 L (R 139) x) (au LC aK)
theorem ab2:aa C 109 vv:=aL (fun L R x=>Fa L (R 182) x) (au LA aK)
theorem ab3:aa C 180 nQ:=aL (fun L R x=>AB L (R 135) x) (au Gn aK)
theorem Rb:aa C 238 sK:=aL (fun L R x=>AD L  x) aK
theorem ab4:aa C 181 sL:=aL (fun L R x=>AE L (R 238) x) (au Rb aK)
theorem ab5:aa C 267 vw:=aL (fun L R x=>AF L (R 238) x) (au Rb aK)
theorem ab6:aa C 239 sM:=aL (fun L R x=>AG L (R 267) x) (au ab5 aK)
theorem ab7:aa C 183 pw:=aL (fun L R x=>Fb L (R 192) (R 239) x) (au LK (au ab6 aK))
theorem ab8:aa C 184 vz:=aL (fun L R x=>Fc L (R 210) x) (au QN aK)
theorem ab9:aa C 112 px:=aL (fun L R x=>AH L (R 107) (R 108) (R 109) (R 136) (R 137) (R 139) (R 180) (R 181) (R 182) (R 183) (R 184) x) (au ab0 (au ab1 (au ab2 (au Ly (au Lz (au LC (au ab3 (au ab4 (au LA (au ab7 (au ab8 aK)))))))))))
theorem Re:aa C 45 py:=aL (fun L R x=>Fe L (R 110) (R 112) x) (au abZ (au ab9 aK))
theorem aca:aa C 113 iu:=aL (fun L R x=>AI L  x) aK
theorem qH:aa C 117 fq:=aL (fun L R x=>AJ L  x) aK
theorem ti:aa C 114 cj:=aL (fun L R x=>AK L (R 117) x) (au qH aK)
theorem acb:aa C 115 pz:=aL (fun L R x=>AL L (R 114) x) (au ti aK)
theorem acd:aa C 268 nR:=aL (fun L R x=>AM L (R 160) x) (au QM aK)
theorem BO(g:aj (aR C.sigs 269).ins.aU->Option (aj (aR C.sigs 269).outs.aU))(hg:aa C 269 g):aa C 240 (gu g):=aL (fun L R x=>AO L (R 114) (R 117) (R 268) (R 269) x) (O:=(aC 114 cj (aC 117 fq (aC 268 nR (aC 269 g dK))))) (au ti (au qH (au acd (au hg aK))))
theorem ace:aa C 270 nS:=aL (fun L R x=>AP L (R 117) x) (au qH aK)
theorem HK(g:aj (aR C.sigs 269).ins.aU->Option (aj (aR C.sigs 269).outs.aU))(hg:aa C 269 g):aa C 241 (ko g):=aL (fun L R x=>Ff L (R 240) (R 270) x) (O:=(aC 240 (gu g) (aC 270 nS dK))) (au (BO g hg) (au ace aK))
theorem acf:aa C 285 pA:=aL (fun L R x=>Fg L  x) aK
theorem Rf:aa C 269 nU:=C8 (C:=C) (k:=269) (fun L R x=>AQ L (R 114) (R 117) (R 240) (R 241) (R 253) (R 269) (R 285) x) (F:=mq) (O:=fun g=>(aC 114 cj (aC 117 fq (aC 240 (gu g) (aC 241 (ko g) (aC 253 fp (aC 269 g (aC 285 pA dK)))))))) (fun g hg=>(au ti (au qH (au (BO g hg) (au (HK g hg) (au ox (au hg (au acf aK)))))))) (fun _ _ _=>by kernel_rfl) (fun _ _=>by kernel_rfl)
theorem acg:aa C 240 Fh:=BO nU Rf
theorem ach:aa C 241 Fi:=HK nU Rf
theorem aci:aa C 185 jJ:=aL (fun L R x=>AR L (R 114) (R 117) (R 240) (R 241) x) (au ti (au qH (au acg (au ach aK))))
theorem acj:aa C 116 sN:=aL (fun L R x=>Fj L (R 98) (R 114) (R 117) (R 185) x) (au Gm (au ti (au qH (au aci aK))))
theorem ack:aa C 118 nV:=aL (fun L R x=>AS L (R 114) (R 117) x) (au ti (au qH aK))
theorem tj:aa C 187 fy:=aL (fun L R x=>AT L  x) aK
theorem tl:aa C 188 fL:=aL (fun L R x=>AU L  x) aK
theorem oy:aa C 271 cU:=aL (fun L R x=>AV L (R 98) x) (au Gm aK)
theorem acm:aa C 287 pB:=aL (fun L R x=>AW L (R 54) x) (au Gp aK)
theorem acn:aa C 71 pC:=aL (fun L R x=>Fk L (R 287) x) (au acm aK)
theorem wj:aa C 273 fA:=aL (fun L R x=>AX L  x) aK
theorem tm:aa C 275 cN:=aL (fun L R x=>AY L (R 253) x) (au ox aK)
theorem wk:aa C 277 fc:=aL (fun L R x=>AZ L (R 187) (R 188) (R 271) x) (au tj (au tl (au oy aK)))
theorem Rg:aa C 293 kp:=aL (fun L R x=>A0 L (R 271) x) (au oy aK)
theorem Rh:aa C 274 iX:=aL (fun L R x=>A1 L (R 187) (R 188) (R 271) (R 273) (R 277) x) (au tj (au tl (au oy (au wj (au wk aK)))))
theorem q9h(g:aj (aR C.sigs 243).ins.aU->Option (aj (aR C.sigs 243).outs.aU))(hg:aa C 243 g):aa C 299 (mY g):=aL (fun L R x=>OW L (R 243) (R 253) (R 271) (R 273) (R 274) (R 275) (R 277) x) (O:=(aC 243 g (aC 253 fp (aC 271 cU (aC 273 fA (aC 274 iX (aC 275 cN (aC 277 fc dK)))))))) (au hg (au ox (au oy (au wj (au Rh (au tm (au wk aK)))))))
theorem qb6(g:aj (aR C.sigs 243).ins.aU->Option (aj (aR C.sigs 243).outs.aU))(hg:aa C 243 g):aa C 298 (Fl g):=aL (fun L R x=>TB L (R 271) (R 273) (R 275) (R 299) x) (O:=(aC 271 cU (aC 273 fA (aC 275 cN (aC 299 (mY g) dK))))) (au oy (au wj (au tm (au (q9h g hg) aK))))
theorem aco:aa C 243 gO:=C8 (C:=C) (k:=243) (fun L R x=>A2 L (R 187) (R 188) (R 298) x) (F:=jK) (O:=fun g=>(aC 187 fy (aC 188 fL (aC 298 (Fl g) dK)))) (fun g hg=>(au tj (au tl (au (qb6 g hg) aK)))) (fun _ _ _=>by kernel_rfl) (fun _ _=>by kernel_rfl)
theorem q55(g:aj (aR C.sigs 186).ins.aU->Option (aj (aR C.sigs 186).outs.aU))(hg:aa C 186 g):aa C 276 (sO g):=aL (fun L R x=>OX L (R 186) (R 277) x) (O:=(aC 186 g (aC 277 fc dK))) (au hg (au wk aK))
theorem q9i(g:aj (aR C.sigs 186).ins.aU->Option (aj (aR C.sigs 186).outs.aU))(hg:aa C 186 g):aa C 296 (Fm g):=aL (fun L R x=>TC L (R 186) (R 243) (R 271) (R 275) (R 276) (R 277) x) (O:=(aC 186 g (aC 243 gO (aC 271 cU (aC 275 cN (aC 276 (sO g) (aC 277 fc dK))))))) (au hg (au aco (au oy (au tm (au (q55 g hg) (au wk aK))))))
theorem qa0(g:aj (aR C.sigs 186).ins.aU->Option (aj (aR C.sigs 186).outs.aU))(hg:aa C 186 g):aa C 292 (vA g):=aL (fun L R x=>OY L (R 186) (R 187) (R 188) (R 253) (R 271) (R 273) (R 275) (R 277) (R 293) (R 296) x) (O:=(aC 186 g (aC 187 fy (aC 188 fL (aC 253 fp (aC 271 cU (aC 273 fA (aC 275 cN (aC 277 fc (aC 293 kp (aC 296 (Fm g) dK))))))))))) (au hg (au tj (au tl (au ox (au oy (au wj (au tm (au wk (au Rg (au (q9i g hg) aK))))))))))
theorem qb7(g:aj (aR C.sigs 186).ins.aU->Option (aj (aR C.sigs 186).outs.aU))(hg:aa C 186 g):aa C 286 (wN g):=aL (fun L R x=>TD L (R 275) (R 292) (R 293) x) (O:=(aC 275 cN (aC 292 (vA g) (aC 293 kp dK)))) (au tm (au (qa0 g hg) (au Rg aK)))
theorem acp:aa C 297 sP:=zae
theorem acq:aa C 295 sQ:=aL (fun L R x=>Fo L (R 297) x) (au acp aK)
theorem acr:aa C 294 mr:=aL (fun L R x=>A3 L (R 295) x) (au acq aK)
theorem acs:aa C 288 kZ:=aL (fun L R x=>Fp L (R 16) (R 54) (R 294) x) (au qG (au Gp (au acr aK)))
theorem acu:aa C 289 sR:=C8 (C:=C) (k:=289) (fun L R x=>A4 L (R 275) (R 289) x) (F:=pD) (O:=fun g=>(aC 275 cN (aC 289 g dK))) (fun g hg=>(au tm (au hg aK))) (fun _ _ _=>by kernel_rfl) (fun _ _=>by kernel_rfl)
theorem qb8(g:aj (aR C.sigs 186).ins.aU->Option (aj (aR C.sigs 186).outs.aU))(hg:aa C 186 g):aa C 272 (Fq g):=aL (fun L R x=>TE L (R 71) (R 187) (R 188) (R 271) (R 273) (R 286) (R 288) (R 289) x) (O:=(aC 71 pC (aC 187 fy (aC 188 fL (aC 271 cU (aC 273 fA (aC 286 (wN g) (aC 288 kZ (aC 289 sR dK))))))))) (au acn (au tj (au tl (au oy (au wj (au (qb7 g hg) (au acs (au acu aK))))))))
theorem qa1(g:aj (aR C.sigs 186).ins.aU->Option (aj (aR C.sigs 186).outs.aU))(hg:aa C 186 g):aa C 244 (Ch g):=aL (fun L R x=>OZ L (R 186) (R 271) (R 272) (R 273) (R 274) (R 275) (R 276) (R 277) x) (O:=(aC 186 g (aC 271 cU (aC 272 (Fq g) (aC 273 fA (aC 274 iX (aC 275 cN (aC 276 (sO g) (aC 277 fc dK))))))))) (au hg (au oy (au (qb8 g hg) (au wj (au Rh (au tm (au (q55 g hg) (au wk aK))))))))
theorem qa2(g:aj (aR C.sigs 186).ins.aU->Option (aj (aR C.sigs 186).outs.aU))(hg:aa C 186 g):aa C 242 (Ci g):=aL (fun L R x=>O0 L (R 187) (R 188) (R 244) x) (O:=(aC 187 fy (aC 188 fL (aC 244 (Ch g) dK)))) (au tj (au tl (au (qa1 g hg) aK)))
theorem acv:aa C 186 sS:=C8 (C:=C) (k:=186) (fun L R x=>A5 L (R 242) x) (F:=jL) (O:=fun g=>(aC 242 (Ci g) dK)) (fun g hg=>(au (qa2 g hg) aK)) (fun _ _ _=>by kernel_rfl) (fun _ _=>by kernel_rfl)
theorem acw:aa C 119 iY:=aL (fun L R x=>A6 L (R 16) (R 75) (R 186) (R 187) (R 188) x) (au qG (au LH (au acv (au tj (au tl aK)))))
theorem acx:aa C 46 pE:=aL (fun L R x=>A7 L (R 16) (R 20) (R 32) (R 36) (R 37) (R 113) (R 114) (R 115) (R 116) (R 117) (R 118) (R 119) x) (au qG (au Q3 (au LG (au QU (au QX (au aca (au ti (au acb (au acj (au qH (au ack (au acw aK))))))))))))
theorem Ri:aa C 12 sT:=aL (fun L R x=>Fs L (R 9) (R 16) (R 19) (R 45) (R 46) x) (au LI (au qG (au LJ (au Re (au acx aK)))))
theorem acy:aa C 14 Fu:=aL (fun L R x=>Ft L (R 45) x) (au Re aK)
theorem ql9:aa C 3 MN:=aL (fun L R x=>TF L (R 6) (R 9) (R 12) (R 14) x) (au abX (au LI (au Ri (au acy aK))))
theorem qq9:aa C 5 O1:=aL (fun L R x=>qgs L  x) aK
theorem qla:aa C 7 O3:=aL (fun L R x=>Xb L  x) aK
theorem acz:aa C 47 vB:=aL (fun L R x=>O7 L  x) aK
theorem Rj:aa C 49 pG:=aL (fun L R x=>O8 L  x) aK
theorem acA:aa C 120 sU:=aL (fun L R x=>O9 L (R 49) x) (au Rj aK)
theorem acB:aa C 48 vC:=aL (fun L R x=>Pa L (R 120) x) (au acA aK)
theorem acC:aa C 13 Bb:=aL (fun L R x=>Pb L (R 47) (R 48) (R 49) x) (au acz (au acB (au Rj aK)))
theorem jU:aa C 2 cD:=aL (fun L R x=>Xk L (R 3) (R 5) (R 7) (R 12) (R 13) x) (au ql9 (au qq9 (au qla (au Ri (au acC aK)))))
theorem zai:Mn C C.dQ=true:=by kernel_rfl
theorem zbp:Iq C C.eqs=true:=by kernel_rfl
theorem z04:Oz C C.sigs=true:=by kernel_rfl
theorem mixed:C.P.follows .mixedOrders=true:=by kernel_rfl
theorem calls{i:Nat}{x:aj (aR C.sigs i).ins.aU}{y:aj (aR C.sigs i).outs.aU}(h:Ev.Call C i x y):nC C i x y:=z1c zai zbp z04 mixed h
theorem zaj:S5 C Rows.modJoinsRow.laid:=by
 refine⟨by kernel_rfl,fun g t x h=>?_⟩
 match g with
 |0=>cases h;exact⟨_,_,289,List.Mem.tail _ (List.Mem.tail _ (List.Mem.tail _ (List.Mem.tail _ (List.Mem.tail _ (List.Mem.head _))))),by kernel_rfl,by kernel_rfl,by kernel_rfl,rfl,by kernel_rfl⟩
 |5=>cases h;exact⟨_,_,324,List.Mem.tail _ (List.Mem.tail _ (List.Mem.head _)),by kernel_rfl,by kernel_rfl,by kernel_rfl,rfl,by kernel_rfl⟩
 |1=>cases h
 |2=>cases h
 |3=>cases h
 |4=>cases h
 |n+6=>cases h
theorem LN:S6 C Rows.modJoinsRow.laid:=qx8 zai (by kernel_rfl) (by kernel_rfl) (by kernel_rfl) zaj
end Go.Proofs.YtdgmbemagoakjaaGreatDoor.BL