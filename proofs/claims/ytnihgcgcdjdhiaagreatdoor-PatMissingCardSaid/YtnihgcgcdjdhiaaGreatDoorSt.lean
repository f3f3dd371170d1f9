/- The functions of this seat as data: each is what the model's code gives, by the kernel's reckoning over the verified evaluator. No statement of its own about the program. -/
import Derived.Test.YtnihgcgcdjdhiaaGreatDoorFnA
import Derived.Test.YtnihgcgcdjdhiaaGreatDoorEvJ
import Derived.Test.YtnihgcgcdjdhiaaGreatDoorProg
import Derived.Test.YtnihgcgcdjdhiaaGreatDoorSlp
import Derived.Sort.EveryDepth
import Derived.Test.YtnihgcgcdjdhiaaGreatDoorRows
import Derived.KernelRfl
namespace Go.Proofs.YtnihgcgcdjdhiaaGreatDoor.Seat
open Go Go.Proofs Go.Shelf Go.RowKit Go.Sort Ev Ev.Fn
abbrev t2:Ty:=.int .i64
abbrev t4:Ty:=.st (.pair t2 (.pair .str (.pair t2 t2)))
abbrev t0:Ty:=.sl t4
abbrev t5:Ty:=.st (.pair .str (.sl t0))
abbrev t1:Ty:=.st (.pair .str (.pair t2 (.sl t5)))
abbrev t3:Ty:=.st (.pair t0 (.pair .str (.pair t2 (.pair (.sl t2) (.ks (.pair t0 (.pair .str (.pair t2 (.sl t2)))))))))
abbrev t6:Ty:=.sl (.sl t0)
abbrev t7:Ty:=.st (.pair (.int .u16) (.pair (.int .u16) (.int .u16)))
abbrev t8:Ty:=.st (.pair (.int .u32) (.pair (.int .u32) (.int .u32)))
abbrev t9:Ty:=.st (.pair .str t0)
abbrev ta:Ty:=.st (.pair t2 t0)
abbrev tb:Ty:=.int .u8
def sigs:List Sig:=[
 ⟨3,⟨[.d (.sl t1),.d t0,.d t0,.d t0,.d .str],[]⟩,⟨[.d .bool],[]⟩,[]⟩,
 ⟨4,⟨[.d t0,.d t0,.d (.sl t0)],[]⟩,⟨[.d .bool],[]⟩,[]⟩,
 ⟨5,⟨[.d (.sl t1),.d t0,.d (.sl t0)],[]⟩,⟨[.d .bool],[]⟩,[]⟩,
 ⟨6,⟨[.d (.sl t1),.d t0,.d (.sl t0)],[]⟩,⟨[.d .bool],[]⟩,[]⟩,
 ⟨7,⟨[.d (.sl t1),.d t0,.d (.sl t0),.d t0],[]⟩,⟨[.d .bool],[]⟩,[]⟩,
 ⟨8,⟨[.d (.sl t1),.d t0,.d t0,.d t0],[]⟩,⟨[.d .bool],[]⟩,[]⟩,
 ⟨9,⟨[],[]⟩,⟨[.d .bool],[]⟩,[]⟩,
 ⟨10,⟨[.d (.sl t1),.d t0,.d (.sl t0)],[]⟩,⟨[.d .bool],[]⟩,[]⟩,
 ⟨11,⟨[.d (.sl t1),.d t0,.d t0],[]⟩,⟨[.d .bool],[]⟩,[]⟩,
 ⟨12,⟨[.d (.sl t1),.d t0,.d .str],[]⟩,⟨[.d (.sl t0),.d .bool],[]⟩,[]⟩,
 ⟨13,⟨[.d t0],[]⟩,⟨[.d t0],[]⟩,[]⟩,
 ⟨14,⟨[.d (.sl t1),.d t0,.d t0],[]⟩,⟨[.d t2],[]⟩,[]⟩,
 ⟨15,⟨[.d (.sl t1),.d t0,.d t0],[]⟩,⟨[.d .bool],[]⟩,[]⟩,
 ⟨16,⟨[.d (.sl t1),.d t0,.d t0],[]⟩,⟨[.d .bool],[]⟩,[]⟩,
 ⟨17,⟨[.d (.sl t1),.d t0,.d .str],[]⟩,⟨[.d (.sl t0),.d .bool],[]⟩,[]⟩,
 ⟨18,⟨[.d (.sl t0),.d (.sl t0)],[]⟩,⟨[.d .bool],[]⟩,[]⟩,
 ⟨19,⟨[.d (.sl t0)],[]⟩,⟨[.d .bool],[]⟩,[]⟩,
 ⟨20,⟨[.d t0,.d t0],[]⟩,⟨[.d (.sl t9),.d .bool],[]⟩,[]⟩,
 ⟨21,⟨[.d t0,.d t0],[]⟩,⟨[.d (.sl t9),.d .bool],[]⟩,[]⟩,
 ⟨22,⟨[.d (.sl t9),.d (.sl t9)],[]⟩,⟨[.d .bool],[]⟩,[]⟩,
 ⟨23,⟨[.d (.sl t0),.d t0],[]⟩,⟨[.d t2],[]⟩,[]⟩,
 ⟨24,⟨[.d (.sl t0)],[]⟩,⟨[.d (.sl t0)],[]⟩,[]⟩,
 ⟨25,⟨[.d (.sl t0),.d t0],[]⟩,⟨[.d t2],[]⟩,[]⟩,
 ⟨26,⟨[.d (.sl t1),.d t0,.d (.sl t0)],[]⟩,⟨[.d t0,.d .bool,.d t2],[]⟩,[]⟩,
 ⟨27,⟨[.d (.sl t1),.d t0,.d (.sl t0)],[]⟩,⟨[.d (.sl t3),.d (.sl t2),.d .bool],[]⟩,[]⟩,
 ⟨28,⟨[.d t0,.d t2,.d t0,.d t2],[]⟩,⟨[.d .bool],[]⟩,[]⟩,
 ⟨29,⟨[.d (.sl t1),.d t0,.d (.sl t0)],[]⟩,⟨[.d (.sl t2),.d t2],[]⟩,[]⟩,
 ⟨30,⟨[.d (.sl t2),.d (.sl t2)],[]⟩,⟨[.d .bool],[]⟩,[]⟩,
 ⟨31,⟨[.d t0],[]⟩,⟨[.d .bool],[]⟩,[]⟩,
 ⟨32,⟨[],[]⟩,⟨[.d (.sl t1)],[]⟩,[]⟩,
 ⟨33,⟨[.d (.sl t1)],[]⟩,⟨[.d .bool],[]⟩,[]⟩,
 ⟨34,⟨[.d (.sl t1)],[]⟩,⟨[.d t2],[]⟩,[]⟩,
 ⟨35,⟨[.d t0],[]⟩,⟨[.d .bool],[]⟩,[]⟩,
 ⟨36,⟨[.d t0,.d .bool],[]⟩,⟨[.d t2],[]⟩,[]⟩,
 ⟨37,⟨[.d (.sl t1),.d t0,.d t0,.d t2],[]⟩,⟨[.d .bool],[]⟩,[]⟩,
 ⟨38,⟨[.d (.sl t1)],[]⟩,⟨[.d t2],[]⟩,[]⟩,
 ⟨39,⟨[.d t0],[]⟩,⟨[.d t2],[]⟩,[]⟩,
 ⟨40,⟨[.d (.sl t1),.d t0,.d .str],[]⟩,⟨[.d (.sl t0),.d .bool],[]⟩,[]⟩,
 ⟨41,⟨[.d t0],[]⟩,⟨[.d t2],[]⟩,[]⟩,
 ⟨42,⟨[.d (.sl t1),.d t0,.d t0],[]⟩,⟨[.d .bool],[]⟩,[]⟩,
 ⟨43,⟨[.d t0],[]⟩,⟨[.d .bool],[]⟩,[]⟩,
 ⟨44,⟨[.d (.sl t1),.d t0,.d t0],[]⟩,⟨[.d .bool],[]⟩,[]⟩,
 ⟨45,⟨[.d t0,.d t2],[]⟩,⟨[.d (.sl t2)],[]⟩,[]⟩,
 ⟨46,⟨[.d t0,.d t2],[]⟩,⟨[.d t0],[]⟩,[]⟩,
 ⟨47,⟨[.d (.sl ta),.d t0],[]⟩,⟨[.d t0],[]⟩,[]⟩,
 ⟨48,⟨[.d t0,.d t0],[]⟩,⟨[.d .bool],[]⟩,[]⟩,
 ⟨49,⟨[.d .str,.d t0,.ptr 0 0],[.box [.osl 1],.vec t9]⟩,⟨[],[.box [.osl 2],.gone,.vec t9]⟩,[0]⟩,
 ⟨50,⟨[.d t0],[]⟩,⟨[.d t0],[]⟩,[]⟩,
 ⟨51,⟨[.d t0,.d t0,.fn 49 [.ptr 0 0]],[.box [.osl 1],.vec t9]⟩,⟨[.d .bool],[.box [.osl 2],.gone,.vec t9]⟩,[0]⟩,
 ⟨52,⟨[.d t0,.d t2,.d t0,.d t2],[]⟩,⟨[.d (.sl t9),.d .bool],[]⟩,[]⟩,
 ⟨53,⟨[.d (.sl t0),.fn 84 [.ptr 0 0]],[.box [.fn 79 [.ptr 1 0]],.box [.d (.sl t1)]]⟩,⟨[.d t2],[.box [.fn 79 [.ptr 1 0]],.box [.d (.sl t1)]]⟩,[0,1]⟩,
 ⟨53,⟨[.d (.sl t0),.fn 137 [.ptr 0 0]],[.box [.fn 133 [.ptr 1 0]],.box [.d .str,.d t2,.d (.sl t5)]]⟩,⟨[.d t2],[.box [.fn 133 [.ptr 1 0]],.box [.d .str,.d t2,.d (.sl t5)]]⟩,[0,1]⟩,
 ⟨53,⟨[.d (.sl t0),.fn 54 [.ref t0]],[]⟩,⟨[.d t2],[]⟩,[]⟩,
 ⟨54,⟨[.d t0,.ref t0],[]⟩,⟨[.d .bool],[]⟩,[]⟩,
 ⟨55,⟨[.d (.sl t1),.d t0,.d (.sl t0)],[]⟩,⟨[.d t2],[]⟩,[]⟩,
 ⟨56,⟨[.ptr 0 0,.d (.sl t0),.d t6],[.box [.d (.sl t1)]]⟩,⟨[.d (.sl t0),.d .bool],[.box [.d (.sl t1)]]⟩,[0]⟩,
 ⟨57,⟨[.d (.sl t0)],[]⟩,⟨[.d t6],[]⟩,[]⟩,
 ⟨58,⟨[.d (.sl t1),.d t3,.d t0,.d t2],[]⟩,⟨[.d (.sl t3),.d .bool],[]⟩,[]⟩,
 ⟨59,⟨[.ptr 0 0,.d (.sl t0),.d t6,.d (.sl t0)],[.box [.d (.sl t1)]]⟩,⟨[.d .bool],[.box [.d (.sl t1)]]⟩,[0]⟩,
 ⟨60,⟨[.d t0],[]⟩,⟨[.d .bool],[]⟩,[]⟩,
 ⟨61,⟨[.d t2],[]⟩,⟨[.d t2],[]⟩,[]⟩,
 ⟨62,⟨[.d .str],[]⟩,⟨[.d .bool],[]⟩,[]⟩,
 ⟨63,⟨[.d t1],[]⟩,⟨[.d .bool],[]⟩,[]⟩,
 ⟨64,⟨[.d (.sl t1)],[]⟩,⟨[.d (.sl .str)],[]⟩,[]⟩,
 ⟨65,⟨[.d .str],[]⟩,⟨[.d .bool],[]⟩,[]⟩,
 ⟨66,⟨[.d (.sl t1),.d t4],[]⟩,⟨[.d .bool],[]⟩,[]⟩,
 ⟨67,⟨[.d t4],[]⟩,⟨[.d .bool],[]⟩,[]⟩,
 ⟨68,⟨[.d t0,.d t2],[]⟩,⟨[.d t2],[]⟩,[]⟩,
 ⟨69,⟨[.d t0,.d t2,.d .bool],[]⟩,⟨[.d t2],[]⟩,[]⟩,
 ⟨70,⟨[.d t0,.d t2],[]⟩,⟨[.d .bool],[]⟩,[]⟩,
 ⟨71,⟨[.d (.sl t1),.fn 72 []],[]⟩,⟨[.d .bool],[]⟩,[]⟩,
 ⟨71,⟨[.d (.sl t1),.fn 81 [.ref t4]],[]⟩,⟨[.d .bool],[]⟩,[]⟩,
 ⟨72,⟨[.d t1],[]⟩,⟨[.d .bool],[]⟩,[]⟩,
 ⟨73,⟨[.d t1],[]⟩,⟨[.d .bool],[]⟩,[]⟩,
 ⟨74,⟨[.d (.sl t1),.fn 72 []],[]⟩,⟨[.d t2],[]⟩,[]⟩,
 ⟨74,⟨[.d (.sl t1),.fn 75 [.ref t1]],[]⟩,⟨[.d t2],[]⟩,[]⟩,
 ⟨74,⟨[.d (.sl t1),.fn 81 [.ref t4]],[]⟩,⟨[.d t2],[]⟩,[]⟩,
 ⟨74,⟨[.d (.sl t1),.fn 141 [.ref t0]],[]⟩,⟨[.d t2],[]⟩,[]⟩,
 ⟨75,⟨[.d t1,.ref t1],[]⟩,⟨[.d .bool],[]⟩,[]⟩,
 ⟨76,⟨[.d t2,.d t2,.ptr 0 0],[.box [.d (.sl t1)]]⟩,⟨[.d .bool],[.box [.d (.sl t1)]]⟩,[0]⟩,
 ⟨77,⟨[.d (.sl t1),.d .str],[]⟩,⟨[.d t2,.d t2,.d .bool],[]⟩,[]⟩,
 ⟨78,⟨[.d (.sl t1),.fn 76 [.ptr 0 0]],[.box [.d (.sl t1)]]⟩,⟨[.d .bool],[.box [.d (.sl t1)]]⟩,[0]⟩,
 ⟨78,⟨[.d (.sl t1),.fn 82 [.ptr 0 0,.ptr 1 0]],[.box [.d (.sl t1)],.box [.fn 79 [.ptr 0 0]]]⟩,⟨[.d .bool],[.box [.d (.sl t1)],.box [.fn 79 [.ptr 0 0]]]⟩,[0,1]⟩,
 ⟨78,⟨[.d (.sl t1),.fn 138 [.ref (.sl t1),.ref .str,.ptr 0 0,.ptr 1 0]],[.box [.d t2],.box [.d t2]]⟩,⟨[.d .bool],[.box [.d t2],.box [.d t2]]⟩,[0,1]⟩,
 ⟨79,⟨[.d t4,.ptr 0 0],[.box [.d (.sl t1)]]⟩,⟨[.d .bool],[.box [.d (.sl t1)]]⟩,[0]⟩,
 ⟨80,⟨[.d .str],[]⟩,⟨[.d .bool],[]⟩,[]⟩,
 ⟨81,⟨[.d t1,.ref t4],[]⟩,⟨[.d .bool],[]⟩,[]⟩,
 ⟨82,⟨[.d t2,.d t2,.ptr 0 0,.ptr 1 0],[.box [.d (.sl t1)],.box [.fn 79 [.ptr 0 0]]]⟩,⟨[.d .bool],[.box [.d (.sl t1)],.box [.fn 79 [.ptr 0 0]]]⟩,[0,1]⟩,
 ⟨83,⟨[.d (.sl t0),.fn 84 [.ptr 0 0]],[.box [.fn 79 [.ptr 1 0]],.box [.d (.sl t1)]]⟩,⟨[.d .bool],[.box [.fn 79 [.ptr 1 0]],.box [.d (.sl t1)]]⟩,[0,1]⟩,
 ⟨83,⟨[.d (.sl t0),.fn 137 [.ptr 0 0]],[.box [.fn 133 [.ptr 1 0]],.box [.d .str,.d t2,.d (.sl t5)]]⟩,⟨[.d .bool],[.box [.fn 133 [.ptr 1 0]],.box [.d .str,.d t2,.d (.sl t5)]]⟩,[0,1]⟩,
 ⟨84,⟨[.d t0,.ptr 0 0],[.box [.fn 79 [.ptr 1 0]],.box [.d (.sl t1)]]⟩,⟨[.d .bool],[.box [.fn 79 [.ptr 1 0]],.box [.d (.sl t1)]]⟩,[0,1]⟩,
 ⟨85,⟨[.d t0,.fn 87 []],[]⟩,⟨[.d .bool],[]⟩,[]⟩,
 ⟨85,⟨[.d t0,.fn 98 []],[]⟩,⟨[.d .bool],[]⟩,[]⟩,
 ⟨85,⟨[.d t0,.fn 79 [.ptr 0 0]],[.box [.d (.sl t1)]]⟩,⟨[.d .bool],[.box [.d (.sl t1)]]⟩,[0]⟩,
 ⟨86,⟨[.d t0],[]⟩,⟨[.d .bool],[]⟩,[]⟩,
 ⟨87,⟨[.d t4],[]⟩,⟨[.d .bool],[]⟩,[]⟩,
 ⟨88,⟨[.d t4],[]⟩,⟨[.d .bool],[]⟩,[]⟩,
 ⟨89,⟨[.d (.sl t1),.d t0],[]⟩,⟨[.d t1,.d .bool],[]⟩,[]⟩,
 ⟨90,⟨[.d (.sl t5),.fn 91 [.ref .str]],[]⟩,⟨[.d t2],[]⟩,[]⟩,
 ⟨90,⟨[.d (.sl t5),.fn 107 [.ptr 0 0]],[.box [.fn 104 [.ptr 1 0]],.box [.d t6]]⟩,⟨[.d t2],[.box [.fn 104 [.ptr 1 0]],.box [.d t6]]⟩,[0,1]⟩,
 ⟨90,⟨[.d (.sl t5),.fn 123 [.ptr 0 0]],[.box [.fn 120 [.ptr 1 0]],.box [.d t6]]⟩,⟨[.d t2],[.box [.fn 120 [.ptr 1 0]],.box [.d t6]]⟩,[0,1]⟩,
 ⟨90,⟨[.d (.sl t5),.fn 124 [.ptr 0 0,.ptr 1 0,.ptr 2 0,.ptr 3 0,.ptr 4 0]],[.box [.ptr 5 0],.box [.d t0],.box [.d (.sl t0)],.box [.d t6],.box [.d (.sl t0)],.box [.d (.sl t1)]]⟩,⟨[.d t2],[.box [.ptr 5 0],.box [.d t0],.box [.d (.sl t0)],.box [.d t6],.box [.d (.sl t0)],.box [.d (.sl t1)]]⟩,[0,1,2,3,4,5]⟩,
 ⟨91,⟨[.d t5,.ref .str],[]⟩,⟨[.d .bool],[]⟩,[]⟩,
 ⟨92,⟨[.d t0,.d t2],[]⟩,⟨[.d (.sl t2)],[]⟩,[]⟩,
 ⟨93,⟨[.d t0,.d t2],[]⟩,⟨[.d t2],[]⟩,[]⟩,
 ⟨94,⟨[.d (.sl ta),.d t0],[]⟩,⟨[.d t0],[]⟩,[]⟩,
 ⟨95,⟨[.d t0,.d .bool],[]⟩,⟨[.d t2],[]⟩,[]⟩,
 ⟨96,⟨[.d (.sl t1),.d t0,.d t0,.fn 97 [.ref (.sl t1)]],[]⟩,⟨[.d .bool],[]⟩,[]⟩,
 ⟨96,⟨[.d (.sl t1),.d t0,.d t0,.fn 100 [.ref (.sl t1)]],[]⟩,⟨[.d .bool],[]⟩,[]⟩,
 ⟨97,⟨[.d t0,.d t0,.ref (.sl t1)],[]⟩,⟨[.d .bool],[]⟩,[]⟩,
 ⟨98,⟨[.d t4],[]⟩,⟨[.d .bool],[]⟩,[]⟩,
 ⟨99,⟨[.d t4],[]⟩,⟨[.d .bool],[]⟩,[]⟩,
 ⟨100,⟨[.d t0,.d t0,.ref (.sl t1)],[]⟩,⟨[.d .bool],[]⟩,[]⟩,
 ⟨101,⟨[.d t0,.d t2],[]⟩,⟨[.d t2],[]⟩,[]⟩,
 ⟨102,⟨[.d t0],[]⟩,⟨[.d (.sl t0)],[]⟩,[]⟩,
 ⟨103,⟨[],[]⟩,⟨[.d t0],[]⟩,[]⟩,
 ⟨104,⟨[.d t2,.d .str,.d t2,.ptr 0 0],[.box [.d t6]]⟩,⟨[.d .bool],[.box [.d t6]]⟩,[0]⟩,
 ⟨105,⟨[.d t6,.fn 106 [.ref t2,.ref .str,.ref t2]],[]⟩,⟨[.d .bool],[]⟩,[]⟩,
 ⟨105,⟨[.d t6,.fn 112 []],[]⟩,⟨[.d .bool],[]⟩,[]⟩,
 ⟨105,⟨[.d t6,.fn 121 [.ref t5]],[]⟩,⟨[.d .bool],[]⟩,[]⟩,
 ⟨106,⟨[.d (.sl t0),.ref t2,.ref .str,.ref t2],[]⟩,⟨[.d .bool],[]⟩,[]⟩,
 ⟨107,⟨[.d t5,.ptr 0 0],[.box [.fn 104 [.ptr 1 0]],.box [.d t6]]⟩,⟨[.d .bool],[.box [.fn 104 [.ptr 1 0]],.box [.d t6]]⟩,[0,1]⟩,
 ⟨108,⟨[.d t6],[]⟩,⟨[.osl 0],[.vec t0]⟩,[]⟩,
 ⟨109,⟨[.d t6,.d t4,.d t2],[]⟩,⟨[.d t6],[]⟩,[]⟩,
 ⟨110,⟨[.d t4,.d (.sl t0)],[]⟩,⟨[.osl 0],[.vec t4]⟩,[]⟩,
 ⟨111,⟨[.d t6],[]⟩,⟨[.d t6],[]⟩,[]⟩,
 ⟨112,⟨[.d (.sl t0)],[]⟩,⟨[.d .bool],[]⟩,[]⟩,
 ⟨113,⟨[.d t0],[]⟩,⟨[.d .bool],[]⟩,[]⟩,
 ⟨114,⟨[.d t2],[]⟩,⟨[.d (.sl t0)],[]⟩,[]⟩,
 ⟨115,⟨[.d (.sl t2),.d t2],[]⟩,⟨[.d .bool],[]⟩,[]⟩,
 ⟨116,⟨[.d (.sl t1),.d t0],[]⟩,⟨[.d (.sl t5)],[]⟩,[]⟩,
 ⟨117,⟨[.d (.sl t1),.d t0,.d .str],[]⟩,⟨[.d t3],[]⟩,[]⟩,
 ⟨118,⟨[.d t3,.d t2,.d t3],[]⟩,⟨[.d t3],[]⟩,[]⟩,
 ⟨119,⟨[.d (.sl t1),.d t3,.d t0,.d t2],[]⟩,⟨[.d t3],[]⟩,[]⟩,
 ⟨120,⟨[.d t5,.ptr 0 0],[.box [.d t6]]⟩,⟨[.d .bool],[.box [.d t6]]⟩,[0]⟩,
 ⟨121,⟨[.d (.sl t0),.ref t5],[]⟩,⟨[.d .bool],[]⟩,[]⟩,
 ⟨122,⟨[.d (.sl t5),.fn 123 [.ptr 0 0]],[.box [.fn 120 [.ptr 1 0]],.box [.d t6]]⟩,⟨[.d .bool],[.box [.fn 120 [.ptr 1 0]],.box [.d t6]]⟩,[0,1]⟩,
 ⟨122,⟨[.d (.sl t5),.fn 124 [.ptr 0 0,.ptr 1 0,.ptr 2 0,.ptr 3 0,.ptr 4 0]],[.box [.ptr 5 0],.box [.d t0],.box [.d (.sl t0)],.box [.d t6],.box [.d (.sl t0)],.box [.d (.sl t1)]]⟩,⟨[.d .bool],[.box [.ptr 5 0],.box [.d t0],.box [.d (.sl t0)],.box [.d t6],.box [.d (.sl t0)],.box [.d (.sl t1)]]⟩,[0,1,2,3,4,5]⟩,
 ⟨123,⟨[.d t5,.ptr 0 0],[.box [.fn 120 [.ptr 1 0]],.box [.d t6]]⟩,⟨[.d .bool],[.box [.fn 120 [.ptr 1 0]],.box [.d t6]]⟩,[0,1]⟩,
 ⟨124,⟨[.d t5,.ptr 0 0,.ptr 1 0,.ptr 2 0,.ptr 3 0,.ptr 4 0],[.box [.ptr 5 0],.box [.d t0],.box [.d (.sl t0)],.box [.d t6],.box [.d (.sl t0)],.box [.d (.sl t1)]]⟩,⟨[.d .bool],[.box [.ptr 5 0],.box [.d t0],.box [.d (.sl t0)],.box [.d t6],.box [.d (.sl t0)],.box [.d (.sl t1)]]⟩,[0,1,2,3,4,5]⟩,
 ⟨125,⟨[.d (.int .u64)],[]⟩,⟨[.d t2],[]⟩,[]⟩,
 ⟨126,⟨[.d t0],[]⟩,⟨[.d (.sl t2)],[]⟩,[]⟩,
 ⟨127,⟨[.d tb],[]⟩,⟨[.d t2],[]⟩,[]⟩,
 ⟨128,⟨[.d .str,.d t2,.d t2,.d t2],[]⟩,⟨[.d t2],[]⟩,[]⟩,
 ⟨129,⟨[.d .str],[]⟩,⟨[.d .bool],[]⟩,[]⟩,
 ⟨130,⟨[.d t0,.d t2,.d .bool],[]⟩,⟨[.d t2],[]⟩,[]⟩,
 ⟨131,⟨[.d t2],[]⟩,⟨[.d .bool],[]⟩,[]⟩,
 ⟨132,⟨[.d t0,.d t2],[]⟩,⟨[.osl 0],[.vec .str]⟩,[]⟩,
 ⟨133,⟨[.d t0,.ptr 0 0],[.box [.d .str,.d t2,.d (.sl t5)]]⟩,⟨[.d .bool],[.box [.d .str,.d t2,.d (.sl t5)]]⟩,[0]⟩,
 ⟨134,⟨[.d t2,.ptr 0 0],[.box [.d .str,.d t2,.d (.sl t5)]]⟩,⟨[.d .bool],[.box [.d .str,.d t2,.d (.sl t5)]]⟩,[0]⟩,
 ⟨135,⟨[.d (.sl t2),.fn 134 [.ptr 0 0]],[.box [.d .str,.d t2,.d (.sl t5)]]⟩,⟨[.d .bool],[.box [.d .str,.d t2,.d (.sl t5)]]⟩,[0]⟩,
 ⟨136,⟨[.d t0],[]⟩,⟨[.d (.sl t2)],[]⟩,[]⟩,
 ⟨137,⟨[.d t0,.ptr 0 0],[.box [.fn 133 [.ptr 1 0]],.box [.d .str,.d t2,.d (.sl t5)]]⟩,⟨[.d .bool],[.box [.fn 133 [.ptr 1 0]],.box [.d .str,.d t2,.d (.sl t5)]]⟩,[0,1]⟩,
 ⟨138,⟨[.d t2,.d t2,.ref (.sl t1),.ref .str,.ptr 0 0,.ptr 1 0],[.box [.d t2],.box [.d t2]]⟩,⟨[.d .bool],[.box [.d t2],.box [.d t2]]⟩,[0,1]⟩,
 ⟨139,⟨[.d t4],[]⟩,⟨[.d .bool],[]⟩,[]⟩,
 ⟨140,⟨[.d t0,.fn 87 []],[]⟩,⟨[.d t2],[]⟩,[]⟩,
 ⟨140,⟨[.d t0,.fn 98 []],[]⟩,⟨[.d t2],[]⟩,[]⟩,
 ⟨140,⟨[.d t0,.fn 79 [.ptr 0 0]],[.box [.d (.sl t1)]]⟩,⟨[.d t2],[.box [.d (.sl t1)]]⟩,[0]⟩,
 ⟨141,⟨[.d t1,.ref t0],[]⟩,⟨[.d .bool],[]⟩,[]⟩,
 ⟨142,⟨[.d (.sl ta),.fn 143 [.ref t4]],[]⟩,⟨[.d t2],[]⟩,[]⟩,
 ⟨143,⟨[.d ta,.ref t4],[]⟩,⟨[.d .bool],[]⟩,[]⟩,
 ⟨144,⟨[.d t0],[]⟩,⟨[.d t2],[]⟩,[]⟩,
 ⟨145,⟨[.d t0,.d t2,.d .bool,.fn 146 [.ref t0]],[]⟩,⟨[.d t2,.d t2],[]⟩,[]⟩,
 ⟨146,⟨[.d t2,.d .bool,.ref t0],[]⟩,⟨[.d t2],[]⟩,[]⟩,
 ⟨147,⟨[.d t0,.d t2,.d .bool],[]⟩,⟨[.d t2],[]⟩,[]⟩,
 ⟨148,⟨[.d t2,.ref t0],[]⟩,⟨[.d .bool],[]⟩,[]⟩,
 ⟨149,⟨[.d t0,.d t2],[]⟩,⟨[.d t0,.d t2],[]⟩,[]⟩,
 ⟨150,⟨[.d t0],[]⟩,⟨[.osl 0],[.vec .str]⟩,[]⟩,
 ⟨151,⟨[.osl 0],[.vec .str]⟩,⟨[],[.vec .str]⟩,[0]⟩,
 ⟨152,⟨[.osl 0],[.vec .str]⟩,⟨[.osl 1],[.gone,.vec .str]⟩,[]⟩,
 ⟨153,⟨[.d t0],[]⟩,⟨[.d t2],[]⟩,[]⟩,
 ⟨154,⟨[.d t2],[]⟩,⟨[.d .bool],[]⟩,[]⟩,
 ⟨155,⟨[.d t2],[]⟩,⟨[.d t2],[]⟩,[]⟩,
 ⟨156,⟨[.d .str],[]⟩,⟨[.d .bool],[]⟩,[]⟩,
 ⟨157,⟨[.d t6,.fn 106 [.ref t2,.ref .str,.ref t2]],[]⟩,⟨[.d t2],[]⟩,[]⟩,
 ⟨157,⟨[.d t6,.fn 112 []],[]⟩,⟨[.d t2],[]⟩,[]⟩,
 ⟨157,⟨[.d t6,.fn 121 [.ref t5]],[]⟩,⟨[.d t2],[]⟩,[]⟩,
 ⟨158,⟨[.d (.sl t0),.d t2],[]⟩,⟨[.osl 0],[.vec t0]⟩,[]⟩,
 ⟨159,⟨[.d (.sl t2),.d t2],[]⟩,⟨[.d t2],[]⟩,[]⟩,
 ⟨160,⟨[],[]⟩,⟨[.d (.sl .str)],[]⟩,[]⟩,
 ⟨161,⟨[.d t2],[]⟩,⟨[.d t2],[]⟩,[]⟩,
 ⟨162,⟨[.d t2,.d t2],[]⟩,⟨[.d .bool],[]⟩,[]⟩,
 ⟨163,⟨[.d .str],[]⟩,⟨[.d .bool],[]⟩,[]⟩,
 ⟨164,⟨[.d (.sl t2),.fn 134 [.ptr 0 0]],[.box [.d .str,.d t2,.d (.sl t5)]]⟩,⟨[.d t2],[.box [.d .str,.d t2,.d (.sl t5)]]⟩,[0]⟩,
 ⟨165,⟨[.d (.sl t2),.d t2],[]⟩,⟨[.d .bool],[]⟩,[]⟩,
 ⟨166,⟨[.fn 170 [],.ref t4],[]⟩,⟨[.d .bool],[]⟩,[]⟩,
 ⟨166,⟨[.fn 171 [],.ref t4],[]⟩,⟨[.d .bool],[]⟩,[]⟩,
 ⟨167,⟨[.d .str,.fn 168 []],[]⟩,⟨[.d .bool],[]⟩,[]⟩,
 ⟨167,⟨[.d .str,.fn 172 []],[]⟩,⟨[.d .bool],[]⟩,[]⟩,
 ⟨168,⟨[.d tb],[]⟩,⟨[.d .bool],[]⟩,[]⟩,
 ⟨169,⟨[.d .str],[]⟩,⟨[.d .bool],[]⟩,[]⟩,
 ⟨170,⟨[.d tb],[]⟩,⟨[.d .bool],[]⟩,[]⟩,
 ⟨171,⟨[.d tb],[]⟩,⟨[.d .bool],[]⟩,[]⟩,
 ⟨172,⟨[.d tb],[]⟩,⟨[.d .bool],[]⟩,[]⟩,
 ⟨173,⟨[.d t2],[]⟩,⟨[.agg [.d .bool,.d .bool,.fa [(182,false),(156,false)],.fa [(199,true),(183,false),(184,false)],.d .bool]],[]⟩,[]⟩,
 ⟨176,⟨[.d (.sl t2),.d t2],[]⟩,⟨[.d t2],[]⟩,[]⟩,
 ⟨177,⟨[.d tb],[]⟩,⟨[.d .bool],[]⟩,[]⟩,
 ⟨178,⟨[.d (.sl .str),.d .str],[]⟩,⟨[.d .bool],[]⟩,[]⟩,
 ⟨179,⟨[],[]⟩,⟨[.d (.sl .str)],[]⟩,[]⟩,
 ⟨180,⟨[.d .str,.d tb],[]⟩,⟨[.d t2],[]⟩,[]⟩,
 ⟨181,⟨[.d t2],[]⟩,⟨[.fn 199 [.ref t2]],[]⟩,[]⟩,
 ⟨182,⟨[.d .str],[]⟩,⟨[.d .bool],[]⟩,[]⟩,
 ⟨183,⟨[.d t2],[]⟩,⟨[.d .bool],[]⟩,[]⟩,
 ⟨184,⟨[.d t2],[]⟩,⟨[.d .bool],[]⟩,[]⟩,
 ⟨196,⟨[.d (.sl .str),.d .str],[]⟩,⟨[.d t2],[]⟩,[]⟩,
 ⟨197,⟨[.d .str],[]⟩,⟨[.d (.sl .str)],[]⟩,[]⟩,
 ⟨199,⟨[.d t2,.ref t2],[]⟩,⟨[.d .bool],[]⟩,[]⟩]
def spaces:List Int:=[0,0,0,0,0,0,0,0,0,1,1,1,1,1,0,0,0,0,0,0,0,0,0,0,0,0,0,0,0,0,0,0,1,0,0,0,0,0,0,0,0,0,0,0,0,0,0,0,0,0,0,0,0,0,0,0,0,0,0,0,0,0,0,0,0,0,0,0,0,0,0,0,0,0,0,0,0,0,0,0,0,0,0,0,0,0,0,0,0,0,0,0,0,0,0,0,0,0,0,0,0,0,0,0,0,0,0,0,0,0,0,0,0,0,0,0,0,0,0,0,0,0,0,0,0,0,0,0,0,0,0,0,0,0,0,0,0,0,0,0,0,0,0,0,0,0,0,0,0,0,0,0,0,0,0,0,0,0,0,0,0,0,0,0,0,0,0,0,0,0,0,0,0,0,0,0,0,0,0,0,0,0,0,0,0,0,0,0,0,0,0,0,0,0,0,0,0,0,0,0,0,0,0,0,0,0,0,0,0,0,0,0,0,0,0,0,0,0,0,0,0,0,0,0,0,0,0,0,0,0,0,0,0,0,0,0,0,0,0,0,0,0,0,0,0,0,0,0,0,0,0,0,0,0,0,0]
def glob:Nat→Option ((t:Ty)×den t)
 |0=>some ⟨.arr 256 (.int .u8),spaces⟩
 |_=>none
def tab:List (Nat×Ty):=[
 (2,t2),
 (3,t2),
 (4,.bool),
 (5,tb),
 (6,tb),
 (7,(.st (.pair t2 (.pair t2 (.pair .bool tb))))),
 (8,(.st (.pair t2 (.pair t2 (.pair .bool tb))))),
 (9,.str),
 (10,.str),
 (11,.str),
 (12,(.int .u64)),
 (13,(.st (.pair .str (.int .u64)))),
 (14,(.st (.pair .str (.int .u64)))),
 (21,(.int .i32)),
 (22,(.sl t1)),
 (23,t0),
 (26,(.sl t0)),
 (27,t2),
 (33,t2),
 (34,t4),
 (35,t4),
 (39,(.sl t9)),
 (48,(.sl t3)),
 (49,(.sl t2)),
 (57,t9),
 (58,t9),
 (68,(.sl ta)),
 (70,ta),
 (71,ta),
 (72,(.sl t5)),
 (73,t1),
 (74,t1),
 (75,t5),
 (76,t5),
 (85,(.st (.sl t1))),
 (86,(.st (.sl t1))),
 (88,t6),
 (90,(.sl t2)),
 (92,t3),
 (99,(.sl .str)),
 (103,t2),
 (104,t4),
 (105,t4),
 (139,(.int .u64)),
 (175,(.int .u64)),
 (180,t2),
 (189,(.int .u32)),
 (193,(.int .u64)),
 (199,(.arr 256 tb)),
 (205,(.sl (.st (.pair t2 t2)))),
 (206,(.st (.pair t2 t2))),
 (207,(.st (.pair t2 t2))),
 (210,(.sl t7)),
 (211,(.sl t8)),
 (212,(.st (.pair (.sl t7) (.pair (.sl t8) t2)))),
 (213,(.st (.pair (.sl t7) (.pair (.sl t8) t2)))),
 (214,(.int .u16)),
 (215,t7),
 (216,t7),
 (218,t8),
 (219,t8),
 (230,tb),
 (231,tb),
 (234,(.int .i32)),
 (235,(.int .i32))]
def eqs:List Nat:=[34,35]
noncomputable def C:Cx:=⟨Tryz.prog,sigs,glob,tab,eqs,9999⟩
def z51:denP (q0b C.sigs 168).ins.tys→Option (denP (q0b C.sigs 168).outs.tys):=fun x=>bif x.1.l.all qby&&decide (x.1.l.length<4611686018427387904) then some ((⟨x.1.nil,x.1.l.mergeSort fun a b=>!strLt b a⟩:Sl (List Int)),()) else none
def g_ix:denP (q0b C.sigs 199).ins.tys→Option (denP (q0b C.sigs 199).outs.tys):=fun x=>some (ixB x.2.1 x.1,())
def z52:denP (q0b C.sigs 177).ins.tys→Option (denP (q0b C.sigs 177).outs.tys):=fun x=>bif x.1.nil&&x.1.l.isEmpty&&decide (0≤x.2.1)&&decide (x.2.1≤1000000) then some ((⟨decide (x.2.1=0),([]:List (Sl (Int×(List Int)×Int×Int)))⟩:Sl (Sl (Int×(List Int)×Int×Int))),()) else none
theorem c_ix:CallsAs C 199 g_ix:=by intro x y h;obtain ⟨l,c,u⟩:=x;have h:some ((ixB c l,()):Int×Unit)=some y:=h;injection h with h;subst h;exact Call.prim 199 _ _ (z48 (C:=C) (f:=180) ⟨_,Tryz.func180,by kernel_rfl⟩ (fun s c w=>Any.strings_IndexByte Tryz.ixL s c w) l c)
theorem z53:CallsAs C 177 z52:=by
 intro x y h;obtain ⟨⟨nil,l⟩,n,u⟩:=x;have h:(bif nil&&l.isEmpty&&decide (0≤n)&&decide (n≤1000000) then some ((⟨decide (n=0),([]:List (Sl (Int×(List Int)×Int×Int)))⟩,()):Sl (Sl (Int×(List Int)×Int×Int))×Unit) else none)=some y:=h;cases hb:(nil&&l.isEmpty&&decide (0≤n)&&decide (n≤1000000)) with
 |false=>rw [hb] at h;cases h
 |true=>
  rw [hb] at h;injection h with h;subst h;simp only [zd,decide_eq_true_eq] at hb;obtain ⟨⟨⟨h1,h2⟩,h3⟩,h4⟩:=hb;subst h1;obtain rfl:l=[]:=List.isEmpty_iff.1 h2;obtain ⟨k,rfl⟩:=Int.eq_ofNat_of_zero_le h3;have h4:(k:Int)≤1000000:=h4;have he:(Tryz.prog.info? (Tryz.growL_ren.t 25)).map (fun i=>(i.zero,i.size,i.bytes))=some (some (.slice none 0 0),1,24):=by kernel_rfl
  obtain ⟨i0,i1,i2⟩:=Option.map_eq_some_iff.1 he;injection i2 with i2 i3;injection i3 with i3 i4;have key:=qvc (C:=C) (f:=158) (t:=.sl (.st (.pair (.int .i64) (.pair .str (.pair (.int .i64) (.int .i64)))))) (by intro h;cases h) ⟨_,Tryz.func158,by kernel_rfl⟩
   (fun w=>Any8.slices_Grow_room Tryz.growL none 0 0 0 w (Nat.le_refl _) (by decide) (by decide) (Nat.le_refl _))
   (fun n w hn hf=>by
    have g:=Any8.slices_Grow_grow Tryz.growL i0 (.slice none 0 0) i1 i2 (by omega) none 0 0 n [] w (Nat.le_refl _) (by omega) (by rw [i4];omega) (by omega) (by rw [i3];rfl) (fun _=>rfl) (fun a h=>by cases h);refine Calls.mono g fun e w' ⟨e1,e2⟩=>⟨_,_,_,e1,e2,?_⟩;have hc:csz (.sl (.st (.pair (.int .i64) (.pair .str (.pair (.int .i64) (.int .i64))))))=1:=rfl;rw [hc];have hs:(Value.slice none 0 0).cells.size=1:=by kernel_rfl
    simp [Builtin.zeroCells];rw [hs];omega) k (by omega)
  have e:decide ((k:Int)=0)=decide (k=0):=decide_eq_decide.2 (by omega);rw [e];exact Call.prim 177 _ _ key
def q5z (x:List UInt8):List Int:=x.map fun b=>(b.toNat:Int)
def qha (l:List Int):List UInt8:=l.map fun b=>UInt8.ofNat b.toNat
theorem qhb:∀x y:List UInt8,q5z x=q5z y→x=y
 |[],[],_=>rfl
 |[],_::_,h=>by cases h
 |_::_,[],h=>by cases h
 |a::x,b::y,h=>by injection h with h1 h2;have h1:(a.toNat:Int)=(b.toNat:Int):=h1;have e:a=b:=UInt8.toNat_inj.1 (by omega);rw [qhb x y h2,e]
theorem qbd:∀l:List Int,(∀b,b∈l→0≤b∧b≤255)→q5z (qha l)=l
 |[],_=>rfl
 |a::l,h=>by obtain ⟨h0,h1⟩:=h a (ze ..);show (((UInt8.ofNat a.toNat).toNat:Nat):Int)::q5z (qha l)=_;rw [qbd l fun b hb=>h b (zh _ hb),UInt8.toNat_ofNat',Nat.mod_eq_of_lt (by omega)];congr 1;omega
theorem qhc:∀x y:List UInt8,strLt (q5z x) (q5z y)=decide (x<y)
 |[],[]=>rfl
 |[],b::y=>by show true=_;exact (zu (List.nil_lt_cons b y)).symm
 |a::x,[]=>by show false=_;exact (zw (List.not_lt_nil _)).symm
 |a::x,b::y=>by
  show (decide ((a.toNat:Int)<(b.toNat:Int))||(decide ((a.toNat:Int)=(b.toNat:Int))&&strLt (q5z x) (q5z y)))=_;rw [qhc x y,Bool.eq_iff_iff,decide_eq_true_eq,List.cons_lt_cons_iff];simp only [Bool.or_eq_true,zd,decide_eq_true_eq];have e1:((a.toNat:Int)<(b.toNat:Int))↔a<b:=by rw [UInt8.lt_iff_toNat_lt];omega
  have e2:((a.toNat:Int)=(b.toNat:Int))↔a=b:=by rw [←UInt8.toNat_inj];omega
  rw [e1,e2]
theorem qyc (imm:Nat→Prop) (w:World) (x:List UInt8) (hx:x.length≤9223372036854775807) (cs:List Value):relC imm w .str (q5z x) cs↔cs=[encStr x]:=by
 constructor
 ·rintro ⟨t,e3,h1,h2⟩;have h1:t.data.toList.map (fun b=>(b.toNat:Int))=q5z x:=h1;have h3:t.data.toList=x:=qhb _ _ h1;subst e3;have:t=⟨x.toArray⟩:=by rw [←h3]
  rw [this]
 ·intro e;subst e;refine ⟨⟨x.toArray⟩,rfl,rfl,?_⟩;show x.toArray.size≤_;simpa [maxL] using hx
theorem z54:CallsAs C 168 z51:=by
 intro x y h;obtain ⟨⟨nil,l⟩,u⟩:=x;have h:(bif l.all qby&&decide (l.length<4611686018427387904) then some ((⟨nil,l.mergeSort fun a b=>!strLt b a⟩:Sl (List Int)),()) else none)=some y:=h;cases hg:(l.all qby&&decide (l.length<4611686018427387904)) with
 |false=>rw [hg] at h;cases h
 |true=>
  rw [hg] at h;injection h with h;subst h;simp only [zd,decide_eq_true_eq] at hg;obtain ⟨g1,g3⟩:=hg;have gg:∀s,s∈l→(∀b,b∈s→0≤b∧b≤255)∧s.length≤9223372036854775807:=fun s hs=>qv8 (zQ.1 g1 s hs);have hl:l=(l.map qha).map q5z:=by rw [zX];exact ((zY (g:=fun s=>s) fun s hs=>qbd s (gg s hs).1).trans (List.map_id' l)).symm
  have key:=qvb (C:=C) (f:=151) (t:=.str) encStr q5z (fun x=>x.length≤9223372036854775807) (fun l=>l.mergeSort fun x y=>decide (x≤y)) (by intro h;cases h) rfl
   (fun imm w x hx cs=>qyc imm w x hx cs) (fun l=>List.length_mergeSort l) (fun l x hx=>(List.mem_mergeSort).1 hx)
   ⟨_,Tryz.func151,by kernel_rfl⟩ (fun p cap w=>Any.slices_Sort_string_none Tryz.sortL p cap w)
   (fun blk off cap zs w hH hb hc=>calls_of_every_depth fun D=>AnyS.slices_Sort_string_alone Tryz.sortL D blk off cap zs w hH hb hc)
   nil (l.map qha) (fun x hx=>by obtain ⟨s,hs,rfl⟩:=zP.1 hx;show (s.map _).length≤_;rw [zo];exact (gg s hs).2) (by rw [zo];exact g3)
  have e:((l.map qha).mergeSort fun x y=>decide (x≤y)).map q5z=((l.map qha).map q5z).mergeSort fun a b=>!strLt b a:=
   List.map_mergeSort (fun a _ b _=>by
    rw [qhc];by_cases h:b<a
    ·rw [zu h,zw (fun e:a≤b=>e h)];rfl
    ·rw [zw h,zu (show a≤b from h)];rfl)
  rw [e,←hl] at key;exact Call.prim 168 _ _ key
theorem c_f0:CallsAs C 172 f_f0:=mkC (fun L R x=>b_f0 L  x) q05 (fun _ _ _=>by kernel_rfl) (fun _=>by kernel_rfl)
theorem c_as:CallsAs C 191 f_as:=mkC (fun L R x=>b_as L  x) q05 (fun _ _ _=>by kernel_rfl) (fun _=>by kernel_rfl)
theorem c_ap:CallsAs C 192 f_ap:=mkC (fun L R x=>b_ap L  x) q05 (fun _ _ _=>by kernel_rfl) (fun _=>by kernel_rfl)
theorem c_ao:CallsAs C 196 f_ao:=mkC (fun L R x=>b_ao L  x) q05 (fun _ _ _=>by kernel_rfl) (fun _=>by kernel_rfl)
theorem c_aq:CallsAs C 189 f_aq:=mkC (fun L R x=>b_aq L (R 191) (R 192) (R 196) x) (q03 c_as (q03 c_ap (q03 c_ao q05))) (fun _ _ _=>by kernel_rfl) (fun _=>by kernel_rfl)
theorem c_am:CallsAs C 187 f_am:=mkC (fun L R x=>b_am L (R 189) x) (q03 c_aq q05) (fun _ _ _=>by kernel_rfl) (fun _=>by kernel_rfl)
theorem c_e4:CallsAs C 204 f_e4:=mkC (fun L R x=>b_e4 L  x) q05 (fun _ _ _=>by kernel_rfl) (fun _=>by kernel_rfl)
theorem c_dj:CallsAs C 197 f_dj:=mkC (fun L R x=>b_dj L (R 204) x) (q03 c_e4 q05) (fun _ _ _=>by kernel_rfl) (fun _=>by kernel_rfl)
theorem c_e6:CallsAs C 205 f_e6:=mkC (fun L R x=>b_e6 L  x) q05 (fun _ _ _=>by kernel_rfl) (fun _=>by kernel_rfl)
theorem c_at:CallsAs C 198 f_at:=mkC (fun L R x=>b_at L (R 205) x) (q03 c_e6 q05) (fun _ _ _=>by kernel_rfl) (fun _=>by kernel_rfl)
theorem c_ai:CallsAs C 190 f_ai:=mkC (fun L R x=>b_ai L (R 197) (R 198) x) (q03 c_dj (q03 c_at q05)) (fun _ _ _=>by kernel_rfl) (fun _=>by kernel_rfl)
theorem c_ak:CallsAs C 185 f_ak:=mkC (fun L R x=>b_ak L (R 187) (R 190) (R 191) x) (q03 c_am (q03 c_ai (q03 c_as q05))) (fun _ _ _=>by kernel_rfl) (fun _=>by kernel_rfl)
theorem c_al:CallsAs C 186 f_al:=mkC (fun L R x=>b_al L (R 187) (R 190) (R 192) x) (q03 c_am (q03 c_ai (q03 c_ap q05))) (fun _ _ _=>by kernel_rfl) (fun _=>by kernel_rfl)
theorem c_e7:CallsAs C 199 f_e7:=c_ix
theorem c_ar:CallsAs C 193 f_ar:=mkC (fun L R x=>b_ar L (R 199) x) (q03 c_e7 q05) (fun _ _ _=>by kernel_rfl) (fun _=>by kernel_rfl)
theorem c_an:CallsAs C 188 f_an:=mkC (fun L R x=>b_an L (R 193) x) (q03 c_ar q05) (fun _ _ _=>by kernel_rfl) (fun _=>by kernel_rfl)
theorem c_aj:CallsAs C 154 f_aj:=mkC (fun L R x=>b_aj L (R 172) (R 185) (R 186) (R 188) (R 190) x) (q03 c_f0 (q03 c_ak (q03 c_al (q03 c_an (q03 c_ai q05))))) (fun _ _ _=>by kernel_rfl) (fun _=>by kernel_rfl)
theorem c_ad:CallsAs C 85 f_ad:=mkC (fun L R x=>b_ad L (R 154) x) (q03 c_aj q05) (fun _ _ _=>by kernel_rfl) (fun _=>by kernel_rfl)
theorem c_ez:CallsAs C 96 f_ez:=mkC (fun L R x=>b_ez L (R 154) x) (q03 c_aj q05) (fun _ _ _=>by kernel_rfl) (fun _=>by kernel_rfl)
theorem c_ex:CallsAs C 95 f_ex:=mkC (fun L R x=>b_ex L (R 96) x) (q03 c_ez q05) (fun _ _ _=>by kernel_rfl) (fun _=>by kernel_rfl)
theorem c_do:CallsAs C 155 f_do:=mkC (fun L R x=>b_do L (R 95) x) (q03 c_ex q05) (fun _ _ _=>by kernel_rfl) (fun _=>by kernel_rfl)
theorem c_de:CallsAs C 91 f_de:=mkC (fun L R x=>b_de L (R 155) x) (q03 c_do q05) (fun _ _ _=>by kernel_rfl) (fun _=>by kernel_rfl)
theorem c_ep:CallsAs C 104 f_ep:=mkC (fun L R x=>b_ep L  x) q05 (fun _ _ _=>by kernel_rfl) (fun _=>by kernel_rfl)
theorem c_et:CallsAs C 94 f_et:=mkC (fun L R x=>b_et L (R 104) x) (q03 c_ep q05) (fun _ _ _=>by kernel_rfl) (fun _=>by kernel_rfl)
theorem c_ew:CallsAs C 36 f_ew:=mkC (fun L R x=>b_ew L (R 91) (R 94) x) (q03 c_de (q03 c_et q05)) (fun _ _ _=>by kernel_rfl) (fun _=>by kernel_rfl)
theorem c_ag:CallsAs C 149 f_ag:=mkC (fun L R x=>b_ag L  x) q05 (fun _ _ _=>by kernel_rfl) (fun _=>by kernel_rfl)
theorem c_dv:CallsAs C 183 f_dv:=mkC (fun L R x=>b_dv L (R 149) x) (q03 c_ag q05) (fun _ _ _=>by kernel_rfl) (fun _=>by kernel_rfl)
theorem c_da:CallsAs C 150 f_da:=mkC (fun L R x=>b_da L (R 183) x) (q03 c_dv q05) (fun _ _ _=>by kernel_rfl) (fun _=>by kernel_rfl)
theorem c_dl:CallsAs C 195 f_dl:=mkC (fun L R x=>b_dl L  x) q05 (fun _ _ _=>by kernel_rfl) (fun _=>by kernel_rfl)
theorem c_d6:CallsAs C 184 f_d6:=mkC (fun L R x=>b_d6 L (R 195) x) (q03 c_dl q05) (fun _ _ _=>by kernel_rfl) (fun _=>by kernel_rfl)
theorem c_ey:CallsAs C 151 f_ey:=mkC (fun L R x=>b_ey L (R 36) (R 184) x) (q03 c_ew (q03 c_d6 q05)) (fun _ _ _=>by kernel_rfl) (fun _=>by kernel_rfl)
theorem c_af:CallsAs C 148 f_af:=mkC (fun L R x=>b_af L (R 36) (R 150) (R 151) x) (q03 c_ew (q03 c_da (q03 c_ey q05))) (fun _ _ _=>by kernel_rfl) (fun _=>by kernel_rfl)
theorem c_ah:CallsAs C 152 f_ah:=mkC (fun L R x=>b_ah L (R 148) x) (q03 c_af q05) (fun _ _ _=>by kernel_rfl) (fun _=>by kernel_rfl)
theorem c_dw:CallsAs C 51 f_dw:=mkC (fun L R x=>b_dw L (R 152) x) (q03 c_ah q05) (fun _ _ _=>by kernel_rfl) (fun _=>by kernel_rfl)
theorem c_dd:CallsAs C 89 f_dd:=mkC (fun L R x=>b_dd L (R 51) x) (q03 c_dw q05) (fun _ _ _=>by kernel_rfl) (fun _=>by kernel_rfl)
theorem c_ae:CallsAs C 73 f_ae:=mkC (fun L R x=>b_ae L (R 85) (R 89) x) (q03 c_ad (q03 c_dd q05)) (fun _ _ _=>by kernel_rfl) (fun _=>by kernel_rfl)
theorem c_a1:CallsAs C 72 f_a1:=mkC (fun L R x=>b_a1 L (R 73) x) (q03 c_ae q05) (fun _ _ _=>by kernel_rfl) (fun _=>by kernel_rfl)
theorem c_dy:CallsAs C 74 f_dy:=mkC (fun L R x=>b_dy L (R 72) x) (q03 c_a1 q05) (fun _ _ _=>by kernel_rfl) (fun _=>by kernel_rfl)
theorem c_d7:CallsAs C 70 f_d7:=mkC (fun L R x=>b_d7 L (R 74) x) (q03 c_dy q05) (fun _ _ _=>by kernel_rfl) (fun _=>by kernel_rfl)
theorem c_a2:CallsAs C 78 f_a2:=mkC (fun L R x=>b_a2 L  x) q05 (fun _ _ _=>by kernel_rfl) (fun _=>by kernel_rfl)
theorem c_dz:CallsAs C 75 f_dz:=mkC (fun L R x=>b_dz L (R 78) x) (q03 c_a2 q05) (fun _ _ _=>by kernel_rfl) (fun _=>by kernel_rfl)
theorem c_a9:CallsAs C 153 f_a9:=mkC (fun L R x=>b_a9 L  x) q05 (fun _ _ _=>by kernel_rfl) (fun _=>by kernel_rfl)
theorem c_ac:CallsAs C 83 f_ac:=mkC (fun L R x=>b_ac L (R 153) x) (q03 c_a9 q05) (fun _ _ _=>by kernel_rfl) (fun _=>by kernel_rfl)
theorem c_a8:CallsAs C 80 f_a8:=mkC (fun L R x=>b_a8 L (R 83) x) (q03 c_ac q05) (fun _ _ _=>by kernel_rfl) (fun _=>by kernel_rfl)
theorem c_a3:CallsAs C 79 f_a3:=mkC (fun L R x=>b_a3 L (R 80) x) (q03 c_a8 q05) (fun _ _ _=>by kernel_rfl) (fun _=>by kernel_rfl)
theorem c_aa:CallsAs C 81 f_aa:=mkC (fun L R x=>b_aa L (R 79) x) (q03 c_a3 q05) (fun _ _ _=>by kernel_rfl) (fun _=>by kernel_rfl)
theorem c_a5:CallsAs C 86 f_a5:=mkC (fun L R x=>b_a5 L  x) q05 (fun _ _ _=>by kernel_rfl) (fun _=>by kernel_rfl)
theorem c_e0:CallsAs C 76 f_e0:=mkC (fun L R x=>b_e0 L (R 86) x) (q03 c_a5 q05) (fun _ _ _=>by kernel_rfl) (fun _=>by kernel_rfl)
theorem c_db:CallsAs C 71 f_db:=mkC (fun L R x=>b_db L (R 76) x) (q03 c_e0 q05) (fun _ _ _=>by kernel_rfl) (fun _=>by kernel_rfl)
theorem c_a4:CallsAs C 84 f_a4:=mkC (fun L R x=>b_a4 L (R 71) (R 85) x) (q03 c_db (q03 c_ad q05)) (fun _ _ _=>by kernel_rfl) (fun _=>by kernel_rfl)
theorem c_dq:CallsAs C 157 f_dq:=mkC (fun L R x=>b_dq L (R 84) x) (q03 c_a4 q05) (fun _ _ _=>by kernel_rfl) (fun _=>by kernel_rfl)
theorem c_dg:CallsAs C 93 f_dg:=mkC (fun L R x=>b_dg L (R 157) x) (q03 c_dq q05) (fun _ _ _=>by kernel_rfl) (fun _=>by kernel_rfl)
theorem c_a7:CallsAs C 90 f_a7:=mkC (fun L R x=>b_a7 L (R 93) x) (q03 c_dg q05) (fun _ _ _=>by kernel_rfl) (fun _=>by kernel_rfl)
theorem c_dm:CallsAs C 50 f_dm:=mkC (fun L R x=>b_dm L (R 90) x) (q03 c_a7 q05) (fun _ _ _=>by kernel_rfl) (fun _=>by kernel_rfl)
theorem c_dc:CallsAs C 88 f_dc:=mkC (fun L R x=>b_dc L (R 50) x) (q03 c_dm q05) (fun _ _ _=>by kernel_rfl) (fun _=>by kernel_rfl)
theorem c_a6:CallsAs C 87 f_a6:=mkC (fun L R x=>b_a6 L (R 88) x) (q03 c_dc q05) (fun _ _ _=>by kernel_rfl) (fun _=>by kernel_rfl)
theorem c_ab:CallsAs C 82 f_ab:=mkC (fun L R x=>b_ab L (R 87) x) (q03 c_a6 q05) (fun _ _ _=>by kernel_rfl) (fun _=>by kernel_rfl)
theorem c_a0:CallsAs C 35 f_a0:=mkC (fun L R x=>b_a0 L (R 70) (R 75) (R 81) (R 82) x) (q03 c_d7 (q03 c_dz (q03 c_aa (q03 c_ab q05)))) (fun _ _ _=>by kernel_rfl) (fun _=>by kernel_rfl)
theorem c_b7:CallsAs C 158 f_b7:=mkC (fun L R x=>b_b7 L  x) q05 (fun _ _ _=>by kernel_rfl) (fun _=>by kernel_rfl)
theorem c_e1:CallsAs C 77 f_e1:=mkC (fun L R x=>b_e1 L (R 158) x) (q03 c_b7 q05) (fun _ _ _=>by kernel_rfl) (fun _=>by kernel_rfl)
theorem c_b6:CallsAs C 97 f_b6:=mkC (fun L R x=>b_b6 L (R 77) x) (q03 c_e1 q05) (fun _ _ _=>by kernel_rfl) (fun _=>by kernel_rfl)
theorem c_b5:CallsAs C 102 f_b5:=mkC (fun L R x=>b_b5 L  x) q05 (fun _ _ _=>by kernel_rfl) (fun _=>by kernel_rfl)
theorem c_e2:CallsAs C 98 f_e2:=mkC (fun L R x=>b_e2 L (R 102) x) (q03 c_b5 q05) (fun _ _ _=>by kernel_rfl) (fun _=>by kernel_rfl)
theorem c_eq:CallsAs C 103 f_eq:=mkC (fun L R x=>b_eq L (R 104) x) (q03 c_ep q05) (fun _ _ _=>by kernel_rfl) (fun _=>by kernel_rfl)
theorem c_ev:CallsAs C 160 f_ev:=mkC (fun L R x=>b_ev L  x) q05 (fun _ _ _=>by kernel_rfl) (fun _=>by kernel_rfl)
theorem c_dr:CallsAs C 159 f_dr:=mkC (fun L R x=>b_dr L (R 160) x) (q03 c_ev q05) (fun _ _ _=>by kernel_rfl) (fun _=>by kernel_rfl)
theorem c_eu:CallsAs C 105 f_eu:=mkC (fun L R x=>b_eu L (R 159) x) (q03 c_dr q05) (fun _ _ _=>by kernel_rfl) (fun _=>by kernel_rfl)
theorem c_b4:CallsAs C 37 f_b4:=mkC (fun L R x=>b_b4 L (R 97) (R 98) (R 103) (R 104) (R 105) x) (q03 c_b6 (q03 c_e2 (q03 c_eq (q03 c_ep (q03 c_eu q05))))) (fun _ _ _=>by kernel_rfl) (fun _=>by kernel_rfl)
theorem c_au:CallsAs C 9 f_au:=mkC (fun L R x=>b_au L (R 35) (R 36) (R 37) x) (q03 c_a0 (q03 c_ew (q03 c_b4 q05))) (fun _ _ _=>by kernel_rfl) (fun _=>by kernel_rfl)
theorem c_eo:CallsAs C 161 f_eo:=mkC (fun L R x=>b_eo L (R 94) x) (q03 c_et q05) (fun _ _ _=>by kernel_rfl) (fun _=>by kernel_rfl)
theorem c_em:CallsAs C 171 f_em:=mkC (fun L R x=>b_em L  x) q05 (fun _ _ _=>by kernel_rfl) (fun _=>by kernel_rfl)
theorem c_e8:CallsAs C 173 f_e8:=mkC (fun L R x=>b_e8 L (R 154) x) (q03 c_aj q05) (fun _ _ _=>by kernel_rfl) (fun _=>by kernel_rfl)
theorem c_ei:CallsAs C 200 f_ei:=mkC (fun L R x=>b_ei L  x) q05 (fun _ _ _=>by kernel_rfl) (fun _=>by kernel_rfl)
theorem c_ef:CallsAs C 194 f_ef:=mkC (fun L R x=>b_ef L (R 200) x) (q03 c_ei q05) (fun _ _ _=>by kernel_rfl) (fun _=>by kernel_rfl)
theorem c_e9:CallsAs C 201 f_e9:=mkC (fun L R x=>b_e9 L (R 154) x) (q03 c_aj q05) (fun _ _ _=>by kernel_rfl) (fun _=>by kernel_rfl)
theorem c_eg:CallsAs C 202 f_eg:=mkC (fun L R x=>b_eg L  x) q05 (fun _ _ _=>by kernel_rfl) (fun _=>by kernel_rfl)
theorem c_eh:CallsAs C 203 f_eh:=mkC (fun L R x=>b_eh L  x) q05 (fun _ _ _=>by kernel_rfl) (fun _=>by kernel_rfl)
theorem c_ej:CallsAs C 206 f_ej:=mkC (fun L R x=>b_ej L  x) q05 (fun _ _ _=>by kernel_rfl) (fun _=>by kernel_rfl)
theorem c_el:CallsAs C 164 f_el:=mkC (fun L R x=>b_el L (R 171) (R 172) (R 173) (R 194) (R 201) (R 202) (R 203) (R 206) x) (q03 c_em (q03 c_f0 (q03 c_e8 (q03 c_ef (q03 c_e9 (q03 c_eg (q03 c_eh (q03 c_ej q05)))))))) (fun _ _ _=>by kernel_rfl) (fun _=>by kernel_rfl)
theorem c_ec:CallsAs C 163 f_ec:=mkC (fun L R x=>b_ec L (R 164) x) (q03 c_el q05) (fun _ _ _=>by kernel_rfl) (fun _=>by kernel_rfl)
theorem c_en:CallsAs C 162 f_en:=mkG (C:=C) (k:=162) (fun L R x=>b_en L (R 162) (R 163) x) (F:=g_en) (O:=fun g=>(orc1 162 g (orc1 163 f_ec orc0))) (fun g hg=>(q03 hg (q03 c_ec q05))) (fun _ _ _=>by kernel_rfl) (fun _ _=>by kernel_rfl)
theorem c_es:CallsAs C 166 f_es:=mkC (fun L R x=>b_es L (R 104) x) (q03 c_ep q05) (fun _ _ _=>by kernel_rfl) (fun _=>by kernel_rfl)
theorem c_ek:CallsAs C 167 f_ek:=mkC (fun L R x=>b_ek L  x) q05 (fun _ _ _=>by kernel_rfl) (fun _=>by kernel_rfl)
theorem c_e5:CallsAs C 168 f_e5:=z54
theorem c_d4:CallsAs C 169 f_d4:=mkC (fun L R x=>b_d4 L  x) q05 (fun _ _ _=>by kernel_rfl) (fun _=>by kernel_rfl)
theorem c_ee:CallsAs C 170 f_ee:=mkC (fun L R x=>b_ee L (R 167) x) (q03 c_ek q05) (fun _ _ _=>by kernel_rfl) (fun _=>by kernel_rfl)
theorem c_ed:CallsAs C 165 f_ed:=mkC (fun L R x=>b_ed L (R 166) (R 167) (R 168) (R 169) (R 170) x) (q03 c_es (q03 c_ek (q03 c_e5 (q03 c_d4 (q03 c_ee q05))))) (fun _ _ _=>by kernel_rfl) (fun _=>by kernel_rfl)
theorem c_eb:CallsAs C 106 f_eb:=mkC (fun L R x=>b_eb L (R 94) (R 104) (R 161) (R 162) (R 165) (R 171) x) (q03 c_et (q03 c_ep (q03 c_eo (q03 c_en (q03 c_ed (q03 c_em q05)))))) (fun _ _ _=>by kernel_rfl) (fun _=>by kernel_rfl)
theorem c_ea:CallsAs C 38 f_ea:=mkC (fun L R x=>b_ea L (R 106) x) (q03 c_eb q05) (fun _ _ _=>by kernel_rfl) (fun _=>by kernel_rfl)
theorem qoa (g:denP (q0b C.sigs 39).ins.tys→Option (denP (q0b C.sigs 39).outs.tys)) (hg:CallsAs C 39 g):CallsAs C 109 (q40 g):=mkC (fun L R x=>q8p L (R 39) x) (O:=(orc1 39 g orc0)) (q03 hg q05) (fun _ _ _=>by kernel_rfl) (fun _=>by kernel_rfl)
theorem c_bl:CallsAs C 114 f_bl:=mkC (fun L R x=>b_bl L (R 103) (R 104) x) (q03 c_eq (q03 c_ep q05)) (fun _ _ _=>by kernel_rfl) (fun _=>by kernel_rfl)
theorem qsy (g:denP (q0b C.sigs 39).ins.tys→Option (denP (q0b C.sigs 39).outs.tys)) (hg:CallsAs C 39 g):CallsAs C 107 (q57 g):=mkC (fun L R x=>qas L (R 37) (R 109) (R 114) x) (O:=(orc1 37 f_b4 (orc1 109 (q40 g) (orc1 114 f_bl orc0)))) (q03 c_b4 (q03 (qoa g hg) (q03 c_bl q05))) (fun _ _ _=>by kernel_rfl) (fun _=>by kernel_rfl)
theorem c_bk:CallsAs C 39 f_bk:=mkG (C:=C) (k:=39) (fun L R x=>b_bk L (R 107) x) (F:=g_bk) (O:=fun g=>(orc1 107 (q57 g) orc0)) (fun g hg=>(q03 (qsy g hg) q05)) (fun _ _ _=>by kernel_rfl) (fun _ _=>by kernel_rfl)
theorem c_av:CallsAs C 11 f_av:=mkC (fun L R x=>b_av L (R 35) (R 36) (R 38) (R 39) x) (q03 c_a0 (q03 c_ew (q03 c_ea (q03 c_bk q05)))) (fun _ _ _=>by kernel_rfl) (fun _=>by kernel_rfl)
theorem c_bj:CallsAs C 111 f_bj:=mkC (fun L R x=>b_bj L (R 172) (R 173) x) (q03 c_f0 (q03 c_e8 q05)) (fun _ _ _=>by kernel_rfl) (fun _=>by kernel_rfl)
theorem c_bs:CallsAs C 110 f_bs:=mkC (fun L R x=>b_bs L (R 111) x) (q03 c_bj q05) (fun _ _ _=>by kernel_rfl) (fun _=>by kernel_rfl)
theorem c_dp:CallsAs C 156 f_dp:=mkC (fun L R x=>b_dp L (R 110) x) (q03 c_bs q05) (fun _ _ _=>by kernel_rfl) (fun _=>by kernel_rfl)
theorem c_df:CallsAs C 92 f_df:=mkC (fun L R x=>b_df L (R 156) x) (q03 c_dp q05) (fun _ _ _=>by kernel_rfl) (fun _=>by kernel_rfl)
theorem c_br:CallsAs C 40 f_br:=mkC (fun L R x=>b_br L (R 92) (R 94) x) (q03 c_df (q03 c_et q05)) (fun _ _ _=>by kernel_rfl) (fun _=>by kernel_rfl)
theorem qlx (g:denP (q0b C.sigs 41).ins.tys→Option (denP (q0b C.sigs 41).outs.tys)) (hg:CallsAs C 41 g):CallsAs C 112 (q58 g):=mkC (fun L R x=>q78 L (R 41) x) (O:=(orc1 41 g orc0)) (q03 hg q05) (fun _ _ _=>by kernel_rfl) (fun _=>by kernel_rfl)
theorem qj3 (g:denP (q0b C.sigs 41).ins.tys→Option (denP (q0b C.sigs 41).outs.tys)) (hg:CallsAs C 41 g):CallsAs C 108 (q4b g):=mkC (fun L R x=>q5r L (R 37) (R 112) (R 114) x) (O:=(orc1 37 f_b4 (orc1 112 (q58 g) (orc1 114 f_bl orc0)))) (q03 c_b4 (q03 (qlx g hg) (q03 c_bl q05))) (fun _ _ _=>by kernel_rfl) (fun _=>by kernel_rfl)
theorem c_bh:CallsAs C 41 f_bh:=mkG (C:=C) (k:=41) (fun L R x=>b_bh L (R 108) x) (F:=g_bh) (O:=fun g=>(orc1 108 (q4b g) orc0)) (fun g hg=>(q03 (qj3 g hg) q05)) (fun _ _ _=>by kernel_rfl) (fun _ _=>by kernel_rfl)
theorem c_ay:CallsAs C 12 f_ay:=mkC (fun L R x=>b_ay L (R 35) (R 36) (R 40) (R 41) x) (q03 c_a0 (q03 c_ew (q03 c_br (q03 c_bh q05)))) (fun _ _ _=>by kernel_rfl) (fun _=>by kernel_rfl)
theorem c_d3:CallsAs C 47 f_d3:=mkC (fun L R x=>b_d3 L  x) q05 (fun _ _ _=>by kernel_rfl) (fun _=>by kernel_rfl)
theorem c_b0:CallsAs C 46 f_b0:=mkC (fun L R x=>b_b0 L (R 47) x) (q03 c_d3 q05) (fun _ _ _=>by kernel_rfl) (fun _=>by kernel_rfl)
theorem c_bi:CallsAs C 48 f_bi:=mkG (C:=C) (k:=48) (fun L R x=>b_bi L (R 46) (R 48) (R 114) x) (F:=g_bi) (O:=fun g=>(orc1 46 f_b0 (orc1 48 g (orc1 114 f_bl orc0)))) (fun g hg=>(q03 c_b0 (q03 hg (q03 c_bl q05)))) (fun _ _ _=>by kernel_rfl) (fun _ _=>by kernel_rfl)
theorem c_az:CallsAs C 17 f_az:=mkC (fun L R x=>b_az L (R 38) (R 40) (R 48) x) (q03 c_ea (q03 c_br (q03 c_bi q05))) (fun _ _ _=>by kernel_rfl) (fun _=>by kernel_rfl)
theorem c_ax:CallsAs C 53 f_ax:=mkC (fun L R x=>b_ax L (R 17) x) (q03 c_az q05) (fun _ _ _=>by kernel_rfl) (fun _=>by kernel_rfl)
theorem c_dx:CallsAs C 52 f_dx:=mkC (fun L R x=>b_dx L (R 53) x) (q03 c_ax q05) (fun _ _ _=>by kernel_rfl) (fun _=>by kernel_rfl)
theorem c_aw:CallsAs C 20 f_aw:=mkC (fun L R x=>b_aw L (R 52) x) (q03 c_dx q05) (fun _ _ _=>by kernel_rfl) (fun _=>by kernel_rfl)
theorem c_b3:CallsAs C 115 f_b3:=mkC (fun L R x=>b_b3 L  x) q05 (fun _ _ _=>by kernel_rfl) (fun _=>by kernel_rfl)
theorem c_bn:CallsAs C 54 f_bn:=mkC (fun L R x=>b_bn L (R 11) (R 115) x) (q03 c_av (q03 c_b3 q05)) (fun _ _ _=>by kernel_rfl) (fun _=>by kernel_rfl)
theorem c_ba:CallsAs C 120 f_ba:=mkC (fun L R x=>b_ba L  x) q05 (fun _ _ _=>by kernel_rfl) (fun _=>by kernel_rfl)
theorem c_ds:CallsAs C 174 f_ds:=mkC (fun L R x=>b_ds L (R 120) x) (q03 c_ba q05) (fun _ _ _=>by kernel_rfl) (fun _=>by kernel_rfl)
theorem c_dh:CallsAs C 117 f_dh:=mkC (fun L R x=>b_dh L (R 174) x) (q03 c_ds q05) (fun _ _ _=>by kernel_rfl) (fun _=>by kernel_rfl)
theorem c_b9:CallsAs C 116 f_b9:=mkC (fun L R x=>b_b9 L (R 117) x) (q03 c_dh q05) (fun _ _ _=>by kernel_rfl) (fun _=>by kernel_rfl)
theorem c_bb:CallsAs C 121 f_bb:=mkC (fun L R x=>b_bb L (R 116) x) (q03 c_b9 q05) (fun _ _ _=>by kernel_rfl) (fun _=>by kernel_rfl)
theorem c_e3:CallsAs C 99 f_e3:=mkC (fun L R x=>b_e3 L (R 121) x) (q03 c_bb q05) (fun _ _ _=>by kernel_rfl) (fun _=>by kernel_rfl)
theorem c_bt:CallsAs C 127 f_bt:=mkC (fun L R x=>b_bt L  x) q05 (fun _ _ _=>by kernel_rfl) (fun _=>by kernel_rfl)
theorem c_bc:CallsAs C 126 f_bc:=mkC (fun L R x=>b_bc L (R 127) x) (q03 c_bt q05) (fun _ _ _=>by kernel_rfl) (fun _=>by kernel_rfl)
theorem c_dt:CallsAs C 175 f_dt:=mkC (fun L R x=>b_dt L (R 126) x) (q03 c_bc q05) (fun _ _ _=>by kernel_rfl) (fun _=>by kernel_rfl)
theorem c_di:CallsAs C 118 f_di:=mkC (fun L R x=>b_di L (R 175) x) (q03 c_dt q05) (fun _ _ _=>by kernel_rfl) (fun _=>by kernel_rfl)
theorem c_dk:CallsAs C 177 f_dk:=z53
theorem c_d5:CallsAs C 122 f_d5:=mkC (fun L R x=>b_d5 L (R 177) x) (q03 c_dk q05) (fun _ _ _=>by kernel_rfl) (fun _=>by kernel_rfl)
theorem c_bp:CallsAs C 128 f_bp:=mkC (fun L R x=>b_bp L (R 115) x) (q03 c_b3 q05) (fun _ _ _=>by kernel_rfl) (fun _=>by kernel_rfl)
theorem c_bq:CallsAs C 123 f_bq:=mkC (fun L R x=>b_bq L (R 114) (R 122) (R 127) (R 128) x) (q03 c_bl (q03 c_d5 (q03 c_bt (q03 c_bp q05)))) (fun _ _ _=>by kernel_rfl) (fun _=>by kernel_rfl)
theorem c_er:CallsAs C 124 f_er:=mkC (fun L R x=>b_er L  x) q05 (fun _ _ _=>by kernel_rfl) (fun _=>by kernel_rfl)
theorem c_bm:CallsAs C 125 f_bm:=mkC (fun L R x=>b_bm L (R 127) x) (q03 c_bt q05) (fun _ _ _=>by kernel_rfl) (fun _=>by kernel_rfl)
theorem c_b8:CallsAs C 55 f_b8:=mkG (C:=C) (k:=55) (fun L R x=>b_b8 L (R 37) (R 55) (R 97) (R 99) (R 115) (R 116) (R 118) (R 122) (R 123) (R 124) (R 125) (R 128) x) (F:=g_b8) (O:=fun g=>(orc1 37 f_b4 (orc1 55 g (orc1 97 f_b6 (orc1 99 f_e3 (orc1 115 f_b3 (orc1 116 f_b9 (orc1 118 f_di (orc1 122 f_d5 (orc1 123 f_bq (orc1 124 f_er (orc1 125 f_bm (orc1 128 f_bp orc0))))))))))))) (fun g hg=>(q03 c_b4 (q03 hg (q03 c_b6 (q03 c_e3 (q03 c_b3 (q03 c_b9 (q03 c_di (q03 c_d5 (q03 c_bq (q03 c_er (q03 c_bm (q03 c_bp q05))))))))))))) (fun _ _ _=>by kernel_rfl) (fun _ _=>by kernel_rfl)
theorem c_bo:CallsAs C 56 f_bo:=mkC (fun L R x=>b_bo L  x) q05 (fun _ _ _=>by kernel_rfl) (fun _=>by kernel_rfl)
theorem c_b1:CallsAs C 23 f_b1:=mkC (fun L R x=>b_b1 L (R 54) (R 55) (R 56) x) (q03 c_bn (q03 c_b8 (q03 c_bo q05))) (fun _ _ _=>by kernel_rfl) (fun _=>by kernel_rfl)
theorem c_bf:CallsAs C 135 f_bf:=mkC (fun L R x=>b_bf L  x) q05 (fun _ _ _=>by kernel_rfl) (fun _=>by kernel_rfl)
theorem c_du:CallsAs C 176 f_du:=mkC (fun L R x=>b_du L (R 135) x) (q03 c_bf q05) (fun _ _ _=>by kernel_rfl) (fun _=>by kernel_rfl)
theorem c_d8:CallsAs C 119 f_d8:=mkC (fun L R x=>b_d8 L (R 176) x) (q03 c_du q05) (fun _ _ _=>by kernel_rfl) (fun _=>by kernel_rfl)
theorem c_be:CallsAs C 134 f_be:=mkC (fun L R x=>b_be L (R 119) x) (q03 c_d8 q05) (fun _ _ _=>by kernel_rfl) (fun _=>by kernel_rfl)
theorem c_bg:CallsAs C 138 f_bg:=mkC (fun L R x=>b_bg L (R 134) x) (q03 c_be q05) (fun _ _ _=>by kernel_rfl) (fun _=>by kernel_rfl)
theorem c_dn:CallsAs C 100 f_dn:=mkC (fun L R x=>b_dn L (R 138) x) (q03 c_bg q05) (fun _ _ _=>by kernel_rfl) (fun _=>by kernel_rfl)
theorem c_d9:CallsAs C 136 f_d9:=mkC (fun L R x=>b_d9 L (R 100) x) (q03 c_dn q05) (fun _ _ _=>by kernel_rfl) (fun _=>by kernel_rfl)
theorem q7q (g:denP (q0b C.sigs 58).ins.tys→Option (denP (q0b C.sigs 58).outs.tys)) (hg:CallsAs C 58 g):CallsAs C 139 (q1b g):=mkC (fun L R x=>q20 L (R 37) (R 58) (R 122) (R 123) (R 128) x) (O:=(orc1 37 f_b4 (orc1 58 g (orc1 122 f_d5 (orc1 123 f_bq (orc1 128 f_bp orc0)))))) (q03 c_b4 (q03 hg (q03 c_d5 (q03 c_bq (q03 c_bp q05))))) (fun _ _ _=>by kernel_rfl) (fun _=>by kernel_rfl)
theorem q7g (g:denP (q0b C.sigs 58).ins.tys→Option (denP (q0b C.sigs 58).outs.tys)) (hg:CallsAs C 58 g):CallsAs C 101 (q17 g):=mkC (fun L R x=>q1s L (R 139) x) (O:=(orc1 139 (q1b g) orc0)) (q03 (q7q g hg) q05) (fun _ _ _=>by kernel_rfl) (fun _=>by kernel_rfl)
theorem q5j (g:denP (q0b C.sigs 58).ins.tys→Option (denP (q0b C.sigs 58).outs.tys)) (hg:CallsAs C 58 g):CallsAs C 137 (q0x g):=mkC (fun L R x=>q1a L (R 101) x) (O:=(orc1 101 (q17 g) orc0)) (q03 (q7g g hg) q05) (fun _ _ _=>by kernel_rfl) (fun _=>by kernel_rfl)
theorem c_bd:CallsAs C 58 f_bd:=mkG (C:=C) (k:=58) (fun L R x=>b_bd L (R 37) (R 58) (R 97) (R 114) (R 122) (R 123) (R 125) (R 136) (R 137) x) (F:=g_bd) (O:=fun g=>(orc1 37 f_b4 (orc1 58 g (orc1 97 f_b6 (orc1 114 f_bl (orc1 122 f_d5 (orc1 123 f_bq (orc1 125 f_bm (orc1 136 f_d9 (orc1 137 (q0x g) orc0)))))))))) (fun g hg=>(q03 c_b4 (q03 hg (q03 c_b6 (q03 c_bl (q03 c_d5 (q03 c_bq (q03 c_bm (q03 c_d9 (q03 (q5j g hg) q05)))))))))) (fun _ _ _=>by kernel_rfl) (fun _ _=>by kernel_rfl)
theorem c_b2:CallsAs C 26 f_b2:=mkC (fun L R x=>b_b2 L (R 54) (R 56) (R 58) x) (q03 c_bn (q03 c_bo (q03 c_bd q05))) (fun _ _ _=>by kernel_rfl) (fun _=>by kernel_rfl)
theorem c_bz:CallsAs C 27 f_bz:=mkC (fun L R x=>b_bz L  x) q05 (fun _ _ _=>by kernel_rfl) (fun _=>by kernel_rfl)
theorem qly:CallsAs C 29 q5t:=mkC (fun L R x=>q5s L  x) q05 (fun _ _ _=>by kernel_rfl) (fun _=>by kernel_rfl)
theorem qj4:CallsAs C 6 q2b:=mkC (fun L R x=>q4o L (R 9) (R 11) (R 12) (R 17) (R 20) (R 23) (R 26) (R 27) (R 29) x) (q03 c_au (q03 c_av (q03 c_ay (q03 c_az (q03 c_aw (q03 c_b1 (q03 c_b2 (q03 c_bz (q03 qly q05))))))))) (fun _ _ _=>by kernel_rfl) (fun _=>by kernel_rfl)
theorem c_ct:CallsAs C 16 f_ct:=mkC (fun L R x=>b_ct L  x) q05 (fun _ _ _=>by kernel_rfl) (fun _=>by kernel_rfl)
theorem c_cm:CallsAs C 30 f_cm:=mkC (fun L R x=>b_cm L  x) q05 (fun _ _ _=>by kernel_rfl) (fun _=>by kernel_rfl)
theorem qob:CallsAs C 7 q59:=mkC (fun L R x=>qep L (R 16) (R 30) x) (q03 c_ct (q03 c_cm q05)) (fun _ _ _=>by kernel_rfl) (fun _=>by kernel_rfl)
theorem c_bx:CallsAs C 113 f_bx:=mkG (C:=C) (k:=113) (fun L R x=>b_bx L (R 113) x) (F:=g_bx) (O:=fun g=>(orc1 113 g orc0)) (fun g hg=>(q03 hg q05)) (fun _ _ _=>by kernel_rfl) (fun _ _=>by kernel_rfl)
theorem c_c1:CallsAs C 59 f_c1:=mkC (fun L R x=>b_c1 L (R 113) x) (q03 c_bx q05) (fun _ _ _=>by kernel_rfl) (fun _=>by kernel_rfl)
theorem c_bv:CallsAs C 140 f_bv:=mkC (fun L R x=>b_bv L  x) q05 (fun _ _ _=>by kernel_rfl) (fun _=>by kernel_rfl)
theorem c_bu:CallsAs C 60 f_bu:=mkC (fun L R x=>b_bu L (R 140) x) (q03 c_bv q05) (fun _ _ _=>by kernel_rfl) (fun _=>by kernel_rfl)
theorem c_c4:CallsAs C 142 f_c4:=mkC (fun L R x=>b_c4 L  x) q05 (fun _ _ _=>by kernel_rfl) (fun _=>by kernel_rfl)
theorem c_c5:CallsAs C 143 f_c5:=mkC (fun L R x=>b_c5 L (R 142) x) (q03 c_c4 q05) (fun _ _ _=>by kernel_rfl) (fun _=>by kernel_rfl)
theorem c_c6:CallsAs C 179 f_c6:=mkC (fun L R x=>b_c6 L  x) q05 (fun _ _ _=>by kernel_rfl) (fun _=>by kernel_rfl)
theorem c_c2:CallsAs C 144 f_c2:=mkC (fun L R x=>b_c2 L (R 179) x) (q03 c_c6 q05) (fun _ _ _=>by kernel_rfl) (fun _=>by kernel_rfl)
theorem c_c3:CallsAs C 66 f_c3:=mkC (fun L R x=>b_c3 L (R 60) (R 142) (R 143) (R 144) x) (q03 c_bu (q03 c_c4 (q03 c_c5 (q03 c_c2 q05)))) (fun _ _ _=>by kernel_rfl) (fun _=>by kernel_rfl)
theorem c_ci:CallsAs C 32 f_ci:=mkC (fun L R x=>b_ci L (R 59) (R 66) x) (q03 c_c1 (q03 c_c3 q05)) (fun _ _ _=>by kernel_rfl) (fun _=>by kernel_rfl)
theorem c_co:CallsAs C 64 f_co:=mkC (fun L R x=>b_co L (R 66) x) (q03 c_c3 q05) (fun _ _ _=>by kernel_rfl) (fun _=>by kernel_rfl)
theorem c_ck:CallsAs C 178 f_ck:=mkC (fun L R x=>b_ck L  x) q05 (fun _ _ _=>by kernel_rfl) (fun _=>by kernel_rfl)
theorem c_cj:CallsAs C 141 f_cj:=mkC (fun L R x=>b_cj L (R 178) x) (q03 c_ck q05) (fun _ _ _=>by kernel_rfl) (fun _=>by kernel_rfl)
theorem c_cq:CallsAs C 62 f_cq:=mkC (fun L R x=>b_cq L (R 32) (R 64) (R 141) x) (q03 c_ci (q03 c_co (q03 c_cj q05))) (fun _ _ _=>by kernel_rfl) (fun _=>by kernel_rfl)
theorem c_cp:CallsAs C 63 f_cp:=mkC (fun L R x=>b_cp L  x) q05 (fun _ _ _=>by kernel_rfl) (fun _=>by kernel_rfl)
theorem c_cn:CallsAs C 65 f_cn:=mkC (fun L R x=>b_cn L  x) q05 (fun _ _ _=>by kernel_rfl) (fun _=>by kernel_rfl)
theorem c_cl:CallsAs C 31 f_cl:=mkC (fun L R x=>b_cl L (R 62) (R 63) (R 64) (R 65) x) (q03 c_cq (q03 c_cp (q03 c_co (q03 c_cn q05)))) (fun _ _ _=>by kernel_rfl) (fun _=>by kernel_rfl)
theorem c_by:CallsAs C 42 f_by:=mkC (fun L R x=>b_by L (R 113) x) (q03 c_bx q05) (fun _ _ _=>by kernel_rfl) (fun _=>by kernel_rfl)
theorem c_bw:CallsAs C 67 f_bw:=mkG (C:=C) (k:=67) (fun L R x=>b_bw L (R 42) (R 67) x) (F:=g_bw) (O:=fun g=>(orc1 42 f_by (orc1 67 g orc0))) (fun g hg=>(q03 c_by (q03 hg q05))) (fun _ _ _=>by kernel_rfl) (fun _ _=>by kernel_rfl)
theorem c_c8:CallsAs C 61 f_c8:=mkC (fun L R x=>b_c8 L (R 66) x) (q03 c_c3 q05) (fun _ _ _=>by kernel_rfl) (fun _=>by kernel_rfl)
theorem c_c9:CallsAs C 146 f_c9:=mkC (fun L R x=>b_c9 L  x) q05 (fun _ _ _=>by kernel_rfl) (fun _=>by kernel_rfl)
theorem c_cf:CallsAs C 180 f_cf:=mkC (fun L R x=>b_cf L  x) q05 (fun _ _ _=>by kernel_rfl) (fun _=>by kernel_rfl)
theorem c_cc:CallsAs C 181 f_cc:=mkC (fun L R x=>b_cc L  x) q05 (fun _ _ _=>by kernel_rfl) (fun _=>by kernel_rfl)
theorem c_ca:CallsAs C 182 f_ca:=mkC (fun L R x=>b_ca L (R 66) x) (q03 c_c3 q05) (fun _ _ _=>by kernel_rfl) (fun _=>by kernel_rfl)
theorem c_cd:CallsAs C 145 f_cd:=mkC (fun L R x=>b_cd L (R 60) (R 61) (R 146) (R 180) (R 181) (R 182) x) (q03 c_bu (q03 c_c8 (q03 c_c9 (q03 c_cf (q03 c_cc (q03 c_ca q05)))))) (fun _ _ _=>by kernel_rfl) (fun _=>by kernel_rfl)
theorem c_ce:CallsAs C 68 f_ce:=mkG (C:=C) (k:=68) (fun L R x=>b_ce L (R 42) (R 68) (R 145) x) (F:=g_ce) (O:=fun g=>(orc1 42 f_by (orc1 68 g (orc1 145 f_cd orc0)))) (fun g hg=>(q03 c_by (q03 hg (q03 c_cd q05)))) (fun _ _ _=>by kernel_rfl) (fun _ _=>by kernel_rfl)
theorem c_cb:CallsAs C 147 f_cb:=mkG (C:=C) (k:=147) (fun L R x=>b_cb L (R 42) (R 147) x) (F:=g_cb) (O:=fun g=>(orc1 42 f_by (orc1 147 g orc0))) (fun g hg=>(q03 c_by (q03 hg q05))) (fun _ _ _=>by kernel_rfl) (fun _ _=>by kernel_rfl)
theorem c_cg:CallsAs C 69 f_cg:=mkG (C:=C) (k:=69) (fun L R x=>b_cg L (R 42) (R 69) (R 146) (R 147) x) (F:=g_cg) (O:=fun g=>(orc1 42 f_by (orc1 69 g (orc1 146 f_c9 (orc1 147 f_cb orc0))))) (fun g hg=>(q03 c_by (q03 hg (q03 c_c9 (q03 c_cb q05))))) (fun _ _ _=>by kernel_rfl) (fun _ _=>by kernel_rfl)
theorem c_c7:CallsAs C 33 f_c7:=mkC (fun L R x=>b_c7 L (R 59) (R 67) (R 68) (R 69) x) (q03 c_c1 (q03 c_bw (q03 c_ce (q03 c_cg q05)))) (fun _ _ _=>by kernel_rfl) (fun _=>by kernel_rfl)
theorem c_c0:CallsAs C 43 f_c0:=mkC (fun L R x=>b_c0 L (R 113) x) (q03 c_bx q05) (fun _ _ _=>by kernel_rfl) (fun _=>by kernel_rfl)
theorem c_ch:CallsAs C 44 f_ch:=mkC (fun L R x=>b_ch L  x) q05 (fun _ _ _=>by kernel_rfl) (fun _=>by kernel_rfl)
theorem c_cr:CallsAs C 14 f_cr:=mkC (fun L R x=>b_cr L (R 42) (R 43) (R 44) x) (q03 c_by (q03 c_c0 (q03 c_ch q05))) (fun _ _ _=>by kernel_rfl) (fun _=>by kernel_rfl)
theorem c_cw:CallsAs C 34 f_cw:=mkG (C:=C) (k:=34) (fun L R x=>b_cw L (R 14) (R 34) (R 42) x) (F:=g_cw) (O:=fun g=>(orc1 14 f_cr (orc1 34 g (orc1 42 f_by orc0)))) (fun g hg=>(q03 c_cr (q03 hg (q03 c_by q05)))) (fun _ _ _=>by kernel_rfl) (fun _ _=>by kernel_rfl)
theorem c_cs:CallsAs C 8 f_cs:=mkC (fun L R x=>b_cs L (R 31) (R 32) (R 33) (R 34) x) (q03 c_cl (q03 c_ci (q03 c_c7 (q03 c_cw q05)))) (fun _ _ _=>by kernel_rfl) (fun _=>by kernel_rfl)
theorem qfd:CallsAs C 10 q3e:=mkC (fun L R x=>qeq L  x) q05 (fun _ _ _=>by kernel_rfl) (fun _=>by kernel_rfl)
theorem qlz:CallsAs C 21 q3h:=mkC (fun L R x=>qcp L (R 10) x) (q03 qfd q05) (fun _ _ _=>by kernel_rfl) (fun _=>by kernel_rfl)
theorem c_cy:CallsAs C 129 f_cy:=mkC (fun L R x=>b_cy L  x) q05 (fun _ _ _=>by kernel_rfl) (fun _=>by kernel_rfl)
theorem c_cx:CallsAs C 130 f_cx:=mkC (fun L R x=>b_cx L  x) q05 (fun _ _ _=>by kernel_rfl) (fun _=>by kernel_rfl)
theorem c_d0:CallsAs C 131 f_d0:=mkC (fun L R x=>b_d0 L (R 14) x) (q03 c_cr q05) (fun _ _ _=>by kernel_rfl) (fun _=>by kernel_rfl)
theorem c_d2:CallsAs C 132 f_d2:=mkC (fun L R x=>b_d2 L  x) q05 (fun _ _ _=>by kernel_rfl) (fun _=>by kernel_rfl)
theorem c_d1:CallsAs C 133 f_d1:=mkG (C:=C) (k:=133) (fun L R x=>b_d1 L (R 42) (R 131) (R 132) (R 133) x) (F:=g_d1) (O:=fun g=>(orc1 42 f_by (orc1 131 f_d0 (orc1 132 f_d2 (orc1 133 g orc0))))) (fun g hg=>(q03 c_by (q03 c_d0 (q03 c_d2 (q03 hg q05))))) (fun _ _ _=>by kernel_rfl) (fun _ _=>by kernel_rfl)
theorem c_cz:CallsAs C 57 f_cz:=mkG (C:=C) (k:=57) (fun L R x=>b_cz L (R 42) (R 57) (R 129) (R 130) (R 131) (R 132) (R 133) x) (F:=g_cz) (O:=fun g=>(orc1 42 f_by (orc1 57 g (orc1 129 f_cy (orc1 130 f_cx (orc1 131 f_d0 (orc1 132 f_d2 (orc1 133 f_d1 orc0)))))))) (fun g hg=>(q03 c_by (q03 hg (q03 c_cy (q03 c_cx (q03 c_d0 (q03 c_d2 (q03 c_d1 q05)))))))) (fun _ _ _=>by kernel_rfl) (fun _ _=>by kernel_rfl)
theorem c_cu:CallsAs C 24 f_cu:=mkC (fun L R x=>b_cu L (R 57) x) (q03 c_cz q05) (fun _ _ _=>by kernel_rfl) (fun _=>by kernel_rfl)
theorem c_cv:CallsAs C 25 f_cv:=mkG (C:=C) (k:=25) (fun L R x=>b_cv L (R 25) (R 42) x) (F:=g_cv) (O:=fun g=>(orc1 25 g (orc1 42 f_by orc0))) (fun g hg=>(q03 hg (q03 c_by q05))) (fun _ _ _=>by kernel_rfl) (fun _ _=>by kernel_rfl)
theorem c_law12_PatMissing:CallsAs C 2 f_law12_PatMissing:=mkC (fun L R x=>q5u L (R 6) (R 7) (R 8) (R 10) (R 21) (R 23) (R 24) (R 25) x) (q03 qj4 (q03 qob (q03 c_cs (q03 qfd (q03 qlz (q03 c_b1 (q03 c_cu (q03 c_cv q05)))))))) (fun _ _ _=>by kernel_rfl) (fun _=>by kernel_rfl)
theorem z55:qfy C C.tab=true:=by kernel_rfl
theorem z5s:qmw C C.eqs=true:=by kernel_rfl
theorem qyd:qel C C.sigs=true:=by kernel_rfl
theorem z0r:C.P.follows .mixedOrders=true:=by kernel_rfl
theorem calls {i:Nat} {x:denP (q0b C.sigs i).ins.tys} {y:denP (q0b C.sigs i).outs.tys} (h:Ev.Call C i x y):FnOk C i x y:=qzj z55 z5s qyd z0r h
theorem z56:qpl C Rows.patTellsRow.laid:=by
 refine ⟨by kernel_rfl,fun g t x h=>?_⟩
 match g with
 |0=>cases h;exact ⟨_,_,199,List.Mem.tail _ (List.Mem.head _),by kernel_rfl,by kernel_rfl,by kernel_rfl,rfl,by kernel_rfl⟩
 |n+1=>cases h
theorem seatOk:qpm C Rows.patTellsRow.laid:=qv4 z55 (by kernel_rfl) (by kernel_rfl) (by kernel_rfl) z56
end Go.Proofs.YtnihgcgcdjdhiaaGreatDoor.Seat

