/- The functions of this seat as data: each is what the model's code gives, by the kernel's reckoning over the verified evaluator. No statement of its own about the program. -/
import Derived.Test.YtakmoaimmdheeaaGreatDoorFnA
import Derived.Test.YtakmoaimmdheeaaGreatDoorEvJ
import Derived.Test.YtakmoaimmdheeaaGreatDoorProg
import Derived.Test.YtakmoaimmdheeaaGreatDoorSlp
import Derived.Sort.EveryDepth
import Derived.Test.YtakmoaimmdheeaaGreatDoorRows
import Derived.KernelRfl
namespace Go.Proofs.YtakmoaimmdheeaaGreatDoor.oP
open Go Go.Proofs Go.Shelf Go.RowKit Go.Sort Ev Ev.Fn
abbrev t1:Ty:=.int .i64
abbrev t3:Ty:=.pair .str (.pair t1 t1)
abbrev t5:Ty:=.st (.pair t1 t3)
abbrev t0:Ty:=.sl t5
abbrev t2:Ty:=.sl (.st t3)
abbrev t4:Ty:=.int .u8
abbrev t6:Ty:=.st (.pair (.int .u16) (.pair (.int .u16) (.int .u16)))
abbrev t7:Ty:=.st (.pair (.int .u32) (.pair (.int .u32) (.int .u32)))
abbrev t8:Ty:=.st (.pair t0 (.pair t1 (.pair t2 (.pair t1 (.pair t1 (.pair t1 t1))))))
abbrev t9:Ty:=.sl .str
abbrev ta:Ty:=.st (.pair t0 t2)
abbrev tb:Ty:=.int .u64
def sigs:List lr:=[
 ⟨3,⟨[.d t0,.d t2,.d t1],[]⟩,⟨[.d .bool],[]⟩,[]⟩,
 ⟨4,⟨[.d t0,.d t2],[]⟩,⟨[.d .bool],[]⟩,[]⟩,
 ⟨5,⟨[.d t0],[]⟩,⟨[.d .bool],[]⟩,[]⟩,
 ⟨6,⟨[.d t0,.d t2,.d t1],[]⟩,⟨[.d .bool],[]⟩,[]⟩,
 ⟨7,⟨[.d .str,.d t2,.d t1],[]⟩,⟨[.d .bool],[]⟩,[]⟩,
 ⟨8,⟨[.d t0,.d t2,.d t1,.d t1],[]⟩,⟨[.d .bool],[]⟩,[]⟩,
 ⟨9,⟨[],[]⟩,⟨[.d .bool],[]⟩,[]⟩,
 ⟨10,⟨[.d t0,.d t2],[]⟩,⟨[.d .bool],[]⟩,[]⟩,
 ⟨11,⟨[.d t0,.d t2,.d t1],[]⟩,⟨[.d .str,.d t1],[]⟩,[]⟩,
 ⟨12,⟨[.d t0],[]⟩,⟨[.d t0],[]⟩,[]⟩,
 ⟨13,⟨[.d t2],[]⟩,⟨[.d t2],[]⟩,[]⟩,
 ⟨14,⟨[.d t0,.d t2],[]⟩,⟨[.d .str,.d t1],[]⟩,[]⟩,
 ⟨15,⟨[.d t0,.d t2,.d t1],[]⟩,⟨[.d .str,.d t1],[]⟩,[]⟩,
 ⟨16,⟨[.d t0,.d t2],[]⟩,⟨[.d t1],[]⟩,[]⟩,
 ⟨17,⟨[.d t0,.d t2],[]⟩,⟨[.d t0,.d t1],[]⟩,[]⟩,
 ⟨18,⟨[.d t0,.d t0],[]⟩,⟨[.d .bool],[]⟩,[]⟩,
 ⟨19,⟨[.d t0,.d t1,.d t2],[]⟩,⟨[.d t0],[]⟩,[]⟩,
 ⟨20,⟨[.d t0],[]⟩,⟨[.d .str,.d t1],[]⟩,[]⟩,
 ⟨21,⟨[.d t0,.d .bool],[]⟩,⟨[.d t1],[]⟩,[]⟩,
 ⟨22,⟨[.d t0,.d t1],[]⟩,⟨[.d .str],[]⟩,[]⟩,
 ⟨23,⟨[.d .str,.d t2],[]⟩,⟨[.d t0,.d t1,.d t1],[]⟩,[]⟩,
 ⟨24,⟨[.d .str],[]⟩,⟨[.d .str],[]⟩,[]⟩,
 ⟨25,⟨[.d t0,.d t1],[]⟩,⟨[.d .str,.d t1],[]⟩,[]⟩,
 ⟨26,⟨[.d t0],[]⟩,⟨[.d .str,.d t1],[]⟩,[]⟩,
 ⟨27,⟨[.d t0],[]⟩,⟨[.d .bool],[]⟩,[]⟩,
 ⟨28,⟨[.d t0,.d t1],[]⟩,⟨[.d .str],[]⟩,[]⟩,
 ⟨29,⟨[.d t0,.d t1],[]⟩,⟨[.d .str],[]⟩,[]⟩,
 ⟨30,⟨[.d t2],[]⟩,⟨[.d t1],[]⟩,[]⟩,
 ⟨31,⟨[.d t0],[]⟩,⟨[.d t1],[]⟩,[]⟩,
 ⟨32,⟨[.d t2],[]⟩,⟨[.d t1],[]⟩,[]⟩,
 ⟨33,⟨[.ptr 0 0,.d t1],[.box [.d t0,.d t2]]⟩,⟨[.d t0],[.box [.d t0,.d t2]]⟩,[0]⟩,
 ⟨34,⟨[.d t0,.d t1],[]⟩,⟨[.d (.sl t1)],[]⟩,[]⟩,
 ⟨35,⟨[.d .str],[]⟩,⟨[.d t0],[]⟩,[]⟩,
 ⟨36,⟨[.d t1],[]⟩,⟨[.d .str],[]⟩,[]⟩,
 ⟨37,⟨[.d .str],[]⟩,⟨[.d .str],[]⟩,[]⟩,
 ⟨38,⟨[.d .str],[]⟩,⟨[.d .str],[]⟩,[]⟩,
 ⟨39,⟨[.d (.sl t0)],[]⟩,⟨[.d t0],[]⟩,[]⟩,
 ⟨40,⟨[.d t0],[]⟩,⟨[.d t0],[]⟩,[]⟩,
 ⟨41,⟨[],[]⟩,⟨[.d t0],[]⟩,[]⟩,
 ⟨42,⟨[.d (.sl t0)],[]⟩,⟨[.d t0],[]⟩,[]⟩,
 ⟨43,⟨[.d t0,.d t1,.d t2],[]⟩,⟨[.d (.st t3),.d .bool],[]⟩,[]⟩,
 ⟨44,⟨[.d t0,.d t1,.d t2,.d (.st t3),.d t1],[]⟩,⟨[.d t0],[]⟩,[]⟩,
 ⟨45,⟨[.d t0,.d t1,.d t2],[]⟩,⟨[.bM 0,.d t1],[.vec t0]⟩,[]⟩,
 ⟨46,⟨[.d t0,.d t1,.d t2],[]⟩,⟨[.d t1],[]⟩,[]⟩,
 ⟨47,⟨[.d t0,.d t1,.d t2,.d .bool],[]⟩,⟨[.d t0],[]⟩,[]⟩,
 ⟨48,⟨[.d t0],[]⟩,⟨[.d t1],[]⟩,[]⟩,
 ⟨49,⟨[.d t0,.d t1,.d .bool],[]⟩,⟨[.d .str],[]⟩,[]⟩,
 ⟨50,⟨[.d t0],[]⟩,⟨[.d .bool],[]⟩,[]⟩,
 ⟨51,⟨[.d t0,.d t1],[]⟩,⟨[.d t1],[]⟩,[]⟩,
 ⟨52,⟨[.d t0,.d t1,.d .bool],[]⟩,⟨[.d t1],[]⟩,[]⟩,
 ⟨53,⟨[.d t0,.d t1],[]⟩,⟨[.d .bool],[]⟩,[]⟩,
 ⟨54,⟨[.d .str],[]⟩,⟨[.d t0,.d t1,.d t1],[]⟩,[]⟩,
 ⟨55,⟨[.d t0,.d t1,.d t2],[]⟩,⟨[.d t0,.d t1,.d t1],[]⟩,[]⟩,
 ⟨56,⟨[.d t0],[]⟩,⟨[.d t1],[]⟩,[]⟩,
 ⟨57,⟨[.ptr 0 0,.d t0,.d t1,.d t1,.d .bool],[.box [.dA 0,.bM 1,.d .dC,.d t1],.vec t4]⟩,⟨[.d t1],[.box [.dA 0,.bM 2,.d .dC,.d t1],.gone,.vec t4]⟩,[0]⟩,
 ⟨58,⟨[.ptr 0 0],[.box [.dA 0,.bM 1],.vec t4]⟩,⟨[.d .str],[.gone,.gone]⟩,[]⟩,
 ⟨58,⟨[.ptr 0 0],[.box [.dA 0,.bM 1,.d .dC,.d t1],.vec t4]⟩,⟨[.d .str],[.gone,.gone]⟩,[]⟩,
 ⟨59,⟨[.d t0,.d t1,.d t1,.d t1,.d t1],[]⟩,⟨[.d .str],[]⟩,[]⟩,
 ⟨60,⟨[.d (.st t3)],[]⟩,⟨[.d .bool],[]⟩,[]⟩,
 ⟨61,⟨[.d t0,.d .bool],[]⟩,⟨[.d t1],[]⟩,[]⟩,
 ⟨62,⟨[.d t2,.fn 63 []],[]⟩,⟨[.d .bool],[]⟩,[]⟩,
 ⟨63,⟨[.d (.st t3)],[]⟩,⟨[.d .bool],[]⟩,[]⟩,
 ⟨64,⟨[.d (.st t3)],[]⟩,⟨[.d .bool],[]⟩,[]⟩,
 ⟨65,⟨[.d t2,.d .str],[]⟩,⟨[.d (.st t3),.d .bool],[]⟩,[]⟩,
 ⟨66,⟨[.d t1,.ptr 0 0,.ptr 1 0],[.box [.ptr 2 0],.box [.d t1],.box [.d t0,.d t2]]⟩,⟨[.d t0],[.box [.ptr 2 0],.box [.d t1],.box [.d t0,.d t2]]⟩,[0,1,2]⟩,
 ⟨67,⟨[.d t0,.d t1],[]⟩,⟨[.d (.sl t1)],[]⟩,[]⟩,
 ⟨68,⟨[.d .str],[]⟩,⟨[.d t0],[]⟩,[]⟩,
 ⟨69,⟨[.d t1],[]⟩,⟨[.d .str],[]⟩,[]⟩,
 ⟨70,⟨[.d .str],[]⟩,⟨[.d .str],[]⟩,[]⟩,
 ⟨71,⟨[.d .str],[]⟩,⟨[.d .str],[]⟩,[]⟩,
 ⟨72,⟨[.d (.sl t0)],[]⟩,⟨[.d t0],[]⟩,[]⟩,
 ⟨73,⟨[.d t0],[]⟩,⟨[.d t0],[]⟩,[]⟩,
 ⟨74,⟨[],[]⟩,⟨[.d t0],[]⟩,[]⟩,
 ⟨75,⟨[.ptr 0 0,.d t1],[.box [.d t0,.d t2]]⟩,⟨[.d t0],[.box [.d t0,.d t2]]⟩,[0]⟩,
 ⟨76,⟨[.ref ta,.d t1],[]⟩,⟨[.d t1],[]⟩,[]⟩,
 ⟨77,⟨[.ptr 0 0,.d t1],[.box [.d t0,.d t2]]⟩,⟨[.d t0],[.box [.d t0,.d t2]]⟩,[0]⟩,
 ⟨78,⟨[.ptr 0 0,.d t1],[.box [.d t0,.d t2]]⟩,⟨[.d t0],[.box [.d t0,.d t2]]⟩,[0]⟩,
 ⟨79,⟨[.d t0,.d t1],[]⟩,⟨[.d t1],[]⟩,[]⟩,
 ⟨80,⟨[.d t1],[]⟩,⟨[.d t1],[]⟩,[]⟩,
 ⟨81,⟨[.d t1],[]⟩,⟨[.d tb],[]⟩,[]⟩,
 ⟨82,⟨[.d t5],[]⟩,⟨[.d .bool],[]⟩,[]⟩,
 ⟨83,⟨[.d t5,.d (.sl t0)],[]⟩,⟨[.d t0],[]⟩,[]⟩,
 ⟨84,⟨[.d (.sl t0)],[]⟩,⟨[.d t0],[]⟩,[]⟩,
 ⟨85,⟨[.d t2,.d .str],[]⟩,⟨[.d (.st t3),.d .bool],[]⟩,[]⟩,
 ⟨86,⟨[.d t0,.d t1,.d .bool],[]⟩,⟨[.d t1],[]⟩,[]⟩,
 ⟨87,⟨[.d t1],[]⟩,⟨[.d .bool],[]⟩,[]⟩,
 ⟨88,⟨[.d t0,.d t1],[]⟩,⟨[.bM 0],[.vec .str]⟩,[]⟩,
 ⟨89,⟨[.d .str,.fn 142 []],[]⟩,⟨[.d t1],[]⟩,[]⟩,
 ⟨89,⟨[.d .str,.fn 144 []],[]⟩,⟨[.d t1],[]⟩,[]⟩,
 ⟨89,⟨[.d .str,.fn 146 []],[]⟩,⟨[.d t1],[]⟩,[]⟩,
 ⟨89,⟨[.d .str,.fn 90 []],[]⟩,⟨[.d t1],[]⟩,[]⟩,
 ⟨90,⟨[.d t4],[]⟩,⟨[.d .bool],[]⟩,[]⟩,
 ⟨91,⟨[.d .str],[]⟩,⟨[.d t5,.d t1,.d t1],[]⟩,[]⟩,
 ⟨92,⟨[.ptr 0 0],[.box [.d t0,.d t1,.d t2,.d t1,.d t1,.d t1,.d t1]]⟩,⟨[.d t0],[.box [.d t0,.d t1,.d t2,.d t1,.d t1,.d t1,.d t1]]⟩,[0]⟩,
 ⟨93,⟨[.ptr 0 0,.d t1,.d t1],[.box [.d t0,.d t1,.d t2,.d t1,.d t1,.d t1,.d t1]]⟩,⟨[.d t0],[.box [.d t0,.d t1,.d t2,.d t1,.d t1,.d t1,.d t1]]⟩,[0]⟩,
 ⟨94,⟨[.ptr 0 0,.d t1],[.box [.d t0,.d t1,.d t2,.d t1,.d t1,.d t1,.d t1]]⟩,⟨[.d t1],[.box [.d t0,.d t1,.d t2,.d t1,.d t1,.d t1,.d t1]]⟩,[0]⟩,
 ⟨95,⟨[.d t0],[]⟩,⟨[.d .bool],[]⟩,[]⟩,
 ⟨96,⟨[.d t5],[]⟩,⟨[.d .bool],[]⟩,[]⟩,
 ⟨97,⟨[.d t1,.d .bool,.ptr 0 0,.ptr 1 0,.ptr 2 0,.ptr 3 0],[.box [.d t1],.box [.d t1,.d .str,.d t1,.d t1],.box [.ptr 4 0],.box [.d t0],.box [.dA 4,.bM 5,.d .dC,.d t1],.vec t4]⟩,⟨[.d t1],[.box [.d t1],.box [.d t1,.d .str,.d t1,.d t1],.box [.ptr 4 0],.box [.d t0],.box [.dA 4,.bM 6,.d .dC,.d t1],.gone,.vec t4]⟩,[0,1,2,3,4]⟩,
 ⟨98,⟨[.ptr 0 0,.d .str],[.box [.dA 0,.bM 1,.d .dC,.d t1],.vec t4]⟩,⟨[],[.box [.dA 0,.bM 2,.d .dC,.d t1],.gone,.vec t4]⟩,[0]⟩,
 ⟨99,⟨[.ptr 0 0,.d t1],[.box [.dA 0,.bM 1,.d .dC,.d t1],.vec t4]⟩,⟨[],[.box [.dA 0,.bM 2,.d .dC,.d t1],.gone,.vec t4]⟩,[0]⟩,
 ⟨100,⟨[.ptr 0 0,.d t1],[.box [.dA 0,.bM 1,.d .dC,.d t1],.vec t4]⟩,⟨[.d .bool],[.box [.dA 0,.bM 1,.d .dC,.d t1],.vec t4]⟩,[0,1]⟩,
 ⟨101,⟨[.d t0],[]⟩,⟨[.d t1],[]⟩,[]⟩,
 ⟨102,⟨[.d t0,.d t1],[]⟩,⟨[.d t1],[]⟩,[]⟩,
 ⟨103,⟨[.d .str,.d t1],[]⟩,⟨[.d t1],[]⟩,[]⟩,
 ⟨104,⟨[.d t0],[]⟩,⟨[.d t1],[]⟩,[]⟩,
 ⟨105,⟨[.d t0,.d t1,.d .bool,.fn 106 [.ref t0]],[]⟩,⟨[.d t1,.d t1],[]⟩,[]⟩,
 ⟨106,⟨[.d t1,.d .bool,.ref t0],[]⟩,⟨[.d t1],[]⟩,[]⟩,
 ⟨107,⟨[.d t0,.d t1,.d .bool],[]⟩,⟨[.d t1],[]⟩,[]⟩,
 ⟨108,⟨[.d t1,.ref t0],[]⟩,⟨[.d .bool],[]⟩,[]⟩,
 ⟨109,⟨[.d t0,.d t1],[]⟩,⟨[.d t0,.d t1],[]⟩,[]⟩,
 ⟨110,⟨[.d t0],[]⟩,⟨[.bM 0],[.vec .str]⟩,[]⟩,
 ⟨111,⟨[.bM 0],[.vec .str]⟩,⟨[],[.vec .str]⟩,[0]⟩,
 ⟨112,⟨[.bM 0],[.vec .str]⟩,⟨[.bM 1],[.gone,.vec .str]⟩,[]⟩,
 ⟨113,⟨[.d t0],[]⟩,⟨[.d t1],[]⟩,[]⟩,
 ⟨114,⟨[.d t1],[]⟩,⟨[.d .bool],[]⟩,[]⟩,
 ⟨115,⟨[.d t2,.fn 63 []],[]⟩,⟨[.d t1],[]⟩,[]⟩,
 ⟨115,⟨[.d t2,.fn 117 [.ref .str]],[]⟩,⟨[.d t1],[]⟩,[]⟩,
 ⟨116,⟨[.d t5],[]⟩,⟨[.d .bool],[]⟩,[]⟩,
 ⟨117,⟨[.d (.st t3),.ref .str],[]⟩,⟨[.d .bool],[]⟩,[]⟩,
 ⟨118,⟨[.d .str],[]⟩,⟨[.d t0],[]⟩,[]⟩,
 ⟨119,⟨[.d .str,.d .str,.d .str,.d t1],[]⟩,⟨[.d .str],[]⟩,[]⟩,
 ⟨120,⟨[.d t1,.d t1],[]⟩,⟨[.d .str],[]⟩,[]⟩,
 ⟨121,⟨[.d t1],[]⟩,⟨[.d t1],[]⟩,[]⟩,
 ⟨122,⟨[.ptr 0 0,.d t4],[.box [.dA 0,.bM 1],.vec t4]⟩,⟨[.ie],[.box [.dA 0,.bM 2],.gone,.vec t4]⟩,[0]⟩,
 ⟨122,⟨[.ptr 0 0,.d t4],[.box [.dA 0,.bM 1,.d .dC,.d t1],.vec t4]⟩,⟨[.ie],[.box [.dA 0,.bM 2,.d .dC,.d t1],.gone,.vec t4]⟩,[0]⟩,
 ⟨123,⟨[.ptr 0 0,.d .str],[.box [.dA 0,.bM 1],.vec t4]⟩,⟨[.d t1,.ie],[.box [.dA 0,.bM 2],.gone,.vec t4]⟩,[0]⟩,
 ⟨123,⟨[.ptr 0 0,.d .str],[.box [.dA 0,.bM 1,.d .dC,.d t1],.vec t4]⟩,⟨[.d t1,.ie],[.box [.dA 0,.bM 2,.d .dC,.d t1],.gone,.vec t4]⟩,[0]⟩,
 ⟨124,⟨[.d t0],[]⟩,⟨[.d t0],[]⟩,[]⟩,
 ⟨125,⟨[.d (.sl t0)],[]⟩,⟨[.d t0],[]⟩,[]⟩,
 ⟨126,⟨[.d (.sl t0)],[]⟩,⟨[.d t0],[]⟩,[]⟩,
 ⟨127,⟨[.d t5,.d (.sl t0)],[]⟩,⟨[.bM 0],[.vec t5]⟩,[]⟩,
 ⟨128,⟨[.ref ta,.d t1],[]⟩,⟨[.d (.st t3),.d .bool],[]⟩,[]⟩,
 ⟨129,⟨[.ptr 0 0,.d t1,.d (.st t3),.d t1],[.box [.d t0,.d t2]]⟩,⟨[.d t0],[.box [.d t0,.d t2]]⟩,[0]⟩,
 ⟨130,⟨[.ptr 0 0,.d t1,.d .bool],[.box [.d t0,.d t2]]⟩,⟨[.d t0],[.box [.d t0,.d t2]]⟩,[0]⟩,
 ⟨131,⟨[.d tb],[]⟩,⟨[.d t1],[]⟩,[]⟩,
 ⟨132,⟨[.d t4],[]⟩,⟨[.d t1],[]⟩,[]⟩,
 ⟨133,⟨[.d .str,.d t1,.d t1,.d t1],[]⟩,⟨[.d t1],[]⟩,[]⟩,
 ⟨134,⟨[.d .str],[]⟩,⟨[.d .bool],[]⟩,[]⟩,
 ⟨135,⟨[.d t1],[]⟩,⟨[.d t1],[]⟩,[]⟩,
 ⟨136,⟨[.d t1,.d t1],[]⟩,⟨[.d .bool],[]⟩,[]⟩,
 ⟨137,⟨[.d .str],[]⟩,⟨[.d .bool],[]⟩,[]⟩,
 ⟨138,⟨[.d .str],[]⟩,⟨[.d .bool],[]⟩,[]⟩,
 ⟨139,⟨[.d t1,.d t1,.ref .str],[]⟩,⟨[.d t5,.d t1,.d t1],[]⟩,[]⟩,
 ⟨140,⟨[.d .str],[]⟩,⟨[.d .bool],[]⟩,[]⟩,
 ⟨141,⟨[.d t4],[]⟩,⟨[.d .bool],[]⟩,[]⟩,
 ⟨142,⟨[.d t4],[]⟩,⟨[.d .bool],[]⟩,[]⟩,
 ⟨143,⟨[.d t4],[]⟩,⟨[.d .bool],[]⟩,[]⟩,
 ⟨144,⟨[.d t4],[]⟩,⟨[.d .bool],[]⟩,[]⟩,
 ⟨145,⟨[.d .str,.d .str],[]⟩,⟨[.d .bool],[]⟩,[]⟩,
 ⟨146,⟨[.d t4],[]⟩,⟨[.d .bool],[]⟩,[]⟩,
 ⟨147,⟨[.d .str],[]⟩,⟨[.d t1,.d t1],[]⟩,[]⟩,
 ⟨148,⟨[.d .str],[]⟩,⟨[.d .str,.d t1],[]⟩,[]⟩,
 ⟨149,⟨[.ptr 0 0,.fn 1048726 [.ptr 0 0]],[.box [.d t0,.d t1,.d t2,.d t1,.d t1,.d t1,.d t1]]⟩,⟨[.d t0],[.box [.d t0,.d t1,.d t2,.d t1,.d t1,.d t1,.d t1]]⟩,[0]⟩,
 ⟨149,⟨[.ptr 0 0,.fn 1048829 [.ptr 0 0]],[.box [.d t0,.d t1,.d t2,.d t1,.d t1,.d t1,.d t1]]⟩,⟨[.d t0],[.box [.d t0,.d t1,.d t2,.d t1,.d t1,.d t1,.d t1]]⟩,[0]⟩,
 ⟨150,⟨[.ptr 0 0],[.box [.d t0,.d t1,.d t2,.d t1,.d t1,.d t1,.d t1]]⟩,⟨[.d t0],[.box [.d t0,.d t1,.d t2,.d t1,.d t1,.d t1,.d t1]]⟩,[0]⟩,
 ⟨151,⟨[.d .str,.fn 152 []],[]⟩,⟨[.d .bool],[]⟩,[]⟩,
 ⟨152,⟨[.d (.int .i32)],[]⟩,⟨[.d .bool],[]⟩,[]⟩,
 ⟨153,⟨[.d .str,.d t1],[]⟩,⟨[.d .str],[]⟩,[]⟩,
 ⟨154,⟨[.d t1],[]⟩,⟨[.agg [.d .bool,.d .bool,.fa [(185,false),(186,false)],.fa [(222,true),(187,false),(188,false)],.d .bool]],[]⟩,[]⟩,
 ⟨157,⟨[.fn 141 [],.ref t5],[]⟩,⟨[.d .bool],[]⟩,[]⟩,
 ⟨157,⟨[.fn 143 [],.ref t5],[]⟩,⟨[.d .bool],[]⟩,[]⟩,
 ⟨158,⟨[.d .str,.fn 142 []],[]⟩,⟨[.d .bool],[]⟩,[]⟩,
 ⟨158,⟨[.d .str,.fn 144 []],[]⟩,⟨[.d .bool],[]⟩,[]⟩,
 ⟨164,⟨[.ptr 0 0],[.box [.dA 0,.bM 1],.vec t4]⟩,⟨[],[.box [.dA 0,.bM 1],.vec t4]⟩,[0,1]⟩,
 ⟨164,⟨[.ptr 0 0],[.box [.dA 0,.bM 1,.d .dC,.d t1],.vec t4]⟩,⟨[],[.box [.dA 0,.bM 1,.d .dC,.d t1],.vec t4]⟩,[0,1]⟩,
 ⟨165,⟨[.d (.sl t0)],[]⟩,⟨[.d t0],[]⟩,[]⟩,
 ⟨166,⟨[.d t1,.d t0],[]⟩,⟨[.d t0],[]⟩,[]⟩,
 ⟨167,⟨[.rr ta,.ref t1,.ref (.st t3),.ref t1],[]⟩,⟨[.d .bool],[]⟩,[]⟩,
 ⟨168,⟨[],[]⟩,⟨[.d t9],[]⟩,[]⟩,
 ⟨169,⟨[.d t9,.d .str],[]⟩,⟨[.d .bool],[]⟩,[]⟩,
 ⟨170,⟨[],[]⟩,⟨[.d t9],[]⟩,[]⟩,
 ⟨171,⟨[.d .str,.d t4],[]⟩,⟨[.d t1],[]⟩,[]⟩,
 ⟨172,⟨[.d .str,.d .str],[]⟩,⟨[.d .bool],[]⟩,[]⟩,
 ⟨173,⟨[.d .str,.d .str],[]⟩,⟨[.d .str,.d .bool],[]⟩,[]⟩,
 ⟨174,⟨[.ptr 0 0,.d t1,.d t1,.d t9],[.box [.d t0,.d t1,.d t2,.d t1,.d t1,.d t1,.d t1]]⟩,⟨[.d .bool],[.box [.d t0,.d t1,.d t2,.d t1,.d t1,.d t1,.d t1]]⟩,[0]⟩,
 ⟨175,⟨[.ptr 0 0],[.box [.d t0,.d t1,.d t2,.d t1,.d t1,.d t1,.d t1]]⟩,⟨[.d t0],[.box [.d t0,.d t1,.d t2,.d t1,.d t1,.d t1,.d t1]]⟩,[0]⟩,
 ⟨176,⟨[.ptr 0 0],[.box [.d t0,.d t1,.d t2,.d t1,.d t1,.d t1,.d t1]]⟩,⟨[.d t5],[.box [.d t0,.d t1,.d t2,.d t1,.d t1,.d t1,.d t1]]⟩,[0]⟩,
 ⟨177,⟨[.ptr 0 0],[.box [.d t0,.d t1,.d t2,.d t1,.d t1,.d t1,.d t1]]⟩,⟨[.d .str],[.box [.d t0,.d t1,.d t2,.d t1,.d t1,.d t1,.d t1]]⟩,[0]⟩,
 ⟨178,⟨[.d t1,.d .str,.d (.sl t0)],[]⟩,⟨[.d t0],[]⟩,[]⟩,
 ⟨179,⟨[.ptr 0 0,.d .str],[.box [.d t0,.d t1,.d t2,.d t1,.d t1,.d t1,.d t1]]⟩,⟨[.d t0],[.box [.d t0,.d t1,.d t2,.d t1,.d t1,.d t1,.d t1]]⟩,[0]⟩,
 ⟨180,⟨[.ptr 0 0,.d .str],[.box [.d t0,.d t1,.d t2,.d t1,.d t1,.d t1,.d t1]]⟩,⟨[],[.box [.d t0,.d t1,.d t2,.d t1,.d t1,.d t1,.d t1]]⟩,[0]⟩,
 ⟨181,⟨[.d .str,.fn 152 []],[]⟩,⟨[.d t1],[]⟩,[]⟩,
 ⟨184,⟨[.d t1],[]⟩,⟨[.fn 222 [.ref t1]],[]⟩,[]⟩,
 ⟨185,⟨[.d .str],[]⟩,⟨[.d .bool],[]⟩,[]⟩,
 ⟨186,⟨[.d .str],[]⟩,⟨[.d .bool],[]⟩,[]⟩,
 ⟨187,⟨[.d t1],[]⟩,⟨[.d .bool],[]⟩,[]⟩,
 ⟨188,⟨[.d t1],[]⟩,⟨[.d .bool],[]⟩,[]⟩,
 ⟨210,⟨[.d t9,.d .str],[]⟩,⟨[.d t1],[]⟩,[]⟩,
 ⟨211,⟨[.d .str],[]⟩,⟨[.d t9],[]⟩,[]⟩,
 ⟨213,⟨[.d .str,.d .str],[]⟩,⟨[.d .str,.d .bool],[]⟩,[]⟩,
 ⟨214,⟨[.ptr 0 0],[.box [.d t0,.d t1,.d t2,.d t1,.d t1,.d t1,.d t1]]⟩,⟨[.d t0],[.box [.d t0,.d t1,.d t2,.d t1,.d t1,.d t1,.d t1]]⟩,[0]⟩,
 ⟨215,⟨[.d .str,.ptr 0 0],[.box [.ptr 1 0],.box [.d t0,.d t1,.d t2,.d t1,.d t1,.d t1,.d t1]]⟩,⟨[.d .bool],[.box [.ptr 1 0],.box [.d t0,.d t1,.d t2,.d t1,.d t1,.d t1,.d t1]]⟩,[0,1]⟩,
 ⟨216,⟨[.d t9,.fn 215 [.ptr 0 0]],[.box [.ptr 1 0],.box [.d t0,.d t1,.d t2,.d t1,.d t1,.d t1,.d t1]]⟩,⟨[.d t1],[.box [.ptr 1 0],.box [.d t0,.d t1,.d t2,.d t1,.d t1,.d t1,.d t1]]⟩,[0,1]⟩,
 ⟨217,⟨[.d t2,.d t9],[]⟩,⟨[.d (.sl t1),.d t1],[]⟩,[]⟩,
 ⟨218,⟨[.ptr 0 0,.ptr 1 0,.ptr 2 0,.ptr 3 0,.ptr 4 0],[.box [.d (.sl t1)],.box [.d t1],.box [.d (.sl t0)],.box [.d t9],.box [.fn 218 [.ptr 0 0,.ptr 1 0,.ptr 2 0,.ptr 3 0,.ptr 4 0]]]⟩,⟨[.d t0],[.box [.d (.sl t1)],.box [.d t1],.box [.d (.sl t0)],.box [.d t9],.box [.fn 218 [.ptr 0 0,.ptr 1 0,.ptr 2 0,.ptr 3 0,.ptr 4 0]]]⟩,[0,1,2,3,4]⟩,
 ⟨219,⟨[.d .str,.fn 152 [],.d .bool],[]⟩,⟨[.d t1],[]⟩,[]⟩,
 ⟨222,⟨[.d t1,.ref t1],[]⟩,⟨[.d .bool],[]⟩,[]⟩,
 ⟨240,⟨[.ptr 0 0],[.box [.d t0,.d t1,.d t2,.d t1,.d t1,.d t1,.d t1]]⟩,⟨[.d t0],[.box [.d t0,.d t1,.d t2,.d t1,.d t1,.d t1,.d t1]]⟩,[0]⟩,
 ⟨241,⟨[.ptr 0 0],[.box [.d t0,.d t1,.d t2,.d t1,.d t1,.d t1,.d t1]]⟩,⟨[.d .bool],[.box [.d t0,.d t1,.d t2,.d t1,.d t1,.d t1,.d t1]]⟩,[0]⟩,
 ⟨242,⟨[.ptr 0 0,.ptr 1 0],[.box [.bM 2],.box [.bM 3],.vec t1,.vec (.sl t1)]⟩,⟨[],[.box [.bM 4],.box [.bM 5],.gone,.gone,.vec t1,.vec (.sl t1)]⟩,[0,1]⟩,
 ⟨243,⟨[.d (.sl (.sl t1))],[]⟩,⟨[.bM 0],[.vec t1]⟩,[]⟩,
 ⟨249,⟨[.ptr 0 0],[.box [.d t0,.d t1,.d t2,.d t1,.d t1,.d t1,.d t1]]⟩,⟨[.d t0],[.box [.d t0,.d t1,.d t2,.d t1,.d t1,.d t1,.d t1]]⟩,[0]⟩,
 ⟨250,⟨[.d (.sl t1),.d t1],[]⟩,⟨[.bM 0],[.vec t1]⟩,[]⟩,
 ⟨253,⟨[.ptr 0 0],[.box [.d t0,.d t1,.d t2,.d t1,.d t1,.d t1,.d t1]]⟩,⟨[.d t0],[.box [.d t0,.d t1,.d t2,.d t1,.d t1,.d t1,.d t1]]⟩,[0]⟩,
 ⟨254,⟨[.ptr 0 0],[.box [.d t0,.d t1,.d t2,.d t1,.d t1,.d t1,.d t1]]⟩,⟨[.d t0],[.box [.d t0,.d t1,.d t2,.d t1,.d t1,.d t1,.d t1]]⟩,[0]⟩]
def zbx:List Int:=[0,0,0,0,0,0,0,0,0,1,1,1,1,1,0,0,0,0,0,0,0,0,0,0,0,0,0,0,0,0,0,0,1,0,0,0,0,0,0,0,0,0,0,0,0,0,0,0,0,0,0,0,0,0,0,0,0,0,0,0,0,0,0,0,0,0,0,0,0,0,0,0,0,0,0,0,0,0,0,0,0,0,0,0,0,0,0,0,0,0,0,0,0,0,0,0,0,0,0,0,0,0,0,0,0,0,0,0,0,0,0,0,0,0,0,0,0,0,0,0,0,0,0,0,0,0,0,0,0,0,0,0,0,0,0,0,0,0,0,0,0,0,0,0,0,0,0,0,0,0,0,0,0,0,0,0,0,0,0,0,0,0,0,0,0,0,0,0,0,0,0,0,0,0,0,0,0,0,0,0,0,0,0,0,0,0,0,0,0,0,0,0,0,0,0,0,0,0,0,0,0,0,0,0,0,0,0,0,0,0,0,0,0,0,0,0,0,0,0,0,0,0,0,0,0,0,0,0,0,0,0,0,0,0,0,0,0,0,0,0,0,0,0,0,0,0,0,0,0,0,0,0,0,0,0,0]
def VJ:List Int:=[1,10,100,1000,10000,100000,1000000,10000000,100000000,1000000000,10000000000,100000000000,1000000000000,10000000000000,100000000000000,1000000000000000,10000000000000000,100000000000000000,1000000000000000000,10000000000000000000]
def j9:Nat->Option ((t:Ty)×den t)
 |4=>some ⟨.arr 256 (.int .u8),zbx⟩
 |3=>some ⟨.arr 20 (.int .u64),VJ⟩
 |_=>none
def eM:List (Nat×Ty):=[
 (2,t1),
 (3,t1),
 (4,.bool),
 (5,t4),
 (6,t4),
 (7,(.st (.pair t1 (.pair t1 (.pair .bool t4))))),
 (8,(.st (.pair t1 (.pair t1 (.pair .bool t4))))),
 (9,.str),
 (10,.str),
 (11,.str),
 (12,tb),
 (13,(.st (.pair .str tb))),
 (14,(.st (.pair .str tb))),
 (21,(.int .i32)),
 (22,t0),
 (23,t2),
 (26,t1),
 (47,(.st t3)),
 (48,(.st t3)),
 (49,t1),
 (50,t5),
 (51,t5),
 (56,ta),
 (57,ta),
 (59,(.sl t1)),
 (64,(.sl t0)),
 (77,t0),
 (81,(.sl t4)),
 (86,.dC),
 (96,t1),
 (99,tb),
 (102,t1),
 (103,t5),
 (104,t5),
 (107,t9),
 (114,t8),
 (115,t8),
 (141,tb),
 (161,.fc),
 (188,t1),
 (196,(.int .u32)),
 (200,(.arr 24 t4)),
 (216,tb),
 (223,(.arr 256 t4)),
 (224,(.st (.pair t4 t4))),
 (225,(.st (.pair t4 t4))),
 (226,(.arr 16 (.st (.pair t4 t4)))),
 (228,(.arr 20 tb)),
 (229,(.arr 65 t4)),
 (231,(.sl (.sl t1))),
 (237,(.sl (.st (.pair t1 t1)))),
 (238,(.st (.pair t1 t1))),
 (239,(.st (.pair t1 t1))),
 (243,(.arr 32 t4)),
 (244,(.arr 64 t4)),
 (245,(.sl t6)),
 (246,(.sl t7)),
 (247,(.st (.pair (.sl t6) (.pair (.sl t7) t1)))),
 (248,(.st (.pair (.sl t6) (.pair (.sl t7) t1)))),
 (249,(.int .u16)),
 (250,t6),
 (251,t6),
 (253,t7),
 (254,t7),
 (263,t4),
 (264,t4),
 (266,(.int .i32)),
 (267,(.int .i32))]
def eqs:List Nat:=[48,51]
noncomputable def C:Cx:=⟨Tryz.prog,sigs,j9,eM,eqs,85,88⟩
theorem Lu:Tryz.prog.underlying 83=some (.pointer 85):=by kernel_rfl
theorem CW:Tryz.prog.underlying 204=some .unsafePointer:=by kernel_rfl
theorem i87:(Tryz.prog.info? 85).map (fun x=>x.size)=some 2:=by kernel_rfl
theorem zby:liesAt Tryz.prog Tryz.prog.depth 85 (2 / Tryz.prog.cellsOf 85) 0 85 1=true:=by kernel_rfl
set_option maxHeartbeats 1000000 in
set_option maxRecDepth 100000 in
theorem z1j(b:Nat)(w:World)(h0:w.cell? ⟨b,0,none⟩=some (.pointer (some ⟨b,0,none⟩))):Calls Tryz.prog 164 #[.pointer (some ⟨b,0,none⟩)] w fun e w'=>e=.returned (.tuple #[])/\w'=w:=by
 obtain⟨j,hj,_⟩:=Option.map_eq_some_iff.1 i87
 go_enter Tryz.func164,Tryz.ntmps164
 go_wp2
 rw[Lib.run_neq_ptr_same w _ Lu hj]
 go_wp2
 go_end0
 exact⟨rfl,rfl⟩
set_option maxHeartbeats 1000000 in
set_option maxRecDepth 100000 in
theorem z54(b:Nat)(w:World)(h0:w.cell? ⟨b,0,none⟩=some (.pointer none))(hc:w.shape? b=some (85,2))(hf:w.frozen? ⟨b,0,none⟩=false):Calls Tryz.prog 164 #[.pointer (some ⟨b,0,none⟩)] w fun e w'=>e=.returned (.tuple #[])/\w'=w.setCell ⟨b,0,none⟩ (.pointer (some ⟨b,0,none⟩)):=by
 obtain⟨j,hj,he⟩:=Option.map_eq_some_iff.1 i87
 go_enter Tryz.func164,Tryz.ntmps164
 go_wp2
 rw[Lib.run_to_unsafe w ⟨b,0,none⟩ Lu CW hj (by rw[he];decide) hc (Nat.zero_lt_succ 1)];simp only[Result.andThen];rw[Oper.upon_value]
 go_wp2
 rw[run_callFunc_extern Tryz.func209 (by kernel_rfl) (by kernel_rfl) (by kernel_rfl) (e:=Extern.AbiNoEscape.same) (by kernel_rfl)];rw[Lib.run_noEscape];simp only[Result.andThen];rw[Oper.upon_value]
 go_wp2
 rw[Lib.run_from_unsafe w ⟨b,0,none⟩ CW Lu hj hc zby];simp only[Result.andThen];rw[Oper.upon_value]
 go_wp2
 go_end0
 exact⟨rfl,rfl⟩
theorem zbz:liesAt Tryz.prog Tryz.prog.depth 88 (4 / Tryz.prog.cellsOf 88) 0 85 1=true:=by kernel_rfl
set_option maxHeartbeats 1000000 in
set_option maxRecDepth 100000 in
theorem z1k(b:Nat)(w:World)(h0:w.cell? ⟨b,0,none⟩=some (.pointer none))(hc:w.shape? b=some (88,4))(hf:w.frozen? ⟨b,0,none⟩=false):Calls Tryz.prog 164 #[.pointer (some ⟨b,0,none⟩)] w fun e w'=>e=.returned (.tuple #[])/\w'=w.setCell ⟨b,0,none⟩ (.pointer (some ⟨b,0,none⟩)):=by
 obtain⟨j,hj,he⟩:=Option.map_eq_some_iff.1 i87
 go_enter Tryz.func164,Tryz.ntmps164
 go_wp2
 rw[Lib.run_to_unsafe w ⟨b,0,none⟩ Lu CW hj (by rw[he];decide) hc (Nat.zero_lt_succ 3)];simp only[Result.andThen];rw[Oper.upon_value]
 go_wp2
 rw[run_callFunc_extern Tryz.func209 (by kernel_rfl) (by kernel_rfl) (by kernel_rfl) (e:=Extern.AbiNoEscape.same) (by kernel_rfl)];rw[Lib.run_noEscape];simp only[Result.andThen];rw[Oper.upon_value]
 go_wp2
 rw[Lib.run_from_unsafe w ⟨b,0,none⟩ CW Lu hj hc zbz];simp only[Result.andThen];rw[Oper.upon_value]
 go_wp2
 go_end0
 exact⟨rfl,rfl⟩
theorem z6l:Tryz.prog.follows .mixedOrders=true:=by kernel_rfl
set_option maxHeartbeats 2000000 in
set_option maxRecDepth 100000 in
theorem z1l:RA Tryz.prog 58 81 124 3 9 5 where
 walk:=by
  intro b base q n cap bs w w2 c1 hf hg;have mixed:=z6l
  go_enter Tryz.func58,Tryz.ntmps58
  go_wp2
  go_region_o
  all_goals (go_wp2;go_ret;exact⟨rfl,rfl⟩)
 wj:=by
  intro b a cs el fz w hc he sh hj;have hg:∀(W:World) (q:Option Addr),(Builtin.unsafeString_ #[124,3] 9 #[.pointer q,.int .i64 0]).run Tryz.prog W=.ok (.string .empty) W:=fun W q=>Lib.run_unsafeString_none W _ _ _ q;have hk:b<w.heap.size:=(Array.getElem?_eq_some_iff.1 hc).1;have c1:w.drew.cell? ⟨b,1,none⟩=some (.slice (some a) 0 0):=by have:w.drew.heap[b]?=some (.cells cs el fz):=hc;simp only[World.cell?,this];exact he
  have hf:(Builtin.unsafeSliceData_ #[81] 124 #[.slice (some a) 0 0]).run Tryz.prog w.drew=.ok (.pointer (some ⟨w.drew.heap.size,0,none⟩)) (w.drew.alloc (.view a 5)):=Lib.run_unsafeSliceData_zero w.drew _ _ 5 (by kernel_rfl) a 0 sh hj;have c2:(w.drew.alloc (.view a 5)).cell? ⟨b,1,none⟩=some (.slice (some a) 0 0):=by have:(w.drew.alloc (.view a 5)).heap[b]?=_:=(Lib.alloc_old w.drew _ b hk).trans hc;simp only[World.cell?,this];exact he
  have c3:(w.alloc (.view a 5)).drew.cell? ⟨b,1,none⟩=some (.slice (some a) 0 0):=c2;have c0:w.cell? ⟨b,1,none⟩=some (.slice (some a) 0 0):=c1;have mixed:=z6l
  go_enter Tryz.func58,Tryz.ntmps58
  go_wp2
  go_region_o
  all_goals (go_wp2;go_ret;exact⟨rfl,rfl⟩)
def zc0:ai (aM C.sigs 112).ins.aN->Option (ai (aM C.sigs 112).outs.aN):=fun x=>bif x.1.l.all ua&&decide (x.1.l.length<4611686018427387904) then some ((⟨x.1.nil,x.1.l.mergeSort fun a b=>!strLt b a⟩:Sl (List Int)),()) else none
def zd3:ai (aM C.sigs 172).ins.aN->Option (ai (aM C.sigs 172).outs.aN):=fun x=>some (mn x.2.1 x.1,())
def zc1:ai (aM C.sigs 203).ins.aN->Option (ai (aM C.sigs 203).outs.aN):=fun x=>bif x.1.nil&&x.1.l.isEmpty&&decide (0<=x.2.1)&&decide (x.2.1<=1000000) then some ((⟨decide (x.2.1=0),([]:List Int)⟩:Sl Int),()) else none
def zd4:ai (aM C.sigs 122).ins.aN->Option (ai (aM C.sigs 122).outs.aN):=fun x=>bif decide (x.2.1=10)&&(decide (-9223372036854775808<=x.1)&&decide (x.1<=9223372036854775807)) then some (kS x.1,()) else none
def zd5:ai (aM C.sigs 121).ins.aN->Option (ai (aM C.sigs 121).outs.aN):=fun x=>bif (x.2.1==[45])&&((x.2.2.1==[126])&&(decide (x.2.2.2.1=1)&&decide (x.1.length<=1000))) then some (gO x.1,()) else none
theorem zd6:aa C 172 zd3:=by intro x y h;obtain⟨l,c,u⟩:=x;have h:some ((mn c l,()):Int×Unit)=some y:=h;injection h with h;subst h;exact Call.lJ 172 _ _ (za4 (C:=C) (f:=171) ⟨_,Tryz.func171,by kernel_rfl⟩ (fun s c w=>Any.strings_IndexByte Tryz.ixL s c w) l c)
theorem zc2:aa C 203 zc1:=by
 intro x y h;obtain⟨⟨nil,l⟩,n,u⟩:=x;have h:(bif nil&&l.isEmpty&&decide (0<=n)&&decide (n<=1000000) then some ((⟨decide (n=0),([]:List Int)⟩,()):Sl Int×Unit) else none)=some y:=h;cases hb:(nil&&l.isEmpty&&decide (0<=n)&&decide (n<=1000000)) with
 |false=>rw[hb] at h;cases h
 |true=>
  rw[hb] at h;injection h with h;subst h;simp only[ze,decide_eq_true_eq] at hb;obtain⟨⟨⟨h1,h2⟩,h3⟩,h4⟩:=hb;subst h1;obtain rfl:l=[]:=List.isEmpty_iff.1 h2;obtain⟨k,rfl⟩:=Int.eq_ofNat_of_zero_le h3;have h4:(k:Int)<=1000000:=h4;have hc:(Tryz.prog.info? (Tryz.growL_ren.t 25)).map (fun i=>(i.zero,i.size,i.bytes))=some (some (.int .i64 0),1,8):=by kernel_rfl
  obtain⟨i0,i1,i2⟩:=Option.map_eq_some_iff.1 hc;injection i2 with i2 i3;injection i3 with i3 i4;have key:=z30 (C:=C) (f:=250) ⟨_,Tryz.func250,by kernel_rfl⟩
   (fun w=>Any8.slices_Grow_room Tryz.growL none 0 0 0 w (Nat.le_refl _) dc dc (Nat.le_refl _))
   (fun n w hn he=>by have g:=Any8.slices_Grow_grow Tryz.growL i0 (.int .i64 0) i1 i2 om none 0 0 n [] w (Nat.le_refl _) om (by rw[i4];omega) om (by rw[i3];rfl) (fun _=>rfl) (fun a h=>by cases h);refine Calls.mono g fun e w' ⟨e1,e2⟩=>⟨_,_,_,e1,e2,?_⟩;simp[Builtin.zeroCells];have hs:(Value.int IntKind.i64 0).cells.size=1:=rfl;rw[hs];omega) k om
  have e:decide ((k:Int)=0)=decide (k=0):=decide_eq_decide.2 om;rw[e];exact Call.lJ 203 _ _ key
theorem zd7:aa C 122 zd4:=by
 intro x y h;obtain⟨n,k,u⟩:=x;have h:(bif decide (k=10)&&(decide (-9223372036854775808<=n)&&decide (n<=9223372036854775807)) then some ((kS n,()):List Int×Unit) else none)=some y:=h;cases hb:(decide (k=10)&&(decide (-9223372036854775808<=n)&&decide (n<=9223372036854775807))) with
 |false=>rw[hb] at h;cases h
 |true=>
  rw[hb] at h;injection h with h;subst h;simp only[ze,decide_eq_true_eq] at hb;obtain⟨rfl,h2,h3⟩:=hb;have ht:VJ=Lib.pow10Tab:=dc
  exact Call.lJ 122 _ _ (z7z (C:=C) (f:=120) ⟨_,Tryz.func120,by kernel_rfl⟩ (g:=3) (m:=20) (zs:=VJ) (by kernel_rfl) rfl
   (fun n h0 h1 w hc=>Any.strconv_FormatInt_10 Tryz.fmtL n h0 h1 w (by rw[<-ht];exact hc)) n h2 h3)
theorem z55:Builder.Extra Tryz.prog Tryz.repL_ren where
 sizeBuilder:=by kernel_rfl
 liesBuilder:=by kernel_rfl
 t5:=Tryz.repL.t5
 a5:=Tryz.repL.a5
 z5:=Tryz.repL.z5
 v5:=Tryz.repL.v5
 infoByte:=by kernel_rfl
 cellsByte:=by kernel_rfl
 sizeByte:=by kernel_rfl
 neB5:=dc
theorem zd8:aa C 121 zd5:=by
 intro x y h;obtain⟨l,a,b,k,u⟩:=x;have h:(bif (a==[45])&&((b==[126])&&(decide (k=1)&&decide (l.length<=1000))) then some ((gO l,()):List Int×Unit) else none)=some y:=h;cases hb:((a==[45])&&((b==[126])&&(decide (k=1)&&decide (l.length<=1000)))) with
 |false=>rw[hb] at h;cases h
 |true=>rw[hb] at h;injection h with h;subst h;simp only[ze,decide_eq_true_eq,beq_iff_eq] at hb;obtain⟨rfl,rfl,rfl,h3⟩:=hb;exact Call.lJ 121 _ _ (z80 (C:=C) (f:=119) ⟨_,Tryz.func119,by kernel_rfl⟩ (fun s w hs=>z35 Tryz.repL z55 s w hs) l h3)
def tD(x:List UInt8):List Int:=x.map fun b=>(b.toNat:Int)
def IE(l:List Int):List UInt8:=l.map fun b=>UInt8.ofNat b.toNat
theorem qkr:∀x y:List UInt8,tD x=tD y->x=y
 |[],[],_=>rfl
 |[],_::_,h=>by cases h
 |_::_,[],h=>by cases h
 |a::x,b::y,h=>by injection h with h1 h2;have h1:(a.toNat:Int)=(b.toNat:Int):=h1;have e:a=b:=UInt8.toNat_inj.1 om;rw[qkr x y h2,e]
theorem qdm:∀l:List Int,(∀b,b∈l->0<=b/\b<=255)->tD (IE l)=l
 |[],_=>rfl
 |a::l,h=>by obtain⟨h0,h1⟩:=h a (zf ..);show(((UInt8.ofNat a.toNat).toNat:Nat):Int)::tD (IE l)=_;rw[qdm l fun b hb=>h b (zh _ hb),UInt8.toNat_ofNat',Nat.mod_eq_of_lt om];congr 1;omega
theorem qks:∀x y:List UInt8,strLt (tD x) (tD y)=decide (x<y)
 |[],[]=>rfl
 |[],b::y=>by show true=_;exact(zu (List.nil_lt_cons b y)).symm
 |a::x,[]=>by show false=_;exact(zn (List.not_lt_nil _)).symm
 |a::x,b::y=>by
  show(decide ((a.toNat:Int)<(b.toNat:Int))||(decide ((a.toNat:Int)=(b.toNat:Int))&&strLt (tD x) (tD y)))=_;rw[qks x y,Bool.eq_iff_iff,decide_eq_true_eq,List.cons_lt_cons_iff];simp only[Bool.or_eq_true,ze,decide_eq_true_eq];have e1:((a.toNat:Int)<(b.toNat:Int))↔a<b:=by rw[UInt8.lt_iff_toNat_lt];omega
  have e2:((a.toNat:Int)=(b.toNat:Int))↔a=b:=by rw[<-UInt8.toNat_inj];omega
  rw[e1,e2]
theorem z1m(imm:Nat->Prop)(w:World)(x:List UInt8)(hx:x.length<=9223372036854775807)(cs:List Value):aA imm w .str (tD x) cs↔cs=[encStr x]:=by
 constructor
 ·rintro⟨t,e3,h1,h2⟩;have h1:t.data.toList.map (fun b=>(b.toNat:Int))=tD x:=h1;have h3:t.data.toList=x:=qkr _ _ h1;subst e3;have:t=⟨x.toArray⟩:=by rw[<-h3]
  rw[this]
 ·intro e;subst e;refine⟨⟨x.toArray⟩,rfl,rfl,?_⟩;show x.toArray.size<=_;simpa[ch] using hx
theorem zc3:aa C 112 zc0:=by
 intro x y h;obtain⟨⟨nil,l⟩,u⟩:=x;have h:(bif l.all ua&&decide (l.length<4611686018427387904) then some ((⟨nil,l.mergeSort fun a b=>!strLt b a⟩:Sl (List Int)),()) else none)=some y:=h;cases hg:(l.all ua&&decide (l.length<4611686018427387904)) with
 |false=>rw[hg] at h;cases h
 |true=>
  rw[hg] at h;injection h with h;subst h;simp only[ze,decide_eq_true_eq] at hg;obtain⟨g1,g3⟩:=hg;have gg:∀s,s∈l->(∀b,b∈s->0<=b/\b<=255)/\s.length<=9223372036854775807:=fun s hs=>qyf (zU.1 g1 s hs);have hl:l=(l.map IE).map tD:=by rw[jb];exact((ja (g:=fun s=>s) fun s hs=>qdm s (gg s hs).1).trans (List.map_id' l)).symm
  have key:=qym (C:=C) (f:=111) (t:=.str) encStr tD (fun x=>x.length<=9223372036854775807) (fun l=>l.mergeSort fun x y=>decide (x<=y)) (by intro h;cases h) rfl
   (fun imm w x hx cs=>z1m imm w x hx cs) (fun l=>List.length_mergeSort l) (fun l x hx=>(List.mem_mergeSort).1 hx)
   ⟨_,Tryz.func111,by kernel_rfl⟩ (fun p cap w=>Any.slices_Sort_string_none Tryz.sortL p cap w)
   (fun lL off cap zs w hH hb hc=>calls_of_every_depth fun D=>AnyS.slices_Sort_string_alone Tryz.sortL D lL off cap zs w hH hb hc)
   nil (l.map IE) (fun x hx=>by obtain⟨s,hs,rfl⟩:=List.mem_map.1 hx;show(s.map _).length<=_;rw[zO];exact(gg s hs).2) (by rw[zO];exact g3)
  have e:((l.map IE).mergeSort fun x y=>decide (x<=y)).map tD=((l.map IE).map tD).mergeSort fun a b=>!strLt b a:=
   List.map_mergeSort (fun a _ b _=>by
    rw[qks];by_cases h:b<a
    ·rw[zu h,zn (fun e:a<=b=>e h)];rfl
    ·rw[zn h,zu (show a<=b from h)];rfl)
  rw[e,<-hl] at key;exact Call.lJ 112 _ _ key
def zd9:ai (aM C.sigs 158).ins.aN->Option (ai (aM C.sigs 158).outs.aN):=fun x=>bif (x.1==[32])&&(decide (0<=x.2.1)&&decide (x.2.1<=1000000)) then some (List.replicate x.2.1.toNat (32:Int),()) else none
theorem VK:∀n:Nat,(Lib.repeatL [32] n).map (fun b=>(b.toNat:Int))=List.replicate n 32
 |0=>rfl
 |n+1=>by show(([32]++Lib.repeatL [32] n).map _)=_;rw[zT,VK n,List.replicate_succ];rfl
theorem z56:Builder.Extra Tryz.prog Tryz.rptL_ren where
 sizeBuilder:=by kernel_rfl
 liesBuilder:=by kernel_rfl
 t5:=Tryz.rptL.t5
 a5:=Tryz.rptL.a5
 z5:=Tryz.rptL.z5
 v5:=Tryz.rptL.v5
 infoByte:=by kernel_rfl
 cellsByte:=by kernel_rfl
 sizeByte:=by kernel_rfl
 neB5:=dc
theorem zda:aa C 158 zd9:=by
 intro x y h;obtain⟨l,n,u⟩:=x;have h:(bif (l==[32])&&(decide (0<=n)&&decide (n<=1000000)) then some ((List.replicate n.toNat (32:Int),()):List Int×Unit) else none)=some y:=h;cases hb:((l==[32])&&(decide (0<=n)&&decide (n<=1000000))) with
 |false=>rw[hb] at h;cases h
 |true=>
  rw[hb] at h;injection h with h;subst h;simp only[ze,decide_eq_true_eq,beq_iff_eq] at hb;obtain⟨rfl,h2,h3⟩:=hb;obtain⟨k,rfl⟩:=Int.eq_ofNat_of_zero_le h2;refine Call.lJ 158 _ _ ?_;intro X φ w JR hm hz;have hm:MRel C X φ mm w:=hm;have hz:cd φ mm (ah X φ mm w) w [.d .str ([32]:List Int),.d (.int .i64) (k:Int)] JR:=hz;refine⟨⟨_,Tryz.func153,by kernel_rfl⟩,?_⟩;obtain⟨z0,r0,rfl,g1,z1,r1,rfl,g2,g3⟩:=hz;have g3:r1=[]:=g3;subst g3;obtain⟨s,rfl,hs,hf⟩:=nV g1;obtain⟨rfl,_⟩:=lG g2;have hc:s=⟨#[32]⟩:=by
   obtain⟨⟨d⟩⟩:=s
   match d,hs with
   |[],hs=>cases hs
   |[b],hs=>
    have hs:[(b.toNat:Int)]=[32]:=hs;injection hs with hs _;have e:b=32:=UInt8.toNat_inj.1 (by
     have:(32:UInt8).toNat=32:=rfl;omega)
    rw[e]
   |_::_::_,hs=>exact absurd (congrArg List.length hs) (by simp)
  subst hc;have he:(⟨#[32]⟩:ByteArray).size=1:=rfl;have hk:(k:Int)<=1000000:=h3;refine Calls.mono (Any.strings_Repeat Tryz.rptL z56 ⟨#[32]⟩ k w om (by rw[he];omega)) fun e w' ⟨e1,e2⟩=>?_;subst e1;refine Rx hm (b:=⟨(Lib.repeatL [32] k).toArray⟩) e2 ?_ ?_
  ·exact VK k
  ·have:=congrArg List.length (VK k);rw[zO,List.length_replicate] at this;show(Lib.repeatL [32] k).toArray.size<=ch;unfold ch;simp only[List.size_toArray];omega
theorem z6m:JS Tryz.prog Tryz.prog.types.size=true:=by kernel_rfl
def zdb:ai (aM C.sigs 164).ins.aN->Option (ai (aM C.sigs 164).outs.aN):=fun x=>some (true,x.2.1,())
def zdc:ai (aM C.sigs 165).ins.aN->Option (ai (aM C.sigs 165).outs.aN):=fun x=>some (true,x.2.1,x.2.2.1,x.2.2.2.1,())
def zdd:ai (aM C.sigs 55).ins.aN->Option (ai (aM C.sigs 55).outs.aN):=fun x=>some (x.2.1.l,())
def zc4:ai (aM C.sigs 56).ins.aN->Option (ai (aM C.sigs 56).outs.aN):=fun x=>some (x.2.2.2.1.l,())
theorem zde:aa C 164 zdb:=by intro x y h;obtain⟨b,s,u⟩:=x;have h:some ((true,s,()):Bool×Sl Int×Unit)=some y:=h;injection h with h;subst h;exact Call.lJ 164 _ _ (za9 (C:=C) (f:=164) ⟨_,Tryz.func164,by kernel_rfl⟩ z1j z54 b s)
theorem zdf:aa C 165 zdc:=by intro x y h;obtain⟨b,q,n,s,u⟩:=x;have h:some ((true,q,n,s,()):Bool×(Nat×Nat)×Int×Sl Int×Unit)=some y:=h;injection h with h;subst h;exact Call.lJ 165 _ _ (zac (C:=C) (f:=164) ⟨_,Tryz.func164,by kernel_rfl⟩ z1j z1k b q n s)
theorem zdg:aa C 55 zdd:=by intro x y h;obtain⟨b,s,u⟩:=x;have h:some ((s.l,()):List Int×Unit)=some y:=h;injection h with h;subst h;exact Call.lJ 55 _ _ (z82 (C:=C) (f:=58) z1l (by kernel_rfl) ⟨_,Tryz.func58,by kernel_rfl⟩ (by kernel_rfl) (qok z6m) b s)
theorem zc5:aa C 56 zc4:=by intro x y h;obtain⟨b,q,n,s,u⟩:=x;have h:some ((s.l,()):List Int×Unit)=some y:=h;injection h with h;subst h;exact Call.lJ 56 _ _ (z83 (C:=C) (f:=58) z1l (by kernel_rfl) ⟨_,Tryz.func58,by kernel_rfl⟩ (by kernel_rfl) (qok z6m) b q n s)
theorem bf{C:Cx}{k:Nat}{O:iX C.sigs}(b:Lf->iX C.sigs->(ai (aM C.sigs k).ins.aN->Option (ai (aM C.sigs k).outs.aN))){f:(ai (aM C.sigs k).ins.aN->Option (ai (aM C.sigs k).outs.aN))}(hO:H5 C O)(e:∀L R x,Hu L C R k x=b L R x:=by intro _ _ _;kernel_rfl)(o:∀x,b lf O x=f x:=by intro _;kernel_rfl):aa C k f:=mkC b hO e o
theorem y8:aa C 103 jL:=bf (fun L R x=>Bo L  x) ba
theorem GZ:aa C 96 kV:=bf (fun L R x=>wC L (R 103) x) (aB y8 ba)
theorem VL:aa C 105 rD:=bf (fun L R x=>Bp L (R 96) x) (aB GZ ba)
theorem Lv:aa C 115 od:=bf (fun L R x=>wD L  x) ba
theorem G0:aa C 123 lM:=bf (fun L R x=>wE L  x) ba
theorem VM:aa C 183 Br:=bf (fun L R x=>Bq L  x) ba
theorem VN:aa C 159 fC:=bf (fun L R x=>wF L (R 183) x) (aB VM ba)
theorem VO:aa C 188 wG:=bf (fun L R x=>Bs L  x) ba
theorem Lw:aa C 170 pJ:=bf (fun L R x=>wH L (R 188) x) (aB VO ba)
theorem VP:aa C 189 Bv:=bf (fun L R x=>Bu L  x) ba
theorem VQ:aa C 171 wI:=bf (fun L R x=>Bw L (R 189) x) (aB VP ba)
theorem CX:aa C 144 mD:=bf (fun L R x=>wJ L (R 170) (R 171) x) (aB Lw (aB VQ ba))
theorem G1:aa C 145 oe:=bf (fun L R x=>wK L  x) ba
theorem G2:aa C 147 oh:=bf (fun L R x=>wL L  x) ba
theorem G3:aa C 150 mE:=bf (fun L R x=>wM L  x) ba
theorem Lx:aa C 146 mF:=bf (fun L R x=>wN L (R 145) (R 147) (R 150) x) (aB G1 (aB G2 (aB G3 ba)))
theorem Ly:aa C 162 rE:=bf (fun L R x=>Bx L (R 146) x) (aB Lx ba)
theorem VR:aa C 160 rF:=bf (fun L R x=>wO L (R 144) (R 145) (R 162) x) (aB CX (aB G1 (aB Ly ba)))
theorem VS:aa C 161 rG:=bf (fun L R x=>wP L (R 144) (R 147) (R 162) x) (aB CX (aB G2 (aB Ly ba)))
theorem Lz:aa C 172 mG:=zd6
theorem G4:aa C 148 lN:=bf (fun L R x=>wQ L (R 172) x) (aB Lz ba)
theorem VT:aa C 163 ue:=bf (fun L R x=>By L (R 148) x) (aB G4 ba)
theorem CY:aa C 118 kW:=bf (fun L R x=>wR L (R 123) (R 144) (R 160) (R 161) (R 163) x) (aB G0 (aB CX (aB VR (aB VS (aB VT ba)))))
theorem VU:aa C 184 rH:=bf (fun L R x=>wT L (R 118) x) (aB CY ba)
theorem VV:aa C 185 rI:=bf (fun L R x=>wU L (R 118) x) (aB CY ba)
theorem VW:aa C 186 rJ:=bf (fun L R x=>wV L  x) ba
theorem VX:aa C 187 uf:=bf (fun L R x=>Bz L  x) ba
theorem VY:aa C 197 rK:=bf (fun L R x=>wW L  x) ba
theorem VZ:aa C 108 rL:=bf (fun L R x=>wX L (R 115) (R 123) (R 159) (R 184) (R 185) (R 186) (R 187) (R 197) x) (aB Lv (aB G0 (aB VN (aB VU (aB VV (aB VW (aB VX (aB VY ba))))))))
theorem V0:aa C 107 pK:=bf (fun L R x=>wY L (R 108) x) (aB VZ ba)
theorem V1:aa C 106 wZ:=EV (C:=C) (k:=106) (fun L R x=>BA L (R 106) (R 107) x) (F:=lO) (O:=fun g=>(aH 106 g (aH 107 pK fv))) (fun g hg=>(aB hg (aB V0 ba))) (fun _ _ _=>by kernel_rfl) (fun _ _=>by kernel_rfl)
theorem V2:aa C 110 rM:=bf (fun L R x=>w6 L (R 103) x) (aB y8 ba)
theorem LA:aa C 111 rN:=bf (fun L R x=>BB L  x) ba
theorem V3:aa C 112 rO:=zc3
theorem V4:aa C 113 rP:=bf (fun L R x=>BC L  x) ba
theorem V5:aa C 114 rQ:=bf (fun L R x=>w7 L (R 111) x) (aB LA ba)
theorem V6:aa C 109 pL:=bf (fun L R x=>w8 L (R 110) (R 111) (R 112) (R 113) (R 114) x) (aB V2 (aB LA (aB V3 (aB V4 (aB V5 ba)))))
theorem LC:aa C 59 pM:=bf (fun L R x=>BD L (R 96) (R 103) (R 105) (R 106) (R 109) (R 115) x) (aB GZ (aB y8 (aB VL (aB V1 (aB V6 (aB Lv ba))))))
theorem LD:aa C 28 ga:=bf (fun L R x=>w9 L (R 59) x) (aB LC ba)
theorem V7:aa C 62 oi:=bf (fun L R x=>xa L (R 118) x) (aB CY ba)
theorem V8:aa C 61 pP:=bf (fun L R x=>xb L (R 62) x) (aB V7 ba)
theorem V9:aa C 116 xc:=bf (fun L R x=>BE L (R 61) x) (aB V8 ba)
theorem Wa:aa C 60 rR:=bf (fun L R x=>xd L (R 116) x) (aB V9 ba)
theorem Wb:aa C 119 pQ:=bf (fun L R x=>xe L  x) ba
theorem Wc:aa C 117 xf:=bf (fun L R x=>BF L (R 119) x) (aB Wb ba)
theorem CZ:aa C 63 kX:=bf (fun L R x=>xg L (R 117) x) (aB Wc ba)
theorem C0:aa C 29 mH:=bf (fun L R x=>BG L (R 60) (R 63) x) (aB Wa (aB CZ ba))
theorem y9:aa C 65 gA:=bf (fun L R x=>BH L (R 103) x) (aB y8 ba)
theorem qc1(g:ai (aM C.sigs 30).ins.aN->Option (ai (aM C.sigs 30).outs.aN))(hg:aa C 30 g):aa C 64 (Dy g):=bf (fun L R x=>J2 L (R 30) (R 65) x) (O:=(aH 30 g (aH 65 gA fv))) (aB hg (aB y9 ba))
theorem qL:aa C 131 iN:=bf (fun L R x=>BI L  x) ba
theorem Wd:aa C 120 ug:=bf (fun L R x=>xh L (R 131) x) (aB qL ba)
theorem C1:aa C 66 gb:=bf (fun L R x=>xi L (R 120) x) (aB Wd ba)
theorem We:aa C 121 uh:=zd8
theorem Wf:aa C 122 ui:=zd7
theorem G5:aa C 67 iv:=bf (fun L R x=>xj L (R 121) (R 122) (R 123) x) (aB We (aB Wf (aB G0 ba)))
theorem Wg:aa C 55 rS:=zdg
theorem LG:aa C 164 oo:=zde
theorem Wh:aa C 124 pR:=bf (fun L R x=>rT L (R 164) x) (aB LG ba)
theorem Wi:aa C 126 mI:=bf (fun L R x=>xk L (R 164) x) (aB LG ba)
theorem Wj:aa C 68 rU:=bf (fun L R x=>BJ L (R 55) (R 124) (R 126) x) (aB Wg (aB Wh (aB Wi ba)))
theorem LH:aa C 69 kY:=bf (fun L R x=>xm L (R 118) x) (aB CY ba)
theorem Wl:aa C 128 uj:=bf (fun L R x=>xn L (R 131) x) (aB qL ba)
theorem LI:aa C 166 mK:=bf (fun L R x=>xo L (R 131) x) (aB qL ba)
theorem LJ:aa C 129 pS:=bf (fun L R x=>xp L (R 166) x) (aB LI ba)
theorem C2:aa C 70 iO:=bf (fun L R x=>xq L (R 128) (R 129) x) (aB Wl (aB LJ ba))
theorem z6:aa C 72 gd:=bf (fun L R x=>xr L (R 131) x) (aB qL ba)
theorem Wm:aa C 167 uk:=bf (fun L R x=>xt L (R 131) x) (aB qL ba)
theorem C3:aa C 130 jn:=bf (fun L R x=>xu L (R 129) (R 167) x) (aB LJ (aB Wm ba))
theorem LK:aa C 71 kZ:=bf (fun L R x=>xv L (R 72) (R 130) x) (aB z6 (aB C3 ba))
theorem LL:aa C 46 rW:=EV (C:=C) (k:=46) (fun L R x=>BK L (R 46) (R 65) (R 67) (R 69) x) (F:=rV) (O:=fun g=>(aH 46 g (aH 65 gA (aH 67 iv (aH 69 kY fv))))) (fun g hg=>(aB hg (aB y9 (aB G5 (aB LH ba))))) (fun _ _ _=>by kernel_rfl) (fun _ _=>by kernel_rfl)
theorem qc2(g:ai (aM C.sigs 30).ins.aN->Option (ai (aM C.sigs 30).outs.aN))(hg:aa C 30 g):aa C 73 (E5 g):=bf (fun L R x=>NM L (R 30) (R 46) (R 65) (R 66) (R 70) (R 71) (R 72) (R 130) x) (O:=(aH 30 g (aH 46 rW (aH 65 gA (aH 66 gb (aH 70 iO (aH 71 kZ (aH 72 gd (aH 130 jn fv))))))))) (aB hg (aB LL (aB y9 (aB C1 (aB C2 (aB LK (aB z6 (aB C3 ba))))))))
theorem G6:aa C 132 mM:=bf (fun L R x=>xw L (R 63) x) (aB CZ ba)
theorem G7:aa C 74 jo:=bf (fun L R x=>xx L (R 132) x) (aB G6 ba)
theorem q7x(g:ai (aM C.sigs 30).ins.aN->Option (ai (aM C.sigs 30).outs.aN))(hg:aa C 30 g):aa C 134 (um g):=bf (fun L R x=>J3 L (R 30) (R 66) (R 166) x) (O:=(aH 30 g (aH 66 gb (aH 166 mK fv)))) (aB hg (aB C1 (aB LI ba)))
theorem Wn:aa C 168 rX:=bf (fun L R x=>xy L (R 132) x) (aB G6 ba)
theorem qdn(g:ai (aM C.sigs 30).ins.aN->Option (ai (aM C.sigs 30).outs.aN))(hg:aa C 30 g):aa C 133 (Dz g):=bf (fun L R x=>J4 L (R 74) (R 134) (R 168) x) (O:=(aH 74 jo (aH 134 (um g) (aH 168 rX fv)))) (aB G7 (aB (q7x g hg) (aB Wn ba)))
theorem qdo(g:ai (aM C.sigs 30).ins.aN->Option (ai (aM C.sigs 30).outs.aN))(hg:aa C 30 g):aa C 75 (DA g):=bf (fun L R x=>J5 L (R 65) (R 66) (R 70) (R 72) (R 130) (R 132) (R 133) x) (O:=(aH 65 gA (aH 66 gb (aH 70 iO (aH 72 gd (aH 130 jn (aH 132 mM (aH 133 (Dz g) fv)))))))) (aB y9 (aB C1 (aB C2 (aB z6 (aB C3 (aB G6 (aB (qdn g hg) ba)))))))
theorem qdp(g:ai (aM C.sigs 30).ins.aN->Option (ai (aM C.sigs 30).outs.aN))(hg:aa C 30 g):aa C 76 (E6 g):=bf (fun L R x=>NN L (R 65) (R 70) (R 72) (R 74) (R 130) (R 134) x) (O:=(aH 65 gA (aH 70 iO (aH 72 gd (aH 74 jo (aH 130 jn (aH 134 (um g) fv))))))) (aB y9 (aB C2 (aB z6 (aB G7 (aB C3 (aB (q7x g hg) ba))))))
theorem Wo:aa C 30 xA:=EV (C:=C) (k:=30) (fun L R x=>xz L (R 64) (R 66) (R 67) (R 68) (R 69) (R 70) (R 71) (R 72) (R 73) (R 74) (R 75) (R 76) x) (F:=oq) (O:=fun g=>(aH 64 (Dy g) (aH 66 gb (aH 67 iv (aH 68 rU (aH 69 kY (aH 70 iO (aH 71 kZ (aH 72 gd (aH 73 (E5 g) (aH 74 jo (aH 75 (DA g) (aH 76 (E6 g) fv))))))))))))) (fun g hg=>(aB (qc1 g hg) (aB C1 (aB G5 (aB Wj (aB LH (aB C2 (aB LK (aB z6 (aB (qc2 g hg) (aB G7 (aB (qdo g hg) (aB (qdp g hg) ba))))))))))))) (fun _ _ _=>by kernel_rfl) (fun _ _=>by kernel_rfl)
theorem G8:aa C 14 kr:=bf (fun L R x=>xB L (R 28) (R 29) (R 30) x) (aB LD (aB C0 (aB Wo ba)))
theorem Wp:aa C 157 rZ:=bf (fun L R x=>xC L  x) ba
theorem Wq:aa C 196 xD:=bf (fun L R x=>BL L (R 157) x) (aB Wp ba)
theorem Wr:aa C 182 uo:=bf (fun L R x=>xE L (R 196) x) (aB Wq ba)
theorem Ws:aa C 156 pT:=bf (fun L R x=>xF L (R 182) x) (aB Wr ba)
theorem Wu:aa C 97 ot:=bf (fun L R x=>xG L (R 156) x) (aB Ws ba)
theorem LM:aa C 53 r7:=bf (fun L R x=>BM L (R 96) (R 97) x) (aB GZ (aB Wu ba))
theorem qc3(g:ai (aM C.sigs 54).ins.aN->Option (ai (aM C.sigs 54).outs.aN))(hg:aa C 54 g):aa C 98 (H9 g):=bf (fun L R x=>NO L (R 54) x) (O:=(aH 54 g fv)) (aB hg ba)
theorem LN:aa C 165 ou:=zdf
theorem Wv:aa C 127 uq:=bf (fun L R x=>xH L (R 165) x) (aB LN ba)
theorem LP:aa C 99 ow:=bf (fun L R x=>xI L (R 127) x) (aB Wv ba)
theorem Ww:aa C 125 BN:=bf (fun L R x=>r8 L (R 165) x) (aB LN ba)
theorem Wx:aa C 158 xJ:=zda
theorem Wy:aa C 100 pU:=bf (fun L R x=>xK L (R 99) (R 125) (R 158) x) (aB LP (aB Ww (aB Wx ba)))
theorem Wz:aa C 101 pV:=bf (fun L R x=>xL L  x) ba
theorem WB:aa C 102 r9:=bf (fun L R x=>BO L  x) ba
theorem LR:aa C 54 ur:=EV (C:=C) (k:=54) (fun L R x=>xM L (R 98) (R 99) (R 100) (R 101) (R 102) (R 103) x) (F:=pW) (O:=fun g=>(aH 98 (H9 g) (aH 99 ow (aH 100 pU (aH 101 pV (aH 102 r9 (aH 103 jL fv))))))) (fun g hg=>(aB (qc3 g hg) (aB LP (aB Wy (aB Wz (aB WB (aB y8 ba))))))) (fun _ _ _=>by kernel_rfl) (fun _ _=>by kernel_rfl)
theorem LS:aa C 56 xN:=zc5
theorem WC:aa C 22 sa:=bf (fun L R x=>xO L (R 53) (R 54) (R 56) x) (aB LM (aB LR (aB LS ba)))
theorem G9:aa C 8 ku:=bf (fun L R x=>xP L (R 14) (R 22) x) (aB G8 (aB WC ba))
theorem WD:aa C 23 BQ:=bf (fun L R x=>BP L (R 53) (R 54) (R 56) x) (aB LM (aB LR (aB LS ba)))
theorem WE:aa C 11 sb:=bf (fun L R x=>xQ L (R 14) (R 23) x) (aB G8 (aB WD ba))
theorem WG:aa C 45 BS:=bf (fun L R x=>BR L (R 59) x) (aB LC ba)
theorem WH:aa C 17 BU:=bf (fun L R x=>BT L (R 45) (R 46) x) (aB WG (aB LL ba))
theorem WI:aa C 91 sc:=bf (fun L R x=>xR L  x) ba
theorem WJ:aa C 90 si:=bf (fun L R x=>BV L (R 91) x) (aB WI ba)
theorem WK:aa C 87 uu:=bf (fun L R x=>BW L (R 146) x) (aB Lx ba)
theorem WL:aa C 88 uv:=bf (fun L R x=>BX L (R 148) x) (aB G4 ba)
theorem WM:aa C 89 uw:=bf (fun L R x=>BY L (R 150) x) (aB G3 ba)
theorem WN:aa C 143 ox:=bf (fun L R x=>xS L (R 144) x) (aB CX ba)
theorem LU:aa C 173 sj:=bf (fun L R x=>xT L  x) ba
theorem WO:aa C 149 sq:=bf (fun L R x=>xU L (R 173) x) (aB LU ba)
theorem WQ:aa C 190 ux:=bf (fun L R x=>xV L (R 173) x) (aB LU ba)
theorem WR:aa C 174 pX:=bf (fun L R x=>xW L (R 190) x) (aB WQ ba)
theorem WS:aa C 151 oy:=bf (fun L R x=>BZ L (R 67) (R 174) x) (aB G5 (aB WR ba))
theorem WU:aa C 152 uy:=bf (fun L R x=>B0 L (R 172) x) (aB Lz ba)
theorem WV:aa C 92 pY:=bf (fun L R x=>xX L (R 87) (R 88) (R 89) (R 143) (R 145) (R 147) (R 148) (R 149) (R 150) (R 151) (R 152) x) (aB WK (aB WL (aB WM (aB WN (aB G1 (aB G2 (aB G4 (aB WO (aB G3 (aB WS (aB WU ba)))))))))))
theorem WW:aa C 51 uz:=bf (fun L R x=>B3 L (R 90) (R 92) x) (aB WJ (aB WV ba))
theorem sR:aa C 94 gf:=bf (fun L R x=>xY L  x) ba
theorem sS:aa C 95 gB:=bf (fun L R x=>xZ L  x) ba
theorem oQ:aa C 175 dM:=bf (fun L R x=>ya L (R 170) x) (aB Lw ba)
theorem uZ:aa C 177 gh:=bf (fun L R x=>yc L  x) ba
theorem sT:aa C 179 dH:=bf (fun L R x=>yd L (R 131) x) (aB qL ba)
theorem u7:aa C 181 fK:=bf (fun L R x=>ye L (R 94) (R 95) (R 175) x) (aB sR (aB sS (aB oQ ba)))
theorem LV:aa C 199 la:=bf (fun L R x=>yf L (R 175) x) (aB oQ ba)
theorem LW:aa C 178 jM:=bf (fun L R x=>yg L (R 94) (R 95) (R 175) (R 177) (R 181) x) (aB sR (aB sS (aB oQ (aB uZ (aB u7 ba)))))
theorem qah(g:ai (aM C.sigs 154).ins.aN->Option (ai (aM C.sigs 154).outs.aN))(hg:aa C 154 g):aa C 205 (ny g):=bf (fun L R x=>J7 L (R 131) (R 154) (R 175) (R 177) (R 178) (R 179) (R 181) x) (O:=(aH 131 iN (aH 154 g (aH 175 dM (aH 177 gh (aH 178 jM (aH 179 dH (aH 181 fK fv)))))))) (aB qL (aB hg (aB oQ (aB uZ (aB LW (aB sT (aB u7 ba)))))))
theorem qc4(g:ai (aM C.sigs 154).ins.aN->Option (ai (aM C.sigs 154).outs.aN))(hg:aa C 154 g):aa C 204 (B4 g):=bf (fun L R x=>NP L (R 175) (R 177) (R 179) (R 205) x) (O:=(aH 175 dM (aH 177 gh (aH 179 dH (aH 205 (ny g) fv))))) (aB oQ (aB uZ (aB sT (aB (qah g hg) ba))))
theorem WX:aa C 154 iP:=EV (C:=C) (k:=154) (fun L R x=>yh L (R 94) (R 95) (R 204) x) (F:=kv) (O:=fun g=>(aH 94 gf (aH 95 gB (aH 204 (B4 g) fv)))) (fun g hg=>(aB sR (aB sS (aB (qc4 g hg) ba)))) (fun _ _ _=>by kernel_rfl) (fun _ _=>by kernel_rfl)
theorem q5s(g:ai (aM C.sigs 93).ins.aN->Option (ai (aM C.sigs 93).outs.aN))(hg:aa C 93 g):aa C 180 (su g):=bf (fun L R x=>J8 L (R 93) (R 181) x) (O:=(aH 93 g (aH 181 fK fv))) (aB hg (aB u7 ba))
theorem qai(g:ai (aM C.sigs 93).ins.aN->Option (ai (aM C.sigs 93).outs.aN))(hg:aa C 93 g):aa C 202 (B5 g):=bf (fun L R x=>NQ L (R 93) (R 154) (R 175) (R 179) (R 180) (R 181) x) (O:=(aH 93 g (aH 154 iP (aH 175 dM (aH 179 dH (aH 180 (su g) (aH 181 fK fv))))))) (aB hg (aB WX (aB oQ (aB sT (aB (q5s g hg) (aB u7 ba))))))
theorem qaz(g:ai (aM C.sigs 93).ins.aN->Option (ai (aM C.sigs 93).outs.aN))(hg:aa C 93 g):aa C 198 (uA g):=bf (fun L R x=>J9 L (R 93) (R 94) (R 95) (R 131) (R 175) (R 177) (R 179) (R 181) (R 199) (R 202) x) (O:=(aH 93 g (aH 94 gf (aH 95 gB (aH 131 iN (aH 175 dM (aH 177 gh (aH 179 dH (aH 181 fK (aH 199 la (aH 202 (B5 g) fv))))))))))) (aB hg (aB sR (aB sS (aB qL (aB oQ (aB uZ (aB sT (aB u7 (aB LV (aB (qai g hg) ba))))))))))
theorem qc5(g:ai (aM C.sigs 93).ins.aN->Option (ai (aM C.sigs 93).outs.aN))(hg:aa C 93 g):aa C 191 (vw g):=bf (fun L R x=>NR L (R 179) (R 198) (R 199) x) (O:=(aH 179 dH (aH 198 (uA g) (aH 199 la fv)))) (aB sT (aB (qaz g hg) (aB LV ba)))
theorem WY:aa C 192 pZ:=bf (fun L R x=>yi L (R 63) x) (aB CZ ba)
theorem WZ:aa C 193 p7:=bf (fun L R x=>B6 L (R 192) x) (aB WY ba)
theorem W0:aa C 203 sv:=zc2
theorem W1:aa C 201 sw:=bf (fun L R x=>B7 L (R 203) x) (aB W0 ba)
theorem W2:aa C 200 mN:=bf (fun L R x=>yj L (R 201) x) (aB W1 ba)
theorem W3:aa C 194 lP:=bf (fun L R x=>B8 L (R 29) (R 63) (R 200) x) (aB C0 (aB CZ (aB W2 ba)))
theorem W4:aa C 195 sx:=EV (C:=C) (k:=195) (fun L R x=>yl L (R 179) (R 195) x) (F:=p8) (O:=fun g=>(aH 179 dH (aH 195 g fv))) (fun g hg=>(aB sT (aB hg ba))) (fun _ _ _=>by kernel_rfl) (fun _ _=>by kernel_rfl)
theorem qc6(g:ai (aM C.sigs 93).ins.aN->Option (ai (aM C.sigs 93).outs.aN))(hg:aa C 93 g):aa C 176 (B9 g):=bf (fun L R x=>NS L (R 94) (R 95) (R 175) (R 177) (R 191) (R 193) (R 194) (R 195) x) (O:=(aH 94 gf (aH 95 gB (aH 175 dM (aH 177 gh (aH 191 (vw g) (aH 193 p7 (aH 194 lP (aH 195 sx fv))))))))) (aB sR (aB sS (aB oQ (aB uZ (aB (qc5 g hg) (aB WZ (aB W3 (aB W4 ba))))))))
theorem qb0(g:ai (aM C.sigs 93).ins.aN->Option (ai (aM C.sigs 93).outs.aN))(hg:aa C 93 g):aa C 155 (AA g):=bf (fun L R x=>Ka L (R 93) (R 175) (R 176) (R 177) (R 178) (R 179) (R 180) (R 181) x) (O:=(aH 93 g (aH 175 dM (aH 176 (B9 g) (aH 177 gh (aH 178 jM (aH 179 dH (aH 180 (su g) (aH 181 fK fv))))))))) (aB hg (aB oQ (aB (qc6 g hg) (aB uZ (aB LW (aB sT (aB (q5s g hg) (aB u7 ba))))))))
theorem qb1(g:ai (aM C.sigs 93).ins.aN->Option (ai (aM C.sigs 93).outs.aN))(hg:aa C 93 g):aa C 153 (AB g):=bf (fun L R x=>Kb L (R 94) (R 95) (R 155) x) (O:=(aH 94 gf (aH 95 gB (aH 155 (AA g) fv)))) (aB sR (aB sS (aB (qb0 g hg) ba)))
theorem W5:aa C 93 sy:=EV (C:=C) (k:=93) (fun L R x=>ym L (R 153) x) (F:=kx) (O:=fun g=>(aH 153 (AB g) fv)) (fun g hg=>(aB (qb1 g hg) ba)) (fun _ _ _=>by kernel_rfl) (fun _ _=>by kernel_rfl)
theorem W6:aa C 52 lg:=bf (fun L R x=>yo L (R 28) (R 29) (R 93) (R 94) (R 95) x) (aB LD (aB C0 (aB W5 (aB sR (aB sS ba)))))
theorem Ha:aa C 20 lh:=bf (fun L R x=>yp L (R 29) (R 51) (R 52) x) (aB C0 (aB WW (aB W6 ba)))
theorem qdq:aa C 6 DB:=bf (fun L R x=>NT L (R 8) (R 11) (R 14) (R 17) (R 20) x) (aB G9 (aB WE (aB G8 (aB WH (aB Ha ba)))))
theorem qiw:aa C 7 Ia:=bf (fun L R x=>qi0 L  x) ba
theorem qix:aa C 9 DC:=bf (fun L R x=>RT L  x) ba
theorem qdr:aa C 10 DD:=bf (fun L R x=>RU L  x) ba
theorem LY:aa C 15 uB:=bf (fun L R x=>Ke L  x) ba
theorem kC:aa C 3 cT:=bf (fun L R x=>RY L (R 6) (R 7) (R 8) (R 9) (R 10) (R 15) (R 20) x) (aB qdq (aB qiw (aB G9 (aB qix (aB qdr (aB LY (aB Ha ba)))))))
theorem jU:aa C 4 cI:=bf (fun L R x=>RZ L (R 6) (R 7) (R 8) (R 9) (R 10) (R 15) (R 20) x) (aB qdq (aB qiw (aB G9 (aB qix (aB qdr (aB LY (aB Ha ba)))))))
theorem zc6:HF C C.eM=true:=by kernel_rfl
theorem zdh:EE C C.eqs=true:=by kernel_rfl
theorem z1n:JO C C.sigs=true:=by kernel_rfl
theorem mixed:C.P.follows .mixedOrders=true:=by kernel_rfl
theorem calls{i:Nat}{x:ai (aM C.sigs i).ins.aN}{y:ai (aM C.sigs i).outs.aN}(h:Ev.Call C i x y):nY C i x y:=z2x zc6 zdh z1n mixed h
theorem zc7:Nv C Rows.showDocsRow.laid:=by
 refine⟨by kernel_rfl,fun g t x h=>?_⟩
 match g with
 |4=>cases h;exact⟨_,_,223,List.Mem.tail _ (List.Mem.tail _ (List.Mem.tail _ (List.Mem.tail _ (List.Mem.tail _ (List.Mem.head _))))),by kernel_rfl,by kernel_rfl,by kernel_rfl,rfl,by kernel_rfl⟩
 |3=>cases h;exact⟨_,_,228,List.Mem.tail _ (List.Mem.tail _ (List.Mem.head _)),by kernel_rfl,by kernel_rfl,by kernel_rfl,rfl,by kernel_rfl⟩
 |0=>cases h
 |1=>cases h
 |2=>cases h
 |n+5=>cases h
theorem z7:Nw C Rows.showDocsRow.laid:=qyd zc6 (by kernel_rfl) (by kernel_rfl) (by kernel_rfl) zc7
end Go.Proofs.YtakmoaimmdheeaaGreatDoor.oP