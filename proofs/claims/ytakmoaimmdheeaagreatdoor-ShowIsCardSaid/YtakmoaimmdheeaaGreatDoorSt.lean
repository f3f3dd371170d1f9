/- The functions of this seat as data: each is what the model's code gives, by the kernel's reckoning over the verified evaluator. No statement of its own about the program. -/
import Derived.Test.YtakmoaimmdheeaaGreatDoorFnA
import Derived.Test.YtakmoaimmdheeaaGreatDoorEvJ
import Derived.Test.YtakmoaimmdheeaaGreatDoorProg
import Derived.Test.YtakmoaimmdheeaaGreatDoorSlp
import Derived.Sort.EveryDepth
import Derived.Test.YtakmoaimmdheeaaGreatDoorRows
import Derived.KernelRfl
namespace Go.Proofs.YtakmoaimmdheeaaGreatDoor.Seat
open Go Go.Proofs Go.Shelf Go.RowKit Go.Sort Ev Ev.Fn
abbrev t1:Ty:=.int .i64
abbrev t3:Ty:=.pair .str (.pair t1 t1)
abbrev t5:Ty:=.st (.pair t1 t3)
abbrev t0:Ty:=.sl t5
abbrev t2:Ty:=.sl (.st t3)
abbrev t4:Ty:=.int .u8
abbrev t6:Ty:=.st (.pair (.int .u16) (.pair (.int .u16) (.int .u16)))
abbrev t7:Ty:=.st (.pair (.int .u32) (.pair (.int .u32) (.int .u32)))
abbrev t8:Ty:=.st (.pair t0 (.pair t1 (.pair t2 (.pair t1 (.pair t1 (.pair t1 t1))))))
abbrev t9:Ty:=.sl .str
abbrev ta:Ty:=.st (.pair t0 t2)
abbrev tb:Ty:=.int .u64
def sigs:List Sig:=[
 ⟨3,⟨[.d t0,.d t2,.d t1],[]⟩,⟨[.d .bool],[]⟩,[]⟩,
 ⟨4,⟨[.d t0,.d t2],[]⟩,⟨[.d .bool],[]⟩,[]⟩,
 ⟨5,⟨[.d t0],[]⟩,⟨[.d .bool],[]⟩,[]⟩,
 ⟨6,⟨[.d t0,.d t2,.d t1],[]⟩,⟨[.d .bool],[]⟩,[]⟩,
 ⟨7,⟨[.d .str,.d t2,.d t1],[]⟩,⟨[.d .bool],[]⟩,[]⟩,
 ⟨8,⟨[.d t0,.d t2,.d t1,.d t1],[]⟩,⟨[.d .bool],[]⟩,[]⟩,
 ⟨9,⟨[],[]⟩,⟨[.d .bool],[]⟩,[]⟩,
 ⟨10,⟨[.d t0,.d t2],[]⟩,⟨[.d .bool],[]⟩,[]⟩,
 ⟨11,⟨[.d t0,.d t2,.d t1],[]⟩,⟨[.d .str,.d t1],[]⟩,[]⟩,
 ⟨12,⟨[.d t0],[]⟩,⟨[.d t0],[]⟩,[]⟩,
 ⟨13,⟨[.d t2],[]⟩,⟨[.d t2],[]⟩,[]⟩,
 ⟨14,⟨[.d t0,.d t2],[]⟩,⟨[.d .str,.d t1],[]⟩,[]⟩,
 ⟨15,⟨[.d t0,.d t2,.d t1],[]⟩,⟨[.d .str,.d t1],[]⟩,[]⟩,
 ⟨16,⟨[.d t0,.d t2],[]⟩,⟨[.d t1],[]⟩,[]⟩,
 ⟨17,⟨[.d t0,.d t2],[]⟩,⟨[.d t0,.d t1],[]⟩,[]⟩,
 ⟨18,⟨[.d t0,.d t0],[]⟩,⟨[.d .bool],[]⟩,[]⟩,
 ⟨19,⟨[.d t0,.d t1,.d t2],[]⟩,⟨[.d t0],[]⟩,[]⟩,
 ⟨20,⟨[.d t0],[]⟩,⟨[.d .str,.d t1],[]⟩,[]⟩,
 ⟨21,⟨[.d t0,.d .bool],[]⟩,⟨[.d t1],[]⟩,[]⟩,
 ⟨22,⟨[.d t0,.d t1],[]⟩,⟨[.d .str],[]⟩,[]⟩,
 ⟨23,⟨[.d .str,.d t2],[]⟩,⟨[.d t0,.d t1,.d t1],[]⟩,[]⟩,
 ⟨24,⟨[.d .str],[]⟩,⟨[.d .str],[]⟩,[]⟩,
 ⟨25,⟨[.d t0,.d t1],[]⟩,⟨[.d .str,.d t1],[]⟩,[]⟩,
 ⟨26,⟨[.d t0],[]⟩,⟨[.d .str,.d t1],[]⟩,[]⟩,
 ⟨27,⟨[.d t0],[]⟩,⟨[.d .bool],[]⟩,[]⟩,
 ⟨28,⟨[.d t0,.d t1],[]⟩,⟨[.d .str],[]⟩,[]⟩,
 ⟨29,⟨[.d t0,.d t1],[]⟩,⟨[.d .str],[]⟩,[]⟩,
 ⟨30,⟨[.d t2],[]⟩,⟨[.d t1],[]⟩,[]⟩,
 ⟨31,⟨[.d t0],[]⟩,⟨[.d t1],[]⟩,[]⟩,
 ⟨32,⟨[.d t2],[]⟩,⟨[.d t1],[]⟩,[]⟩,
 ⟨33,⟨[.ptr 0 0,.d t1],[.box [.d t0,.d t2]]⟩,⟨[.d t0],[.box [.d t0,.d t2]]⟩,[0]⟩,
 ⟨34,⟨[.d t0,.d t1],[]⟩,⟨[.d (.sl t1)],[]⟩,[]⟩,
 ⟨35,⟨[.d .str],[]⟩,⟨[.d t0],[]⟩,[]⟩,
 ⟨36,⟨[.d t1],[]⟩,⟨[.d .str],[]⟩,[]⟩,
 ⟨37,⟨[.d .str],[]⟩,⟨[.d .str],[]⟩,[]⟩,
 ⟨38,⟨[.d .str],[]⟩,⟨[.d .str],[]⟩,[]⟩,
 ⟨39,⟨[.d (.sl t0)],[]⟩,⟨[.d t0],[]⟩,[]⟩,
 ⟨40,⟨[.d t0],[]⟩,⟨[.d t0],[]⟩,[]⟩,
 ⟨41,⟨[],[]⟩,⟨[.d t0],[]⟩,[]⟩,
 ⟨42,⟨[.d (.sl t0)],[]⟩,⟨[.d t0],[]⟩,[]⟩,
 ⟨43,⟨[.d t0,.d t1,.d t2],[]⟩,⟨[.d (.st t3),.d .bool],[]⟩,[]⟩,
 ⟨44,⟨[.d t0,.d t1,.d t2,.d (.st t3),.d t1],[]⟩,⟨[.d t0],[]⟩,[]⟩,
 ⟨45,⟨[.d t0,.d t1,.d t2],[]⟩,⟨[.osl 0,.d t1],[.vec t0]⟩,[]⟩,
 ⟨46,⟨[.d t0,.d t1,.d t2],[]⟩,⟨[.d t1],[]⟩,[]⟩,
 ⟨47,⟨[.d t0,.d t1,.d t2,.d .bool],[]⟩,⟨[.d t0],[]⟩,[]⟩,
 ⟨48,⟨[.d t0],[]⟩,⟨[.d t1],[]⟩,[]⟩,
 ⟨49,⟨[.d t0,.d t1,.d .bool],[]⟩,⟨[.d .str],[]⟩,[]⟩,
 ⟨50,⟨[.d t0],[]⟩,⟨[.d .bool],[]⟩,[]⟩,
 ⟨51,⟨[.d t0,.d t1],[]⟩,⟨[.d t1],[]⟩,[]⟩,
 ⟨52,⟨[.d t0,.d t1,.d .bool],[]⟩,⟨[.d t1],[]⟩,[]⟩,
 ⟨53,⟨[.d t0,.d t1],[]⟩,⟨[.d .bool],[]⟩,[]⟩,
 ⟨54,⟨[.d .str],[]⟩,⟨[.d t0,.d t1,.d t1],[]⟩,[]⟩,
 ⟨55,⟨[.d t0,.d t1,.d t2],[]⟩,⟨[.d t0,.d t1,.d t1],[]⟩,[]⟩,
 ⟨56,⟨[.d t0],[]⟩,⟨[.d t1],[]⟩,[]⟩,
 ⟨57,⟨[.ptr 0 0,.d t0,.d t1,.d t1,.d .bool],[.box [.slf 0,.osl 1,.d .cpx,.d t1],.vec t4]⟩,⟨[.d t1],[.box [.slf 0,.osl 2,.d .cpx,.d t1],.gone,.vec t4]⟩,[0]⟩,
 ⟨58,⟨[.ptr 0 0],[.box [.slf 0,.osl 1],.vec t4]⟩,⟨[.d .str],[.gone,.gone]⟩,[]⟩,
 ⟨58,⟨[.ptr 0 0],[.box [.slf 0,.osl 1,.d .cpx,.d t1],.vec t4]⟩,⟨[.d .str],[.gone,.gone]⟩,[]⟩,
 ⟨59,⟨[.d t0,.d t1,.d t1,.d t1,.d t1],[]⟩,⟨[.d .str],[]⟩,[]⟩,
 ⟨60,⟨[.d (.st t3)],[]⟩,⟨[.d .bool],[]⟩,[]⟩,
 ⟨61,⟨[.d t0,.d .bool],[]⟩,⟨[.d t1],[]⟩,[]⟩,
 ⟨62,⟨[.d t2,.fn 63 []],[]⟩,⟨[.d .bool],[]⟩,[]⟩,
 ⟨63,⟨[.d (.st t3)],[]⟩,⟨[.d .bool],[]⟩,[]⟩,
 ⟨64,⟨[.d (.st t3)],[]⟩,⟨[.d .bool],[]⟩,[]⟩,
 ⟨65,⟨[.d t2,.d .str],[]⟩,⟨[.d (.st t3),.d .bool],[]⟩,[]⟩,
 ⟨66,⟨[.d t1,.ptr 0 0,.ptr 1 0],[.box [.ptr 2 0],.box [.d t1],.box [.d t0,.d t2]]⟩,⟨[.d t0],[.box [.ptr 2 0],.box [.d t1],.box [.d t0,.d t2]]⟩,[0,1,2]⟩,
 ⟨67,⟨[.d t0,.d t1],[]⟩,⟨[.d (.sl t1)],[]⟩,[]⟩,
 ⟨68,⟨[.d .str],[]⟩,⟨[.d t0],[]⟩,[]⟩,
 ⟨69,⟨[.d t1],[]⟩,⟨[.d .str],[]⟩,[]⟩,
 ⟨70,⟨[.d .str],[]⟩,⟨[.d .str],[]⟩,[]⟩,
 ⟨71,⟨[.d .str],[]⟩,⟨[.d .str],[]⟩,[]⟩,
 ⟨72,⟨[.d (.sl t0)],[]⟩,⟨[.d t0],[]⟩,[]⟩,
 ⟨73,⟨[.d t0],[]⟩,⟨[.d t0],[]⟩,[]⟩,
 ⟨74,⟨[],[]⟩,⟨[.d t0],[]⟩,[]⟩,
 ⟨75,⟨[.ptr 0 0,.d t1],[.box [.d t0,.d t2]]⟩,⟨[.d t0],[.box [.d t0,.d t2]]⟩,[0]⟩,
 ⟨76,⟨[.ref ta,.d t1],[]⟩,⟨[.d t1],[]⟩,[]⟩,
 ⟨77,⟨[.ptr 0 0,.d t1],[.box [.d t0,.d t2]]⟩,⟨[.d t0],[.box [.d t0,.d t2]]⟩,[0]⟩,
 ⟨78,⟨[.ptr 0 0,.d t1],[.box [.d t0,.d t2]]⟩,⟨[.d t0],[.box [.d t0,.d t2]]⟩,[0]⟩,
 ⟨79,⟨[.d t0,.d t1],[]⟩,⟨[.d t1],[]⟩,[]⟩,
 ⟨80,⟨[.d t1],[]⟩,⟨[.d t1],[]⟩,[]⟩,
 ⟨81,⟨[.d t1],[]⟩,⟨[.d tb],[]⟩,[]⟩,
 ⟨82,⟨[.d t5],[]⟩,⟨[.d .bool],[]⟩,[]⟩,
 ⟨83,⟨[.d t5,.d (.sl t0)],[]⟩,⟨[.d t0],[]⟩,[]⟩,
 ⟨84,⟨[.d (.sl t0)],[]⟩,⟨[.d t0],[]⟩,[]⟩,
 ⟨85,⟨[.d t2,.d .str],[]⟩,⟨[.d (.st t3),.d .bool],[]⟩,[]⟩,
 ⟨86,⟨[.d t0,.d t1,.d .bool],[]⟩,⟨[.d t1],[]⟩,[]⟩,
 ⟨87,⟨[.d t1],[]⟩,⟨[.d .bool],[]⟩,[]⟩,
 ⟨88,⟨[.d t0,.d t1],[]⟩,⟨[.osl 0],[.vec .str]⟩,[]⟩,
 ⟨89,⟨[.d .str,.fn 142 []],[]⟩,⟨[.d t1],[]⟩,[]⟩,
 ⟨89,⟨[.d .str,.fn 144 []],[]⟩,⟨[.d t1],[]⟩,[]⟩,
 ⟨89,⟨[.d .str,.fn 146 []],[]⟩,⟨[.d t1],[]⟩,[]⟩,
 ⟨89,⟨[.d .str,.fn 90 []],[]⟩,⟨[.d t1],[]⟩,[]⟩,
 ⟨90,⟨[.d t4],[]⟩,⟨[.d .bool],[]⟩,[]⟩,
 ⟨91,⟨[.d .str],[]⟩,⟨[.d t5,.d t1,.d t1],[]⟩,[]⟩,
 ⟨92,⟨[.ptr 0 0],[.box [.d t0,.d t1,.d t2,.d t1,.d t1,.d t1,.d t1]]⟩,⟨[.d t0],[.box [.d t0,.d t1,.d t2,.d t1,.d t1,.d t1,.d t1]]⟩,[0]⟩,
 ⟨93,⟨[.ptr 0 0,.d t1,.d t1],[.box [.d t0,.d t1,.d t2,.d t1,.d t1,.d t1,.d t1]]⟩,⟨[.d t0],[.box [.d t0,.d t1,.d t2,.d t1,.d t1,.d t1,.d t1]]⟩,[0]⟩,
 ⟨94,⟨[.ptr 0 0,.d t1],[.box [.d t0,.d t1,.d t2,.d t1,.d t1,.d t1,.d t1]]⟩,⟨[.d t1],[.box [.d t0,.d t1,.d t2,.d t1,.d t1,.d t1,.d t1]]⟩,[0]⟩,
 ⟨95,⟨[.d t0],[]⟩,⟨[.d .bool],[]⟩,[]⟩,
 ⟨96,⟨[.d t5],[]⟩,⟨[.d .bool],[]⟩,[]⟩,
 ⟨97,⟨[.d t1,.d .bool,.ptr 0 0,.ptr 1 0,.ptr 2 0,.ptr 3 0],[.box [.d t1],.box [.d t1,.d .str,.d t1,.d t1],.box [.ptr 4 0],.box [.d t0],.box [.slf 4,.osl 5,.d .cpx,.d t1],.vec t4]⟩,⟨[.d t1],[.box [.d t1],.box [.d t1,.d .str,.d t1,.d t1],.box [.ptr 4 0],.box [.d t0],.box [.slf 4,.osl 6,.d .cpx,.d t1],.gone,.vec t4]⟩,[0,1,2,3,4]⟩,
 ⟨98,⟨[.ptr 0 0,.d .str],[.box [.slf 0,.osl 1,.d .cpx,.d t1],.vec t4]⟩,⟨[],[.box [.slf 0,.osl 2,.d .cpx,.d t1],.gone,.vec t4]⟩,[0]⟩,
 ⟨99,⟨[.ptr 0 0,.d t1],[.box [.slf 0,.osl 1,.d .cpx,.d t1],.vec t4]⟩,⟨[],[.box [.slf 0,.osl 2,.d .cpx,.d t1],.gone,.vec t4]⟩,[0]⟩,
 ⟨100,⟨[.ptr 0 0,.d t1],[.box [.slf 0,.osl 1,.d .cpx,.d t1],.vec t4]⟩,⟨[.d .bool],[.box [.slf 0,.osl 1,.d .cpx,.d t1],.vec t4]⟩,[0,1]⟩,
 ⟨101,⟨[.d t0],[]⟩,⟨[.d t1],[]⟩,[]⟩,
 ⟨102,⟨[.d t0,.d t1],[]⟩,⟨[.d t1],[]⟩,[]⟩,
 ⟨103,⟨[.d .str,.d t1],[]⟩,⟨[.d t1],[]⟩,[]⟩,
 ⟨104,⟨[.d t0],[]⟩,⟨[.d t1],[]⟩,[]⟩,
 ⟨105,⟨[.d t0,.d t1,.d .bool,.fn 106 [.ref t0]],[]⟩,⟨[.d t1,.d t1],[]⟩,[]⟩,
 ⟨106,⟨[.d t1,.d .bool,.ref t0],[]⟩,⟨[.d t1],[]⟩,[]⟩,
 ⟨107,⟨[.d t0,.d t1,.d .bool],[]⟩,⟨[.d t1],[]⟩,[]⟩,
 ⟨108,⟨[.d t1,.ref t0],[]⟩,⟨[.d .bool],[]⟩,[]⟩,
 ⟨109,⟨[.d t0,.d t1],[]⟩,⟨[.d t0,.d t1],[]⟩,[]⟩,
 ⟨110,⟨[.d t0],[]⟩,⟨[.osl 0],[.vec .str]⟩,[]⟩,
 ⟨111,⟨[.osl 0],[.vec .str]⟩,⟨[],[.vec .str]⟩,[0]⟩,
 ⟨112,⟨[.osl 0],[.vec .str]⟩,⟨[.osl 1],[.gone,.vec .str]⟩,[]⟩,
 ⟨113,⟨[.d t0],[]⟩,⟨[.d t1],[]⟩,[]⟩,
 ⟨114,⟨[.d t1],[]⟩,⟨[.d .bool],[]⟩,[]⟩,
 ⟨115,⟨[.d t2,.fn 63 []],[]⟩,⟨[.d t1],[]⟩,[]⟩,
 ⟨115,⟨[.d t2,.fn 117 [.ref .str]],[]⟩,⟨[.d t1],[]⟩,[]⟩,
 ⟨116,⟨[.d t5],[]⟩,⟨[.d .bool],[]⟩,[]⟩,
 ⟨117,⟨[.d (.st t3),.ref .str],[]⟩,⟨[.d .bool],[]⟩,[]⟩,
 ⟨118,⟨[.d .str],[]⟩,⟨[.d t0],[]⟩,[]⟩,
 ⟨119,⟨[.d .str,.d .str,.d .str,.d t1],[]⟩,⟨[.d .str],[]⟩,[]⟩,
 ⟨120,⟨[.d t1,.d t1],[]⟩,⟨[.d .str],[]⟩,[]⟩,
 ⟨121,⟨[.d t1],[]⟩,⟨[.d t1],[]⟩,[]⟩,
 ⟨122,⟨[.ptr 0 0,.d t4],[.box [.slf 0,.osl 1],.vec t4]⟩,⟨[.nili],[.box [.slf 0,.osl 2],.gone,.vec t4]⟩,[0]⟩,
 ⟨122,⟨[.ptr 0 0,.d t4],[.box [.slf 0,.osl 1,.d .cpx,.d t1],.vec t4]⟩,⟨[.nili],[.box [.slf 0,.osl 2,.d .cpx,.d t1],.gone,.vec t4]⟩,[0]⟩,
 ⟨123,⟨[.ptr 0 0,.d .str],[.box [.slf 0,.osl 1],.vec t4]⟩,⟨[.d t1,.nili],[.box [.slf 0,.osl 2],.gone,.vec t4]⟩,[0]⟩,
 ⟨123,⟨[.ptr 0 0,.d .str],[.box [.slf 0,.osl 1,.d .cpx,.d t1],.vec t4]⟩,⟨[.d t1,.nili],[.box [.slf 0,.osl 2,.d .cpx,.d t1],.gone,.vec t4]⟩,[0]⟩,
 ⟨124,⟨[.d t0],[]⟩,⟨[.d t0],[]⟩,[]⟩,
 ⟨125,⟨[.d (.sl t0)],[]⟩,⟨[.d t0],[]⟩,[]⟩,
 ⟨126,⟨[.d (.sl t0)],[]⟩,⟨[.d t0],[]⟩,[]⟩,
 ⟨127,⟨[.d t5,.d (.sl t0)],[]⟩,⟨[.osl 0],[.vec t5]⟩,[]⟩,
 ⟨128,⟨[.ref ta,.d t1],[]⟩,⟨[.d (.st t3),.d .bool],[]⟩,[]⟩,
 ⟨129,⟨[.ptr 0 0,.d t1,.d (.st t3),.d t1],[.box [.d t0,.d t2]]⟩,⟨[.d t0],[.box [.d t0,.d t2]]⟩,[0]⟩,
 ⟨130,⟨[.ptr 0 0,.d t1,.d .bool],[.box [.d t0,.d t2]]⟩,⟨[.d t0],[.box [.d t0,.d t2]]⟩,[0]⟩,
 ⟨131,⟨[.d tb],[]⟩,⟨[.d t1],[]⟩,[]⟩,
 ⟨132,⟨[.d t4],[]⟩,⟨[.d t1],[]⟩,[]⟩,
 ⟨133,⟨[.d .str,.d t1,.d t1,.d t1],[]⟩,⟨[.d t1],[]⟩,[]⟩,
 ⟨134,⟨[.d .str],[]⟩,⟨[.d .bool],[]⟩,[]⟩,
 ⟨135,⟨[.d t1],[]⟩,⟨[.d t1],[]⟩,[]⟩,
 ⟨136,⟨[.d t1,.d t1],[]⟩,⟨[.d .bool],[]⟩,[]⟩,
 ⟨137,⟨[.d .str],[]⟩,⟨[.d .bool],[]⟩,[]⟩,
 ⟨138,⟨[.d .str],[]⟩,⟨[.d .bool],[]⟩,[]⟩,
 ⟨139,⟨[.d t1,.d t1,.ref .str],[]⟩,⟨[.d t5,.d t1,.d t1],[]⟩,[]⟩,
 ⟨140,⟨[.d .str],[]⟩,⟨[.d .bool],[]⟩,[]⟩,
 ⟨141,⟨[.d t4],[]⟩,⟨[.d .bool],[]⟩,[]⟩,
 ⟨142,⟨[.d t4],[]⟩,⟨[.d .bool],[]⟩,[]⟩,
 ⟨143,⟨[.d t4],[]⟩,⟨[.d .bool],[]⟩,[]⟩,
 ⟨144,⟨[.d t4],[]⟩,⟨[.d .bool],[]⟩,[]⟩,
 ⟨145,⟨[.d .str,.d .str],[]⟩,⟨[.d .bool],[]⟩,[]⟩,
 ⟨146,⟨[.d t4],[]⟩,⟨[.d .bool],[]⟩,[]⟩,
 ⟨147,⟨[.d .str],[]⟩,⟨[.d t1,.d t1],[]⟩,[]⟩,
 ⟨148,⟨[.d .str],[]⟩,⟨[.d .str,.d t1],[]⟩,[]⟩,
 ⟨149,⟨[.ptr 0 0,.fn 1048726 [.ptr 0 0]],[.box [.d t0,.d t1,.d t2,.d t1,.d t1,.d t1,.d t1]]⟩,⟨[.d t0],[.box [.d t0,.d t1,.d t2,.d t1,.d t1,.d t1,.d t1]]⟩,[0]⟩,
 ⟨149,⟨[.ptr 0 0,.fn 1048829 [.ptr 0 0]],[.box [.d t0,.d t1,.d t2,.d t1,.d t1,.d t1,.d t1]]⟩,⟨[.d t0],[.box [.d t0,.d t1,.d t2,.d t1,.d t1,.d t1,.d t1]]⟩,[0]⟩,
 ⟨150,⟨[.ptr 0 0],[.box [.d t0,.d t1,.d t2,.d t1,.d t1,.d t1,.d t1]]⟩,⟨[.d t0],[.box [.d t0,.d t1,.d t2,.d t1,.d t1,.d t1,.d t1]]⟩,[0]⟩,
 ⟨151,⟨[.d .str,.fn 152 []],[]⟩,⟨[.d .bool],[]⟩,[]⟩,
 ⟨152,⟨[.d (.int .i32)],[]⟩,⟨[.d .bool],[]⟩,[]⟩,
 ⟨153,⟨[.d .str,.d t1],[]⟩,⟨[.d .str],[]⟩,[]⟩,
 ⟨154,⟨[.d t1],[]⟩,⟨[.agg [.d .bool,.d .bool,.fa [(185,false),(186,false)],.fa [(222,true),(187,false),(188,false)],.d .bool]],[]⟩,[]⟩,
 ⟨157,⟨[.fn 141 [],.ref t5],[]⟩,⟨[.d .bool],[]⟩,[]⟩,
 ⟨157,⟨[.fn 143 [],.ref t5],[]⟩,⟨[.d .bool],[]⟩,[]⟩,
 ⟨158,⟨[.d .str,.fn 142 []],[]⟩,⟨[.d .bool],[]⟩,[]⟩,
 ⟨158,⟨[.d .str,.fn 144 []],[]⟩,⟨[.d .bool],[]⟩,[]⟩,
 ⟨164,⟨[.ptr 0 0],[.box [.slf 0,.osl 1],.vec t4]⟩,⟨[],[.box [.slf 0,.osl 1],.vec t4]⟩,[0,1]⟩,
 ⟨164,⟨[.ptr 0 0],[.box [.slf 0,.osl 1,.d .cpx,.d t1],.vec t4]⟩,⟨[],[.box [.slf 0,.osl 1,.d .cpx,.d t1],.vec t4]⟩,[0,1]⟩,
 ⟨165,⟨[.d (.sl t0)],[]⟩,⟨[.d t0],[]⟩,[]⟩,
 ⟨166,⟨[.d t1,.d t0],[]⟩,⟨[.d t0],[]⟩,[]⟩,
 ⟨167,⟨[.rr ta,.ref t1,.ref (.st t3),.ref t1],[]⟩,⟨[.d .bool],[]⟩,[]⟩,
 ⟨168,⟨[],[]⟩,⟨[.d t9],[]⟩,[]⟩,
 ⟨169,⟨[.d t9,.d .str],[]⟩,⟨[.d .bool],[]⟩,[]⟩,
 ⟨170,⟨[],[]⟩,⟨[.d t9],[]⟩,[]⟩,
 ⟨171,⟨[.d .str,.d t4],[]⟩,⟨[.d t1],[]⟩,[]⟩,
 ⟨172,⟨[.d .str,.d .str],[]⟩,⟨[.d .bool],[]⟩,[]⟩,
 ⟨173,⟨[.d .str,.d .str],[]⟩,⟨[.d .str,.d .bool],[]⟩,[]⟩,
 ⟨174,⟨[.ptr 0 0,.d t1,.d t1,.d t9],[.box [.d t0,.d t1,.d t2,.d t1,.d t1,.d t1,.d t1]]⟩,⟨[.d .bool],[.box [.d t0,.d t1,.d t2,.d t1,.d t1,.d t1,.d t1]]⟩,[0]⟩,
 ⟨175,⟨[.ptr 0 0],[.box [.d t0,.d t1,.d t2,.d t1,.d t1,.d t1,.d t1]]⟩,⟨[.d t0],[.box [.d t0,.d t1,.d t2,.d t1,.d t1,.d t1,.d t1]]⟩,[0]⟩,
 ⟨176,⟨[.ptr 0 0],[.box [.d t0,.d t1,.d t2,.d t1,.d t1,.d t1,.d t1]]⟩,⟨[.d t5],[.box [.d t0,.d t1,.d t2,.d t1,.d t1,.d t1,.d t1]]⟩,[0]⟩,
 ⟨177,⟨[.ptr 0 0],[.box [.d t0,.d t1,.d t2,.d t1,.d t1,.d t1,.d t1]]⟩,⟨[.d .str],[.box [.d t0,.d t1,.d t2,.d t1,.d t1,.d t1,.d t1]]⟩,[0]⟩,
 ⟨178,⟨[.d t1,.d .str,.d (.sl t0)],[]⟩,⟨[.d t0],[]⟩,[]⟩,
 ⟨179,⟨[.ptr 0 0,.d .str],[.box [.d t0,.d t1,.d t2,.d t1,.d t1,.d t1,.d t1]]⟩,⟨[.d t0],[.box [.d t0,.d t1,.d t2,.d t1,.d t1,.d t1,.d t1]]⟩,[0]⟩,
 ⟨180,⟨[.ptr 0 0,.d .str],[.box [.d t0,.d t1,.d t2,.d t1,.d t1,.d t1,.d t1]]⟩,⟨[],[.box [.d t0,.d t1,.d t2,.d t1,.d t1,.d t1,.d t1]]⟩,[0]⟩,
 ⟨181,⟨[.d .str,.fn 152 []],[]⟩,⟨[.d t1],[]⟩,[]⟩,
 ⟨184,⟨[.d t1],[]⟩,⟨[.fn 222 [.ref t1]],[]⟩,[]⟩,
 ⟨185,⟨[.d .str],[]⟩,⟨[.d .bool],[]⟩,[]⟩,
 ⟨186,⟨[.d .str],[]⟩,⟨[.d .bool],[]⟩,[]⟩,
 ⟨187,⟨[.d t1],[]⟩,⟨[.d .bool],[]⟩,[]⟩,
 ⟨188,⟨[.d t1],[]⟩,⟨[.d .bool],[]⟩,[]⟩,
 ⟨210,⟨[.d t9,.d .str],[]⟩,⟨[.d t1],[]⟩,[]⟩,
 ⟨211,⟨[.d .str],[]⟩,⟨[.d t9],[]⟩,[]⟩,
 ⟨213,⟨[.d .str,.d .str],[]⟩,⟨[.d .str,.d .bool],[]⟩,[]⟩,
 ⟨214,⟨[.ptr 0 0],[.box [.d t0,.d t1,.d t2,.d t1,.d t1,.d t1,.d t1]]⟩,⟨[.d t0],[.box [.d t0,.d t1,.d t2,.d t1,.d t1,.d t1,.d t1]]⟩,[0]⟩,
 ⟨215,⟨[.d .str,.ptr 0 0],[.box [.ptr 1 0],.box [.d t0,.d t1,.d t2,.d t1,.d t1,.d t1,.d t1]]⟩,⟨[.d .bool],[.box [.ptr 1 0],.box [.d t0,.d t1,.d t2,.d t1,.d t1,.d t1,.d t1]]⟩,[0,1]⟩,
 ⟨216,⟨[.d t9,.fn 215 [.ptr 0 0]],[.box [.ptr 1 0],.box [.d t0,.d t1,.d t2,.d t1,.d t1,.d t1,.d t1]]⟩,⟨[.d t1],[.box [.ptr 1 0],.box [.d t0,.d t1,.d t2,.d t1,.d t1,.d t1,.d t1]]⟩,[0,1]⟩,
 ⟨217,⟨[.d t2,.d t9],[]⟩,⟨[.d (.sl t1),.d t1],[]⟩,[]⟩,
 ⟨218,⟨[.ptr 0 0,.ptr 1 0,.ptr 2 0,.ptr 3 0,.ptr 4 0],[.box [.d (.sl t1)],.box [.d t1],.box [.d (.sl t0)],.box [.d t9],.box [.fn 218 [.ptr 0 0,.ptr 1 0,.ptr 2 0,.ptr 3 0,.ptr 4 0]]]⟩,⟨[.d t0],[.box [.d (.sl t1)],.box [.d t1],.box [.d (.sl t0)],.box [.d t9],.box [.fn 218 [.ptr 0 0,.ptr 1 0,.ptr 2 0,.ptr 3 0,.ptr 4 0]]]⟩,[0,1,2,3,4]⟩,
 ⟨219,⟨[.d .str,.fn 152 [],.d .bool],[]⟩,⟨[.d t1],[]⟩,[]⟩,
 ⟨222,⟨[.d t1,.ref t1],[]⟩,⟨[.d .bool],[]⟩,[]⟩,
 ⟨240,⟨[.ptr 0 0],[.box [.d t0,.d t1,.d t2,.d t1,.d t1,.d t1,.d t1]]⟩,⟨[.d t0],[.box [.d t0,.d t1,.d t2,.d t1,.d t1,.d t1,.d t1]]⟩,[0]⟩,
 ⟨241,⟨[.ptr 0 0],[.box [.d t0,.d t1,.d t2,.d t1,.d t1,.d t1,.d t1]]⟩,⟨[.d .bool],[.box [.d t0,.d t1,.d t2,.d t1,.d t1,.d t1,.d t1]]⟩,[0]⟩,
 ⟨242,⟨[.ptr 0 0,.ptr 1 0],[.box [.osl 2],.box [.osl 3],.vec t1,.vec (.sl t1)]⟩,⟨[],[.box [.osl 4],.box [.osl 5],.gone,.gone,.vec t1,.vec (.sl t1)]⟩,[0,1]⟩,
 ⟨243,⟨[.d (.sl (.sl t1))],[]⟩,⟨[.osl 0],[.vec t1]⟩,[]⟩,
 ⟨249,⟨[.ptr 0 0],[.box [.d t0,.d t1,.d t2,.d t1,.d t1,.d t1,.d t1]]⟩,⟨[.d t0],[.box [.d t0,.d t1,.d t2,.d t1,.d t1,.d t1,.d t1]]⟩,[0]⟩,
 ⟨250,⟨[.d (.sl t1),.d t1],[]⟩,⟨[.osl 0],[.vec t1]⟩,[]⟩,
 ⟨253,⟨[.ptr 0 0],[.box [.d t0,.d t1,.d t2,.d t1,.d t1,.d t1,.d t1]]⟩,⟨[.d t0],[.box [.d t0,.d t1,.d t2,.d t1,.d t1,.d t1,.d t1]]⟩,[0]⟩,
 ⟨254,⟨[.ptr 0 0],[.box [.d t0,.d t1,.d t2,.d t1,.d t1,.d t1,.d t1]]⟩,⟨[.d t0],[.box [.d t0,.d t1,.d t2,.d t1,.d t1,.d t1,.d t1]]⟩,[0]⟩]
def z6z:List Int:=[0,0,0,0,0,0,0,0,0,1,1,1,1,1,0,0,0,0,0,0,0,0,0,0,0,0,0,0,0,0,0,0,1,0,0,0,0,0,0,0,0,0,0,0,0,0,0,0,0,0,0,0,0,0,0,0,0,0,0,0,0,0,0,0,0,0,0,0,0,0,0,0,0,0,0,0,0,0,0,0,0,0,0,0,0,0,0,0,0,0,0,0,0,0,0,0,0,0,0,0,0,0,0,0,0,0,0,0,0,0,0,0,0,0,0,0,0,0,0,0,0,0,0,0,0,0,0,0,0,0,0,0,0,0,0,0,0,0,0,0,0,0,0,0,0,0,0,0,0,0,0,0,0,0,0,0,0,0,0,0,0,0,0,0,0,0,0,0,0,0,0,0,0,0,0,0,0,0,0,0,0,0,0,0,0,0,0,0,0,0,0,0,0,0,0,0,0,0,0,0,0,0,0,0,0,0,0,0,0,0,0,0,0,0,0,0,0,0,0,0,0,0,0,0,0,0,0,0,0,0,0,0,0,0,0,0,0,0,0,0,0,0,0,0,0,0,0,0,0,0,0,0,0,0,0,0]
def z5g:List Int:=[1,10,100,1000,10000,100000,1000000,10000000,100000000,1000000000,10000000000,100000000000,1000000000000,10000000000000,100000000000000,1000000000000000,10000000000000000,100000000000000000,1000000000000000000,10000000000000000000]
def glob:Nat->Option ((t:Ty)×den t)
 |4=>some ⟨.arr 256 (.int .u8),z6z⟩
 |3=>some ⟨.arr 20 (.int .u64),z5g⟩
 |_=>none
def tab:List (Nat×Ty):=[
 (2,t1),
 (3,t1),
 (4,.bool),
 (5,t4),
 (6,t4),
 (7,(.st (.pair t1 (.pair t1 (.pair .bool t4))))),
 (8,(.st (.pair t1 (.pair t1 (.pair .bool t4))))),
 (9,.str),
 (10,.str),
 (11,.str),
 (12,tb),
 (13,(.st (.pair .str tb))),
 (14,(.st (.pair .str tb))),
 (21,(.int .i32)),
 (22,t0),
 (23,t2),
 (26,t1),
 (47,(.st t3)),
 (48,(.st t3)),
 (49,t1),
 (50,t5),
 (51,t5),
 (56,ta),
 (57,ta),
 (59,(.sl t1)),
 (64,(.sl t0)),
 (77,t0),
 (81,(.sl t4)),
 (86,.cpx),
 (96,t1),
 (99,tb),
 (102,t1),
 (103,t5),
 (104,t5),
 (107,t9),
 (114,t8),
 (115,t8),
 (141,tb),
 (161,.flt),
 (188,t1),
 (196,(.int .u32)),
 (200,(.arr 24 t4)),
 (216,tb),
 (223,(.arr 256 t4)),
 (224,(.st (.pair t4 t4))),
 (225,(.st (.pair t4 t4))),
 (226,(.arr 16 (.st (.pair t4 t4)))),
 (228,(.arr 20 tb)),
 (229,(.arr 65 t4)),
 (231,(.sl (.sl t1))),
 (237,(.sl (.st (.pair t1 t1)))),
 (238,(.st (.pair t1 t1))),
 (239,(.st (.pair t1 t1))),
 (243,(.arr 32 t4)),
 (244,(.arr 64 t4)),
 (245,(.sl t6)),
 (246,(.sl t7)),
 (247,(.st (.pair (.sl t6) (.pair (.sl t7) t1)))),
 (248,(.st (.pair (.sl t6) (.pair (.sl t7) t1)))),
 (249,(.int .u16)),
 (250,t6),
 (251,t6),
 (253,t7),
 (254,t7),
 (263,t4),
 (264,t4),
 (266,(.int .i32)),
 (267,(.int .i32))]
def eqs:List Nat:=[48,51]
noncomputable def C:Cx:=⟨Tryz.prog,sigs,glob,tab,eqs,85,88⟩
theorem u85:Tryz.prog.underlying 83=some (.pointer 85):=by kernel_rfl
theorem u103:Tryz.prog.underlying 204=some .unsafePointer:=by kernel_rfl
theorem i87:(Tryz.prog.info? 85).map (fun x=>x.size)=some 2:=by kernel_rfl
theorem z71:liesAt Tryz.prog Tryz.prog.depth 85 (2 / Tryz.prog.cellsOf 85) 0 85 1=true:=by kernel_rfl
set_option maxHeartbeats 1000000 in
set_option maxRecDepth 100000 in
theorem qzd(b:Nat)(w:World)(h0:w.cell? ⟨b,0,none⟩=some (.pointer (some ⟨b,0,none⟩))):Calls Tryz.prog 164 #[.pointer (some ⟨b,0,none⟩)] w fun e w'=>e=.returned (.tuple #[])/\w'=w:=by
 obtain⟨j,hj,_⟩:=Option.map_eq_some_iff.1 i87
 go_enter Tryz.func164,Tryz.ntmps164
 go_wp2
 rw[Lib.run_neq_ptr_same w _ u85 hj]
 go_wp2
 go_end0
 exact⟨rfl,rfl⟩
set_option maxHeartbeats 1000000 in
set_option maxRecDepth 100000 in
theorem z23(b:Nat)(w:World)(h0:w.cell? ⟨b,0,none⟩=some (.pointer none))(hc:w.shape? b=some (85,2))(hf:w.frozen? ⟨b,0,none⟩=false):Calls Tryz.prog 164 #[.pointer (some ⟨b,0,none⟩)] w fun e w'=>e=.returned (.tuple #[])/\w'=w.setCell ⟨b,0,none⟩ (.pointer (some ⟨b,0,none⟩)):=by
 obtain⟨j,hj,he⟩:=Option.map_eq_some_iff.1 i87
 go_enter Tryz.func164,Tryz.ntmps164
 go_wp2
 rw[Lib.run_to_unsafe w ⟨b,0,none⟩ u85 u103 hj (by rw[he];decide) hc (Nat.zero_lt_succ 1)];simp only[Result.andThen];rw[Oper.upon_value]
 go_wp2
 rw[run_callFunc_extern Tryz.func209 (by kernel_rfl) (by kernel_rfl) (by kernel_rfl) (e:=Extern.AbiNoEscape.same) (by kernel_rfl)];rw[Lib.run_noEscape];simp only[Result.andThen];rw[Oper.upon_value]
 go_wp2
 rw[Lib.run_from_unsafe w ⟨b,0,none⟩ u103 u85 hj hc z71];simp only[Result.andThen];rw[Oper.upon_value]
 go_wp2
 go_end0
 exact⟨rfl,rfl⟩
theorem z73:liesAt Tryz.prog Tryz.prog.depth 88 (4 / Tryz.prog.cellsOf 88) 0 85 1=true:=by kernel_rfl
set_option maxHeartbeats 1000000 in
set_option maxRecDepth 100000 in
theorem qze(b:Nat)(w:World)(h0:w.cell? ⟨b,0,none⟩=some (.pointer none))(hc:w.shape? b=some (88,4))(hf:w.frozen? ⟨b,0,none⟩=false):Calls Tryz.prog 164 #[.pointer (some ⟨b,0,none⟩)] w fun e w'=>e=.returned (.tuple #[])/\w'=w.setCell ⟨b,0,none⟩ (.pointer (some ⟨b,0,none⟩)):=by
 obtain⟨j,hj,he⟩:=Option.map_eq_some_iff.1 i87
 go_enter Tryz.func164,Tryz.ntmps164
 go_wp2
 rw[Lib.run_to_unsafe w ⟨b,0,none⟩ u85 u103 hj (by rw[he];decide) hc (Nat.zero_lt_succ 3)];simp only[Result.andThen];rw[Oper.upon_value]
 go_wp2
 rw[run_callFunc_extern Tryz.func209 (by kernel_rfl) (by kernel_rfl) (by kernel_rfl) (e:=Extern.AbiNoEscape.same) (by kernel_rfl)];rw[Lib.run_noEscape];simp only[Result.andThen];rw[Oper.upon_value]
 go_wp2
 rw[Lib.run_from_unsafe w ⟨b,0,none⟩ u103 u85 hj hc z73];simp only[Result.andThen];rw[Oper.upon_value]
 go_wp2
 go_end0
 exact⟨rfl,rfl⟩
theorem z2y:Tryz.prog.follows .mixedOrders=true:=by kernel_rfl
set_option maxHeartbeats 2000000 in
set_option maxRecDepth 100000 in
theorem qzf:qp4 Tryz.prog 58 81 124 3 9 5 where
 walk:=by
  intro b base q n cap bs w w2 c1 hf hg;have mixed:=z2y
  go_enter Tryz.func58,Tryz.ntmps58
  go_wp2
  go_region_o
  all_goals (go_wp2;go_ret;exact⟨rfl,rfl⟩)
 walk0:=by
  intro b a cs el fz w hc he sh hj;have hg:∀(W:World) (q:Option Addr),(Builtin.unsafeString_ #[124,3] 9 #[.pointer q,.int .i64 0]).run Tryz.prog W=.ok (.string .empty) W:=fun W q=>Lib.run_unsafeString_none W _ _ _ q;have hk:b<w.heap.size:=(Array.getElem?_eq_some_iff.1 hc).1;have c1:w.drew.cell? ⟨b,1,none⟩=some (.slice (some a) 0 0):=by have:w.drew.heap[b]?=some (.cells cs el fz):=hc;simp only[World.cell?,this];exact he
  have hf:(Builtin.unsafeSliceData_ #[81] 124 #[.slice (some a) 0 0]).run Tryz.prog w.drew=.ok (.pointer (some ⟨w.drew.heap.size,0,none⟩)) (w.drew.alloc (.view a 5)):=Lib.run_unsafeSliceData_zero w.drew _ _ 5 (by kernel_rfl) a 0 sh hj;have c2:(w.drew.alloc (.view a 5)).cell? ⟨b,1,none⟩=some (.slice (some a) 0 0):=by have:(w.drew.alloc (.view a 5)).heap[b]?=_:=(Lib.alloc_old w.drew _ b hk).trans hc;simp only[World.cell?,this];exact he
  have c3:(w.alloc (.view a 5)).drew.cell? ⟨b,1,none⟩=some (.slice (some a) 0 0):=c2;have c0:w.cell? ⟨b,1,none⟩=some (.slice (some a) 0 0):=c1;have mixed:=z2y
  go_enter Tryz.func58,Tryz.ntmps58
  go_wp2
  go_region_o
  all_goals (go_wp2;go_ret;exact⟨rfl,rfl⟩)
def z74:denP (q0c C.sigs 112).ins.tys->Option (denP (q0c C.sigs 112).outs.tys):=fun x=>bif x.1.l.all qdn&&decide (x.1.l.length<4611686018427387904) then some ((⟨x.1.nil,x.1.l.mergeSort fun a b=>!strLt b a⟩:Sl (List Int)),()) else none
def z7p:denP (q0c C.sigs 172).ins.tys->Option (denP (q0c C.sigs 172).outs.tys):=fun x=>some (ixB x.2.1 x.1,())
def z75:denP (q0c C.sigs 203).ins.tys->Option (denP (q0c C.sigs 203).outs.tys):=fun x=>bif x.1.nil&&x.1.l.isEmpty&&decide (0<=x.2.1)&&decide (x.2.1<=1000000) then some ((⟨decide (x.2.1=0),([]:List Int)⟩:Sl Int),()) else none
def z7q:denP (q0c C.sigs 122).ins.tys->Option (denP (q0c C.sigs 122).outs.tys):=fun x=>bif decide (x.2.1=10)&&(decide (-9223372036854775808<=x.1)&&decide (x.1<=9223372036854775807)) then some (q8s x.1,()) else none
def z7r:denP (q0c C.sigs 121).ins.tys->Option (denP (q0c C.sigs 121).outs.tys):=fun x=>bif (x.2.1==[45])&&((x.2.2.1==[126])&&(decide (x.2.2.2.1=1)&&decide (x.1.length<=1000))) then some (rep1 x.1,()) else none
theorem z7s:CallsAs C 172 z7p:=by intro x y h;obtain⟨l,c,u⟩:=x;have h:some ((ixB c l,()):Int×Unit)=some y:=h;injection h with h;subst h;exact Call.prim 172 _ _ (z5y (C:=C) (f:=171) ⟨_,Tryz.func171,by kernel_rfl⟩ (fun s c w=>Any.strings_IndexByte Tryz.ixL s c w) l c)
theorem z76:CallsAs C 203 z75:=by
 intro x y h;obtain⟨⟨nil,l⟩,n,u⟩:=x;have h:(bif nil&&l.isEmpty&&decide (0<=n)&&decide (n<=1000000) then some ((⟨decide (n=0),([]:List Int)⟩,()):Sl Int×Unit) else none)=some y:=h;cases hb:(nil&&l.isEmpty&&decide (0<=n)&&decide (n<=1000000)) with
 |false=>rw[hb] at h;cases h
 |true=>
  rw[hb] at h;injection h with h;subst h;simp only[zd,decide_eq_true_eq] at hb;obtain⟨⟨⟨h1,h2⟩,h3⟩,h4⟩:=hb;subst h1;obtain rfl:l=[]:=List.isEmpty_iff.1 h2;obtain⟨k,rfl⟩:=Int.eq_ofNat_of_zero_le h3;have h4:(k:Int)<=1000000:=h4;have hc:(Tryz.prog.info? (Tryz.growL_ren.t 25)).map (fun i=>(i.zero,i.size,i.bytes))=some (some (.int .i64 0),1,8):=by kernel_rfl
  obtain⟨i0,i1,i2⟩:=Option.map_eq_some_iff.1 hc;injection i2 with i2 i3;injection i3 with i3 i4;have key:=z0u (C:=C) (f:=250) ⟨_,Tryz.func250,by kernel_rfl⟩
   (fun w=>Any8.slices_Grow_room Tryz.growL none 0 0 0 w (Nat.le_refl _) (by decide) (by decide) (Nat.le_refl _))
   (fun n w hn he=>by have g:=Any8.slices_Grow_grow Tryz.growL i0 (.int .i64 0) i1 i2 (by omega) none 0 0 n [] w (Nat.le_refl _) (by omega) (by rw[i4];omega) (by omega) (by rw[i3];rfl) (fun _=>rfl) (fun a h=>by cases h);refine Calls.mono g fun e w' ⟨e1,e2⟩=>⟨_,_,_,e1,e2,?_⟩;simp[Builtin.zeroCells];have hs:(Value.int IntKind.i64 0).cells.size=1:=rfl;rw[hs];omega) k (by omega)
  have e:decide ((k:Int)=0)=decide (k=0):=decide_eq_decide.2 (by omega);rw[e];exact Call.prim 203 _ _ key
theorem z7t:CallsAs C 122 z7q:=by
 intro x y h;obtain⟨n,k,u⟩:=x;have h:(bif decide (k=10)&&(decide (-9223372036854775808<=n)&&decide (n<=9223372036854775807)) then some ((q8s n,()):List Int×Unit) else none)=some y:=h;cases hb:(decide (k=10)&&(decide (-9223372036854775808<=n)&&decide (n<=9223372036854775807))) with
 |false=>rw[hb] at h;cases h
 |true=>
  rw[hb] at h;injection h with h;subst h;simp only[zd,decide_eq_true_eq] at hb;obtain⟨rfl,h2,h3⟩:=hb;have ht:z5g=Lib.pow10Tab:=by decide
  exact Call.prim 122 _ _ (z4b (C:=C) (f:=120) ⟨_,Tryz.func120,by kernel_rfl⟩ (g:=3) (m:=20) (zs:=z5g) (by kernel_rfl) rfl
   (fun n h0 h1 w hc=>Any.strconv_FormatInt_10 Tryz.fmtL n h0 h1 w (by rw[<-ht];exact hc)) n h2 h3)
theorem z24:Builder.Extra Tryz.prog Tryz.repL_ren where
 sizeBuilder:=by kernel_rfl
 liesBuilder:=by kernel_rfl
 t5:=Tryz.repL.t5
 a5:=Tryz.repL.a5
 z5:=Tryz.repL.z5
 v5:=Tryz.repL.v5
 infoByte:=by kernel_rfl
 cellsByte:=by kernel_rfl
 sizeByte:=by kernel_rfl
 neB5:=by decide
theorem z7u:CallsAs C 121 z7r:=by
 intro x y h;obtain⟨l,a,b,k,u⟩:=x;have h:(bif (a==[45])&&((b==[126])&&(decide (k=1)&&decide (l.length<=1000))) then some ((rep1 l,()):List Int×Unit) else none)=some y:=h;cases hb:((a==[45])&&((b==[126])&&(decide (k=1)&&decide (l.length<=1000)))) with
 |false=>rw[hb] at h;cases h
 |true=>rw[hb] at h;injection h with h;subst h;simp only[zd,decide_eq_true_eq,beq_iff_eq] at hb;obtain⟨rfl,rfl,rfl,h3⟩:=hb;exact Call.prim 121 _ _ (z4c (C:=C) (f:=119) ⟨_,Tryz.func119,by kernel_rfl⟩ (fun s w hs=>z0z Tryz.repL z24 s w hs) l h3)
def q77(x:List UInt8):List Int:=x.map fun b=>(b.toNat:Int)
def qj8(l:List Int):List UInt8:=l.map fun b=>UInt8.ofNat b.toNat
theorem qj9:∀x y:List UInt8,q77 x=q77 y->x=y
 |[],[],_=>rfl
 |[],_::_,h=>by cases h
 |_::_,[],h=>by cases h
 |a::x,b::y,h=>by injection h with h1 h2;have h1:(a.toNat:Int)=(b.toNat:Int):=h1;have e:a=b:=UInt8.toNat_inj.1 (by omega);rw[qj9 x y h2,e]
theorem qcy:∀l:List Int,(∀b,b∈l->0<=b/\b<=255)->q77 (qj8 l)=l
 |[],_=>rfl
 |a::l,h=>by obtain⟨h0,h1⟩:=h a (zf ..);show(((UInt8.ofNat a.toNat).toNat:Nat):Int)::q77 (qj8 l)=_;rw[qcy l fun b hb=>h b (zh _ hb),UInt8.toNat_ofNat',Nat.mod_eq_of_lt (by omega)];congr 1;omega
theorem qja:∀x y:List UInt8,strLt (q77 x) (q77 y)=decide (x<y)
 |[],[]=>rfl
 |[],b::y=>by show true=_;exact(zw (List.nil_lt_cons b y)).symm
 |a::x,[]=>by show false=_;exact(zu (List.not_lt_nil _)).symm
 |a::x,b::y=>by
  show(decide ((a.toNat:Int)<(b.toNat:Int))||(decide ((a.toNat:Int)=(b.toNat:Int))&&strLt (q77 x) (q77 y)))=_;rw[qja x y,Bool.eq_iff_iff,decide_eq_true_eq,List.cons_lt_cons_iff];simp only[Bool.or_eq_true,zd,decide_eq_true_eq];have e1:((a.toNat:Int)<(b.toNat:Int))↔a<b:=by rw[UInt8.lt_iff_toNat_lt];omega
  have e2:((a.toNat:Int)=(b.toNat:Int))↔a=b:=by rw[<-UInt8.toNat_inj];omega
  rw[e1,e2]
theorem qzg(imm:Nat->Prop)(w:World)(x:List UInt8)(hx:x.length<=9223372036854775807)(cs:List Value):relC imm w .str (q77 x) cs↔cs=[encStr x]:=by
 constructor
 ·rintro⟨t,e3,h1,h2⟩;have h1:t.data.toList.map (fun b=>(b.toNat:Int))=q77 x:=h1;have h3:t.data.toList=x:=qj9 _ _ h1;subst e3;have:t=⟨x.toArray⟩:=by rw[<-h3]
  rw[this]
 ·intro e;subst e;refine⟨⟨x.toArray⟩,rfl,rfl,?_⟩;show x.toArray.size<=_;simpa[maxL] using hx
theorem z77:CallsAs C 112 z74:=by
 intro x y h;obtain⟨⟨nil,l⟩,u⟩:=x;have h:(bif l.all qdn&&decide (l.length<4611686018427387904) then some ((⟨nil,l.mergeSort fun a b=>!strLt b a⟩:Sl (List Int)),()) else none)=some y:=h;cases hg:(l.all qdn&&decide (l.length<4611686018427387904)) with
 |false=>rw[hg] at h;cases h
 |true=>
  rw[hg] at h;injection h with h;subst h;simp only[zd,decide_eq_true_eq] at hg;obtain⟨g1,g3⟩:=hg;have gg:∀s,s∈l->(∀b,b∈s->0<=b/\b<=255)/\s.length<=9223372036854775807:=fun s hs=>qwy (zS.1 g1 s hs);have hl:l=(l.map qj8).map q77:=by rw[zY];exact((ja (g:=fun s=>s) fun s hs=>qcy s (gg s hs).1).trans (List.map_id' l)).symm
  have key:=qx6 (C:=C) (f:=111) (t:=.str) encStr q77 (fun x=>x.length<=9223372036854775807) (fun l=>l.mergeSort fun x y=>decide (x<=y)) (by intro h;cases h) rfl
   (fun imm w x hx cs=>qzg imm w x hx cs) (fun l=>List.length_mergeSort l) (fun l x hx=>(List.mem_mergeSort).1 hx)
   ⟨_,Tryz.func111,by kernel_rfl⟩ (fun p cap w=>Any.slices_Sort_string_none Tryz.sortL p cap w)
   (fun blk off cap zs w hH hb hc=>calls_of_every_depth fun D=>AnyS.slices_Sort_string_alone Tryz.sortL D blk off cap zs w hH hb hc)
   nil (l.map qj8) (fun x hx=>by obtain⟨s,hs,rfl⟩:=List.mem_map.1 hx;show(s.map _).length<=_;rw[zJ];exact(gg s hs).2) (by rw[zJ];exact g3)
  have e:((l.map qj8).mergeSort fun x y=>decide (x<=y)).map q77=((l.map qj8).map q77).mergeSort fun a b=>!strLt b a:=
   List.map_mergeSort (fun a _ b _=>by
    rw[qja];by_cases h:b<a
    ·rw[zw h,zu (fun e:a<=b=>e h)];rfl
    ·rw[zu h,zw (show a<=b from h)];rfl)
  rw[e,<-hl] at key;exact Call.prim 112 _ _ key
def z7v:denP (q0c C.sigs 158).ins.tys->Option (denP (q0c C.sigs 158).outs.tys):=fun x=>bif (x.1==[32])&&(decide (0<=x.2.1)&&decide (x.2.1<=1000000)) then some (List.replicate x.2.1.toNat (32:Int),()) else none
theorem qbd:∀n:Nat,(Lib.repeatL [32] n).map (fun b=>(b.toNat:Int))=List.replicate n 32
 |0=>rfl
 |n+1=>by show(([32]++Lib.repeatL [32] n).map _)=_;rw[zT,qbd n,List.replicate_succ];rfl
theorem z25:Builder.Extra Tryz.prog Tryz.rptL_ren where
 sizeBuilder:=by kernel_rfl
 liesBuilder:=by kernel_rfl
 t5:=Tryz.rptL.t5
 a5:=Tryz.rptL.a5
 z5:=Tryz.rptL.z5
 v5:=Tryz.rptL.v5
 infoByte:=by kernel_rfl
 cellsByte:=by kernel_rfl
 sizeByte:=by kernel_rfl
 neB5:=by decide
theorem z7w:CallsAs C 158 z7v:=by
 intro x y h;obtain⟨l,n,u⟩:=x;have h:(bif (l==[32])&&(decide (0<=n)&&decide (n<=1000000)) then some ((List.replicate n.toNat (32:Int),()):List Int×Unit) else none)=some y:=h;cases hb:((l==[32])&&(decide (0<=n)&&decide (n<=1000000))) with
 |false=>rw[hb] at h;cases h
 |true=>
  rw[hb] at h;injection h with h;subst h;simp only[zd,decide_eq_true_eq,beq_iff_eq] at hb;obtain⟨rfl,h2,h3⟩:=hb;obtain⟨k,rfl⟩:=Int.eq_ofNat_of_zero_le h2;refine Call.prim 158 _ _ ?_;intro X φ w zs' hm hz;have hm:MRel C X φ noO w:=hm;have hz:q0m φ noO (immB X φ noO w) w [.d .str ([32]:List Int),.d (.int .i64) (k:Int)] zs':=hz;refine⟨⟨_,Tryz.func153,by kernel_rfl⟩,?_⟩;obtain⟨z0,r0,rfl,g1,z1,r1,rfl,g2,g3⟩:=hz;have g3:r1=[]:=g3;subst g3;obtain⟨s,rfl,hs,hf⟩:=q32 g1;obtain⟨rfl,_⟩:=q25 g2;have hc:s=⟨#[32]⟩:=by
   obtain⟨⟨d⟩⟩:=s
   match d,hs with
   |[],hs=>cases hs
   |[b],hs=>
    have hs:[(b.toNat:Int)]=[32]:=hs;injection hs with hs _;have e:b=32:=UInt8.toNat_inj.1 (by
     have:(32:UInt8).toNat=32:=rfl;omega)
    rw[e]
   |_::_::_,hs=>exact absurd (congrArg List.length hs) (by simp)
  subst hc;have he:(⟨#[32]⟩:ByteArray).size=1:=rfl;have hk:(k:Int)<=1000000:=h3;refine Calls.mono (Any.strings_Repeat Tryz.rptL z25 ⟨#[32]⟩ k w (by omega) (by rw[he];omega)) fun e w' ⟨e1,e2⟩=>?_;subst e1;refine qx0 hm (b:=⟨(Lib.repeatL [32] k).toArray⟩) e2 ?_ ?_
  ·exact qbd k
  ·have:=congrArg List.length (qbd k);rw[zJ,List.length_replicate] at this;show(Lib.repeatL [32] k).toArray.size<=maxL;unfold maxL;simp only[List.size_toArray];omega
theorem z2z:qc9 Tryz.prog Tryz.prog.types.size=true:=by kernel_rfl
def z7x:denP (q0c C.sigs 164).ins.tys->Option (denP (q0c C.sigs 164).outs.tys):=fun x=>some (true,x.2.1,())
def z7y:denP (q0c C.sigs 165).ins.tys->Option (denP (q0c C.sigs 165).outs.tys):=fun x=>some (true,x.2.1,x.2.2.1,x.2.2.2.1,())
def z7z:denP (q0c C.sigs 55).ins.tys->Option (denP (q0c C.sigs 55).outs.tys):=fun x=>some (x.2.1.l,())
def z78:denP (q0c C.sigs 56).ins.tys->Option (denP (q0c C.sigs 56).outs.tys):=fun x=>some (x.2.2.2.1.l,())
theorem z80:CallsAs C 164 z7x:=by intro x y h;obtain⟨b,s,u⟩:=x;have h:some ((true,s,()):Bool×Sl Int×Unit)=some y:=h;injection h with h;subst h;exact Call.prim 164 _ _ (z63 (C:=C) (f:=164) ⟨_,Tryz.func164,by kernel_rfl⟩ qzd z23 b s)
theorem z81:CallsAs C 165 z7y:=by intro x y h;obtain⟨b,q,n,s,u⟩:=x;have h:some ((true,q,n,s,()):Bool×(Nat×Nat)×Int×Sl Int×Unit)=some y:=h;injection h with h;subst h;exact Call.prim 165 _ _ (z66 (C:=C) (f:=164) ⟨_,Tryz.func164,by kernel_rfl⟩ qzd qze b q n s)
theorem z82:CallsAs C 55 z7z:=by intro x y h;obtain⟨b,s,u⟩:=x;have h:some ((s.l,()):List Int×Unit)=some y:=h;injection h with h;subst h;exact Call.prim 55 _ _ (z4e (C:=C) (f:=58) qzf (by kernel_rfl) ⟨_,Tryz.func58,by kernel_rfl⟩ (by kernel_rfl) (qmx z2z) b s)
theorem z79:CallsAs C 56 z78:=by intro x y h;obtain⟨b,q,n,s,u⟩:=x;have h:some ((s.l,()):List Int×Unit)=some y:=h;injection h with h;subst h;exact Call.prim 56 _ _ (z4f (C:=C) (f:=58) qzf (by kernel_rfl) ⟨_,Tryz.func58,by kernel_rfl⟩ (by kernel_rfl) (qmx z2z) b q n s)
theorem mkc{C:Cx}{k:Nat}{O:q22 C.sigs}(b:Lf->q22 C.sigs->(denP (q0c C.sigs k).ins.tys->Option (denP (q0c C.sigs k).outs.tys))){f:(denP (q0c C.sigs k).ins.tys->Option (denP (q0c C.sigs k).outs.tys))}(hO:qt9 C O)(e:∀L R x,qht L C R k x=b L R x:=by intro _ _ _;kernel_rfl)(o:∀x,b lf O x=f x:=by intro _;kernel_rfl):CallsAs C k f:=mkC b hO e o
theorem c_en:CallsAs C 103 f_en:=mkc (fun L R x=>b_en L  x) q04
theorem c_er:CallsAs C 96 f_er:=mkc (fun L R x=>b_er L (R 103) x) (q02 c_en q04)
theorem c_em:CallsAs C 105 f_em:=mkc (fun L R x=>b_em L (R 96) x) (q02 c_er q04)
theorem c_ek:CallsAs C 115 f_ek:=mkc (fun L R x=>b_ek L  x) q04
theorem c_eu:CallsAs C 123 f_eu:=mkc (fun L R x=>b_eu L  x) q04
theorem c_eg:CallsAs C 183 f_eg:=mkc (fun L R x=>b_eg L  x) q04
theorem c_ed:CallsAs C 159 f_ed:=mkc (fun L R x=>b_ed L (R 183) x) (q02 c_eg q04)
theorem c_di:CallsAs C 188 f_di:=mkc (fun L R x=>b_di L  x) q04
theorem c_df:CallsAs C 170 f_df:=mkc (fun L R x=>b_df L (R 188) x) (q02 c_di q04)
theorem c_dy:CallsAs C 189 f_dy:=mkc (fun L R x=>b_dy L  x) q04
theorem c_b9:CallsAs C 171 f_b9:=mkc (fun L R x=>b_b9 L (R 189) x) (q02 c_dy q04)
theorem c_ao:CallsAs C 144 f_ao:=mkc (fun L R x=>b_ao L (R 170) (R 171) x) (q02 c_df (q02 c_b9 q04))
theorem c_b4:CallsAs C 145 f_b4:=mkc (fun L R x=>b_b4 L  x) q04
theorem c_ay:CallsAs C 147 f_ay:=mkc (fun L R x=>b_ay L  x) q04
theorem c_ax:CallsAs C 150 f_ax:=mkc (fun L R x=>b_ax L  x) q04
theorem c_az:CallsAs C 146 f_az:=mkc (fun L R x=>b_az L (R 145) (R 147) (R 150) x) (q02 c_b4 (q02 c_ay (q02 c_ax q04)))
theorem c_av:CallsAs C 162 f_av:=mkc (fun L R x=>b_av L (R 146) x) (q02 c_az q04)
theorem c_at:CallsAs C 160 f_at:=mkc (fun L R x=>b_at L (R 144) (R 145) (R 162) x) (q02 c_ao (q02 c_b4 (q02 c_av q04)))
theorem c_au:CallsAs C 161 f_au:=mkc (fun L R x=>b_au L (R 144) (R 147) (R 162) x) (q02 c_ao (q02 c_ay (q02 c_av q04)))
theorem c_e0:CallsAs C 172 f_e0:=z7s
theorem c_b3:CallsAs C 148 f_b3:=mkc (fun L R x=>b_b3 L (R 172) x) (q02 c_e0 q04)
theorem c_aw:CallsAs C 163 f_aw:=mkc (fun L R x=>b_aw L (R 148) x) (q02 c_b3 q04)
theorem c_as:CallsAs C 118 f_as:=mkc (fun L R x=>b_as L (R 123) (R 144) (R 160) (R 161) (R 163) x) (q02 c_eu (q02 c_ao (q02 c_at (q02 c_au (q02 c_aw q04)))))
theorem c_e7:CallsAs C 184 f_e7:=mkc (fun L R x=>b_e7 L (R 118) x) (q02 c_as q04)
theorem c_e6:CallsAs C 185 f_e6:=mkc (fun L R x=>b_e6 L (R 118) x) (q02 c_as q04)
theorem c_ee:CallsAs C 186 f_ee:=mkc (fun L R x=>b_ee L  x) q04
theorem c_ef:CallsAs C 187 f_ef:=mkc (fun L R x=>b_ef L  x) q04
theorem c_eh:CallsAs C 197 f_eh:=mkc (fun L R x=>b_eh L  x) q04
theorem c_ej:CallsAs C 108 f_ej:=mkc (fun L R x=>b_ej L (R 115) (R 123) (R 159) (R 184) (R 185) (R 186) (R 187) (R 197) x) (q02 c_ek (q02 c_eu (q02 c_ed (q02 c_e7 (q02 c_e6 (q02 c_ee (q02 c_ef (q02 c_eh q04))))))))
theorem c_ea:CallsAs C 107 f_ea:=mkc (fun L R x=>b_ea L (R 108) x) (q02 c_ej q04)
theorem c_el:CallsAs C 106 f_el:=mkG (C:=C) (k:=106) (fun L R x=>b_el L (R 106) (R 107) x) (F:=g_el) (O:=fun g=>(orc1 106 g (orc1 107 f_ea orc0))) (fun g hg=>(q02 hg (q02 c_ea q04))) (fun _ _ _=>by kernel_rfl) (fun _ _=>by kernel_rfl)
theorem c_eq:CallsAs C 110 f_eq:=mkc (fun L R x=>b_eq L (R 103) x) (q02 c_en q04)
theorem c_ei:CallsAs C 111 f_ei:=mkc (fun L R x=>b_ei L  x) q04
theorem c_dm:CallsAs C 112 f_dm:=z77
theorem c_dd:CallsAs C 113 f_dd:=mkc (fun L R x=>b_dd L  x) q04
theorem c_ec:CallsAs C 114 f_ec:=mkc (fun L R x=>b_ec L (R 111) x) (q02 c_ei q04)
theorem c_eb:CallsAs C 109 f_eb:=mkc (fun L R x=>b_eb L (R 110) (R 111) (R 112) (R 113) (R 114) x) (q02 c_eq (q02 c_ei (q02 c_dm (q02 c_dd (q02 c_ec q04)))))
theorem c_e9:CallsAs C 59 f_e9:=mkc (fun L R x=>b_e9 L (R 96) (R 103) (R 105) (R 106) (R 109) (R 115) x) (q02 c_er (q02 c_en (q02 c_em (q02 c_el (q02 c_eb (q02 c_ek q04))))))
theorem c_e5:CallsAs C 28 f_e5:=mkc (fun L R x=>b_e5 L (R 59) x) (q02 c_e9 q04)
theorem c_a6:CallsAs C 62 f_a6:=mkc (fun L R x=>b_a6 L (R 118) x) (q02 c_as q04)
theorem c_a1:CallsAs C 61 f_a1:=mkc (fun L R x=>b_a1 L (R 62) x) (q02 c_a6 q04)
theorem c_dj:CallsAs C 116 f_dj:=mkc (fun L R x=>b_dj L (R 61) x) (q02 c_a1 q04)
theorem c_dg:CallsAs C 60 f_dg:=mkc (fun L R x=>b_dg L (R 116) x) (q02 c_dj q04)
theorem c_a5:CallsAs C 119 f_a5:=mkc (fun L R x=>b_a5 L  x) q04
theorem c_dk:CallsAs C 117 f_dk:=mkc (fun L R x=>b_dk L (R 119) x) (q02 c_a5 q04)
theorem c_a4:CallsAs C 63 f_a4:=mkc (fun L R x=>b_a4 L (R 117) x) (q02 c_dk q04)
theorem c_a0:CallsAs C 29 f_a0:=mkc (fun L R x=>b_a0 L (R 60) (R 63) x) (q02 c_dg (q02 c_a4 q04))
theorem c_eo:CallsAs C 65 f_eo:=mkc (fun L R x=>b_eo L (R 103) x) (q02 c_en q04)
theorem qbe(g:denP (q0c C.sigs 30).ins.tys->Option (denP (q0c C.sigs 30).outs.tys))(hg:CallsAs C 30 g):CallsAs C 64 (q0i g):=mkc (fun L R x=>q3i L (R 30) (R 65) x) (O:=(orc1 30 g (orc1 65 f_eo orc0))) (q02 hg (q02 c_eo q04))
theorem c_ep:CallsAs C 131 f_ep:=mkc (fun L R x=>b_ep L  x) q04
theorem c_ag:CallsAs C 120 f_ag:=mkc (fun L R x=>b_ag L (R 131) x) (q02 c_ep q04)
theorem c_db:CallsAs C 66 f_db:=mkc (fun L R x=>b_db L (R 120) x) (q02 c_ag q04)
theorem c_e3:CallsAs C 121 f_e3:=z7u
theorem c_dn:CallsAs C 122 f_dn:=z7t
theorem c_et:CallsAs C 67 f_et:=mkc (fun L R x=>b_et L (R 121) (R 122) (R 123) x) (q02 c_e3 (q02 c_dn (q02 c_eu q04)))
theorem c_do:CallsAs C 55 f_do:=z82
theorem c_du:CallsAs C 164 f_du:=z80
theorem c_dq:CallsAs C 124 f_dq:=mkc (fun L R x=>b_dq L (R 164) x) (q02 c_du q04)
theorem c_ds:CallsAs C 126 f_ds:=mkc (fun L R x=>b_ds L (R 164) x) (q02 c_du q04)
theorem c_ar:CallsAs C 68 f_ar:=mkc (fun L R x=>b_ar L (R 55) (R 124) (R 126) x) (q02 c_do (q02 c_dq (q02 c_ds q04)))
theorem c_d7:CallsAs C 69 f_d7:=mkc (fun L R x=>b_d7 L (R 118) x) (q02 c_as q04)
theorem c_ac:CallsAs C 128 f_ac:=mkc (fun L R x=>b_ac L (R 131) x) (q02 c_ep q04)
theorem c_a9:CallsAs C 166 f_a9:=mkc (fun L R x=>b_a9 L (R 131) x) (q02 c_ep q04)
theorem c_da:CallsAs C 129 f_da:=mkc (fun L R x=>b_da L (R 166) x) (q02 c_a9 q04)
theorem c_d2:CallsAs C 70 f_d2:=mkc (fun L R x=>b_d2 L (R 128) (R 129) x) (q02 c_ac (q02 c_da q04))
theorem c_ae:CallsAs C 72 f_ae:=mkc (fun L R x=>b_ae L (R 131) x) (q02 c_ep q04)
theorem c_af:CallsAs C 167 f_af:=mkc (fun L R x=>b_af L (R 131) x) (q02 c_ep q04)
theorem c_d9:CallsAs C 130 f_d9:=mkc (fun L R x=>b_d9 L (R 129) (R 167) x) (q02 c_da (q02 c_af q04))
theorem c_dc:CallsAs C 71 f_dc:=mkc (fun L R x=>b_dc L (R 72) (R 130) x) (q02 c_ae (q02 c_d9 q04))
theorem c_d8:CallsAs C 46 f_d8:=mkG (C:=C) (k:=46) (fun L R x=>b_d8 L (R 46) (R 65) (R 67) (R 69) x) (F:=g_d8) (O:=fun g=>(orc1 46 g (orc1 65 f_eo (orc1 67 f_et (orc1 69 f_d7 orc0))))) (fun g hg=>(q02 hg (q02 c_eo (q02 c_et (q02 c_d7 q04))))) (fun _ _ _=>by kernel_rfl) (fun _ _=>by kernel_rfl)
theorem qbf(g:denP (q0c C.sigs 30).ins.tys->Option (denP (q0c C.sigs 30).outs.tys))(hg:CallsAs C 30 g):CallsAs C 73 (q1a g):=mkc (fun L R x=>q3j L (R 30) (R 46) (R 65) (R 66) (R 70) (R 71) (R 72) (R 130) x) (O:=(orc1 30 g (orc1 46 f_d8 (orc1 65 f_eo (orc1 66 f_db (orc1 70 f_d2 (orc1 71 f_dc (orc1 72 f_ae (orc1 130 f_d9 orc0))))))))) (q02 hg (q02 c_d8 (q02 c_eo (q02 c_db (q02 c_d2 (q02 c_dc (q02 c_ae (q02 c_d9 q04))))))))
theorem c_d5:CallsAs C 132 f_d5:=mkc (fun L R x=>b_d5 L (R 63) x) (q02 c_a4 q04)
theorem c_d4:CallsAs C 74 f_d4:=mkc (fun L R x=>b_d4 L (R 132) x) (q02 c_d5 q04)
theorem q78(g:denP (q0c C.sigs 30).ins.tys->Option (denP (q0c C.sigs 30).outs.tys))(hg:CallsAs C 30 g):CallsAs C 134 (q0o g):=mkc (fun L R x=>q43 L (R 30) (R 66) (R 166) x) (O:=(orc1 30 g (orc1 66 f_db (orc1 166 f_a9 orc0)))) (q02 hg (q02 c_db (q02 c_a9 q04)))
theorem c_d6:CallsAs C 168 f_d6:=mkc (fun L R x=>b_d6 L (R 132) x) (q02 c_d5 q04)
theorem qcz(g:denP (q0c C.sigs 30).ins.tys->Option (denP (q0c C.sigs 30).outs.tys))(hg:CallsAs C 30 g):CallsAs C 133 (q17 g):=mkc (fun L R x=>q44 L (R 74) (R 134) (R 168) x) (O:=(orc1 74 f_d4 (orc1 134 (q0o g) (orc1 168 f_d6 orc0)))) (q02 c_d4 (q02 (q78 g hg) (q02 c_d6 q04)))
theorem qd0(g:denP (q0c C.sigs 30).ins.tys->Option (denP (q0c C.sigs 30).outs.tys))(hg:CallsAs C 30 g):CallsAs C 75 (q1e g):=mkc (fun L R x=>q45 L (R 65) (R 66) (R 70) (R 72) (R 130) (R 132) (R 133) x) (O:=(orc1 65 f_eo (orc1 66 f_db (orc1 70 f_d2 (orc1 72 f_ae (orc1 130 f_d9 (orc1 132 f_d5 (orc1 133 (q17 g) orc0)))))))) (q02 c_eo (q02 c_db (q02 c_d2 (q02 c_ae (q02 c_d9 (q02 c_d5 (q02 (qcz g hg) q04)))))))
theorem qd1(g:denP (q0c C.sigs 30).ins.tys->Option (denP (q0c C.sigs 30).outs.tys))(hg:CallsAs C 30 g):CallsAs C 76 (q1f g):=mkc (fun L R x=>q46 L (R 65) (R 70) (R 72) (R 74) (R 130) (R 134) x) (O:=(orc1 65 f_eo (orc1 70 f_d2 (orc1 72 f_ae (orc1 74 f_d4 (orc1 130 f_d9 (orc1 134 (q0o g) orc0))))))) (q02 c_eo (q02 c_d2 (q02 c_ae (q02 c_d4 (q02 c_d9 (q02 (q78 g hg) q04))))))
theorem c_d3:CallsAs C 30 f_d3:=mkG (C:=C) (k:=30) (fun L R x=>b_d3 L (R 64) (R 66) (R 67) (R 68) (R 69) (R 70) (R 71) (R 72) (R 73) (R 74) (R 75) (R 76) x) (F:=g_d3) (O:=fun g=>(orc1 64 (q0i g) (orc1 66 f_db (orc1 67 f_et (orc1 68 f_ar (orc1 69 f_d7 (orc1 70 f_d2 (orc1 71 f_dc (orc1 72 f_ae (orc1 73 (q1a g) (orc1 74 f_d4 (orc1 75 (q1e g) (orc1 76 (q1f g) orc0))))))))))))) (fun g hg=>(q02 (qbe g hg) (q02 c_db (q02 c_et (q02 c_ar (q02 c_d7 (q02 c_d2 (q02 c_dc (q02 c_ae (q02 (qbf g hg) (q02 c_d4 (q02 (qd0 g hg) (q02 (qd1 g hg) q04))))))))))))) (fun _ _ _=>by kernel_rfl) (fun _ _=>by kernel_rfl)
theorem c_cy:CallsAs C 14 f_cy:=mkc (fun L R x=>b_cy L (R 28) (R 29) (R 30) x) (q02 c_e5 (q02 c_a0 (q02 c_d3 q04)))
theorem c_am:CallsAs C 157 f_am:=mkc (fun L R x=>b_am L  x) q04
theorem c_e4:CallsAs C 196 f_e4:=mkc (fun L R x=>b_e4 L (R 157) x) (q02 c_am q04)
theorem c_e1:CallsAs C 182 f_e1:=mkc (fun L R x=>b_e1 L (R 196) x) (q02 c_e4 q04)
theorem c_dw:CallsAs C 156 f_dw:=mkc (fun L R x=>b_dw L (R 182) x) (q02 c_e1 q04)
theorem c_al:CallsAs C 97 f_al:=mkc (fun L R x=>b_al L (R 156) x) (q02 c_dw q04)
theorem c_aa:CallsAs C 53 f_aa:=mkc (fun L R x=>b_aa L (R 96) (R 97) x) (q02 c_er (q02 c_al q04))
theorem qbg(g:denP (q0c C.sigs 54).ins.tys->Option (denP (q0c C.sigs 54).outs.tys))(hg:CallsAs C 54 g):CallsAs C 98 (q0x g):=mkc (fun L R x=>q3k L (R 54) x) (O:=(orc1 54 g orc0)) (q02 hg q04)
theorem c_dv:CallsAs C 165 f_dv:=z81
theorem c_dt:CallsAs C 127 f_dt:=mkc (fun L R x=>b_dt L (R 165) x) (q02 c_dv q04)
theorem c_ak:CallsAs C 99 f_ak:=mkc (fun L R x=>b_ak L (R 127) x) (q02 c_dt q04)
theorem c_dr:CallsAs C 125 f_dr:=mkc (fun L R x=>b_dr L (R 165) x) (q02 c_dv q04)
theorem c_e2:CallsAs C 158 f_e2:=z7w
theorem c_ah:CallsAs C 100 f_ah:=mkc (fun L R x=>b_ah L (R 99) (R 125) (R 158) x) (q02 c_ak (q02 c_dr (q02 c_e2 q04)))
theorem c_ai:CallsAs C 101 f_ai:=mkc (fun L R x=>b_ai L  x) q04
theorem c_an:CallsAs C 102 f_an:=mkc (fun L R x=>b_an L  x) q04
theorem c_aj:CallsAs C 54 f_aj:=mkG (C:=C) (k:=54) (fun L R x=>b_aj L (R 98) (R 99) (R 100) (R 101) (R 102) (R 103) x) (F:=g_aj) (O:=fun g=>(orc1 98 (q0x g) (orc1 99 f_ak (orc1 100 f_ah (orc1 101 f_ai (orc1 102 f_an (orc1 103 f_en orc0))))))) (fun g hg=>(q02 (qbg g hg) (q02 c_ak (q02 c_ah (q02 c_ai (q02 c_an (q02 c_en q04))))))) (fun _ _ _=>by kernel_rfl) (fun _ _=>by kernel_rfl)
theorem c_dp:CallsAs C 56 f_dp:=z79
theorem c_ad:CallsAs C 22 f_ad:=mkc (fun L R x=>b_ad L (R 53) (R 54) (R 56) x) (q02 c_aa (q02 c_aj (q02 c_dp q04)))
theorem c_d1:CallsAs C 8 f_d1:=mkc (fun L R x=>b_d1 L (R 14) (R 22) x) (q02 c_cy (q02 c_ad q04))
theorem c_ab:CallsAs C 23 f_ab:=mkc (fun L R x=>b_ab L (R 53) (R 54) (R 56) x) (q02 c_aa (q02 c_aj (q02 c_dp q04)))
theorem c_cz:CallsAs C 11 f_cz:=mkc (fun L R x=>b_cz L (R 14) (R 23) x) (q02 c_cy (q02 c_ab q04))
theorem c_e8:CallsAs C 45 f_e8:=mkc (fun L R x=>b_e8 L (R 59) x) (q02 c_e9 q04)
theorem c_d0:CallsAs C 17 f_d0:=mkc (fun L R x=>b_d0 L (R 45) (R 46) x) (q02 c_e8 (q02 c_d8 q04))
theorem c_aq:CallsAs C 91 f_aq:=mkc (fun L R x=>b_aq L  x) q04
theorem c_b8:CallsAs C 90 f_b8:=mkc (fun L R x=>b_b8 L (R 91) x) (q02 c_aq q04)
theorem c_b5:CallsAs C 87 f_b5:=mkc (fun L R x=>b_b5 L (R 146) x) (q02 c_az q04)
theorem c_b6:CallsAs C 88 f_b6:=mkc (fun L R x=>b_b6 L (R 148) x) (q02 c_b3 q04)
theorem c_b7:CallsAs C 89 f_b7:=mkc (fun L R x=>b_b7 L (R 150) x) (q02 c_ax q04)
theorem c_b1:CallsAs C 143 f_b1:=mkc (fun L R x=>b_b1 L (R 144) x) (q02 c_ao q04)
theorem c_a8:CallsAs C 173 f_a8:=mkc (fun L R x=>b_a8 L  x) q04
theorem c_dz:CallsAs C 149 f_dz:=mkc (fun L R x=>b_dz L (R 173) x) (q02 c_a8 q04)
theorem c_a7:CallsAs C 190 f_a7:=mkc (fun L R x=>b_a7 L (R 173) x) (q02 c_a8 q04)
theorem c_dx:CallsAs C 174 f_dx:=mkc (fun L R x=>b_dx L (R 190) x) (q02 c_a7 q04)
theorem c_es:CallsAs C 151 f_es:=mkc (fun L R x=>b_es L (R 67) (R 174) x) (q02 c_et (q02 c_dx q04))
theorem c_b2:CallsAs C 152 f_b2:=mkc (fun L R x=>b_b2 L (R 172) x) (q02 c_e0 q04)
theorem c_b0:CallsAs C 92 f_b0:=mkc (fun L R x=>b_b0 L (R 87) (R 88) (R 89) (R 143) (R 145) (R 147) (R 148) (R 149) (R 150) (R 151) (R 152) x) (q02 c_b5 (q02 c_b6 (q02 c_b7 (q02 c_b1 (q02 c_b4 (q02 c_ay (q02 c_b3 (q02 c_dz (q02 c_ax (q02 c_es (q02 c_b2 q04)))))))))))
theorem c_ap:CallsAs C 51 f_ap:=mkc (fun L R x=>b_ap L (R 90) (R 92) x) (q02 c_b8 (q02 c_b0 q04))
theorem c_bh:CallsAs C 94 f_bh:=mkc (fun L R x=>b_bh L  x) q04
theorem c_bk:CallsAs C 95 f_bk:=mkc (fun L R x=>b_bk L  x) q04
theorem c_bi:CallsAs C 175 f_bi:=mkc (fun L R x=>b_bi L (R 170) x) (q02 c_df q04)
theorem c_bn:CallsAs C 177 f_bn:=mkc (fun L R x=>b_bn L  x) q04
theorem c_bc:CallsAs C 179 f_bc:=mkc (fun L R x=>b_bc L (R 131) x) (q02 c_ep q04)
theorem c_bj:CallsAs C 181 f_bj:=mkc (fun L R x=>b_bj L (R 94) (R 95) (R 175) x) (q02 c_bh (q02 c_bk (q02 c_bi q04)))
theorem c_bd:CallsAs C 199 f_bd:=mkc (fun L R x=>b_bd L (R 175) x) (q02 c_bi q04)
theorem c_be:CallsAs C 178 f_be:=mkc (fun L R x=>b_be L (R 94) (R 95) (R 175) (R 177) (R 181) x) (q02 c_bh (q02 c_bk (q02 c_bi (q02 c_bn (q02 c_bj q04)))))
theorem q9i(g:denP (q0c C.sigs 154).ins.tys->Option (denP (q0c C.sigs 154).outs.tys))(hg:CallsAs C 154 g):CallsAs C 205 (q1w g):=mkc (fun L R x=>q2s L (R 131) (R 154) (R 175) (R 177) (R 178) (R 179) (R 181) x) (O:=(orc1 131 f_ep (orc1 154 g (orc1 175 f_bi (orc1 177 f_bn (orc1 178 f_be (orc1 179 f_bc (orc1 181 f_bj orc0)))))))) (q02 c_ep (q02 hg (q02 c_bi (q02 c_bn (q02 c_be (q02 c_bc (q02 c_bj q04)))))))
theorem qbh(g:denP (q0c C.sigs 154).ins.tys->Option (denP (q0c C.sigs 154).outs.tys))(hg:CallsAs C 154 g):CallsAs C 204 (q2g g):=mkc (fun L R x=>q3l L (R 175) (R 177) (R 179) (R 205) x) (O:=(orc1 175 f_bi (orc1 177 f_bn (orc1 179 f_bc (orc1 205 (q1w g) orc0))))) (q02 c_bi (q02 c_bn (q02 c_bc (q02 (q9i g hg) q04))))
theorem c_bf:CallsAs C 154 f_bf:=mkG (C:=C) (k:=154) (fun L R x=>b_bf L (R 94) (R 95) (R 204) x) (F:=g_bf) (O:=fun g=>(orc1 94 f_bh (orc1 95 f_bk (orc1 204 (q2g g) orc0)))) (fun g hg=>(q02 c_bh (q02 c_bk (q02 (qbh g hg) q04)))) (fun _ _ _=>by kernel_rfl) (fun _ _=>by kernel_rfl)
theorem q5g(g:denP (q0c C.sigs 93).ins.tys->Option (denP (q0c C.sigs 93).outs.tys))(hg:CallsAs C 93 g):CallsAs C 180 (q14 g):=mkc (fun L R x=>q2h L (R 93) (R 181) x) (O:=(orc1 93 g (orc1 181 f_bj orc0))) (q02 hg (q02 c_bj q04))
theorem q9j(g:denP (q0c C.sigs 93).ins.tys->Option (denP (q0c C.sigs 93).outs.tys))(hg:CallsAs C 93 g):CallsAs C 202 (q1x g):=mkc (fun L R x=>q2t L (R 93) (R 154) (R 175) (R 179) (R 180) (R 181) x) (O:=(orc1 93 g (orc1 154 f_bf (orc1 175 f_bi (orc1 179 f_bc (orc1 180 (q14 g) (orc1 181 f_bj orc0))))))) (q02 hg (q02 c_bf (q02 c_bi (q02 c_bc (q02 (q5g g hg) (q02 c_bj q04))))))
theorem qa8(g:denP (q0c C.sigs 93).ins.tys->Option (denP (q0c C.sigs 93).outs.tys))(hg:CallsAs C 93 g):CallsAs C 198 (q27 g):=mkc (fun L R x=>q33 L (R 93) (R 94) (R 95) (R 131) (R 175) (R 177) (R 179) (R 181) (R 199) (R 202) x) (O:=(orc1 93 g (orc1 94 f_bh (orc1 95 f_bk (orc1 131 f_ep (orc1 175 f_bi (orc1 177 f_bn (orc1 179 f_bc (orc1 181 f_bj (orc1 199 f_bd (orc1 202 (q1x g) orc0))))))))))) (q02 hg (q02 c_bh (q02 c_bk (q02 c_ep (q02 c_bi (q02 c_bn (q02 c_bc (q02 c_bj (q02 c_bd (q02 (q9j g hg) q04))))))))))
theorem qbi(g:denP (q0c C.sigs 93).ins.tys->Option (denP (q0c C.sigs 93).outs.tys))(hg:CallsAs C 93 g):CallsAs C 191 (q2i g):=mkc (fun L R x=>q3m L (R 179) (R 198) (R 199) x) (O:=(orc1 179 f_bc (orc1 198 (q27 g) (orc1 199 f_bd orc0)))) (q02 c_bc (q02 (qa8 g hg) (q02 c_bd q04)))
theorem c_bl:CallsAs C 192 f_bl:=mkc (fun L R x=>b_bl L (R 63) x) (q02 c_a4 q04)
theorem c_dl:CallsAs C 193 f_dl:=mkc (fun L R x=>b_dl L (R 192) x) (q02 c_bl q04)
theorem c_dh:CallsAs C 203 f_dh:=z76
theorem c_de:CallsAs C 201 f_de:=mkc (fun L R x=>b_de L (R 203) x) (q02 c_dh q04)
theorem c_a3:CallsAs C 200 f_a3:=mkc (fun L R x=>b_a3 L (R 201) x) (q02 c_de q04)
theorem c_a2:CallsAs C 194 f_a2:=mkc (fun L R x=>b_a2 L (R 29) (R 63) (R 200) x) (q02 c_a0 (q02 c_a4 (q02 c_a3 q04)))
theorem c_bm:CallsAs C 195 f_bm:=mkG (C:=C) (k:=195) (fun L R x=>b_bm L (R 179) (R 195) x) (F:=g_bm) (O:=fun g=>(orc1 179 f_bc (orc1 195 g orc0))) (fun g hg=>(q02 c_bc (q02 hg q04))) (fun _ _ _=>by kernel_rfl) (fun _ _=>by kernel_rfl)
theorem qbj(g:denP (q0c C.sigs 93).ins.tys->Option (denP (q0c C.sigs 93).outs.tys))(hg:CallsAs C 93 g):CallsAs C 176 (q2j g):=mkc (fun L R x=>q3n L (R 94) (R 95) (R 175) (R 177) (R 191) (R 193) (R 194) (R 195) x) (O:=(orc1 94 f_bh (orc1 95 f_bk (orc1 175 f_bi (orc1 177 f_bn (orc1 191 (q2i g) (orc1 193 f_dl (orc1 194 f_a2 (orc1 195 f_bm orc0))))))))) (q02 c_bh (q02 c_bk (q02 c_bi (q02 c_bn (q02 (qbi g hg) (q02 c_dl (q02 c_a2 (q02 c_bm q04))))))))
theorem qa9(g:denP (q0c C.sigs 93).ins.tys->Option (denP (q0c C.sigs 93).outs.tys))(hg:CallsAs C 93 g):CallsAs C 155 (q28 g):=mkc (fun L R x=>q34 L (R 93) (R 175) (R 176) (R 177) (R 178) (R 179) (R 180) (R 181) x) (O:=(orc1 93 g (orc1 175 f_bi (orc1 176 (q2j g) (orc1 177 f_bn (orc1 178 f_be (orc1 179 f_bc (orc1 180 (q14 g) (orc1 181 f_bj orc0))))))))) (q02 hg (q02 c_bi (q02 (qbj g hg) (q02 c_bn (q02 c_be (q02 c_bc (q02 (q5g g hg) (q02 c_bj q04))))))))
theorem qaa(g:denP (q0c C.sigs 93).ins.tys->Option (denP (q0c C.sigs 93).outs.tys))(hg:CallsAs C 93 g):CallsAs C 153 (q29 g):=mkc (fun L R x=>q35 L (R 94) (R 95) (R 155) x) (O:=(orc1 94 f_bh (orc1 95 f_bk (orc1 155 (q28 g) orc0)))) (q02 c_bh (q02 c_bk (q02 (qa9 g hg) q04)))
theorem c_bg:CallsAs C 93 f_bg:=mkG (C:=C) (k:=93) (fun L R x=>b_bg L (R 153) x) (F:=g_bg) (O:=fun g=>(orc1 153 (q29 g) orc0)) (fun g hg=>(q02 (qaa g hg) q04)) (fun _ _ _=>by kernel_rfl) (fun _ _=>by kernel_rfl)
theorem c_bb:CallsAs C 52 f_bb:=mkc (fun L R x=>b_bb L (R 28) (R 29) (R 93) (R 94) (R 95) x) (q02 c_e5 (q02 c_a0 (q02 c_bg (q02 c_bh (q02 c_bk q04)))))
theorem c_ba:CallsAs C 20 f_ba:=mkc (fun L R x=>b_ba L (R 29) (R 51) (R 52) x) (q02 c_a0 (q02 c_ap (q02 c_bb q04)))
theorem ql1:CallsAs C 6 q21:=mkc (fun L R x=>q69 L (R 8) (R 11) (R 14) (R 17) (R 20) x) (q02 c_d1 (q02 c_cz (q02 c_cy (q02 c_d0 (q02 c_ba q04)))))
theorem qpy:CallsAs C 7 q5m:=mkc (fun L R x=>qgr L  x) q04
theorem qpz:CallsAs C 9 q3s:=mkc (fun L R x=>qgs L  x) q04
theorem ql2:CallsAs C 10 q2k:=mkc (fun L R x=>qcc L  x) q04
theorem c_bt:CallsAs C 77 f_bt:=mkG (C:=C) (k:=77) (fun L R x=>b_bt L (R 77) x) (F:=g_bt) (O:=fun g=>(orc1 77 g orc0)) (fun g hg=>(q02 hg q04)) (fun _ _ _=>by kernel_rfl) (fun _ _=>by kernel_rfl)
theorem c_bw:CallsAs C 47 f_bw:=mkc (fun L R x=>b_bw L (R 77) x) (q02 c_bt q04)
theorem c_bu:CallsAs C 31 f_bu:=mkc (fun L R x=>b_bu L (R 77) x) (q02 c_bt q04)
theorem c_bs:CallsAs C 48 f_bs:=mkG (C:=C) (k:=48) (fun L R x=>b_bs L (R 31) (R 48) x) (F:=g_bs) (O:=fun g=>(orc1 31 f_bu (orc1 48 g orc0))) (fun g hg=>(q02 c_bu (q02 hg q04))) (fun _ _ _=>by kernel_rfl) (fun _ _=>by kernel_rfl)
theorem c_bq:CallsAs C 135 f_bq:=mkc (fun L R x=>b_bq L  x) q04
theorem c_bp:CallsAs C 78 f_bp:=mkc (fun L R x=>b_bp L (R 135) x) (q02 c_bq q04)
theorem c_cd:CallsAs C 85 f_cd:=mkc (fun L R x=>b_cd L  x) q04
theorem c_cj:CallsAs C 139 f_cj:=mkc (fun L R x=>b_cj L  x) q04
theorem c_cg:CallsAs C 140 f_cg:=mkc (fun L R x=>b_cg L  x) q04
theorem c_c0:CallsAs C 136 f_c0:=mkc (fun L R x=>b_c0 L  x) q04
theorem c_c1:CallsAs C 137 f_c1:=mkc (fun L R x=>b_c1 L (R 136) x) (q02 c_c0 q04)
theorem c_c2:CallsAs C 169 f_c2:=mkc (fun L R x=>b_c2 L  x) q04
theorem c_bx:CallsAs C 138 f_bx:=mkc (fun L R x=>b_bx L (R 169) x) (q02 c_c2 q04)
theorem c_bz:CallsAs C 80 f_bz:=mkc (fun L R x=>b_bz L (R 78) (R 136) (R 137) (R 138) x) (q02 c_bp (q02 c_c0 (q02 c_c1 (q02 c_bx q04))))
theorem c_ce:CallsAs C 141 f_ce:=mkc (fun L R x=>b_ce L (R 80) x) (q02 c_bz q04)
theorem c_cc:CallsAs C 142 f_cc:=mkc (fun L R x=>b_cc L (R 80) x) (q02 c_bz q04)
theorem c_ch:CallsAs C 84 f_ch:=mkc (fun L R x=>b_ch L (R 78) (R 85) (R 139) (R 140) (R 141) (R 142) x) (q02 c_bp (q02 c_cd (q02 c_cj (q02 c_cg (q02 c_ce (q02 c_cc q04))))))
theorem c_ci:CallsAs C 49 f_ci:=mkG (C:=C) (k:=49) (fun L R x=>b_ci L (R 31) (R 49) (R 84) x) (F:=g_ci) (O:=fun g=>(orc1 31 f_bu (orc1 49 g (orc1 84 f_ch orc0)))) (fun g hg=>(q02 c_bu (q02 hg (q02 c_ch q04)))) (fun _ _ _=>by kernel_rfl) (fun _ _=>by kernel_rfl)
theorem c_cf:CallsAs C 86 f_cf:=mkG (C:=C) (k:=86) (fun L R x=>b_cf L (R 31) (R 86) x) (F:=g_cf) (O:=fun g=>(orc1 31 f_bu (orc1 86 g orc0))) (fun g hg=>(q02 c_bu (q02 hg q04))) (fun _ _ _=>by kernel_rfl) (fun _ _=>by kernel_rfl)
theorem c_ck:CallsAs C 50 f_ck:=mkG (C:=C) (k:=50) (fun L R x=>b_ck L (R 31) (R 50) (R 85) (R 86) x) (F:=g_ck) (O:=fun g=>(orc1 31 f_bu (orc1 50 g (orc1 85 f_cd (orc1 86 f_cf orc0))))) (fun g hg=>(q02 c_bu (q02 hg (q02 c_cd (q02 c_cf q04))))) (fun _ _ _=>by kernel_rfl) (fun _ _=>by kernel_rfl)
theorem c_cb:CallsAs C 18 f_cb:=mkc (fun L R x=>b_cb L (R 47) (R 48) (R 49) (R 50) x) (q02 c_bw (q02 c_bs (q02 c_ci (q02 c_ck q04))))
theorem c_c5:CallsAs C 58 f_c5:=mkc (fun L R x=>b_c5 L (R 80) x) (q02 c_bz q04)
theorem c_c3:CallsAs C 27 f_c3:=mkc (fun L R x=>b_c3 L (R 58) x) (q02 c_c5 q04)
theorem c_co:CallsAs C 13 f_co:=mkc (fun L R x=>b_co L (R 18) (R 27) x) (q02 c_cb (q02 c_c3 q04))
theorem c_br:CallsAs C 79 f_br:=mkc (fun L R x=>b_br L  x) q04
theorem c_bo:CallsAs C 33 f_bo:=mkc (fun L R x=>b_bo L (R 78) (R 79) x) (q02 c_bp (q02 c_br q04))
theorem c_cm:CallsAs C 35 f_cm:=mkc (fun L R x=>b_cm L (R 80) x) (q02 c_bz q04)
theorem c_cn:CallsAs C 19 f_cn:=mkG (C:=C) (k:=19) (fun L R x=>b_cn L (R 19) (R 31) (R 33) (R 35) x) (F:=g_cn) (O:=fun g=>(orc1 19 g (orc1 31 f_bu (orc1 33 f_bo (orc1 35 f_cm orc0))))) (fun g hg=>(q02 hg (q02 c_bu (q02 c_bo (q02 c_cm q04))))) (fun _ _ _=>by kernel_rfl) (fun _ _=>by kernel_rfl)
theorem c_cw:CallsAs C 32 f_cw:=mkc (fun L R x=>b_cw L  x) q04
theorem c_by:CallsAs C 34 f_by:=mkc (fun L R x=>b_by L  x) q04
theorem c_bv:CallsAs C 81 f_bv:=mkc (fun L R x=>b_bv L  x) q04
theorem c_cr:CallsAs C 82 f_cr:=mkc (fun L R x=>b_cr L (R 81) x) (q02 c_bv q04)
theorem c_cs:CallsAs C 36 f_cs:=mkc (fun L R x=>b_cs L (R 81) (R 82) x) (q02 c_bv (q02 c_cr q04))
theorem c_cu:CallsAs C 38 f_cu:=mkc (fun L R x=>b_cu L  x) q04
theorem c_cv:CallsAs C 39 f_cv:=mkc (fun L R x=>b_cv L (R 81) (R 82) x) (q02 c_bv (q02 c_cr q04))
theorem c_cx:CallsAs C 37 f_cx:=mkc (fun L R x=>b_cx L (R 38) (R 39) x) (q02 c_cu (q02 c_cv q04))
theorem c_c4:CallsAs C 83 f_c4:=mkc (fun L R x=>b_c4 L  x) q04
theorem c_cp:CallsAs C 40 f_cp:=mkc (fun L R x=>b_cp L (R 83) x) (q02 c_c4 q04)
theorem c_ct:CallsAs C 43 f_ct:=mkc (fun L R x=>b_ct L (R 40) x) (q02 c_cp q04)
theorem q8l(g:denP (q0c C.sigs 16).ins.tys->Option (denP (q0c C.sigs 16).outs.tys))(hg:CallsAs C 16 g):CallsAs C 44 (q1n g):=mkc (fun L R x=>qef L (R 16) (R 32) (R 81) x) (O:=(orc1 16 g (orc1 32 f_cw (orc1 81 f_bv orc0)))) (q02 hg (q02 c_cw (q02 c_bv q04)))
theorem ql3(g:denP (q0c C.sigs 16).ins.tys->Option (denP (q0c C.sigs 16).outs.tys))(hg:CallsAs C 16 g):CallsAs C 41 (q3t g):=mkc (fun L R x=>qeg L (R 40) (R 43) (R 44) x) (O:=(orc1 40 f_cp (orc1 43 f_ct (orc1 44 (q1n g) orc0)))) (q02 c_cp (q02 c_ct (q02 (q8l g hg) q04)))
theorem ql4(g:denP (q0c C.sigs 16).ins.tys->Option (denP (q0c C.sigs 16).outs.tys))(hg:CallsAs C 16 g):CallsAs C 42 (q5y g):=mkG (C:=C) (k:=42) (fun L R x=>qeh L (R 31) (R 38) (R 42) (R 43) (R 44) x) (F:=q47 g) (O:=fun g2=>(orc1 31 f_bu (orc1 38 f_cu (orc1 42 g2 (orc1 43 f_ct (orc1 44 (q1n g) orc0)))))) (fun g2 hc=>(q02 c_bu (q02 c_cu (q02 hc (q02 c_ct (q02 (q8l g hg) q04)))))) (fun _ _ _=>by kernel_rfl) (fun _ _=>by kernel_rfl)
theorem c_cl:CallsAs C 16 f_cl:=mkG (C:=C) (k:=16) (fun L R x=>b_cl L (R 16) (R 19) (R 31) (R 32) (R 33) (R 34) (R 35) (R 36) (R 37) (R 38) (R 39) (R 40) (R 41) (R 42) (R 43) (R 44) x) (F:=g_cl) (O:=fun g=>(orc1 16 g (orc1 19 f_cn (orc1 31 f_bu (orc1 32 f_cw (orc1 33 f_bo (orc1 34 f_by (orc1 35 f_cm (orc1 36 f_cs (orc1 37 f_cx (orc1 38 f_cu (orc1 39 f_cv (orc1 40 f_cp (orc1 41 (q3t g) (orc1 42 (q5y g) (orc1 43 f_ct (orc1 44 (q1n g) orc0))))))))))))))))) (fun g hg=>(q02 hg (q02 c_cn (q02 c_bu (q02 c_cw (q02 c_bo (q02 c_by (q02 c_cm (q02 c_cs (q02 c_cx (q02 c_cu (q02 c_cv (q02 c_cp (q02 (ql3 g hg) (q02 (ql4 g hg) (q02 c_ct (q02 (q8l g hg) q04))))))))))))))))) (fun _ _ _=>by kernel_rfl) (fun _ _=>by kernel_rfl)
theorem c_c8:CallsAs C 24 f_c8:=mkc (fun L R x=>b_c8 L (R 47) x) (q02 c_bw q04)
theorem c_c6:CallsAs C 25 f_c6:=mkG (C:=C) (k:=25) (fun L R x=>b_c6 L (R 25) (R 31) x) (F:=g_c6) (O:=fun g=>(orc1 25 g (orc1 31 f_bu orc0))) (fun g hg=>(q02 hg (q02 c_bu q04))) (fun _ _ _=>by kernel_rfl) (fun _ _=>by kernel_rfl)
theorem c_c9:CallsAs C 104 f_c9:=mkc (fun L R x=>b_c9 L  x) q04
theorem c_ca:CallsAs C 57 f_ca:=mkG (C:=C) (k:=57) (fun L R x=>b_ca L (R 25) (R 31) (R 57) (R 104) x) (F:=g_ca) (O:=fun g=>(orc1 25 f_c6 (orc1 31 f_bu (orc1 57 g (orc1 104 f_c9 orc0))))) (fun g hg=>(q02 c_c6 (q02 c_bu (q02 hg (q02 c_c9 q04))))) (fun _ _ _=>by kernel_rfl) (fun _ _=>by kernel_rfl)
theorem c_c7:CallsAs C 26 f_c7:=mkc (fun L R x=>b_c7 L (R 57) x) (q02 c_ca q04)
theorem c_cq:CallsAs C 12 f_cq:=mkc (fun L R x=>b_cq L (R 13) (R 16) (R 24) (R 25) (R 26) x) (q02 c_co (q02 c_cl (q02 c_c8 (q02 c_c6 (q02 c_c7 q04)))))
theorem c_law08_ShowIs:CallsAs C 0 f_law08_ShowIs:=mkc (fun L R x=>qah L (R 6) (R 7) (R 8) (R 9) (R 10) (R 11) (R 12) (R 13) x) (q02 ql1 (q02 qpy (q02 c_d1 (q02 qpz (q02 ql2 (q02 c_cz (q02 c_cq (q02 c_co q04))))))))
theorem z7a:qhx C C.tab=true:=by kernel_rfl
theorem z83:qop C C.eqs=true:=by kernel_rfl
theorem qzh:qgn C C.sigs=true:=by kernel_rfl
theorem mixed:C.P.follows .mixedOrders=true:=by kernel_rfl
theorem calls{i:Nat}{x:denP (q0c C.sigs i).ins.tys}{y:denP (q0c C.sigs i).outs.tys}(h:Ev.Call C i x y):FnOk C i x y:=z0r z7a z83 qzh mixed h
theorem z7b:qr9 C Rows.showDocsRow.laid:=by
 refine⟨by kernel_rfl,fun g t x h=>?_⟩
 match g with
 |4=>cases h;exact⟨_,_,223,List.Mem.tail _ (List.Mem.tail _ (List.Mem.tail _ (List.Mem.tail _ (List.Mem.tail _ (List.Mem.head _))))),by kernel_rfl,by kernel_rfl,by kernel_rfl,rfl,by kernel_rfl⟩
 |3=>cases h;exact⟨_,_,228,List.Mem.tail _ (List.Mem.tail _ (List.Mem.head _)),by kernel_rfl,by kernel_rfl,by kernel_rfl,rfl,by kernel_rfl⟩
 |0=>cases h
 |1=>cases h
 |2=>cases h
 |n+5=>cases h
theorem seatOk:qra C Rows.showDocsRow.laid:=qww z7a (by kernel_rfl) (by kernel_rfl) (by kernel_rfl) z7b
end Go.Proofs.YtakmoaimmdheeaaGreatDoor.Seat