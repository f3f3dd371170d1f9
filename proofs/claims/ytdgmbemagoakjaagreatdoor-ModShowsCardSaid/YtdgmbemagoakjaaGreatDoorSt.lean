/- The functions of this seat as data: each is what the model's code gives, by the kernel's reckoning over the verified evaluator. -/
import Derived.Test.YtdgmbemagoakjaaGreatDoorFnA
import Derived.Test.YtdgmbemagoakjaaGreatDoorEvJ
import Derived.Test.YtdgmbemagoakjaaGreatDoorProg
import Derived.Test.YtdgmbemagoakjaaGreatDoorSlp
import Derived.Sort.EveryDepth
import Derived.Test.YtdgmbemagoakjaaGreatDoorRows
import Derived.KernelRfl
set_option linter.defProp false
namespace Go.Proofs.YtdgmbemagoakjaaGreatDoor.Fl
open Go Go.Proofs Go.Shelf Go.RowKit Go.Sort Ev Ev.Fn
abbrev t1:Ty:=.int .i64
abbrev t5:Ty:=.st (.pair t1 (.pair .str (.pair t1 t1)))
abbrev t0:Ty:=.sl t5
abbrev t2:Ty:=.st (.pair .str (.pair t1 t1))
abbrev tg:Ty:=.st (.pair .str (.sl t0))
abbrev t6:Ty:=.sl tg
abbrev t3:Ty:=.st (.pair .str (.pair t1 t6))
abbrev tc:Ty:=.sl .str
abbrev t8:Ty:=.st (.pair .str (.pair .bool t0))
abbrev t4:Ty:=.st (.pair .str (.pair tc (.pair (.sl t2) (.pair (.sl t3) (.sl t8)))))
abbrev t7:Ty:=.int .u8
abbrev te:Ty:=.st (.pair .str (.int .u32))
abbrev t9:Ty:=.st (.pair .str (.pair (.sl te) (.pair (.sl t3) (.pair (.sl t2) (.sl (.st (.pair .str t0)))))))
abbrev ta:Ty:=.st (.pair (.int .u16) (.pair (.int .u16) (.int .u16)))
abbrev tb:Ty:=.st (.pair (.int .u32) (.pair (.int .u32) (.int .u32)))
abbrev td:Ty:=.st (.pair t0 (.sl t2))
abbrev tf:Ty:=.st (.pair t0 (.pair t1 (.pair (.sl t2) (.pair t1 (.pair t1 (.pair t1 t1))))))
abbrev th:Ty:=.int .u64
def pS(f:Nat)(a b:List Ty):lr:=⟨f,⟨a.map .d,[]⟩,⟨b.map .d,[]⟩,[]⟩
def sigs:List lr:=[
 pS 3 [t4,.sl t2] [.bool],
 pS 4 [.str,.str,.sl t2] [.bool],
 pS 5 [.str,.str,.str,.sl t2] [.bool],
 pS 6 [] [.bool],
 pS 7 [t4] [.bool],
 pS 8 [.sl t2] [.bool],
 pS 9 [t4,.sl t2] [.str,t1],
 pS 10 [.sl t2] [.sl t2],
 pS 11 [t4] [t1],
 pS 12 [t4] [t1],
 pS 13 [.sl t2] [t1],
 pS 14 [t4,.sl t2] [.str,t1],
 pS 15 [.str,.str,.sl t2] [t4,t1,t1],
 pS 16 [t4,t4] [.bool],
 pS 17 [.str] [tc],
 pS 18 [t9] [.bool],
 pS 19 [.sl t2] [t1],
 ⟨20,⟨[.ptr 0 0,.d .str],[.box [.cX 0,.aY 1],.vec t7]⟩,⟨[.d t1,.iK],[.box [.cX 0,.aY 2],.gone,.vec t7]⟩,[0]⟩,
 ⟨20,⟨[.ptr 0 0,.d .str],[.box [.cX 0,.aY 1,.d .dG,.d t1],.vec t7]⟩,⟨[.d t1,.iK],[.box [.cX 0,.aY 2,.d .dG,.d t1],.gone,.vec t7]⟩,[0]⟩,
 ⟨21,⟨[.d (.sl t2)],[]⟩,⟨[.aY 0],[.vec t2]⟩,[]⟩,
 pS 22 [.sl t2,t2] [.sl t2,t1],
 pS 23 [t3] [.str],
 pS 24 [t0,.sl t2] [.str,t1],
 pS 25 [.str] [.str],
 ⟨26,⟨[.ptr 0 0],[.box [.cX 0,.aY 1],.vec t7]⟩,⟨[.d t1],[.box [.cX 0,.aY 1],.vec t7]⟩,[0,1]⟩,
 ⟨27,⟨[.ptr 0 0],[.box [.cX 0,.aY 1],.vec t7]⟩,⟨[.d .str],[.gone,.gone]⟩,[]⟩,
 ⟨27,⟨[.ptr 0 0],[.box [.cX 0,.aY 1,.d .dG,.d t1],.vec t7]⟩,⟨[.d .str],[.gone,.gone]⟩,[]⟩,
 pS 28 [.str] [.bool],
 pS 29 [.sl t3] [.bool],
 pS 30 [t8] [.bool],
 pS 31 [tc,.str] [.bool],
 pS 32 [.str] [.bool],
 pS 33 [.str] [.bool],
 ⟨34,⟨[.d tc,.fn 32 []],[]⟩,⟨[.d .bool],[]⟩,[]⟩,
 ⟨35,⟨[.d (.sl t8),.fn 36 []],[]⟩,⟨[.d .bool],[]⟩,[]⟩,
 pS 36 [t8] [.bool],
 pS 37 [t8] [.bool],
 pS 38 [.sl t3] [t1],
 pS 39 [tc] [.bool],
 pS 40 [t2] [.bool],
 pS 41 [.sl t2,t2] [.sl t2,t1],
 pS 42 [t1] [.str],
 pS 43 [t0,t1,t1] [.str],
 pS 44 [t0,.sl t2,t1] [.str,t1],
 pS 45 [.str] [.str],
 pS 46 [.str] [t0,t1,t1],
 ⟨47,⟨[.ptr 0 0,.d t0,.d t1],[.box [.d .str,.aY 1,.aY 2,.aY 3,.aY 4,.d (.sl t2)],.vec .str,.vec t2,.vec t3,.vec t8]⟩,⟨[.d t1,.d t1],[.box [.d .str,.aY 5,.aY 6,.aY 7,.aY 8,.d (.sl t2)],.gone,.gone,.gone,.gone,.vec .str,.vec t2,.vec t3,.vec t8]⟩,[0]⟩,
 pS 48 [tc,tc] [.bool],
 pS 49 [.sl t3,.sl t3] [.bool],
 pS 50 [t0,t0] [.bool],
 pS 51 [.sl t3] [.bool],
 ⟨52,⟨[.d (.sl t2),.fn 53 []],[]⟩,⟨[.d .bool],[]⟩,[]⟩,
 pS 53 [t2] [.bool],
 pS 54 [t2] [.bool],
 pS 55 [.sl t2,.str] [t2,.bool],
 ⟨56,⟨[.ptr 0 0],[.box [.cX 0,.aY 1],.vec t7]⟩,⟨[],[.box [.cX 0,.aY 1],.vec t7]⟩,[0,1]⟩,
 ⟨56,⟨[.ptr 0 0],[.box [.cX 0,.aY 1,.d .dG,.d t1],.vec t7]⟩,⟨[],[.box [.cX 0,.aY 1,.d .dG,.d t1],.vec t7]⟩,[0,1]⟩,
 ⟨57,⟨[.aY 0,.fn 58 [.ref t2]],[.vec t2]⟩,⟨[.aY 1],[.gone,.vec t2]⟩,[]⟩,
 ⟨58,⟨[.d t2,.ref t2],[]⟩,⟨[.d .bool],[]⟩,[]⟩,
 ⟨59,⟨[.aY 0,.fn 60 []],[.vec t2]⟩,⟨[],[.vec t2]⟩,[0]⟩,
 pS 60 [t2,t2] [t1],
 pS 61 [.str,.str] [t1],
 pS 62 [t0,t1,.bool,.bool] [.str],
 pS 63 [t0,.sl t2] [t0,t1],
 pS 64 [t0] [.str,t1],
 pS 65 [t5] [.bool],
 pS 66 [.str] [.bool],
 pS 67 [.sl t3] [t1],
 pS 68 [.str] [.bool],
 pS 69 [t0,.bool] [t1],
 pS 70 [.str] [.bool],
 ⟨71,⟨[.d tc,.fn 307 [.ptr 0 0]],[.box [.ptr 1 0],.box [.d t0,.d t1,.d (.sl t2),.d t1,.d t1,.d t1,.d t1]]⟩,⟨[.d t1],[.box [.ptr 1 0],.box [.d t0,.d t1,.d (.sl t2),.d t1,.d t1,.d t1,.d t1]]⟩,[0,1]⟩,
 ⟨71,⟨[.d tc,.fn 32 []],[]⟩,⟨[.d t1],[]⟩,[]⟩,
 ⟨72,⟨[.d (.sl t8),.fn 36 []],[]⟩,⟨[.d t1],[]⟩,[]⟩,
 pS 73 [.str] [.bool],
 pS 74 [t0] [t1],
 ⟨75,⟨[.d (.sl t3),.fn 76 []],[]⟩,⟨[.d .bool],[]⟩,[]⟩,
 ⟨75,⟨[.d (.sl t3),.fn 85 [.ref t5]],[]⟩,⟨[.d .bool],[]⟩,[]⟩,
 pS 76 [t3] [.bool],
 pS 77 [t3] [.bool],
 ⟨78,⟨[.d (.sl t3),.fn 76 []],[]⟩,⟨[.d t1],[]⟩,[]⟩,
 ⟨78,⟨[.d (.sl t3),.fn 79 [.ref t3]],[]⟩,⟨[.d t1],[]⟩,[]⟩,
 ⟨78,⟨[.d (.sl t3),.fn 85 [.ref t5]],[]⟩,⟨[.d t1],[]⟩,[]⟩,
 ⟨79,⟨[.d t3,.ref t3],[]⟩,⟨[.d .bool],[]⟩,[]⟩,
 ⟨80,⟨[.d t1,.d t1,.ptr 0 0],[.box [.d (.sl t3)]]⟩,⟨[.d .bool],[.box [.d (.sl t3)]]⟩,[0]⟩,
 pS 81 [.sl t3,.str] [t1,t1,.bool],
 ⟨82,⟨[.d (.sl t3),.fn 80 [.ptr 0 0]],[.box [.d (.sl t3)]]⟩,⟨[.d .bool],[.box [.d (.sl t3)]]⟩,[0]⟩,
 ⟨82,⟨[.d (.sl t3),.fn 86 [.ptr 0 0,.ptr 1 0]],[.box [.d (.sl t3)],.box [.fn 83 [.ptr 0 0]]]⟩,⟨[.d .bool],[.box [.d (.sl t3)],.box [.fn 83 [.ptr 0 0]]]⟩,[0,1]⟩,
 ⟨82,⟨[.d (.sl t3),.fn 143 [.ref (.sl t3),.ref .str,.ptr 0 0,.ptr 1 0]],[.box [.d t1],.box [.d t1]]⟩,⟨[.d .bool],[.box [.d t1],.box [.d t1]]⟩,[0,1]⟩,
 ⟨83,⟨[.d t5,.ptr 0 0],[.box [.d (.sl t3)]]⟩,⟨[.d .bool],[.box [.d (.sl t3)]]⟩,[0]⟩,
 pS 84 [.str] [.bool],
 ⟨85,⟨[.d t3,.ref t5],[]⟩,⟨[.d .bool],[]⟩,[]⟩,
 ⟨86,⟨[.d t1,.d t1,.ptr 0 0,.ptr 1 0],[.box [.d (.sl t3)],.box [.fn 83 [.ptr 0 0]]]⟩,⟨[.d .bool],[.box [.d (.sl t3)],.box [.fn 83 [.ptr 0 0]]]⟩,[0,1]⟩,
 ⟨87,⟨[.d (.sl t0),.fn 88 [.ptr 0 0]],[.box [.fn 83 [.ptr 1 0]],.box [.d (.sl t3)]]⟩,⟨[.d .bool],[.box [.fn 83 [.ptr 1 0]],.box [.d (.sl t3)]]⟩,[0,1]⟩,
 ⟨87,⟨[.d (.sl t0),.fn 142 [.ptr 0 0]],[.box [.fn 137 [.ptr 1 0]],.box [.d .str,.d t1,.d t6]]⟩,⟨[.d .bool],[.box [.fn 137 [.ptr 1 0]],.box [.d .str,.d t1,.d t6]]⟩,[0,1]⟩,
 ⟨88,⟨[.d t0,.ptr 0 0],[.box [.fn 83 [.ptr 1 0]],.box [.d (.sl t3)]]⟩,⟨[.d .bool],[.box [.fn 83 [.ptr 1 0]],.box [.d (.sl t3)]]⟩,[0,1]⟩,
 ⟨89,⟨[.d t0,.fn 223 []],[]⟩,⟨[.d .bool],[]⟩,[]⟩,
 ⟨89,⟨[.d t0,.fn 83 [.ptr 0 0]],[.box [.d (.sl t3)]]⟩,⟨[.d .bool],[.box [.d (.sl t3)]]⟩,[0]⟩,
 pS 90 [tc,.str] [.bool],
 pS 91 [t5] [.bool],
 pS 92 [t0,t1] [.sl t1],
 pS 93 [.str,.bool] [.str],
 pS 94 [t0,.sl t2] [t1],
 pS 95 [t0,t1,.sl t2] [t0],
 pS 96 [t0] [.bool],
 pS 97 [t0,t1] [.str],
 pS 98 [t0,t1] [.str],
 ⟨99,⟨[.d .str,.fn 122 []],[]⟩,⟨[.d t1],[]⟩,[]⟩,
 ⟨99,⟨[.d .str,.fn 127 []],[]⟩,⟨[.d t1],[]⟩,[]⟩,
 ⟨99,⟨[.d .str,.fn 168 []],[]⟩,⟨[.d t1],[]⟩,[]⟩,
 ⟨99,⟨[.d .str,.fn 100 []],[]⟩,⟨[.d t1],[]⟩,[]⟩,
 pS 100 [t7] [.bool],
 pS 101 [.str] [t5,t1,t1],
 ⟨102,⟨[.d .bool,.ptr 0 0,.ptr 1 0],[.box [.ptr 2 0],.box [.d t0],.box [.d t0,.d t1,.d .bool,.aY 3],.vec .str]⟩,⟨[.d t1,.d t1],[.box [.ptr 2 0],.box [.d t0],.box [.d t0,.d t1,.d .bool,.aY 3],.vec .str]⟩,[0,1,2,3]⟩,
 ⟨103,⟨[.ptr 0 0,.d t1,.d .str],[.box [.d t0,.d t1,.d .bool,.aY 1],.vec .str]⟩,⟨[.d t5],[.box [.d t0,.d t1,.d .bool,.aY 1],.vec .str]⟩,[0,1]⟩,
 ⟨104,⟨[.ptr 0 0],[.box [.d t0,.d t1,.d .bool,.aY 1],.vec .str]⟩,⟨[.d t2],[.box [.d t0,.d t1,.d .bool,.aY 1],.vec .str]⟩,[0,1]⟩,
 ⟨105,⟨[.ptr 0 0],[.box [.d t0,.d t1,.d .bool,.aY 1],.vec .str]⟩,⟨[.d t3],[.box [.d t0,.d t1,.d .bool,.aY 2],.gone,.vec .str]⟩,[0]⟩,
 ⟨106,⟨[.ptr 0 0,.d t1,.d .str],[.box [.d t0,.d t1,.d .bool,.aY 1],.vec .str]⟩,⟨[.d .bool],[.box [.d t0,.d t1,.d .bool,.aY 1],.vec .str]⟩,[0,1]⟩,
 ⟨107,⟨[.ptr 0 0],[.box [.d t0,.d t1,.d .bool,.aY 1],.vec .str]⟩,⟨[.d .str],[.box [.d t0,.d t1,.d .bool,.aY 1],.vec .str]⟩,[0,1]⟩,
 pS 108 [t0,t1,.sl t2] [t0,t1,t1],
 pS 109 [.sl t0,.sl t0] [.bool],
 ⟨110,⟨[.d (.sl t2),.fn 53 []],[]⟩,⟨[.d t1],[]⟩,[]⟩,
 ⟨110,⟨[.d (.sl t2),.fn 111 [.ref .str]],[]⟩,⟨[.d t1],[]⟩,[]⟩,
 ⟨110,⟨[.d (.sl t2),.fn 58 [.ref t2]],[]⟩,⟨[.d t1],[]⟩,[]⟩,
 ⟨111,⟨[.d t2,.ref .str],[]⟩,⟨[.d .bool],[]⟩,[]⟩,
 pS 115 [.str] [.bool],
 pS 116 [t0,t1] [.sl t1],
 ⟨117,⟨[.ptr 0 0,.d t1],[.box [.d t0,.d (.sl t2)]]⟩,⟨[.d t0],[.box [.d t0,.d (.sl t2)]]⟩,[0]⟩,
 pS 118 [t0] [t1],
 ⟨119,⟨[.ptr 0 0,.d t0,.d t1,.d t1,.d .bool],[.box [.cX 0,.aY 1,.d .dG,.d t1],.vec t7]⟩,⟨[.d t1],[.box [.cX 0,.aY 2,.d .dG,.d t1],.gone,.vec t7]⟩,[0]⟩,
 ⟨120,⟨[.fn 124 [],.ref t5],[]⟩,⟨[.d .bool],[]⟩,[]⟩,
 ⟨120,⟨[.fn 125 [],.ref t5],[]⟩,⟨[.d .bool],[]⟩,[]⟩,
 ⟨121,⟨[.d .str,.fn 122 []],[]⟩,⟨[.d .bool],[]⟩,[]⟩,
 ⟨121,⟨[.d .str,.fn 127 []],[]⟩,⟨[.d .bool],[]⟩,[]⟩,
 pS 122 [t7] [.bool],
 pS 123 [.str] [.bool],
 pS 124 [t7] [.bool],
 pS 125 [t7] [.bool],
 pS 126 [t1] [t1],
 pS 127 [t7] [.bool],
 pS 128 [t3] [.bool],
 pS 129 [.sl t3] [tc],
 pS 130 [.str] [.bool],
 pS 131 [.sl t3,t5] [.bool],
 pS 132 [t0] [.bool],
 pS 133 [t0,t1] [t1],
 pS 134 [t0,t1,.bool] [t1],
 pS 135 [t0,t1] [.bool],
 pS 136 [t0,.bool] [t1],
 ⟨137,⟨[.d t0,.ptr 0 0],[.box [.d .str,.d t1,.d t6]]⟩,⟨[.d .bool],[.box [.d .str,.d t1,.d t6]]⟩,[0]⟩,
 ⟨138,⟨[.d t1,.ptr 0 0],[.box [.d .str,.d t1,.d t6]]⟩,⟨[.d .bool],[.box [.d .str,.d t1,.d t6]]⟩,[0]⟩,
 pS 139 [t0] [t1],
 ⟨140,⟨[.d (.sl t1),.fn 138 [.ptr 0 0]],[.box [.d .str,.d t1,.d t6]]⟩,⟨[.d .bool],[.box [.d .str,.d t1,.d t6]]⟩,[0]⟩,
 pS 141 [t0] [.sl t1],
 ⟨142,⟨[.d t0,.ptr 0 0],[.box [.fn 137 [.ptr 1 0]],.box [.d .str,.d t1,.d t6]]⟩,⟨[.d .bool],[.box [.fn 137 [.ptr 1 0]],.box [.d .str,.d t1,.d t6]]⟩,[0,1]⟩,
 ⟨143,⟨[.d t1,.d t1,.ref (.sl t3),.ref .str,.ptr 0 0,.ptr 1 0],[.box [.d t1],.box [.d t1]]⟩,⟨[.d .bool],[.box [.d t1],.box [.d t1]]⟩,[0,1]⟩,
 ⟨144,⟨[.d (.sl t0),.fn 88 [.ptr 0 0]],[.box [.fn 83 [.ptr 1 0]],.box [.d (.sl t3)]]⟩,⟨[.d t1],[.box [.fn 83 [.ptr 1 0]],.box [.d (.sl t3)]]⟩,[0,1]⟩,
 ⟨144,⟨[.d (.sl t0),.fn 142 [.ptr 0 0]],[.box [.fn 137 [.ptr 1 0]],.box [.d .str,.d t1,.d t6]]⟩,⟨[.d t1],[.box [.fn 137 [.ptr 1 0]],.box [.d .str,.d t1,.d t6]]⟩,[0,1]⟩,
 ⟨145,⟨[.d t0,.fn 223 []],[]⟩,⟨[.d t1],[]⟩,[]⟩,
 ⟨145,⟨[.d t0,.fn 83 [.ptr 0 0]],[.box [.d (.sl t3)]]⟩,⟨[.d t1],[.box [.d (.sl t3)]]⟩,[0]⟩,
 pS 146 [tc,.str] [t1],
 pS 147 [t7] [t1],
 pS 148 [.str,t1,t1,t1] [t1],
 pS 149 [.str] [.bool],
 pS 150 [t1] [t1],
 pS 151 [t0,t1] [t1],
 pS 152 [.str] [t0],
 pS 153 [t1] [.str],
 pS 154 [.str] [.str],
 pS 155 [.sl t0] [t0],
 pS 156 [t0] [t0],
 pS 157 [] [t0],
 pS 158 [.sl t0] [t0],
 pS 159 [t0,t1] [.str],
 pS 160 [t0,t1,.sl t2] [t2,.bool],
 pS 161 [t0,t1,.sl t2,t2,t1] [t0],
 ⟨162,⟨[.d t0,.d t1,.d (.sl t2)],[]⟩,⟨[.aY 0,.d t1],[.vec t0]⟩,[]⟩,
 pS 163 [t0,t1,.sl t2] [t1],
 pS 164 [t0,t1,.sl t2,.bool] [t0],
 pS 165 [t0,t1,t1,t1,t1] [.str],
 ⟨166,⟨[.d t1,.d t1,.ref .str],[]⟩,⟨[.d t5,.d t1,.d t1],[]⟩,[]⟩,
 pS 167 [.str,.str] [.bool],
 pS 168 [t7] [.bool],
 pS 169 [.str] [t1,t1],
 pS 170 [.str] [.str,t1],
 ⟨171,⟨[.ptr 0 0],[.box [.d t0,.d t1,.d .bool,.aY 1],.vec .str]⟩,⟨[.d tg],[.box [.d t0,.d t1,.d .bool,.aY 1],.vec .str]⟩,[0,1]⟩,
 ⟨172,⟨[.ptr 0 0],[.box [.d t0,.d t1,.d (.sl t2),.d t1,.d t1,.d t1,.d t1]]⟩,⟨[.d t0],[.box [.d t0,.d t1,.d (.sl t2),.d t1,.d t1,.d t1,.d t1]]⟩,[0]⟩,
 ⟨173,⟨[.ptr 0 0,.d t1,.d t1],[.box [.d t0,.d t1,.d (.sl t2),.d t1,.d t1,.d t1,.d t1]]⟩,⟨[.d t0],[.box [.d t0,.d t1,.d (.sl t2),.d t1,.d t1,.d t1,.d t1]]⟩,[0]⟩,
 ⟨174,⟨[.ptr 0 0,.d t1],[.box [.d t0,.d t1,.d (.sl t2),.d t1,.d t1,.d t1,.d t1]]⟩,⟨[.d t1],[.box [.d t0,.d t1,.d (.sl t2),.d t1,.d t1,.d t1,.d t1]]⟩,[0]⟩,
 pS 185 [t0,t1] [t1],
 ⟨186,⟨[.d t1,.ptr 0 0,.ptr 1 0],[.box [.ptr 2 0],.box [.d t1],.box [.d t0,.d (.sl t2)]]⟩,⟨[.d t0],[.box [.ptr 2 0],.box [.d t1],.box [.d t0,.d (.sl t2)]]⟩,[0,1,2]⟩,
 pS 187 [.str] [t0],
 pS 188 [t1] [.str],
 pS 189 [.str] [.str],
 pS 190 [.str] [.str],
 pS 191 [.sl t0] [t0],
 pS 192 [t0] [t0],
 pS 193 [] [t0],
 ⟨194,⟨[.ptr 0 0,.d t1],[.box [.d t0,.d (.sl t2)]]⟩,⟨[.d t0],[.box [.d t0,.d (.sl t2)]]⟩,[0]⟩,
 ⟨195,⟨[.ref td,.d t1],[]⟩,⟨[.d t1],[]⟩,[]⟩,
 ⟨196,⟨[.ptr 0 0,.d t1],[.box [.d t0,.d (.sl t2)]]⟩,⟨[.d t0],[.box [.d t0,.d (.sl t2)]]⟩,[0]⟩,
 ⟨197,⟨[.ptr 0 0,.d t1],[.box [.d t0,.d (.sl t2)]]⟩,⟨[.d t0],[.box [.d t0,.d (.sl t2)]]⟩,[0]⟩,
 pS 198 [t0] [.bool],
 pS 199 [t5] [.bool],
 ⟨200,⟨[.d t1,.d .bool,.ptr 0 0,.ptr 1 0,.ptr 2 0,.ptr 3 0],[.box [.d t1],.box [.d t1,.d .str,.d t1,.d t1],.box [.ptr 4 0],.box [.d t0],.box [.cX 4,.aY 5,.d .dG,.d t1],.vec t7]⟩,⟨[.d t1],[.box [.d t1],.box [.d t1,.d .str,.d t1,.d t1],.box [.ptr 4 0],.box [.d t0],.box [.cX 4,.aY 6,.d .dG,.d t1],.gone,.vec t7]⟩,[0,1,2,3,4]⟩,
 ⟨201,⟨[.ptr 0 0,.d .str],[.box [.cX 0,.aY 1,.d .dG,.d t1],.vec t7]⟩,⟨[],[.box [.cX 0,.aY 2,.d .dG,.d t1],.gone,.vec t7]⟩,[0]⟩,
 ⟨202,⟨[.ptr 0 0,.d t1],[.box [.cX 0,.aY 1,.d .dG,.d t1],.vec t7]⟩,⟨[],[.box [.cX 0,.aY 2,.d .dG,.d t1],.gone,.vec t7]⟩,[0]⟩,
 ⟨203,⟨[.ptr 0 0,.d t1],[.box [.cX 0,.aY 1,.d .dG,.d t1],.vec t7]⟩,⟨[.d .bool],[.box [.cX 0,.aY 1,.d .dG,.d t1],.vec t7]⟩,[0,1]⟩,
 pS 204 [t0] [t1],
 pS 205 [] [tc],
 pS 206 [.str,t7] [t1],
 pS 207 [t0] [.bool],
 pS 208 [t0] [.sl t1],
 pS 209 [t0,t1,.bool] [t1],
 pS 210 [t1] [.bool],
 ⟨211,⟨[.d t0,.d t1],[]⟩,⟨[.aY 0],[.vec .str]⟩,[]⟩,
 pS 212 [t0] [t1],
 ⟨213,⟨[.d t0,.d t1,.d .bool,.fn 214 [.ref t0]],[]⟩,⟨[.d t1,.d t1],[]⟩,[]⟩,
 ⟨214,⟨[.d t1,.d .bool,.ref t0],[]⟩,⟨[.d t1],[]⟩,[]⟩,
 pS 215 [t0,t1,.bool] [t1],
 ⟨216,⟨[.d t1,.ref t0],[]⟩,⟨[.d .bool],[]⟩,[]⟩,
 pS 217 [t0,t1] [t0,t1],
 ⟨218,⟨[.d t0],[]⟩,⟨[.aY 0],[.vec .str]⟩,[]⟩,
 ⟨219,⟨[.aY 0],[.vec .str]⟩,⟨[],[.vec .str]⟩,[0]⟩,
 ⟨220,⟨[.aY 0],[.vec .str]⟩,⟨[.aY 1],[.gone,.vec .str]⟩,[]⟩,
 pS 221 [t0] [t1],
 pS 222 [t1] [.bool],
 pS 223 [t5] [.bool],
 pS 224 [t5] [.bool],
 ⟨225,⟨[.d (.sl t1),.fn 138 [.ptr 0 0]],[.box [.d .str,.d t1,.d t6]]⟩,⟨[.d t1],[.box [.d .str,.d t1,.d t6]]⟩,[0]⟩,
 pS 226 [.sl t1,t1] [.bool],
 pS 227 [] [tc],
 pS 228 [th] [t1],
 pS 229 [t1] [th],
 pS 230 [t5,.sl t0] [t0],
 pS 231 [.sl t0] [t0],
 pS 232 [.sl t2,.str] [t2,.bool],
 pS 233 [.str,t1] [t1],
 pS 234 [.str,.str] [.bool],
 pS 235 [.str,.str] [.str,.bool],
 ⟨236,⟨[.ptr 0 0],[.box [.d t0,.d t1,.d .bool,.aY 1],.vec .str]⟩,⟨[.d t0],[.box [.d t0,.d t1,.d .bool,.aY 1],.vec .str]⟩,[0,1]⟩,
 ⟨237,⟨[.ptr 0 0],[.box [.d t0,.d t1,.d .bool,.aY 1],.vec .str]⟩,⟨[.d (.sl t0)],[.box [.d t0,.d t1,.d .bool,.aY 1],.vec .str]⟩,[0,1]⟩,
 ⟨238,⟨[.ptr 0 0,.fn 1048815 [.ptr 0 0]],[.box [.d t0,.d t1,.d (.sl t2),.d t1,.d t1,.d t1,.d t1]]⟩,⟨[.d t0],[.box [.d t0,.d t1,.d (.sl t2),.d t1,.d t1,.d t1,.d t1]]⟩,[0]⟩,
 ⟨238,⟨[.ptr 0 0,.fn 1048923 [.ptr 0 0]],[.box [.d t0,.d t1,.d (.sl t2),.d t1,.d t1,.d t1,.d t1]]⟩,⟨[.d t0],[.box [.d t0,.d t1,.d (.sl t2),.d t1,.d t1,.d t1,.d t1]]⟩,[0]⟩,
 ⟨239,⟨[.ptr 0 0],[.box [.d t0,.d t1,.d (.sl t2),.d t1,.d t1,.d t1,.d t1]]⟩,⟨[.d t0],[.box [.d t0,.d t1,.d (.sl t2),.d t1,.d t1,.d t1,.d t1]]⟩,[0]⟩,
 pS 245 [.str] [t0],
 pS 246 [.str,.str,.str,t1] [.str],
 pS 247 [t1,t1] [.str],
 ⟨248,⟨[.ptr 0 0,.d t7],[.box [.cX 0,.aY 1],.vec t7]⟩,⟨[.iK],[.box [.cX 0,.aY 2],.gone,.vec t7]⟩,[0]⟩,
 ⟨248,⟨[.ptr 0 0,.d t7],[.box [.cX 0,.aY 1,.d .dG,.d t1],.vec t7]⟩,⟨[.iK],[.box [.cX 0,.aY 2,.d .dG,.d t1],.gone,.vec t7]⟩,[0]⟩,
 pS 249 [t0] [t0],
 pS 250 [.sl t0] [t0],
 pS 251 [.sl t0] [t0],
 ⟨252,⟨[.d t5,.d (.sl t0)],[]⟩,⟨[.aY 0],[.vec t5]⟩,[]⟩,
 pS 253 [t0,t1,.bool] [.str],
 ⟨254,⟨[.ref td,.d t1],[]⟩,⟨[.d t2,.d .bool],[]⟩,[]⟩,
 ⟨255,⟨[.ptr 0 0,.d t1,.d t2,.d t1],[.box [.d t0,.d (.sl t2)]]⟩,⟨[.d t0],[.box [.d t0,.d (.sl t2)]]⟩,[0]⟩,
 ⟨256,⟨[.ptr 0 0,.d t1,.d .bool],[.box [.d t0,.d (.sl t2)]]⟩,⟨[.d t0],[.box [.d t0,.d (.sl t2)]]⟩,[0]⟩,
 ⟨257,⟨[.d .str,.fn 258 []],[]⟩,⟨[.d .bool],[]⟩,[]⟩,
 pS 258 [.int .i32] [.bool],
 pS 259 [.str,t1] [.str],
 pS 260 [.str] [tc],
 pS 262 [.sl t1,t1] [t1],
 pS 263 [t1] [t1],
 pS 264 [t1,t1] [.bool],
 ⟨265,⟨[.d t1],[]⟩,⟨[.agg [.d .bool,.d .bool,.fa [(73,false),(70,false)],.fa [(323,true),(294,false),(295,false)],.d .bool]],[]⟩,[]⟩,
 pS 267 [.sl t1,t1] [t1],
 pS 268 [.str,.str] [.str,.bool],
 ⟨269,⟨[.ptr 0 0,.d .str],[.box [.d t0,.d t1,.d .bool,.aY 1],.vec .str]⟩,⟨[.d t0],[.box [.d t0,.d t1,.d .bool,.aY 1],.vec .str]⟩,[0,1]⟩,
 ⟨270,⟨[.ptr 0 0],[.box [.d t0,.d t1,.d .bool,.aY 1],.vec .str]⟩,⟨[.d t0],[.box [.d t0,.d t1,.d .bool,.aY 1],.vec .str]⟩,[0,1]⟩,
 ⟨271,⟨[.ptr 0 0],[.box [.d t0,.d t1,.d .bool,.aY 1],.vec .str]⟩,⟨[.d .bool],[.box [.d t0,.d t1,.d .bool,.aY 1],.vec .str]⟩,[0,1]⟩,
 ⟨272,⟨[.ptr 0 0,.d t1,.d t1,.d tc],[.box [.d t0,.d t1,.d (.sl t2),.d t1,.d t1,.d t1,.d t1]]⟩,⟨[.d .bool],[.box [.d t0,.d t1,.d (.sl t2),.d t1,.d t1,.d t1,.d t1]]⟩,[0]⟩,
 ⟨273,⟨[.ptr 0 0],[.box [.d t0,.d t1,.d (.sl t2),.d t1,.d t1,.d t1,.d t1]]⟩,⟨[.d t0],[.box [.d t0,.d t1,.d (.sl t2),.d t1,.d t1,.d t1,.d t1]]⟩,[0]⟩,
 ⟨274,⟨[.ptr 0 0],[.box [.d t0,.d t1,.d (.sl t2),.d t1,.d t1,.d t1,.d t1]]⟩,⟨[.d t5],[.box [.d t0,.d t1,.d (.sl t2),.d t1,.d t1,.d t1,.d t1]]⟩,[0]⟩,
 ⟨275,⟨[.ptr 0 0],[.box [.d t0,.d t1,.d (.sl t2),.d t1,.d t1,.d t1,.d t1]]⟩,⟨[.d .str],[.box [.d t0,.d t1,.d (.sl t2),.d t1,.d t1,.d t1,.d t1]]⟩,[0]⟩,
 pS 276 [t1,.str,.sl t0] [t0],
 ⟨277,⟨[.ptr 0 0,.d .str],[.box [.d t0,.d t1,.d (.sl t2),.d t1,.d t1,.d t1,.d t1]]⟩,⟨[.d t0],[.box [.d t0,.d t1,.d (.sl t2),.d t1,.d t1,.d t1,.d t1]]⟩,[0]⟩,
 ⟨278,⟨[.ptr 0 0,.d .str],[.box [.d t0,.d t1,.d (.sl t2),.d t1,.d t1,.d t1,.d t1]]⟩,⟨[],[.box [.d t0,.d t1,.d (.sl t2),.d t1,.d t1,.d t1,.d t1]]⟩,[0]⟩,
 pS 285 [.sl t0] [t0],
 pS 286 [t1,t0] [t0],
 ⟨287,⟨[.rr td,.ref t1,.ref t2,.ref t1],[]⟩,⟨[.d .bool],[]⟩,[]⟩,
 ⟨288,⟨[.d .str,.fn 258 []],[]⟩,⟨[.d t1],[]⟩,[]⟩,
 ⟨293,⟨[.d t1],[]⟩,⟨[.fn 323 [.ref t1]],[]⟩,[]⟩,
 pS 294 [t1] [.bool],
 pS 295 [t1] [.bool],
 pS 305 [.sl t0,t0] [t0],
 ⟨306,⟨[.ptr 0 0],[.box [.d t0,.d t1,.d (.sl t2),.d t1,.d t1,.d t1,.d t1]]⟩,⟨[.d t0],[.box [.d t0,.d t1,.d (.sl t2),.d t1,.d t1,.d t1,.d t1]]⟩,[0]⟩,
 ⟨307,⟨[.d .str,.ptr 0 0],[.box [.ptr 1 0],.box [.d t0,.d t1,.d (.sl t2),.d t1,.d t1,.d t1,.d t1]]⟩,⟨[.d .bool],[.box [.ptr 1 0],.box [.d t0,.d t1,.d (.sl t2),.d t1,.d t1,.d t1,.d t1]]⟩,[0,1]⟩,
 pS 308 [.sl t2,tc] [.sl t1,t1],
 ⟨309,⟨[.ptr 0 0,.ptr 1 0,.ptr 2 0,.ptr 3 0,.ptr 4 0],[.box [.d (.sl t1)],.box [.d t1],.box [.d (.sl t0)],.box [.d tc],.box [.fn 309 [.ptr 0 0,.ptr 1 0,.ptr 2 0,.ptr 3 0,.ptr 4 0]]]⟩,⟨[.d t0],[.box [.d (.sl t1)],.box [.d t1],.box [.d (.sl t0)],.box [.d tc],.box [.fn 309 [.ptr 0 0,.ptr 1 0,.ptr 2 0,.ptr 3 0,.ptr 4 0]]]⟩,[0,1,2,3,4]⟩,
 ⟨319,⟨[.d .str,.fn 258 [],.d .bool],[]⟩,⟨[.d t1],[]⟩,[]⟩,
 ⟨323,⟨[.d t1,.ref t1],[]⟩,⟨[.d .bool],[]⟩,[]⟩,
 ⟨327,⟨[.ptr 0 0],[.box [.d t0,.d t1,.d (.sl t2),.d t1,.d t1,.d t1,.d t1]]⟩,⟨[.d t0],[.box [.d t0,.d t1,.d (.sl t2),.d t1,.d t1,.d t1,.d t1]]⟩,[0]⟩,
 ⟨328,⟨[.ptr 0 0],[.box [.d t0,.d t1,.d (.sl t2),.d t1,.d t1,.d t1,.d t1]]⟩,⟨[.d .bool],[.box [.d t0,.d t1,.d (.sl t2),.d t1,.d t1,.d t1,.d t1]]⟩,[0]⟩,
 ⟨329,⟨[.ptr 0 0,.ptr 1 0],[.box [.aY 2],.box [.aY 3],.vec t1,.vec (.sl t1)]⟩,⟨[],[.box [.aY 4],.box [.aY 5],.gone,.gone,.vec t1,.vec (.sl t1)]⟩,[0,1]⟩,
 ⟨330,⟨[.d (.sl (.sl t1))],[]⟩,⟨[.aY 0],[.vec t1]⟩,[]⟩,
 ⟨342,⟨[.ptr 0 0],[.box [.d t0,.d t1,.d (.sl t2),.d t1,.d t1,.d t1,.d t1]]⟩,⟨[.d t0],[.box [.d t0,.d t1,.d (.sl t2),.d t1,.d t1,.d t1,.d t1]]⟩,[0]⟩,
 ⟨343,⟨[.d (.sl t1),.d t1],[]⟩,⟨[.aY 0],[.vec t1]⟩,[]⟩,
 ⟨347,⟨[.ptr 0 0],[.box [.d t0,.d t1,.d (.sl t2),.d t1,.d t1,.d t1,.d t1]]⟩,⟨[.d t0],[.box [.d t0,.d t1,.d (.sl t2),.d t1,.d t1,.d t1,.d t1]]⟩,[0]⟩,
 ⟨348,⟨[.ptr 0 0],[.box [.d t0,.d t1,.d (.sl t2),.d t1,.d t1,.d t1,.d t1]]⟩,⟨[.d t0],[.box [.d t0,.d t1,.d (.sl t2),.d t1,.d t1,.d t1,.d t1]]⟩,[0]⟩]
def zk0:List Int:=[0,0,0,0,0,0,0,0,0,1,1,1,1,1,0,0,0,0,0,0,0,0,0,0,0,0,0,0,0,0,0,0,1,0,0,0,0,0,0,0,0,0,0,0,0,0,0,0,0,0,0,0,0,0,0,0,0,0,0,0,0,0,0,0,0,0,0,0,0,0,0,0,0,0,0,0,0,0,0,0,0,0,0,0,0,0,0,0,0,0,0,0,0,0,0,0,0,0,0,0,0,0,0,0,0,0,0,0,0,0,0,0,0,0,0,0,0,0,0,0,0,0,0,0,0,0,0,0,0,0,0,0,0,0,0,0,0,0,0,0,0,0,0,0,0,0,0,0,0,0,0,0,0,0,0,0,0,0,0,0,0,0,0,0,0,0,0,0,0,0,0,0,0,0,0,0,0,0,0,0,0,0,0,0,0,0,0,0,0,0,0,0,0,0,0,0,0,0,0,0,0,0,0,0,0,0,0,0,0,0,0,0,0,0,0,0,0,0,0,0,0,0,0,0,0,0,0,0,0,0,0,0,0,0,0,0,0,0,0,0,0,0,0,0,0,0,0,0,0,0,0,0,0,0,0,0]
def zi8:List Int:=[1,10,100,1000,10000,100000,1000000,10000000,100000000,1000000000,10000000000,100000000000,1000000000000,10000000000000,100000000000000,1000000000000000,10000000000000000,100000000000000000,1000000000000000000,10000000000000000000]
def lu:Nat->Option ((t:Ty)×den t)
 |0=>some ⟨.arr 256 (.int .u8),zk0⟩
 |5=>some ⟨.arr 20 (.int .u64),zi8⟩
 |_=>none
def eY:List (Nat×Ty):=[
 (2,t1),
 (3,t1),
 (4,.bool),
 (5,t7),
 (6,t7),
 (7,(.st (.pair t1 (.pair t1 (.pair .bool t7))))),
 (8,(.st (.pair t1 (.pair t1 (.pair .bool t7))))),
 (9,.str),
 (10,.str),
 (11,.str),
 (12,th),
 (13,(.st (.pair .str th))),
 (14,(.st (.pair .str th))),
 (21,(.int .i32)),
 (22,tc),
 (23,(.sl t2)),
 (24,(.sl t3)),
 (25,(.sl t8)),
 (26,t4),
 (27,t4),
 (31,t1),
 (45,(.sl te)),
 (46,(.sl (.st (.pair .str t0)))),
 (47,t9),
 (48,t9),
 (49,t0),
 (50,t8),
 (51,t8),
 (52,t1),
 (53,t5),
 (54,t5),
 (55,t2),
 (56,t2),
 (58,(.sl t7)),
 (65,(.arr 3 .str)),
 (68,t6),
 (69,t3),
 (70,t3),
 (86,(.sl t0)),
 (87,tg),
 (88,tg),
 (91,t0),
 (95,(.st (.pair t4 (.sl t2)))),
 (96,(.st (.pair t4 (.sl t2)))),
 (97,t1),
 (98,t5),
 (99,t5),
 (105,(.int .u32)),
 (106,te),
 (107,te),
 (108,(.st (.pair .str t0))),
 (109,(.st (.pair .str t0))),
 (138,(.sl t1)),
 (149,(.st (.pair t0 (.pair t1 (.pair .bool tc))))),
 (150,(.st (.pair t0 (.pair t1 (.pair .bool tc))))),
 (164,th),
 (166,td),
 (167,td),
 (170,.dG),
 (210,tf),
 (211,tf),
 (215,t1),
 (224,th),
 (226,t1),
 (252,th),
 (268,.fG),
 (289,(.arr 256 t7)),
 (301,(.arr 24 t7)),
 (310,(.sl (.st (.pair t1 t1)))),
 (311,(.st (.pair t1 t1))),
 (312,(.st (.pair t1 t1))),
 (317,(.sl (.sl t1))),
 (320,(.st (.pair t7 t7))),
 (321,(.st (.pair t7 t7))),
 (322,(.arr 16 (.st (.pair t7 t7)))),
 (324,(.arr 20 th)),
 (325,(.arr 65 t7)),
 (326,(.sl ta)),
 (327,(.sl tb)),
 (328,(.st (.pair (.sl ta) (.pair (.sl tb) t1)))),
 (329,(.st (.pair (.sl ta) (.pair (.sl tb) t1)))),
 (330,(.int .u16)),
 (331,ta),
 (332,ta),
 (334,tb),
 (335,tb),
 (342,(.arr 32 t7)),
 (343,(.arr 64 t7)),
 (349,t7),
 (350,t7),
 (352,(.int .i32)),
 (353,(.int .i32))]
def eqs:List Nat:=[54,56]
noncomputable def C:Cx:=⟨Tryz.prog,sigs,lu,eY,eqs,60,172⟩
def VB:Tryz.prog.underlying 57=some (.pointer 60):=by kernel_rfl
def Kc:Tryz.prog.underlying 160=some .unsafePointer:=by kernel_rfl
def i87:(Tryz.prog.info? 60).map (fun x=>x.size)=some 2:=by kernel_rfl
def zk1:liesAt Tryz.prog Tryz.prog.depth 60 (2 / Tryz.prog.cellsOf 60) 0 60 1=true:=by kernel_rfl
set_option maxHeartbeats 1000000 in
set_option maxRecDepth 100000 in
def zaq(b:Nat)(w:World)(h0:w.cell? ⟨b,0,none⟩=some (.pointer (some ⟨b,0,none⟩))):Calls Tryz.prog 56 #[.pointer (some ⟨b,0,none⟩)] w fun e w'=>e=.returned (.tuple #[])/\w'=w:=by
 obtain⟨j,hj,_⟩:=Option.map_eq_some_iff.1 i87
 go_enter Tryz.func56,Tryz.ntmps56
 go_wp2
 rw[Lib.run_neq_ptr_same w _ VB hj]
 go_wp2
 go_end0
 exact⟨rfl,rfl⟩
set_option maxHeartbeats 1000000 in
set_option maxRecDepth 100000 in
def ze1(b:Nat)(w:World)(h0:w.cell? ⟨b,0,none⟩=some (.pointer none))(hc:w.shape? b=some (60,2))(hf:w.frozen? ⟨b,0,none⟩=false):Calls Tryz.prog 56 #[.pointer (some ⟨b,0,none⟩)] w fun e w'=>e=.returned (.tuple #[])/\w'=w.setCell ⟨b,0,none⟩ (.pointer (some ⟨b,0,none⟩)):=by
 obtain⟨j,hj,he⟩:=Option.map_eq_some_iff.1 i87
 go_enter Tryz.func56,Tryz.ntmps56
 go_wp2
 rw[Lib.run_to_unsafe w ⟨b,0,none⟩ VB Kc hj (by rw[he];decide) hc (Nat.zero_lt_succ 1)];simp only[Result.andThen];rw[Oper.upon_value]
 go_wp2
 rw[run_callFunc_extern Tryz.func112 (by kernel_rfl) (by kernel_rfl) (by kernel_rfl) (e:=Extern.AbiNoEscape.same) (by kernel_rfl)];rw[Lib.run_noEscape];simp only[Result.andThen];rw[Oper.upon_value]
 go_wp2
 rw[Lib.run_from_unsafe w ⟨b,0,none⟩ Kc VB hj hc zk1];simp only[Result.andThen];rw[Oper.upon_value]
 go_wp2
 go_end0
 exact⟨rfl,rfl⟩
def zk2:liesAt Tryz.prog Tryz.prog.depth 172 (4 / Tryz.prog.cellsOf 172) 0 60 1=true:=by kernel_rfl
set_option maxHeartbeats 1000000 in
set_option maxRecDepth 100000 in
def zar(b:Nat)(w:World)(h0:w.cell? ⟨b,0,none⟩=some (.pointer none))(hc:w.shape? b=some (172,4))(hf:w.frozen? ⟨b,0,none⟩=false):Calls Tryz.prog 56 #[.pointer (some ⟨b,0,none⟩)] w fun e w'=>e=.returned (.tuple #[])/\w'=w.setCell ⟨b,0,none⟩ (.pointer (some ⟨b,0,none⟩)):=by
 obtain⟨j,hj,he⟩:=Option.map_eq_some_iff.1 i87
 go_enter Tryz.func56,Tryz.ntmps56
 go_wp2
 rw[Lib.run_to_unsafe w ⟨b,0,none⟩ VB Kc hj (by rw[he];decide) hc (Nat.zero_lt_succ 3)];simp only[Result.andThen];rw[Oper.upon_value]
 go_wp2
 rw[run_callFunc_extern Tryz.func112 (by kernel_rfl) (by kernel_rfl) (by kernel_rfl) (e:=Extern.AbiNoEscape.same) (by kernel_rfl)];rw[Lib.run_noEscape];simp only[Result.andThen];rw[Oper.upon_value]
 go_wp2
 rw[Lib.run_from_unsafe w ⟨b,0,none⟩ Kc VB hj hc zk2];simp only[Result.andThen];rw[Oper.upon_value]
 go_wp2
 go_end0
 exact⟨rfl,rfl⟩
def zf9:Tryz.prog.follows .mixedOrders=true:=by kernel_rfl
set_option maxHeartbeats 2000000 in
set_option maxRecDepth 100000 in
def zas:qy8 Tryz.prog 27 58 122 3 9 5 where
 walk:=by
  intro b base q n cap bs w w2 c1 hf hg;have mixed:=zf9
  go_enter Tryz.func27,Tryz.ntmps27
  go_wp2
  go_region_o
  all_goals (go_wp2;go_ret;exact⟨rfl,rfl⟩)
 Ci:=by
  intro b a cs el fz w hc he sh hj;have hg:∀(W:World) (q:Option Addr),(Builtin.unsafeString_ #[122,3] 9 #[.pointer q,.int .i64 0]).run Tryz.prog W=.ok (.string .empty) W:=fun W q=>Lib.run_unsafeString_none W _ _ _ q;have hk:b<w.heap.size:=(Array.getElem?_eq_some_iff.1 hc).1;have c1:w.drew.cell? ⟨b,1,none⟩=some (.slice (some a) 0 0):=by have:w.drew.heap[b]?=some (.cells cs el fz):=hc;simp only[World.cell?,this];exact he
  have hf:(Builtin.unsafeSliceData_ #[58] 122 #[.slice (some a) 0 0]).run Tryz.prog w.drew=.ok (.pointer (some ⟨w.drew.heap.size,0,none⟩)) (w.drew.alloc (.view a 5)):=Lib.run_unsafeSliceData_zero w.drew _ _ 5 (by kernel_rfl) a 0 sh hj;have c2:(w.drew.alloc (.view a 5)).cell? ⟨b,1,none⟩=some (.slice (some a) 0 0):=by have:(w.drew.alloc (.view a 5)).heap[b]?=_:=(Lib.alloc_old w.drew _ b hk).trans hc;simp only[World.cell?,this];exact he
  have c3:(w.alloc (.view a 5)).drew.cell? ⟨b,1,none⟩=some (.slice (some a) 0 0):=c2;have c0:w.cell? ⟨b,1,none⟩=some (.slice (some a) 0 0):=c1;have mixed:=zf9
  go_enter Tryz.func27,Tryz.ntmps27
  go_wp2
  go_region_o
  all_goals (go_wp2;go_ret;exact⟨rfl,rfl⟩)
set_option maxHeartbeats 1000000 in
set_option maxRecDepth 100000 in
def ze2(s:ByteArray)(W:World):Calls Tryz.prog 115 #[.string s] W fun e w'=>e=.returned (.bool false)/\w'=W:=by
 go_enter Tryz.func115,Tryz.ntmps115
 go_wp2
 go_ret
 exact⟨rfl,rfl⟩
def ze3{P:Program}(t:TypeId)(a b:ByteArray)(w:World):(binOp .gtr t (.string a) (.string b)).run P w=.ok (.bool (!(Op.bytesLess a.toList b.toList||a.toList==b.toList))) w:=by simp[binOp,Op.stringOp,pure]
def Bo(s t:ByteArray):Int:=bif Op.bytesLess s.toList t.toList then -1 else bif !(Op.bytesLess s.toList t.toList||s.toList==t.toList) then 1 else 0
set_option maxHeartbeats 1000000 in
set_option maxRecDepth 100000 in
def zi9(s t:ByteArray)(W:World):Calls Tryz.prog 61 #[.string s,.string t] W fun e w'=>e=.returned (.int .i64 (Bo s t))/\w'=W:=by
 have h:=ze2;unfold Bo
 go_enter Tryz.func61,Tryz.ntmps61
 go_wp2_with (go_at_call 115;refine(h _ _).mono ?_;rintro e w' ⟨rfl,rfl⟩)
 ·go_ret
  rename_i e1;exact⟨by rw[e1];rfl,rfl⟩
 ·rename_i e1 _ _ _ _ _ _;rw[ze3];simp only[Result.andThen];rw[Oper.upon_value];generalize hg:(!(Op.bytesLess s.toList t.toList||s.toList==t.toList))=g
  go_wp2
  ·go_ret
   rename_i e2;rw[e2,e1] at hg;exact⟨by rw[e1,hg];rfl,rfl⟩
  ·go_ret
   rename_i e2;rw[e2,e1] at hg;exact⟨by rw[e1,hg];rfl,rfl⟩
def zia(W:World)(a b:Go.Obj):(W.alloc a).alloc b=grow (W.drewN 0) #[a,b]:=by simp only[alloc_eq_grow,grow_grow];rfl
set_option maxHeartbeats 1000000 in
set_option maxRecDepth 100000 in
def z5e(n m p q:Int)(s t:ByteArray)(W:World):Calls Tryz.prog 60 #[.agg #[.string s,.int .i64 n,.int .i64 m],.agg #[.string t,.int .i64 p,.int .i64 q]] W fun e w'=>e=.returned (.int .i64 (Bo s t))/\∃q os',w'=grow (W.drewN q) os':=by
 have h:=zi9;generalize Bo=f at h ⊢
 go_enter Tryz.func60,Tryz.ntmps60
 go_wp2_with (go_at_call 61;refine(h _ _ _).mono ?_;rintro e w' ⟨rfl,rfl⟩)
 go_ret
 exact⟨rfl,0,_,zia _ _ _⟩
abbrev VC:Ty:=.st (.pair .str (.pair (.int .i64) (.int .i64)))
abbrev FT(m:List ak):={x:ak // x∈m}
def yC(l:List Int):ByteArray:=⟨(l.map fun b=>UInt8.ofNat b.toNat).toArray⟩
def Bp(x:ak):List Value:=[.string (yC x.1),.int .i64 x.2.1,.int .i64 x.2.2]
def qg6(l:List Int)(h:∀b,b∈l->0<=b/\b<=255):(yC l).data.toList.map (fun b=>(b.toNat:Int))=l:=by
 show(l.map fun b=>UInt8.ofNat b.toNat).map (fun b=>(b.toNat:Int))=l;rw[zS]
 induction l with
 |nil=>rfl
 |cons a l ih=>rw[zN,ih fun b hb=>h b (zh _ hb)];obtain⟨h0,h1⟩:=h a (zg ..);congr 1;show((UInt8.ofNat a.toNat).toNat:Int)=a;rw[UInt8.toNat_ofNat',Nat.mod_eq_of_lt om];omega
def z5f(s:ByteArray):yC (s.data.toList.map fun b=>(b.toNat:Int))=s:=quq s
def adC(imm:Nat->Prop)(w:World)(x:ak)(hx:y0 x=true)(cs:List Value):aE imm w VC x cs↔cs=Bp x:=by
 obtain⟨s,n,m⟩:=x;obtain⟨h5,h6,⟨h3,h4⟩,h7,h8⟩:=qot hx;constructor
 ·rintro⟨c1,d1,e1,⟨t,e3,h1,h2⟩,c2,d2,e2,g2,g3⟩;have h1:t.data.toList.map (fun b=>(b.toNat:Int))=s:=h1;obtain⟨g2,_⟩:=g2;have g2:c2=[.int .i64 n]:=g2;obtain⟨g3,_⟩:=g3;have g3:d2=[.int .i64 m]:=g3;subst e1 e2 e3 h1 g2 g3;show _=[Value.string (yC _),_,_];rw[z5f];rfl
 ·intro e;subst e;refine⟨[.string (yC s)],_,rfl,⟨yC s,rfl,qg6 s h5,?_⟩,[.int .i64 n],_,rfl,⟨rfl,h3,h4⟩,rfl,h7,h8⟩;show(s.map fun b=>UInt8.ofNat b.toNat).toArray.size<=_;simpa[cv] using h6
def cfF(m:List ak)(x y:FT m):Int:=Bo (yC x.1.1) (yC y.1.1)
def VD{m:List ak}(hm:∀x,x∈m->y0 x=true)(x y:FT m):ltOf (cfF m) x y=fT x.1 y.1:=by have hs:=qg6 x.1.1 (qot (hm _ x.2)).1;have ht:=qg6 y.1.1 (qot (hm _ y.2)).1;have h:=qnp (yC x.1.1).data.toList (yC y.1.1).data.toList;rw[hs,ht] at h;unfold ltOf cfF Bo fT;rw[h,ByteArray.toList_eq,ByteArray.toList_eq];cases Op.bytesLess (yC x.1.1).data.toList (yC y.1.1).data.toList<;>cases ((yC x.1.1).data.toList==(yC y.1.1).data.toList)<;>rfl
def adD{m:List ak}(hm:∀x,x∈m->y0 x=true):Go.Sort.SWO (ltOf (cfF m)) where
 irrefl x:=by rw[VD hm];exact Q8 _
 trans x y z h1 h2:=by rw[VD hm] at*;exact KK _ _ _ h1 h2
 ntrans x y z h1 h2:=by
  rw[VD hm] at*
  unfold fT at*
  cases h:strLt x.1.1 z.1.1 with
  |false=>rfl
  |true=>
   exfalso;cases h3:strLt y.1.1 x.1.1 with
   |true=>rw[KK _ _ _ h3 h] at h2;cases h2
   |false=>have e:=KL _ _ h1 h3;rw[e] at h;rw[h] at h2;cases h2
def zk3:ai (aQ C.sigs 223).ins.aS->Option (ai (aQ C.sigs 223).outs.aS):=fun x=>bif x.1.l.all yZ&&decide (x.1.l.length<4611686018427387904) then some ((⟨x.1.nil,x.1.l.mergeSort fun a b=>!strLt b a⟩:Sl (List Int)),()) else none
def zkx:ai (aQ C.sigs 210).ins.aS->Option (ai (aQ C.sigs 210).outs.aS):=fun x=>some (qy x.2.1 x.1,())
def zk4:ai (aQ C.sigs 297).ins.aS->Option (ai (aQ C.sigs 297).outs.aS):=fun x=>bif x.1.nil&&x.1.l.isEmpty&&decide (0<=x.2.1)&&decide (x.2.1<=1000000) then some ((⟨decide (x.2.1=0),([]:List Int)⟩:Sl Int),()) else none
def zky:ai (aQ C.sigs 247).ins.aS->Option (ai (aQ C.sigs 247).outs.aS):=fun x=>bif decide (x.2.1=10)&&(decide (-9223372036854775808<=x.1)&&decide (x.1<=9223372036854775807)) then some (sn x.1,()) else none
def zkz:ai (aQ C.sigs 246).ins.aS->Option (ai (aQ C.sigs 246).outs.aS):=fun x=>bif (x.2.1==[45])&&((x.2.2.1==[126])&&(decide (x.2.2.2.1=1)&&decide (x.1.length<=1000))) then some (jN x.1,()) else none
def zl0:aa C 210 zkx:=by intro x y h;obtain⟨l,c,u⟩:=x;have h:some ((qy c l,()):Int×Unit)=some y:=h;injection h with h;subst h;exact Call.lD 210 _ _ (zis (C:=C) (f:=206) ⟨_,Tryz.func206,by kernel_rfl⟩ (fun s c w=>Any.strings_IndexByte Tryz.ixL s c w) l c)
def zk5:aa C 297 zk4:=by
 intro x y h;obtain⟨⟨nil,l⟩,n,u⟩:=x;have h:(bif nil&&l.isEmpty&&decide (0<=n)&&decide (n<=1000000) then some ((⟨decide (n=0),([]:List Int)⟩,()):Sl Int×Unit) else none)=some y:=h;cases hb:(nil&&l.isEmpty&&decide (0<=n)&&decide (n<=1000000)) with
 |false=>rw[hb] at h;cases h
 |true=>
  rw[hb] at h;injection h with h;subst h;simp only[ze,decide_eq_true_eq] at hb;obtain⟨⟨⟨h1,h2⟩,h3⟩,h4⟩:=hb;subst h1;obtain rfl:l=[]:=List.isEmpty_iff.1 h2;obtain⟨k,rfl⟩:=Int.eq_ofNat_of_zero_le h3;have h4:(k:Int)<=1000000:=h4;have hc:(Tryz.prog.info? (Tryz.growL_ren.t 25)).map (fun i=>(i.zero,i.size,i.bytes))=some (some (.int .i64 0),1,8):=by kernel_rfl
  obtain⟨i0,i1,i2⟩:=Option.map_eq_some_iff.1 hc;injection i2 with i2 i3;injection i3 with i3 i4;have key:=zc5 (C:=C) (f:=343) ⟨_,Tryz.func343,by kernel_rfl⟩
   (fun w=>Any8.slices_Grow_room Tryz.growL none 0 0 0 w (Nat.le_refl _) dc dc (Nat.le_refl _))
   (fun n w hn he=>by have g:=Any8.slices_Grow_grow Tryz.growL i0 (.int .i64 0) i1 i2 om none 0 0 n [] w (Nat.le_refl _) om (by rw[i4];omega) om (by rw[i3];rfl) (fun _=>rfl) (fun a h=>by cases h);refine Calls.mono g fun e w' ⟨e1,e2⟩=>⟨_,_,_,e1,e2,?_⟩;simp[Builtin.zeroCells];have hs:(Value.int IntKind.i64 0).cells.size=1:=rfl;rw[hs];omega) k om
  have e:decide ((k:Int)=0)=decide (k=0):=decide_eq_decide.2 om;rw[e];exact Call.lD 297 _ _ key
def zl1:aa C 247 zky:=by
 intro x y h;obtain⟨n,k,u⟩:=x;have h:(bif decide (k=10)&&(decide (-9223372036854775808<=n)&&decide (n<=9223372036854775807)) then some ((sn n,()):List Int×Unit) else none)=some y:=h;cases hb:(decide (k=10)&&(decide (-9223372036854775808<=n)&&decide (n<=9223372036854775807))) with
 |false=>rw[hb] at h;cases h
 |true=>
  rw[hb] at h;injection h with h;subst h;simp only[ze,decide_eq_true_eq] at hb;obtain⟨rfl,h2,h3⟩:=hb;have ht:zi8=Lib.pow10Tab:=dc
  exact Call.lD 247 _ _ (zgl (C:=C) (f:=247) ⟨_,Tryz.func247,by kernel_rfl⟩ (g:=5) (m:=20) (zs:=zi8) (by kernel_rfl) rfl
   (fun n h0 h1 w hc=>Any.strconv_FormatInt_10 Tryz.fmtL n h0 h1 w (by rw[<-ht];exact hc)) n h2 h3)
def ze4:Builder.Extra Tryz.prog Tryz.repL_ren where
 sizeBuilder:=by kernel_rfl
 liesBuilder:=by kernel_rfl
 t5:=Tryz.repL.t5
 a5:=Tryz.repL.a5
 z5:=Tryz.repL.z5
 v5:=Tryz.repL.v5
 infoByte:=by kernel_rfl
 cellsByte:=by kernel_rfl
 sizeByte:=by kernel_rfl
 neB5:=dc
def zl2:aa C 246 zkz:=by
 intro x y h;obtain⟨l,a,b,k,u⟩:=x;have h:(bif (a==[45])&&((b==[126])&&(decide (k=1)&&decide (l.length<=1000))) then some ((jN l,()):List Int×Unit) else none)=some y:=h;cases hb:((a==[45])&&((b==[126])&&(decide (k=1)&&decide (l.length<=1000)))) with
 |false=>rw[hb] at h;cases h
 |true=>rw[hb] at h;injection h with h;subst h;simp only[ze,decide_eq_true_eq,beq_iff_eq] at hb;obtain⟨rfl,rfl,rfl,h3⟩:=hb;exact Call.lD 246 _ _ (zgm (C:=C) (f:=246) ⟨_,Tryz.func246,by kernel_rfl⟩ (fun s w hs=>zcb Tryz.repL ze4 s w hs) l h3)
def yD(x:List UInt8):List Int:=x.map fun b=>(b.toNat:Int)
def RF(l:List Int):List UInt8:=l.map fun b=>UInt8.ofNat b.toNat
def qrw:∀x y:List UInt8,yD x=yD y->x=y
 |[],[],_=>rfl
 |[],_::_,h=>by cases h
 |_::_,[],h=>by cases h
 |a::x,b::y,h=>by injection h with h1 h2;have h1:(a.toNat:Int)=(b.toNat:Int):=h1;have e:a=b:=UInt8.toNat_inj.1 om;rw[qrw x y h2,e]
def qkr:∀l:List Int,(∀b,b∈l->0<=b/\b<=255)->yD (RF l)=l
 |[],_=>rfl
 |a::l,h=>by obtain⟨h0,h1⟩:=h a (zg ..);show(((UInt8.ofNat a.toNat).toNat:Nat):Int)::yD (RF l)=_;rw[qkr l fun b hb=>h b (zh _ hb),UInt8.toNat_ofNat',Nat.mod_eq_of_lt om];congr 1;omega
def qrx:∀x y:List UInt8,strLt (yD x) (yD y)=decide (x<y)
 |[],[]=>rfl
 |[],b::y=>by show true=_;exact(zt (List.nil_lt_cons b y)).symm
 |a::x,[]=>by show false=_;exact(zo (List.not_lt_nil _)).symm
 |a::x,b::y=>by
  show(decide ((a.toNat:Int)<(b.toNat:Int))||(decide ((a.toNat:Int)=(b.toNat:Int))&&strLt (yD x) (yD y)))=_;rw[qrx x y,Bool.eq_iff_iff,decide_eq_true_eq,List.cons_lt_cons_iff];simp only[Bool.or_eq_true,ze,decide_eq_true_eq];have e1:((a.toNat:Int)<(b.toNat:Int))↔a<b:=by rw[UInt8.lt_iff_toNat_lt];omega
  have e2:((a.toNat:Int)=(b.toNat:Int))↔a=b:=by rw[<-UInt8.toNat_inj];omega
  rw[e1,e2]
def zau(imm:Nat->Prop)(w:World)(x:List UInt8)(hx:x.length<=9223372036854775807)(cs:List Value):aE imm w .str (yD x) cs↔cs=[encStr x]:=by
 constructor
 ·rintro⟨t,e3,h1,h2⟩;have h1:t.data.toList.map (fun b=>(b.toNat:Int))=yD x:=h1;have h3:t.data.toList=x:=qrw _ _ h1;subst e3;have:t=⟨x.toArray⟩:=by rw[<-h3]
  rw[this]
 ·intro e;subst e;refine⟨⟨x.toArray⟩,rfl,rfl,?_⟩;show x.toArray.size<=_;simpa[cv] using hx
def zk6:aa C 223 zk3:=by
 intro x y h;obtain⟨⟨nil,l⟩,u⟩:=x;have h:(bif l.all yZ&&decide (l.length<4611686018427387904) then some ((⟨nil,l.mergeSort fun a b=>!strLt b a⟩:Sl (List Int)),()) else none)=some y:=h;cases hg:(l.all yZ&&decide (l.length<4611686018427387904)) with
 |false=>rw[hg] at h;cases h
 |true=>
  rw[hg] at h;injection h with h;subst h;simp only[ze,decide_eq_true_eq] at hg;obtain⟨g1,g3⟩:=hg;have gg:∀s,s∈l->(∀b,b∈s->0<=b/\b<=255)/\s.length<=9223372036854775807:=fun s hs=>z7l (zL.1 g1 s hs);have hl:l=(l.map RF).map yD:=by rw[zS];exact((ja (g:=fun s=>s) fun s hs=>qkr s (gg s hs).1).trans (List.map_id' l)).symm
  have key:=z7u (C:=C) (f:=219) (t:=.str) encStr yD (fun x=>x.length<=9223372036854775807) (fun l=>l.mergeSort fun x y=>decide (x<=y)) (by intro h;cases h) rfl
   (fun imm w x hx cs=>zau imm w x hx cs) (fun l=>List.length_mergeSort l) (fun l x hx=>(List.mem_mergeSort).1 hx)
   ⟨_,Tryz.func219,by kernel_rfl⟩ (fun p cap w=>Any.slices_Sort_string_none Tryz.sortL p cap w)
   (fun ff off cap zs w hH hb hc=>calls_of_every_depth fun D=>AnyS.slices_Sort_string_alone Tryz.sortL D ff off cap zs w hH hb hc)
   nil (l.map RF) (fun x hx=>by obtain⟨s,hs,rfl⟩:=zV.1 hx;show(s.map _).length<=_;rw[zG];exact(gg s hs).2) (by rw[zG];exact g3)
  have e:((l.map RF).mergeSort fun x y=>decide (x<=y)).map yD=((l.map RF).map yD).mergeSort fun a b=>!strLt b a:=
   List.map_mergeSort (fun a _ b _=>by
    rw[qrx];by_cases h:b<a
    ·rw[zt h,zo (fun e:a<=b=>e h)];rfl
    ·rw[zo h,zt (show a<=b from h)];rfl)
  rw[e,<-hl] at key;exact Call.lD 223 _ _ key
def zl3:ai (aQ C.sigs 260).ins.aS->Option (ai (aQ C.sigs 260).outs.aS):=fun x=>bif (x.1==[32])&&(decide (0<=x.2.1)&&decide (x.2.1<=1000000)) then some (List.replicate x.2.1.toNat (32:Int),()) else none
def qic:∀n:Nat,(Lib.repeatL [32] n).map (fun b=>(b.toNat:Int))=List.replicate n 32
 |0=>rfl
 |n+1=>by show(([32]++Lib.repeatL [32] n).map _)=_;rw[zQ,qic n,List.replicate_succ];rfl
def ze5:Builder.Extra Tryz.prog Tryz.rptL_ren where
 sizeBuilder:=by kernel_rfl
 liesBuilder:=by kernel_rfl
 t5:=Tryz.rptL.t5
 a5:=Tryz.rptL.a5
 z5:=Tryz.rptL.z5
 v5:=Tryz.rptL.v5
 infoByte:=by kernel_rfl
 cellsByte:=by kernel_rfl
 sizeByte:=by kernel_rfl
 neB5:=dc
def zl4:aa C 260 zl3:=by
 intro x y h;obtain⟨l,n,u⟩:=x;have h:(bif (l==[32])&&(decide (0<=n)&&decide (n<=1000000)) then some ((List.replicate n.toNat (32:Int),()):List Int×Unit) else none)=some y:=h;cases hb:((l==[32])&&(decide (0<=n)&&decide (n<=1000000))) with
 |false=>rw[hb] at h;cases h
 |true=>
  rw[hb] at h;injection h with h;subst h;simp only[ze,decide_eq_true_eq,beq_iff_eq] at hb;obtain⟨rfl,h2,h3⟩:=hb;obtain⟨k,rfl⟩:=Int.eq_ofNat_of_zero_le h2;refine Call.lD 260 _ _ ?_;intro X φ w S3 hm hz;have hm:MRel C X φ oy w:=hm;have hz:ck φ oy (aj X φ oy w) w [.d .str ([32]:List Int),.d (.int .i64) (k:Int)] S3:=hz;refine⟨⟨_,Tryz.func259,by kernel_rfl⟩,?_⟩;obtain⟨z0,r0,rfl,g1,z1,r1,rfl,g2,g3⟩:=hz;have g3:r1=[]:=g3;subst g3;obtain⟨s,rfl,hs,hf⟩:=rZ g1;obtain⟨rfl,_⟩:=oH g2;have hc:s=⟨#[32]⟩:=by
   obtain⟨⟨d⟩⟩:=s
   match d,hs with
   |[],hs=>cases hs
   |[b],hs=>
    have hs:[(b.toNat:Int)]=[32]:=hs;injection hs with hs _;have e:b=32:=UInt8.toNat_inj.1 (by
     have:(32:UInt8).toNat=32:=rfl;omega)
    rw[e]
   |_::_::_,hs=>exact absurd (congrArg List.length hs) (by simp)
  subst hc;have he:(⟨#[32]⟩:ByteArray).size=1:=rfl;have hk:(k:Int)<=1000000:=h3;refine Calls.mono (Any.strings_Repeat Tryz.rptL ze5 ⟨#[32]⟩ k w om (by rw[he];omega)) fun e w' ⟨e1,e2⟩=>?_;subst e1;refine z7n hm (b:=⟨(Lib.repeatL [32] k).toArray⟩) e2 ?_ ?_
  ·exact qic k
  ·have:=congrArg List.length (qic k);rw[zG,List.length_replicate] at this;show(Lib.repeatL [32] k).toArray.size<=cv;unfold cv;simp only[List.size_toArray];omega
def zfa:S4 Tryz.prog Tryz.prog.types.size=true:=by kernel_rfl
def zl5:ai (aQ C.sigs 55).ins.aS->Option (ai (aQ C.sigs 55).outs.aS):=fun x=>some (true,x.2.1,())
def zl6:ai (aQ C.sigs 56).ins.aS->Option (ai (aQ C.sigs 56).outs.aS):=fun x=>some (true,x.2.1,x.2.2.1,x.2.2.2.1,())
def zl7:ai (aQ C.sigs 25).ins.aS->Option (ai (aQ C.sigs 25).outs.aS):=fun x=>some (x.2.1.l,())
def zk7:ai (aQ C.sigs 26).ins.aS->Option (ai (aQ C.sigs 26).outs.aS):=fun x=>some (x.2.2.2.1.l,())
def zl8:aa C 55 zl5:=by intro x y h;obtain⟨b,s,u⟩:=x;have h:some ((true,s,()):Bool×Sl Int×Unit)=some y:=h;injection h with h;subst h;exact Call.lD 55 _ _ (zix (C:=C) (f:=56) ⟨_,Tryz.func56,by kernel_rfl⟩ zaq ze1 b s)
def zl9:aa C 56 zl6:=by intro x y h;obtain⟨b,q,n,s,u⟩:=x;have h:some ((true,q,n,s,()):Bool×(Nat×Nat)×Int×Sl Int×Unit)=some y:=h;injection h with h;subst h;exact Call.lD 56 _ _ (zj0 (C:=C) (f:=56) ⟨_,Tryz.func56,by kernel_rfl⟩ zaq zar b q n s)
def zla:aa C 25 zl7:=by intro x y h;obtain⟨b,s,u⟩:=x;have h:some ((s.l,()):List Int×Unit)=some y:=h;injection h with h;subst h;exact Call.lD 25 _ _ (zgo (C:=C) (f:=27) zas (by kernel_rfl) ⟨_,Tryz.func27,by kernel_rfl⟩ (by kernel_rfl) (qvl zfa) b s)
def zk8:aa C 26 zk7:=by intro x y h;obtain⟨b,q,n,s,u⟩:=x;have h:some ((s.l,()):List Int×Unit)=some y:=h;injection h with h;subst h;exact Call.lD 26 _ _ (zgp (C:=C) (f:=27) zas (by kernel_rfl) ⟨_,Tryz.func27,by kernel_rfl⟩ (by kernel_rfl) (qvl zfa) b q n s)
def zib:ai (aQ C.sigs 59).ins.aS->Option (ai (aQ C.sigs 59).outs.aS):=fun x=>bif x.1.l.all y0&&KM x.1.l&&decide (x.1.l.length<4611686018427387904) then some ((⟨x.1.nil,x.1.l.mergeSort fun a b=>!fT b a⟩:Sl ak),()) else none
def zic:aa C 59 zib:=by
 intro x y h;obtain⟨⟨nil,l⟩,u⟩:=x;have h:(bif l.all y0&&KM l&&decide (l.length<4611686018427387904) then some ((⟨nil,l.mergeSort fun a b=>!fT b a⟩:Sl ak),()) else none)=some y:=h;cases hg:(l.all y0&&KM l&&decide (l.length<4611686018427387904)) with
 |false=>rw[hg] at h;cases h
 |true=>
  rw[hg] at h;injection h with h;subst h;simp only[ze,decide_eq_true_eq] at hg;obtain⟨⟨g1,g2⟩,g3⟩:=hg;have main:∀(m:List ak) (hm:∀x,x∈m->y0 x=true) (hu:∀x y,x∈m->y∈m->x.1=y.1->x=y) (d:ak) (hd:d∈m) (l':List (FT m)),l'.length<4611686018427387904->
    xG C (z7s 59 60 VC) (⟨nil,l'.map (·.1)⟩,()) (⟨nil,(l'.map (·.1)).mergeSort fun a b=>!fT b a⟩,()):=by
   intro m hm hu d hd l' hc
   letI:Inhabited (FT m):=⟨⟨d,hd⟩⟩
   have hs:∀(ff off cap:Nat) (a:Array (FT m)) (w:World),HoldsK (fun x:FT m=>Bp x.1) (aM VC) w ff off a->ff<w.heap.size->a.size<4611686018427387904->
     Calls C.P 59 #[.slice (some ⟨ff,off,none⟩) a.size cap,.func (.func 60) #[] #[]] w fun e w'=>e=.returned (.tuple #[])/\∃n os,w'=sortWorldK (fun x:FT m=>Bp x.1) (aM VC) w ff off n (a.toList.mergeSort fun x y=>!fT y.1 x.1).toArray os:=by
    intro ff off cap a w hH hb he;have:=AnyQ.slices_SortFunc_total Tryz.sortfL 3 Tryz.isAgg56 Tryz.sizeOf56 (fun x:FT m=>Bp x.1) (fun _=>rfl) (fun x v hv=>by
     simp only[Bp,zk,List.not_mem_nil,or_false] at hv;rcases hv with rfl|rfl|rfl<;>rfl) (cfF m) (adD hm) 60 #[] ff off cap a w (enters_of Tryz.func60 (by kernel_rfl) rfl) (fun _ _ _ _ x y=>z5e _ _ _ _ _ _ _) hH hb he
     (fun x y h1 h2=>by rw[VD hm] at h1 h2;exact Subtype.ext (hu _ _ x.2 y.2 (KL _ _ h1 h2)))
    simp only[VD hm] at this;exact this
   have key:=zc7 (C:=C) (f:=59) (g:=60) (t:=VC) (fun x:FT m=>Bp x.1) (·.1) (fun l=>l.mergeSort fun x y=>!fT y.1 x.1) (by intro h;cases h) (fun imm w x cs=>adC imm w x.1 (hm _ x.2) cs) (fun _=>rfl) (fun l=>List.length_mergeSort l)
    ⟨_,Tryz.func59,by kernel_rfl⟩ (fun p cap fv w=>AnyF.slices_SortFunc_none Tryz.sortfL p cap fv w) hs dc nil l' hc
   have e:(l'.mergeSort fun x y=>!fT y.1 x.1).map (·.1)=(l'.map (·.1)).mergeSort fun a b=>!fT b a:=List.map_mergeSort (fun a _ b _=>rfl);rw[e] at key;exact key
  cases l with
  |nil=>exact Call.lD 59 _ _ (main [([],0,0)] (fun x hx=>by rw[zM.1 hx];decide) (fun x y hx hy _=>by rw[zM.1 hx,zM.1 hy]) _ (zM.2 rfl) [] dc)
  |cons a r=>have key:=main (a::r) (fun x hx=>zL.1 g1 x hx) (fun x y hx hy e=>z3k g2 hx hy e) a (zg ..) (a::r).attach (by rw[List.length_attach];exact g3);rw[List.attach_map_subtype_val] at key;exact Call.lD 59 _ _ key
def aF{C:Cx}{k:Nat}{O:jU C.sigs}(b:Lf->jU C.sigs->(ai (aQ C.sigs k).ins.aS->Option (ai (aQ C.sigs k).outs.aS))){f:(ai (aQ C.sigs k).ins.aS->Option (ai (aQ C.sigs k).outs.aS))}(hO:Q7 C O)(e:∀L R x,QJ L C R k x=b L R x:=by intro _ _ _;kernel_rfl)(o:∀x,b lf O x=f x:=by intro _;kernel_rfl):aa C k f:=mkC b hO e o
def P8:aa C 136 qG:=aF (fun L R=>Cm L) aA
def P9:aa C 137 qH:=aF (fun L R=>Cn L) aA
def Qa:aa C 182 qI:=aF (fun L R=>Co L) aA
def VE:aa C 134 qJ:=aF (fun L R=>Cp L (R 136) (R 137) (R 182)) (ah P8 (ah P9 (ah Qa aA)))
def VF:aa C 132 wc:=aF (fun L R=>GR L (R 134)) (ah VE aA)
def VG:aa C 160 Ak:=aF (fun L R=>GS L) aA
def Kd:aa C 98 nx:=aF (fun L R=>Cq L (R 160)) (ah VG aA)
def adE:aa C 261 GV:=aF (fun L R=>GU L) aA
def adF:aa C 209 Cr:=aF (fun L R=>GW L (R 261)) (ah adE aA)
def Ke:aa C 135 oU:=aF (fun L R=>Cs L (R 98) (R 209)) (ah Kd (ah adF aA))
def adG:aa C 130 we:=aF (fun L R=>Ct L (R 132) (R 135) (R 136)) (ah VF (ah Ke (ah P8 aA)))
def adH:aa C 131 wg:=aF (fun L R=>Cu L (R 132) (R 135) (R 137)) (ah VF (ah Ke (ah P9 aA)))
def VH:aa C 210 Al:=zl0
def Qb:aa C 139 oV:=aF (fun L R=>Cv L (R 210)) (ah VH aA)
def adI:aa C 133 Am:=aF (fun L R=>GX L (R 139)) (ah Qb aA)
def Qc:aa C 138 oW:=aF (fun L R=>Cw L) aA
def xq:aa C 65 j5:=aF (fun L R=>Cy L (R 130) (R 131) (R 133) (R 135) (R 138)) (ah adG (ah adH (ah adI (ah Ke (ah Qc aA)))))
def VI:aa C 53 nz:=aF (fun L R=>Cz L (R 65)) (ah xq aA)
def adJ:aa C 52 sE:=aF (fun L R=>CA L (R 53)) (ah VI aA)
def adK:aa C 121 CB:=aF (fun L R=>GY L (R 52)) (ah adJ aA)
def adL:aa C 51 wh:=aF (fun L R=>CC L (R 121)) (ah adK aA)
def adM:aa C 124 sF:=aF (fun L R=>CD L) aA
def adN:aa C 122 CE:=aF (fun L R=>GZ L (R 124)) (ah adM aA)
def Kf:aa C 54 nA:=aF (fun L R=>CF L (R 122)) (ah adN aA)
def vo:aa C 16 iZ:=aF (fun L R=>G0 L (R 51) (R 54)) (ah adL (ah Kf aA))
def VJ:aa C 70 sG:=aF (fun L R=>CG L (R 65)) (ah xq aA)
def Qd:aa C 32 oX:=aF (fun L R=>CH L (R 70)) (ah VJ aA)
def adO:aa C 31 wi:=aF (fun L R=>CI L (R 32)) (ah Qd aA)
def adP:aa C 72 CJ:=aF (fun L R=>G1 L (R 31)) (ah adO aA)
def adQ:aa C 33 qK:=aF (fun L R=>CK L (R 72)) (ah adP aA)
def VK:aa C 74 sH:=aF (fun L R=>CL L (R 65)) (ah xq aA)
def Fm:aa C 189 kG:=aF (fun L R=>G2 L) aA
def Kg:aa C 202 lJ:=aF (fun L R=>CM L (R 189)) (ah Fm aA)
def adR:aa C 216 wj:=aF (fun L R=>G3 L (R 202)) (ah Kg aA)
def VL:aa C 226 qL:=aF (fun L R=>CN L) aA
def adS:aa C 282 G5:=aF (fun L R=>G4 L) aA
def adT:aa C 265 fu:=aF (fun L R=>CO L (R 282)) (ah adS aA)
def adU:aa C 283 wk:=aF (fun L R=>CP L) aA
def adV:aa C 284 An:=aF (fun L R=>G6 L) aA
def adW:aa C 291 wm:=aF (fun L R=>CQ L) aA
def adX:aa C 219 wo:=aF (fun L R=>CR L (R 70) (R 74) (R 138) (R 226) (R 265) (R 283) (R 284) (R 291)) (ah VJ (ah VK (ah Qc (ah VL (ah adT (ah adU (ah adV (ah adW aA))))))))
def adY:aa C 218 sI:=aF (fun L R=>CS L (R 219)) (ah adX aA)
def adZ:aa C 217 CU:=pH (C:=C) (k:=217) (fun L R=>G7 L (R 217) (R 218)) (F:=nB) (O:=fun g=>(au 217 g (au 218 sI cQ))) (fun g hg=>(ah hg (ah adY aA))) (fun _ _ _=>by kernel_rfl) (fun _ _=>by kernel_rfl)
def ad0:aa C 221 wq:=aF (fun L R=>CV L (R 189)) (ah Fm aA)
def VM:aa C 222 wu:=aF (fun L R=>G8 L) aA
def ad1:aa C 223 wv:=zk6
def ad2:aa C 224 wy:=aF (fun L R=>G9 L) aA
def ad3:aa C 225 wz:=aF (fun L R=>CW L (R 222)) (ah VM aA)
def ad4:aa C 220 sJ:=aF (fun L R=>CY L (R 221) (R 222) (R 223) (R 224) (R 225)) (ah ad0 (ah VM (ah ad1 (ah ad2 (ah ad3 aA)))))
def ad5:aa C 148 qM:=aF (fun L R=>Ha L (R 189) (R 202) (R 216) (R 217) (R 220) (R 226)) (ah Fm (ah Kg (ah adR (ah adZ (ah ad4 (ah VL aA))))))
def Qe:aa C 75 jc:=aF (fun L R=>CZ L (R 148)) (ah ad5 aA)
def VN:aa C 36 sK:=aF (fun L R=>C0 L (R 74) (R 75)) (ah VK (ah Qe aA))
def ad6:aa C 35 wA:=aF (fun L R=>C1 L (R 36)) (ah VN aA)
def ad7:aa C 73 C2:=aF (fun L R=>Hb L (R 35)) (ah ad6 aA)
def ad8:aa C 34 qN:=aF (fun L R=>C3 L (R 73)) (ah ad7 aA)
def VO:aa C 90 oY:=aF (fun L R=>C4 L (R 65)) (ah xq aA)
def ad9:aa C 228 wB:=aF (fun L R=>C5 L (R 65)) (ah xq aA)
def aea:aa C 227 wC:=aF (fun L R=>C6 L (R 228)) (ah ad9 aA)
def aeb:aa C 158 C7:=aF (fun L R=>Hc L (R 227)) (ah aea aA)
def aec:aa C 96 wD:=aF (fun L R=>C8 L (R 158)) (ah aeb aA)
def VP:aa C 151 qO:=aF (fun L R=>C9 L (R 96) (R 202)) (ah aec (ah Kg aA))
def aed:aa C 150 wF:=aF (fun L R=>Da L) aA
def aee:aa C 229 Db:=aF (fun L R=>Hd L (R 150)) (ah aed aA)
def aef:aa C 152 Ao:=aF (fun L R=>Dd L (R 229)) (ah aee aA)
def aeg:aa C 266 De:=aF (fun L R=>He L) aA
def aeh:aa C 230 sL:=aF (fun L R=>Df L (R 266)) (ah aeg aA)
def aei:aa C 153 Ap:=aF (fun L R=>Hf L (R 151) (R 230)) (ah VP (ah aeh aA))
def aej:aa C 149 Aq:=aF (fun L R=>Dg L (R 151) (R 152) (R 153)) (ah VP (ah aef (ah aei aA)))
def aek:aa C 154 sM:=aF (fun L R=>Dh L (R 149)) (ah aej aA)
def ael:aa C 157 Di:=aF (fun L R=>Hg L (R 154)) (ah aek aA)
def aem:aa C 94 sO:=aF (fun L R=>Dj L (R 157)) (ah ael aA)
def aen:aa C 79 Ar:=aF (fun L R=>Hh L (R 90) (R 94)) (ah VO (ah aem aA))
def aeo:aa C 78 wG:=aF (fun L R=>Dk L (R 79)) (ah aen aA)
def aep:aa C 80 Dl:=aF (fun L R=>Hi L (R 78)) (ah aeo aA)
def aeq:aa C 76 sP:=aF (fun L R=>Dm L (R 80)) (ah aep aA)
def aer:aa C 83 wH:=aF (fun L R=>Dn L) aA
def aes:aa C 81 wJ:=aF (fun L R=>Hj L (R 83)) (ah aer aA)
def aet:aa C 155 wK:=aF (fun L R=>Dp L) aA
def aeu:aa C 88 As:=aF (fun L R=>Hk L (R 155)) (ah aet aA)
def aev:aa C 85 Au:=aF (fun L R=>Dq L (R 88)) (ah aeu aA)
def aew:aa C 84 sQ:=aF (fun L R=>Dr L (R 85)) (ah aev aA)
def aex:aa C 86 wL:=aF (fun L R=>Hl L (R 84)) (ah aew aA)
def aey:aa C 91 wM:=aF (fun L R=>Dt L) aA
def aez:aa C 82 Du:=aF (fun L R=>Hm L (R 91)) (ah aey aA)
def aeA:aa C 77 wN:=aF (fun L R=>Dv L (R 82)) (ah aez aA)
def aeB:aa C 89 sR:=aF (fun L R=>Dw L (R 77) (R 90)) (ah aeA (ah VO aA))
def aeC:aa C 159 Dx:=aF (fun L R=>Hn L (R 89)) (ah aeB aA)
def aeD:aa C 97 Av:=aF (fun L R=>Dy L (R 159)) (ah aeC aA)
def aeE:aa C 95 sS:=aF (fun L R=>Dz L (R 97)) (ah aeD aA)
def aeF:aa C 156 DA:=aF (fun L R=>Ho L (R 95)) (ah aeE aA)
def aeG:aa C 93 Aw:=aF (fun L R=>DB L (R 156)) (ah aeF aA)
def aeH:aa C 92 sT:=aF (fun L R=>DC L (R 93)) (ah aeG aA)
def aeI:aa C 87 wO:=aF (fun L R=>Hp L (R 92)) (ah aeH aA)
def VQ:aa C 37 qP:=aF (fun L R=>Hq L (R 76) (R 81) (R 86) (R 87)) (ah aeq (ah aes (ah aex (ah aeI aA))))
def aeJ:aa C 38 qQ:=aF (fun L R=>Hr L (R 98)) (ah Kd aA)
def Kh:aa C 9 oZ:=aF (fun L R=>Hs L (R 16) (R 32) (R 33) (R 34) (R 37) (R 38)) (ah vo (ah Qd (ah adQ (ah ad8 (ah VQ (ah aeJ aA))))))
def VR:aa C 55 o3:=zl8
def VS:aa C 17 gX:=aF (fun L R=>DE L (R 55)) (ah VR aA)
def Qf:aa C 19 nC:=aF (fun L R=>DF L) aA
def VT:aa C 58 nD:=aF (fun L R=>DG L) aA
def aeK:aa C 123 wP:=aF (fun L R=>Ht L (R 58)) (ah VT aA)
def aeL:aa C 57 sU:=aF (fun L R=>Hu L (R 58) (R 123)) (ah VT (ah aeK aA))
def aeM:aa C 59 Ax:=zic
def VU:aa C 20 o4:=aF (fun L R=>DH L (R 16) (R 19) (R 53) (R 57) (R 59)) (ah vo (ah Qf (ah VI (ah aeL (ah aeM aA)))))
def Bq:aa C 126 fM:=aF (fun L R=>Hv L (R 189)) (ah Fm aA)
def aeN:aa C 62 sV:=pH (C:=C) (k:=62) (fun L R=>Hw L (R 62) (R 126)) (F:=wQ) (O:=fun g=>(au 62 g (au 126 fM cQ))) (fun g hg=>(ah hg (ah Bq aA))) (fun _ _ _=>by kernel_rfl) (fun _ _=>by kernel_rfl)
def aeO:aa C 21 qR:=aF (fun L R=>Hx L (R 62)) (ah aeN aA)
def qid(g:ai (aQ C.sigs 127).ins.aS->Option (ai (aQ C.sigs 127).outs.aS))(hg:aa C 127 g):aa C 190 (K5 g):=aF (fun L R=>Tb L (R 126) (R 127)) (O:=(au 126 fM (au 127 g cQ))) (ah Bq (ah hg aA))
def rE:aa C 253 jf:=aF (fun L R=>Hy L) aA
def aeP:aa C 245 Ay:=aF (fun L R=>DI L (R 253)) (ah rE aA)
def Ki:aa C 191 gY:=aF (fun L R=>DJ L (R 245)) (ah aeP aA)
def aeQ:aa C 246 DK:=zl2
def aeR:aa C 247 DL:=zl1
def Qg:aa C 192 mG:=aF (fun L R=>DM L (R 138) (R 246) (R 247)) (ah Qc (ah aeQ (ah aeR aA)))
def VV:aa C 25 qS:=zla
def aeS:aa C 248 wS:=aF (fun L R=>wR L (R 55)) (ah VR aA)
def aeT:aa C 193 wT:=aF (fun L R=>Hz L (R 17) (R 25) (R 248)) (ah VS (ah VV (ah aeS aA)))
def VW:aa C 194 mH:=aF (fun L R=>DN L (R 65)) (ah xq aA)
def aeU:aa C 250 Az:=aF (fun L R=>DO L (R 253)) (ah rE aA)
def VX:aa C 278 o5:=aF (fun L R=>DP L (R 253)) (ah rE aA)
def VY:aa C 251 sW:=aF (fun L R=>DQ L (R 278)) (ah VX aA)
def Kj:aa C 195 jR:=aF (fun L R=>DR L (R 250) (R 251)) (ah aeU (ah VY aA))
def Fo:aa C 197 gZ:=aF (fun L R=>DS L (R 253)) (ah rE aA)
def aeV:aa C 279 AA:=aF (fun L R=>DT L (R 253)) (ah rE aA)
def Kk:aa C 252 j6:=aF (fun L R=>DU L (R 251) (R 279)) (ah VY (ah aeV aA))
def VZ:aa C 196 mI:=aF (fun L R=>DV L (R 197) (R 252)) (ah Fo (ah Kk aA))
def aeW:aa C 254 AB:=pH (C:=C) (k:=254) (fun L R=>HA L (R 126) (R 192) (R 194) (R 254)) (F:=wU) (O:=fun g=>(au 126 fM (au 192 mG (au 194 mH (au 254 g cQ))))) (fun g hg=>(ah Bq (ah Qg (ah VW (ah hg aA))))) (fun _ _ _=>by kernel_rfl) (fun _ _=>by kernel_rfl)
def qie(g:ai (aQ C.sigs 127).ins.aS->Option (ai (aQ C.sigs 127).outs.aS))(hg:aa C 127 g):aa C 198 (Mo g):=aF (fun L R=>YN L (R 126) (R 127) (R 191) (R 195) (R 196) (R 197) (R 252) (R 254)) (O:=(au 126 fM (au 127 g (au 191 gY (au 195 jR (au 196 mI (au 197 gZ (au 252 j6 (au 254 AB cQ))))))))) (ah Bq (ah hg (ah Ki (ah Kj (ah VZ (ah Fo (ah Kk (ah aeW aA))))))))
def Qh:aa C 255 o6:=aF (fun L R=>DW L (R 54)) (ah Kf aA)
def Qi:aa C 199 kH:=aF (fun L R=>DY L (R 255)) (ah Qh aA)
def qb0(g:ai (aQ C.sigs 127).ins.aS->Option (ai (aQ C.sigs 127).outs.aS))(hg:aa C 127 g):aa C 257 (BG g):=aF (fun L R=>Tc L (R 127) (R 191) (R 278)) (O:=(au 127 g (au 191 gY (au 278 o5 cQ)))) (ah hg (ah Ki (ah VX aA)))
def aeX:aa C 280 wV:=aF (fun L R=>DZ L (R 255)) (ah Qh aA)
def qks(g:ai (aQ C.sigs 127).ins.aS->Option (ai (aQ C.sigs 127).outs.aS))(hg:aa C 127 g):aa C 256 (K6 g):=aF (fun L R=>Td L (R 199) (R 257) (R 280)) (O:=(au 199 kH (au 257 (BG g) (au 280 wV cQ)))) (ah Qi (ah (qb0 g hg) (ah aeX aA)))
def qkt(g:ai (aQ C.sigs 127).ins.aS->Option (ai (aQ C.sigs 127).outs.aS))(hg:aa C 127 g):aa C 200 (K7 g):=aF (fun L R=>Te L (R 126) (R 191) (R 195) (R 197) (R 252) (R 255) (R 256)) (O:=(au 126 fM (au 191 gY (au 195 jR (au 197 gZ (au 252 j6 (au 255 o6 (au 256 (K6 g) cQ)))))))) (ah Bq (ah Ki (ah Kj (ah Fo (ah Kk (ah Qh (ah (qks g hg) aA)))))))
def qku(g:ai (aQ C.sigs 127).ins.aS->Option (ai (aQ C.sigs 127).outs.aS))(hg:aa C 127 g):aa C 201 (Mp g):=aF (fun L R=>YQ L (R 126) (R 195) (R 197) (R 199) (R 252) (R 257)) (O:=(au 126 fM (au 195 jR (au 197 gZ (au 199 kH (au 252 j6 (au 257 (BG g) cQ))))))) (ah Bq (ah Kj (ah Fo (ah Qi (ah Kk (ah (qb0 g hg) aA))))))
def aeY:aa C 127 D1:=pH (C:=C) (k:=127) (fun L R=>D0 L (R 190) (R 191) (R 192) (R 193) (R 194) (R 195) (R 196) (R 197) (R 198) (R 199) (R 200) (R 201)) (F:=qT) (O:=fun g=>(au 190 (K5 g) (au 191 gY (au 192 mG (au 193 wT (au 194 mH (au 195 jR (au 196 mI (au 197 gZ (au 198 (Mo g) (au 199 kH (au 200 (K7 g) (au 201 (Mp g) cQ))))))))))))) (fun g hg=>(ah (qid g hg) (ah Ki (ah Qg (ah aeT (ah VW (ah Kj (ah VZ (ah Fo (ah (qie g hg) (ah Qi (ah (qkt g hg) (ah (qku g hg) aA))))))))))))) (fun _ _ _=>by kernel_rfl) (fun _ _=>by kernel_rfl)
def aeZ:aa C 63 qU:=aF (fun L R=>D2 L (R 16) (R 75) (R 127)) (ah vo (ah Qe (ah aeY aA)))
def ae0:aa C 26 HF:=zk8
def ae1:aa C 259 wW:=aF (fun L R=>D3 L) aA
def ae2:aa C 290 D4:=aF (fun L R=>HG L (R 259)) (ah ae1 aA)
def ae3:aa C 281 AD:=aF (fun L R=>D5 L (R 290)) (ah ae2 aA)
def ae4:aa C 258 sX:=aF (fun L R=>D6 L (R 281)) (ah ae3 aA)
def ae5:aa C 203 qV:=aF (fun L R=>D7 L (R 258)) (ah ae4 aA)
def ae6:aa C 128 AE:=aF (fun L R=>HH L (R 202) (R 203)) (ah Kg (ah ae5 aA))
def qif(g:ai (aQ C.sigs 129).ins.aS->Option (ai (aQ C.sigs 129).outs.aS))(hg:aa C 129 g):aa C 204 (Ri g):=aF (fun L R=>YT L (R 129)) (O:=(au 129 g cQ)) (ah hg aA)
def V0:aa C 56 qW:=zl9
def ae7:aa C 18 AF:=aF (fun L R=>D8 L (R 56)) (ah V0 aA)
def V1:aa C 205 qX:=aF (fun L R=>D9 L (R 18)) (ah ae7 aA)
def ae8:aa C 249 HI:=aF (fun L R=>wX L (R 56)) (ah V0 aA)
def ae9:aa C 260 Ea:=zl4
def afa:aa C 206 sY:=aF (fun L R=>Eb L (R 205) (R 249) (R 260)) (ah V1 (ah ae8 (ah ae9 aA)))
def afb:aa C 207 sZ:=aF (fun L R=>Ec L) aA
def afc:aa C 208 wY:=aF (fun L R=>HK L) aA
def afd:aa C 129 Ee:=pH (C:=C) (k:=129) (fun L R=>Ed L (R 189) (R 204) (R 205) (R 206) (R 207) (R 208)) (F:=ti) (O:=fun g=>(au 189 kG (au 204 (Ri g) (au 205 qX (au 206 sY (au 207 sZ (au 208 wY cQ))))))) (fun g hg=>(ah Fm (ah (qif g hg) (ah V1 (ah afa (ah afb (ah afc aA))))))) (fun _ _ _=>by kernel_rfl) (fun _ _=>by kernel_rfl)
def afe:aa C 64 wZ:=aF (fun L R=>Ef L (R 26) (R 128) (R 129)) (ah ae0 (ah ae6 (ah afd aA)))
def aff:aa C 22 o7:=aF (fun L R=>Eg L (R 63) (R 64)) (ah aeZ (ah afe aA))
def afg:aa C 23 tj:=aF (fun L R=>Eh L (R 65)) (ah xq aA)
def afh:aa C 24 AG:=aF (fun L R=>HM L) aA
def V2:aa C 6 w7:=aF (fun L R=>HO L (R 9) (R 16) (R 17) (R 19) (R 20) (R 21) (R 22) (R 23) (R 24) (R 25)) (ah Kh (ah vo (ah VS (ah Qf (ah VU (ah aeO (ah aff (ah afg (ah afh (ah VV aA))))))))))
def afi:aa C 111 HQ:=aF (fun L R=>HP L) aA
def afj:aa C 110 HT:=aF (fun L R=>HS L (R 111)) (ah afi aA)
def afk:aa C 107 HV:=aF (fun L R=>HU L (R 134)) (ah VE aA)
def afl:aa C 108 HY:=aF (fun L R=>HX L (R 139)) (ah Qb aA)
def afm:aa C 109 H0:=aF (fun L R=>HZ L (R 182)) (ah Qa aA)
def afn:aa C 180 H5:=aF (fun L R=>H2 L (R 135)) (ah Ke aA)
def V3:aa C 238 Ei:=aF (fun L R=>H6 L) aA
def afo:aa C 181 H8:=aF (fun L R=>H7 L (R 238)) (ah V3 aA)
def afp:aa C 267 Ia:=aF (fun L R=>H9 L (R 238)) (ah V3 aA)
def afq:aa C 239 Ic:=aF (fun L R=>Ib L (R 267)) (ah afp aA)
def afr:aa C 183 Ej:=aF (fun L R=>Ie L (R 192) (R 239)) (ah Qg (ah afq aA))
def afs:aa C 184 Ih:=aF (fun L R=>Ig L (R 210)) (ah VH aA)
def aft:aa C 112 Ij:=aF (fun L R=>Ii L (R 107) (R 108) (R 109) (R 136) (R 137) (R 139) (R 180) (R 181) (R 182) (R 183) (R 184)) (ah afk (ah afl (ah afm (ah P8 (ah P9 (ah Qb (ah afn (ah afo (ah Qa (ah afr (ah afs aA)))))))))))
def V4:aa C 45 Ek:=aF (fun L R=>Ik L (R 110) (R 112)) (ah afj (ah aft aA))
def afu:aa C 113 Im:=aF (fun L R=>Il L) aA
def vp:aa C 117 lK:=aF (fun L R=>Io L) aA
def xt:aa C 114 mK:=aF (fun L R=>Ip L (R 117)) (ah vp aA)
def afv:aa C 115 Ir:=aF (fun L R=>Iq L (R 114)) (ah xt aA)
def afw:aa C 268 El:=aF (fun L R=>Is L (R 160)) (ah VG aA)
def Fp(g:ai (aQ C.sigs 269).ins.aS->Option (ai (aQ C.sigs 269).outs.aS))(hg:aa C 269 g):aa C 240 (tm g):=aF (fun L R=>It L (R 114) (R 117) (R 268) (R 269)) (O:=(au 114 mK (au 117 lK (au 268 El (au 269 g cQ))))) (ah xt (ah vp (ah afw (ah hg aA))))
def afx:aa C 270 Em:=aF (fun L R=>Iu L (R 117)) (ah vp aA)
def Lx(g:ai (aQ C.sigs 269).ins.aS->Option (ai (aQ C.sigs 269).outs.aS))(hg:aa C 269 g):aa C 241 (AH g):=aF (fun L R=>Iv L (R 240) (R 270)) (O:=(au 240 (tm g) (au 270 Em cQ))) (ah (Fp g hg) (ah afx aA))
def afy:aa C 285 Eo:=aF (fun L R=>Iw L) aA
def V5:aa C 269 AI:=pH (C:=C) (k:=269) (fun L R=>Ix L (R 114) (R 117) (R 240) (R 241) (R 253) (R 269) (R 285)) (F:=Mq) (O:=fun g=>(au 114 mK (au 117 lK (au 240 (tm g) (au 241 (AH g) (au 253 jf (au 269 g (au 285 Eo cQ)))))))) (fun g hg=>(ah xt (ah vp (ah (Fp g hg) (ah (Lx g hg) (ah rE (ah hg (ah afy aA)))))))) (fun _ _ _=>by kernel_rfl) (fun _ _=>by kernel_rfl)
def afz:aa C 240 Mr:=Fp AI V5
def afA:aa C 241 Ms:=Lx AI V5
def afB:aa C 185 Iz:=aF (fun L R=>Iy L (R 114) (R 117) (R 240) (R 241)) (ah xt (ah vp (ah afz (ah afA aA))))
def afC:aa C 116 IB:=aF (fun L R=>IA L (R 98) (R 114) (R 117) (R 185)) (ah Kd (ah xt (ah vp (ah afB aA))))
def afD:aa C 118 ID:=aF (fun L R=>IC L (R 114) (R 117)) (ah xt (ah vp aA))
def xu:aa C 187 kI:=aF (fun L R=>IE L) aA
def xv:aa C 188 kJ:=aF (fun L R=>IF L) aA
def rF:aa C 271 ia:=aF (fun L R=>IG L (R 98)) (ah Kd aA)
def afE:aa C 287 II:=aF (fun L R=>IH L (R 54)) (ah Kf aA)
def afF:aa C 71 Ep:=aF (fun L R=>IJ L (R 287)) (ah afE aA)
def Br:aa C 273 kK:=aF (fun L R=>IK L) aA
def xw:aa C 275 jl:=aF (fun L R=>IL L (R 253)) (ah rE aA)
def Bs:aa C 277 kM:=aF (fun L R=>IM L (R 187) (R 188) (R 271)) (ah xu (ah xv (ah rF aA)))
def V6:aa C 293 w8:=aF (fun L R=>IN L (R 271)) (ah rF aA)
def V7:aa C 274 w9:=aF (fun L R=>IP L (R 187) (R 188) (R 271) (R 273) (R 277)) (ah xu (ah xv (ah rF (ah Br (ah Bs aA)))))
def qg7(g:ai (aQ C.sigs 243).ins.aS->Option (ai (aQ C.sigs 243).outs.aS))(hg:aa C 243 g):aa C 299 (Tf g):=aF (fun L R=>YZ L (R 243) (R 253) (R 271) (R 273) (R 274) (R 275) (R 277)) (O:=(au 243 g (au 253 jf (au 271 ia (au 273 kK (au 274 w9 (au 275 jl (au 277 kM cQ)))))))) (ah hg (ah rE (ah rF (ah Br (ah V7 (ah xw (ah Bs aA)))))))
def qig(g:ai (aQ C.sigs 243).ins.aS->Option (ai (aQ C.sigs 243).outs.aS))(hg:aa C 243 g):aa C 298 (Tg g):=aF (fun L R=>Za L (R 271) (R 273) (R 275) (R 299)) (O:=(au 271 ia (au 273 kK (au 275 jl (au 299 (Tf g) cQ))))) (ah rF (ah Br (ah xw (ah (qg7 g hg) aA))))
def afG:aa C 243 IS:=pH (C:=C) (k:=243) (fun L R=>IQ L (R 187) (R 188) (R 298)) (F:=Mt) (O:=fun g=>(au 187 kI (au 188 kJ (au 298 (Tg g) cQ)))) (fun g hg=>(ah xu (ah xv (ah (qig g hg) aA)))) (fun _ _ _=>by kernel_rfl) (fun _ _=>by kernel_rfl)
def q75(g:ai (aQ C.sigs 186).ins.aS->Option (ai (aQ C.sigs 186).outs.aS))(hg:aa C 186 g):aa C 276 (Mu g):=aF (fun L R=>Zb L (R 186) (R 277)) (O:=(au 186 g (au 277 kM cQ))) (ah hg (ah Bs aA))
def qg8(g:ai (aQ C.sigs 186).ins.aS->Option (ai (aQ C.sigs 186).outs.aS))(hg:aa C 186 g):aa C 296 (Th g):=aF (fun L R=>Zc L (R 186) (R 243) (R 271) (R 275) (R 276) (R 277)) (O:=(au 186 g (au 243 IS (au 271 ia (au 275 jl (au 276 (Mu g) (au 277 kM cQ))))))) (ah hg (ah afG (ah rF (ah xw (ah (q75 g hg) (ah Bs aA))))))
def qgw(g:ai (aQ C.sigs 186).ins.aS->Option (ai (aQ C.sigs 186).outs.aS))(hg:aa C 186 g):aa C 292 (Ti g):=aF (fun L R=>Zd L (R 186) (R 187) (R 188) (R 253) (R 271) (R 273) (R 275) (R 277) (R 293) (R 296)) (O:=(au 186 g (au 187 kI (au 188 kJ (au 253 jf (au 271 ia (au 273 kK (au 275 jl (au 277 kM (au 293 w8 (au 296 (Th g) cQ))))))))))) (ah hg (ah xu (ah xv (ah rE (ah rF (ah Br (ah xw (ah Bs (ah V6 (ah (qg8 g hg) aA))))))))))
def qih(g:ai (aQ C.sigs 186).ins.aS->Option (ai (aQ C.sigs 186).outs.aS))(hg:aa C 186 g):aa C 286 (Tj g):=aF (fun L R=>Ze L (R 275) (R 292) (R 293)) (O:=(au 275 jl (au 292 (Ti g) (au 293 w8 cQ)))) (ah xw (ah (qgw g hg) (ah V6 aA)))
def afH:aa C 297 IT:=zk5
def afI:aa C 295 IV:=aF (fun L R=>IU L (R 297)) (ah afH aA)
def afJ:aa C 294 IX:=aF (fun L R=>IW L (R 295)) (ah afI aA)
def afK:aa C 288 Er:=aF (fun L R=>IY L (R 16) (R 54) (R 294)) (ah vo (ah Kf (ah afJ aA)))
def afL:aa C 289 I1:=pH (C:=C) (k:=289) (fun L R=>I0 L (R 275) (R 289)) (F:=Mv) (O:=fun g=>(au 275 jl (au 289 g cQ))) (fun g hg=>(ah xw (ah hg aA))) (fun _ _ _=>by kernel_rfl) (fun _ _=>by kernel_rfl)
def qii(g:ai (aQ C.sigs 186).ins.aS->Option (ai (aQ C.sigs 186).outs.aS))(hg:aa C 186 g):aa C 272 (Tl g):=aF (fun L R=>Zf L (R 71) (R 187) (R 188) (R 271) (R 273) (R 286) (R 288) (R 289)) (O:=(au 71 Ep (au 187 kI (au 188 kJ (au 271 ia (au 273 kK (au 286 (Tj g) (au 288 Er (au 289 I1 cQ))))))))) (ah afF (ah xu (ah xv (ah rF (ah Br (ah (qih g hg) (ah afK (ah afL aA))))))))
def qgx(g:ai (aQ C.sigs 186).ins.aS->Option (ai (aQ C.sigs 186).outs.aS))(hg:aa C 186 g):aa C 244 (Tm g):=aF (fun L R=>Zg L (R 186) (R 271) (R 272) (R 273) (R 274) (R 275) (R 276) (R 277)) (O:=(au 186 g (au 271 ia (au 272 (Tl g) (au 273 kK (au 274 w9 (au 275 jl (au 276 (Mu g) (au 277 kM cQ))))))))) (ah hg (ah rF (ah (qii g hg) (ah Br (ah V7 (ah xw (ah (q75 g hg) (ah Bs aA))))))))
def qgy(g:ai (aQ C.sigs 186).ins.aS->Option (ai (aQ C.sigs 186).outs.aS))(hg:aa C 186 g):aa C 242 (Tn g):=aF (fun L R=>Zh L (R 187) (R 188) (R 244)) (O:=(au 187 kI (au 188 kJ (au 244 (Tm g) cQ)))) (ah xu (ah xv (ah (qgx g hg) aA)))
def afM:aa C 186 Mx:=pH (C:=C) (k:=186) (fun L R=>I2 L (R 242)) (F:=Mw) (O:=fun g=>(au 242 (Tn g) cQ)) (fun g hg=>(ah (qgy g hg) aA)) (fun _ _ _=>by kernel_rfl) (fun _ _=>by kernel_rfl)
def afN:aa C 119 I4:=aF (fun L R=>I3 L (R 16) (R 75) (R 186) (R 187) (R 188)) (ah vo (ah Qe (ah afM (ah xu (ah xv aA)))))
def afO:aa C 46 I6:=aF (fun L R=>I5 L (R 16) (R 20) (R 32) (R 36) (R 37) (R 113) (R 114) (R 115) (R 116) (R 117) (R 118) (R 119)) (ah vo (ah VU (ah Qd (ah VN (ah VQ (ah afu (ah xt (ah afv (ah afC (ah vp (ah afD (ah afN aA))))))))))))
def afP:aa C 12 I8:=aF (fun L R=>I7 L (R 9) (R 16) (R 19) (R 45) (R 46)) (ah Kh (ah vo (ah Qf (ah V4 (ah afO aA)))))
def afQ:aa C 14 Ja:=aF (fun L R=>I9 L (R 45)) (ah V4 aA)
def qtt:aa C 3 Rj:=aF (fun L R=>Zi L (R 6) (R 9) (R 12) (R 14)) (ah V2 (ah Kh (ah afP (ah afQ aA))))
def afR:aa C 50 Es:=aF (fun L R=>To L) aA
def afS:aa C 15 AJ:=aF (fun L R=>Tp L (R 50)) (ah afR aA)
def afT:aa C 4 Et:=aF (fun L R=>Tq L (R 15)) (ah afS aA)
def qzj:aa C 5 Tt:=aF (fun L R=>qoz L) aA
def qtu:aa C 7 Tu:=aF (fun L R=>qd8 L) aA
def V8:aa C 161 tn:=aF (fun L R=>Tv L) aA
def afU:aa C 162 AK:=aF (fun L R=>Tw L (R 161)) (ah V8 aA)
def afV:aa C 231 AL:=aF (fun L R=>My L) aA
def afW:aa C 163 Eu:=aF (fun L R=>Tz L (R 231)) (ah afV aA)
def afX:aa C 232 Jb:=aF (fun L R=>Mz L) aA
def Qj:aa C 164 tp:=aF (fun L R=>MA L (R 232)) (ah afX aA)
def Bu:aa C 99 lL:=aF (fun L R=>MB L (R 161) (R 162) (R 163) (R 164)) (ah V8 (ah afU (ah afW (ah Qj aA))))
def V9:aa C 39 qY:=aF (fun L R=>MD L (R 99)) (ah Bu aA)
def Kl:aa C 10 qZ:=aF (fun L R=>TA L (R 39)) (ah V9 aA)
def Wa:aa C 66 AM:=aF (fun L R=>ME L (R 99)) (ah Bu aA)
def afY:aa C 27 xa:=aF (fun L R=>MF L (R 66)) (ah Wa aA)
def Wb:aa C 142 q7:=aF (fun L R=>MG L (R 99)) (ah Bu aA)
def Wc:aa C 165 AO:=pH (C:=C) (k:=165) (fun L R=>TB L (R 165)) (F:=tq) (O:=fun g=>(au 165 g cQ)) (fun g hg=>(ah hg aA)) (fun _ _ _=>by kernel_rfl) (fun _ _=>by kernel_rfl)
def Qk:aa C 144 q8:=aF (fun L R=>MH L (R 165)) (ah Wc aA)
def afZ:aa C 211 Ew:=aF (fun L R=>TC L (R 99) (R 144)) (ah Bu (ah Qk aA))
def af0:aa C 262 Ey:=aF (fun L R=>TD L) aA
def af1:aa C 212 Ez:=aF (fun L R=>TE L (R 262)) (ah af0 aA)
def af2:aa C 140 EA:=aF (fun L R=>TF L (R 142) (R 211) (R 212)) (ah Wb (ah afZ (ah af1 aA)))
def af3:aa C 141 EB:=aF (fun L R=>TG L) aA
def af4:aa C 143 EC:=aF (fun L R=>TH L) aA
def af5:aa C 67 Jc:=aF (fun L R=>TI L (R 140) (R 141) (R 142) (R 143)) (ah af2 (ah af3 (ah Wb (ah af4 aA))))
def af6:aa C 28 AP:=aF (fun L R=>MI L (R 67)) (ah af5 aA)
def Wd:aa C 68 AQ:=aF (fun L R=>MJ L (R 99)) (ah Bu aA)
def pw:aa C 100 dJ:=aF (fun L R=>TJ L (R 165)) (ah Wc aA)
def af7:aa C 145 MK:=pH (C:=C) (k:=145) (fun L R=>TK L (R 100) (R 145)) (F:=o8) (O:=fun g=>(au 100 dJ (au 145 g cQ))) (fun g hg=>(ah pw (ah hg aA))) (fun _ _ _=>by kernel_rfl) (fun _ _=>by kernel_rfl)
def We:aa C 214 tu:=aF (fun L R=>ML L) aA
def af8:aa C 263 ED:=aF (fun L R=>MM L) aA
def af9:aa C 264 AR:=aF (fun L R=>MN L) aA
def aga:aa C 213 xc:=aF (fun L R=>MO L (R 66) (R 68) (R 164) (R 214) (R 263) (R 264)) (ah Wa (ah Wd (ah Qj (ah We (ah af8 (ah af9 aA))))))
def agb:aa C 146 MP:=pH (C:=C) (k:=146) (fun L R=>TM L (R 100) (R 146) (R 213)) (F:=nE) (O:=fun g=>(au 100 dJ (au 146 g (au 213 xc cQ)))) (fun g hg=>(ah pw (ah hg (ah aga aA)))) (fun _ _ _=>by kernel_rfl) (fun _ _=>by kernel_rfl)
def agc:aa C 215 EE:=pH (C:=C) (k:=215) (fun L R=>TN L (R 100) (R 215)) (F:=nG) (O:=fun g=>(au 100 dJ (au 215 g cQ))) (fun g hg=>(ah pw (ah hg aA))) (fun _ _ _=>by kernel_rfl) (fun _ _=>by kernel_rfl)
def agd:aa C 147 MQ:=pH (C:=C) (k:=147) (fun L R=>TO L (R 100) (R 147) (R 214) (R 215)) (F:=nH) (O:=fun g=>(au 100 dJ (au 147 g (au 214 tu (au 215 EE cQ))))) (fun g hg=>(ah pw (ah hg (ah We (ah agc aA))))) (fun _ _ _=>by kernel_rfl) (fun _ _=>by kernel_rfl)
def Wf:aa C 69 o9:=aF (fun L R=>MR L (R 144) (R 145) (R 146) (R 147)) (ah Qk (ah af7 (ah agb (ah agd aA))))
def age:aa C 29 xd:=aF (fun L R=>MS L (R 68) (R 69)) (ah Wd (ah Wf aA))
def agf:aa C 30 EF:=aF (fun L R=>TP L) aA
def agh:aa C 8 EG:=aF (fun L R=>TQ L (R 10) (R 27) (R 28) (R 29) (R 30)) (ah Kl (ah afY (ah af6 (ah age (ah agf aA)))))
def agi:aa C 40 AS:=aF (fun L R=>TR L (R 10) (R 39)) (ah Kl (ah V9 aA))
def Wg:aa C 41 q9:=aF (fun L R=>MT L) aA
def agj:aa C 101 tv:=aF (fun L R=>MU L) aA
def agk:aa C 42 AT:=pH (C:=C) (k:=42) (fun L R=>TS L (R 41) (R 42) (R 100) (R 101)) (F:=tA) (O:=fun g=>(au 41 q9 (au 42 g (au 100 dJ (au 101 tv cQ))))) (fun g hg=>(ah Wg (ah hg (ah pw (ah agj aA))))) (fun _ _ _=>by kernel_rfl) (fun _ _=>by kernel_rfl)
def agl:aa C 102 AU:=aF (fun L R=>MW L (R 10) (R 69)) (ah Kl (ah Wf aA))
def Ql:aa C 44 jS:=aF (fun L R=>MY L (R 99)) (ah Bu aA)
def Wh:aa C 166 eO:=aF (fun L R=>MZ L) aA
def agm:aa C 233 EH:=aF (fun L R=>M0 L) aA
def Wi:aa C 167 re:=aF (fun L R=>TT L (R 164) (R 233)) (ah Qj (ah agm aA))
def agn:aa C 168 AV:=aF (fun L R=>TU L) aA
def Km:aa C 234 pa:=aF (fun L R=>TV L) aA
def Wj:aa C 235 AW:=aF (fun L R=>M3 L (R 234)) (ah Km aA)
def ago:aa C 169 kN:=aF (fun L R=>M4 L (R 234) (R 235)) (ah Km (ah Wj aA))
def Qm:aa C 171 ic:=aF (fun L R=>M5 L) aA
def Wk:aa C 172 pb:=aF (fun L R=>M6 L (R 234) (R 235)) (ah Km (ah Wj aA))
def agp:aa C 170 jx:=aF (fun L R=>M7 L (R 171) (R 172)) (ah Qm (ah Wk aA))
def agq:aa C 173 AY:=pH (C:=C) (k:=173) (fun L R=>TW L (R 44) (R 100) (R 167) (R 173)) (F:=AX) (O:=fun g=>(au 44 jS (au 100 dJ (au 167 re (au 173 g cQ))))) (fun g hg=>(ah Ql (ah pw (ah Wi (ah hg aA))))) (fun _ _ _=>by kernel_rfl) (fun _ _=>by kernel_rfl)
def agr:aa C 236 Jd:=aF (fun L R=>TX L) aA
def Qn:aa C 174 pe:=aF (fun L R=>M8 L (R 236)) (ah agr aA)
def Qo:aa C 177 mM:=aF (fun L R=>M9 L (R 174)) (ah Qn aA)
def qdp(g:ai (aQ C.sigs 103).ins.aS->Option (ai (aQ C.sigs 103).outs.aS))(hg:aa C 103 g):aa C 178 (EI g):=aF (fun L R=>qew L (R 103) (R 166) (R 234)) (O:=(au 103 g (au 166 eO (au 234 pa cQ)))) (ah hg (ah Wh (ah Km aA)))
def qtv(g:ai (aQ C.sigs 103).ins.aS->Option (ai (aQ C.sigs 103).outs.aS))(hg:aa C 103 g):aa C 175 (K8 g):=aF (fun L R=>qex L (R 174) (R 177) (R 178)) (O:=(au 174 pe (au 177 mM (au 178 (EI g) cQ)))) (ah Qn (ah Qo (ah (qdp g hg) aA)))
def qtw(g:ai (aQ C.sigs 103).ins.aS->Option (ai (aQ C.sigs 103).outs.aS))(hg:aa C 103 g):aa C 176 (TY g):=pH (C:=C) (k:=176) (fun L R=>qey L (R 100) (R 171) (R 176) (R 177) (R 178)) (F:=Na g) (O:=fun g2=>(au 100 dJ (au 171 ic (au 176 g2 (au 177 mM (au 178 (EI g) cQ)))))) (fun g2 hc=>(ah pw (ah Qm (ah hc (ah Qo (ah (qdp g hg) aA)))))) (fun _ _ _=>by kernel_rfl) (fun _ _=>by kernel_rfl)
def ags:aa C 103 EK:=pH (C:=C) (k:=103) (fun L R=>TZ L (R 44) (R 100) (R 103) (R 166) (R 167) (R 168) (R 169) (R 170) (R 171) (R 172) (R 173) (R 174) (R 175) (R 176) (R 177) (R 178)) (F:=pf) (O:=fun g=>(au 44 jS (au 100 dJ (au 103 g (au 166 eO (au 167 re (au 168 AV (au 169 kN (au 170 jx (au 171 ic (au 172 pb (au 173 AY (au 174 pe (au 175 (K8 g) (au 176 (TY g) (au 177 mM (au 178 (EI g) cQ))))))))))))))))) (fun g hg=>(ah Ql (ah pw (ah hg (ah Wh (ah Wi (ah agn (ah ago (ah agp (ah Qm (ah Wk (ah agq (ah Qn (ah (qtv g hg) (ah (qtw g hg) (ah Qo (ah (qdp g hg) aA))))))))))))))))) (fun _ _ _=>by kernel_rfl) (fun _ _=>by kernel_rfl)
def agt:aa C 104 Je:=aF (fun L R=>Ua L (R 144)) (ah Qk aA)
def Wl:aa C 105 A1:=pH (C:=C) (k:=105) (fun L R=>Ub L (R 100) (R 105)) (F:=A0) (O:=fun g=>(au 100 dJ (au 105 g cQ))) (fun g hg=>(ah pw (ah hg aA))) (fun _ _ _=>by kernel_rfl) (fun _ _=>by kernel_rfl)
def agu:aa C 237 Nb:=aF (fun L R=>Uc L) aA
def agv:aa C 179 Uf:=pH (C:=C) (k:=179) (fun L R=>Ud L (R 100) (R 105) (R 179) (R 237)) (F:=Ue) (O:=fun g=>(au 100 dJ (au 105 A1 (au 179 g (au 237 Nb cQ))))) (fun g hg=>(ah pw (ah Wl (ah hg (ah agu aA))))) (fun _ _ _=>by kernel_rfl) (fun _ _=>by kernel_rfl)
def agw:aa C 106 Uh:=aF (fun L R=>Ug L (R 179)) (ah agv aA)
def agx:aa C 43 tB:=aF (fun L R=>Nc L (R 102) (R 103) (R 104) (R 105) (R 106)) (ah agl (ah ags (ah agt (ah Wl (ah agw aA)))))
def agy:aa C 11 EL:=aF (fun L R=>Ui L (R 40) (R 41) (R 42) (R 43) (R 44)) (ah agi (ah Wg (ah agk (ah agx (ah Ql aA)))))
def lR:aa C 0 cA:=aF (fun L R=>q82 L (R 3) (R 4) (R 5) (R 6) (R 7) (R 8) (R 9) (R 10) (R 11)) (ah qtt (ah afT (ah qzj (ah V2 (ah qtu (ah agh (ah Kh (ah Kl (ah agy aA)))))))))
def zk9:QR C C.eY=true:=by kernel_rfl
def zlb:L6 C C.eqs=true:=by kernel_rfl
def zav:S2 C C.sigs=true:=by kernel_rfl
def mixed:C.P.follows .mixedOrders=true:=by kernel_rfl
def calls{i:Nat}{x:ai (aQ C.sigs i).ins.aS}{y:ai (aQ C.sigs i).outs.aS}(h:Ev.Call C i x y):qw C i x y:=zc2 zk9 zlb zav mixed h
def zka:XJ C Rows.modJoinsRow.laid:=by
 refine⟨by kernel_rfl,fun g t x h=>?_⟩
 match g with
 |0=>cases h;exact⟨_,_,289,List.Mem.tail _ (List.Mem.tail _ (List.Mem.tail _ (List.Mem.tail _ (List.Mem.tail _ (List.Mem.head _))))),by kernel_rfl,by kernel_rfl,by kernel_rfl,rfl,by kernel_rfl⟩
 |5=>cases h;exact⟨_,_,324,List.Mem.tail _ (List.Mem.tail _ (List.Mem.head _)),by kernel_rfl,by kernel_rfl,by kernel_rfl,rfl,by kernel_rfl⟩
 |1=>cases h
 |2=>cases h
 |3=>cases h
 |4=>cases h
 |n+6=>cases h
def Qp:XK C Rows.modJoinsRow.laid:=z7j zk9 (by kernel_rfl) (by kernel_rfl) (by kernel_rfl) zka
end Go.Proofs.YtdgmbemagoakjaaGreatDoor.Fl