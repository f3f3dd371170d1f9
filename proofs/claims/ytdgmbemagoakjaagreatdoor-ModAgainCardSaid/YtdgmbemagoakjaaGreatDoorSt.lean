/- The functions of this seat as data: each is what the model's code gives, by the kernel's reckoning over the verified evaluator. -/
import Derived.Test.YtdgmbemagoakjaaGreatDoorFnA
import Derived.Test.YtdgmbemagoakjaaGreatDoorEvJ
import Derived.Test.YtdgmbemagoakjaaGreatDoorProg
import Derived.Test.YtdgmbemagoakjaaGreatDoorSlp
import Derived.Sort.EveryDepth
import Derived.Test.YtdgmbemagoakjaaGreatDoorRows
import Derived.KernelRfl
set_option linter.defProp false
namespace Go.Proofs.YtdgmbemagoakjaaGreatDoor.Da
open Go Go.Proofs Go.Shelf Go.RowKit Go.Sort Ev Ev.Fn
abbrev t1:Ty:=.int .i64
abbrev t5:Ty:=.st (.pair t1 (.pair .str (.pair t1 t1)))
abbrev t0:Ty:=.sl t5
abbrev t2:Ty:=.st (.pair .str (.pair t1 t1))
abbrev tg:Ty:=.st (.pair .str (.sl t0))
abbrev t6:Ty:=.sl tg
abbrev t3:Ty:=.st (.pair .str (.pair t1 t6))
abbrev tc:Ty:=.sl .str
abbrev t8:Ty:=.st (.pair .str (.pair .bool t0))
abbrev t4:Ty:=.st (.pair .str (.pair tc (.pair (.sl t2) (.pair (.sl t3) (.sl t8)))))
abbrev t7:Ty:=.int .u8
abbrev te:Ty:=.st (.pair .str (.int .u32))
abbrev t9:Ty:=.st (.pair .str (.pair (.sl te) (.pair (.sl t3) (.pair (.sl t2) (.sl (.st (.pair .str t0)))))))
abbrev ta:Ty:=.st (.pair (.int .u16) (.pair (.int .u16) (.int .u16)))
abbrev tb:Ty:=.st (.pair (.int .u32) (.pair (.int .u32) (.int .u32)))
abbrev td:Ty:=.st (.pair t0 (.sl t2))
abbrev tf:Ty:=.st (.pair t0 (.pair t1 (.pair (.sl t2) (.pair t1 (.pair t1 (.pair t1 t1))))))
abbrev th:Ty:=.int .u64
def pS(f:Nat)(a b:List Ty):nG:=⟨f,⟨a.map .d,[]⟩,⟨b.map .d,[]⟩,[]⟩
def zS:nG:=⟨0,⟨[],[]⟩,⟨[],[]⟩,[]⟩
abbrev zi3:List Sh:=[.d t0,.d t1,.d (.sl t2),.d t1,.d t1,.d t1,.d t1]
abbrev wi:List fG:=[.box zi3]
abbrev Db:List fG:=[.box [.d t0,.d t1,.d .bool,.cC 1],.vec .str]
abbrev Ef:List fG:=[.box [.ib 0,.cC 1,.d .fY,.d t1],.vec t7]
abbrev oP:List Sh:=[.d .bool]
abbrev rJ:Shape:=⟨oP,[]⟩
abbrev oQ:List Sh:=[.d t1]
abbrev q9:Shape:=⟨oQ,[]⟩
abbrev Ui:List fG:=[.box [.fn 137 [.ptr 1 0]],.box [.d .str,.d t1,.d t6]]
abbrev Yw:List fG:=[.box [.d t0,.d (.sl t2)]]
abbrev Dd:Shape:=⟨[.ptr 0 0],wi⟩
abbrev Bd:Shape:=⟨[.d t0],wi⟩
abbrev Yx:List fG:=[.box [.ptr 1 0],.box zi3]
abbrev Pj:List Sh:=[.d (.sl t3)]
abbrev Uj:List fG:=[.box [.fn 83 [.ptr 1 0]],.box Pj]
abbrev Uk:List fG:=[.box [.ib 0,.cC 2,.d .fY,.d t1],.gone,.vec t7]
abbrev Nb:List fG:=[.box [.d .str,.d t1,.d t6]]
abbrev Ul:List fG:=[.box [.ib 0,.cC 1],.vec t7]
abbrev H9:Shape:=⟨[.ptr 0 0],Db⟩
abbrev zi4:List fG:=[.box [.d (.sl t1)],.box oQ,.box [.d (.sl t0)],.box [.d tc],.box [.fn 309 [.ptr 0 0,.ptr 1 0,.ptr 2 0,.ptr 3 0,.ptr 4 0]]]
abbrev Pl:Shape:=⟨[.d t0],Yw⟩
abbrev Yy:List Sh:=[.ptr 0 0,.d t1]
abbrev Yz:Shape:=⟨Yy,Yw⟩
abbrev Pm:List Sh:=[.ptr 0 0,.d .str]
abbrev zi5:List fG:=[.box [.ptr 2 0],.box [.d t0],.box [.d t0,.d t1,.d .bool,.cC 3],.vec .str]
abbrev Gq:List fG:=[.box Pj]
abbrev zb4:Shape:=⟨[.cC 0],[.vec .str]⟩
abbrev zi6:List fG:=[.box [.ptr 2 0],.box oQ,.box [.d t0,.d (.sl t2)]]
abbrev zb5:Shape:=⟨[.ptr 0 0],Ul⟩
abbrev zi7:Shape:=⟨[.d (.sl t0),.fn 142 [.ptr 0 0]],Ui⟩
abbrev zi8:Shape:=⟨[.d (.sl t1),.fn 138 [.ptr 0 0]],Nb⟩
abbrev zi9:Shape:=⟨[.d (.sl t0),.fn 88 [.ptr 0 0]],Uj⟩
abbrev YA:List Sh:=[.fn 83 [.ptr 0 0]]
abbrev zb6:Shape:=⟨[.d t0],Db⟩
abbrev zia:Shape:=⟨[.d (.sl t3),.fn 85 [.ref t5]],[]⟩
abbrev zib:Shape:=⟨[.d t0,.fn 83 [.ptr 0 0]],Gq⟩
abbrev zic:Shape:=⟨[.ptr 0 0,.d t1,.d .str],Db⟩
abbrev zid:List fG:=[.box [.ib 0,.cC 2],.gone,.vec t7]
abbrev zie:Shape:=⟨[.d .str],[.gone,.gone]⟩
abbrev zif:Shape:=⟨[.d (.sl t8),.fn 36 []],[]⟩
abbrev zig:Shape:=⟨[.d (.sl t2),.fn 53 []],[]⟩
abbrev zih:Shape:=⟨[.d (.sl t3),.fn 76 []],[]⟩
def sigs:List nG:=[
 zS,
 pS 4 [.str,.str,.sl t2] [.bool],
 zS,
 pS 6 [] [.bool],
 zS,
 pS 8 [.sl t2] [.bool],
 pS 9 [t4,.sl t2] [.str,t1],
 pS 10 [.sl t2] [.sl t2],
 zS,
 pS 12 [t4] [t1],
 zS,
 zS,
 pS 15 [.str,.str,.sl t2] [t4,t1,t1],
 pS 16 [t4,t4] [.bool],
 pS 17 [.str] [tc],
 zS,
 pS 19 [.sl t2] [t1],
 ⟨20,⟨Pm,Ul⟩,⟨[.d t1,.iN],zid⟩,[0]⟩,
 ⟨20,⟨Pm,Ef⟩,⟨[.d t1,.iN],Uk⟩,[0]⟩,
 ⟨21,⟨[.d (.sl t2)],[]⟩,⟨[.cC 0],[.vec t2]⟩,[]⟩,
 pS 22 [.sl t2,t2] [.sl t2,t1],
 pS 23 [t3] [.str],
 pS 24 [t0,.sl t2] [.str,t1],
 pS 25 [.str] [.str],
 ⟨26,zb5,⟨oQ,Ul⟩,[0,1]⟩,
 ⟨27,zb5,zie,[]⟩,
 ⟨27,⟨[.ptr 0 0],Ef⟩,zie,[]⟩,
 zS,
 zS,
 zS,
 zS,
 pS 32 [.str] [.bool],
 pS 33 [.str] [.bool],
 ⟨34,⟨[.d tc,.fn 32 []],[]⟩,rJ,[]⟩,
 ⟨35,zif,rJ,[]⟩,
 pS 36 [t8] [.bool],
 pS 37 [t8] [.bool],
 pS 38 [.sl t3] [t1],
 pS 39 [tc] [.bool],
 zS,
 zS,
 zS,
 zS,
 zS,
 zS,
 pS 46 [.str] [t0,t1,t1],
 ⟨47,⟨[.ptr 0 0,.d t0,.d t1],[.box [.d .str,.cC 1,.cC 2,.cC 3,.cC 4,.d (.sl t2)],.vec .str,.vec t2,.vec t3,.vec t8]⟩,⟨[.d t1,.d t1],[.box [.d .str,.cC 5,.cC 6,.cC 7,.cC 8,.d (.sl t2)],.gone,.gone,.gone,.gone,.vec .str,.vec t2,.vec t3,.vec t8]⟩,[0]⟩,
 pS 48 [tc,tc] [.bool],
 pS 49 [.sl t3,.sl t3] [.bool],
 pS 50 [t0,t0] [.bool],
 zS,
 ⟨52,zig,rJ,[]⟩,
 pS 53 [t2] [.bool],
 pS 54 [t2] [.bool],
 pS 55 [.sl t2,.str] [t2,.bool],
 ⟨56,zb5,⟨[],Ul⟩,[0,1]⟩,
 ⟨56,⟨[.ptr 0 0],Ef⟩,⟨[],Ef⟩,[0,1]⟩,
 ⟨57,⟨[.cC 0,.fn 58 [.ref t2]],[.vec t2]⟩,⟨[.cC 1],[.gone,.vec t2]⟩,[]⟩,
 ⟨58,⟨[.d t2,.ref t2],[]⟩,rJ,[]⟩,
 ⟨59,⟨[.cC 0,.fn 60 []],[.vec t2]⟩,⟨[],[.vec t2]⟩,[0]⟩,
 zS,
 zS,
 pS 62 [t0,t1,.bool,.bool] [.str],
 pS 63 [t0,.sl t2] [t0,t1],
 pS 64 [t0] [.str,t1],
 pS 65 [t5] [.bool],
 zS,
 zS,
 zS,
 zS,
 pS 70 [.str] [.bool],
 ⟨71,⟨[.d tc,.fn 307 [.ptr 0 0]],Yx⟩,⟨oQ,Yx⟩,[0,1]⟩,
 ⟨71,⟨[.d tc,.fn 32 []],[]⟩,q9,[]⟩,
 ⟨72,zif,q9,[]⟩,
 pS 73 [.str] [.bool],
 pS 74 [t0] [t1],
 ⟨75,zih,rJ,[]⟩,
 ⟨75,zia,rJ,[]⟩,
 pS 76 [t3] [.bool],
 pS 77 [t3] [.bool],
 ⟨78,zih,q9,[]⟩,
 ⟨78,⟨[.d (.sl t3),.fn 79 [.ref t3]],[]⟩,q9,[]⟩,
 ⟨78,zia,q9,[]⟩,
 ⟨79,⟨[.d t3,.ref t3],[]⟩,rJ,[]⟩,
 ⟨80,⟨[.d t1,.d t1,.ptr 0 0],Gq⟩,⟨oP,Gq⟩,[0]⟩,
 pS 81 [.sl t3,.str] [t1,t1,.bool],
 ⟨82,⟨[.d (.sl t3),.fn 80 [.ptr 0 0]],Gq⟩,⟨oP,Gq⟩,[0]⟩,
 ⟨82,⟨[.d (.sl t3),.fn 86 [.ptr 0 0,.ptr 1 0]],[.box Pj,.box YA]⟩,⟨oP,[.box Pj,.box YA]⟩,[0,1]⟩,
 ⟨82,⟨[.d (.sl t3),.fn 143 [.ref (.sl t3),.ref .str,.ptr 0 0,.ptr 1 0]],[.box oQ,.box oQ]⟩,⟨oP,[.box oQ,.box oQ]⟩,[0,1]⟩,
 ⟨83,⟨[.d t5,.ptr 0 0],Gq⟩,⟨oP,Gq⟩,[0]⟩,
 pS 84 [.str] [.bool],
 ⟨85,⟨[.d t3,.ref t5],[]⟩,rJ,[]⟩,
 ⟨86,⟨[.d t1,.d t1,.ptr 0 0,.ptr 1 0],[.box Pj,.box YA]⟩,⟨oP,[.box Pj,.box YA]⟩,[0,1]⟩,
 ⟨87,zi9,⟨oP,Uj⟩,[0,1]⟩,
 ⟨87,zi7,⟨oP,Ui⟩,[0,1]⟩,
 ⟨88,⟨[.d t0,.ptr 0 0],Uj⟩,⟨oP,Uj⟩,[0,1]⟩,
 ⟨89,⟨[.d t0,.fn 223 []],[]⟩,rJ,[]⟩,
 ⟨89,zib,⟨oP,Gq⟩,[0]⟩,
 pS 90 [tc,.str] [.bool],
 zS,
 zS,
 zS,
 zS,
 zS,
 zS,
 zS,
 zS,
 ⟨99,⟨[.d .str,.fn 122 []],[]⟩,q9,[]⟩,
 ⟨99,⟨[.d .str,.fn 127 []],[]⟩,q9,[]⟩,
 ⟨99,⟨[.d .str,.fn 168 []],[]⟩,q9,[]⟩,
 ⟨99,⟨[.d .str,.fn 100 []],[]⟩,q9,[]⟩,
 pS 100 [t7] [.bool],
 pS 101 [.str] [t5,t1,t1],
 ⟨102,⟨[.d .bool,.ptr 0 0,.ptr 1 0],zi5⟩,⟨[.d t1,.d t1],zi5⟩,[0,1,2,3]⟩,
 ⟨103,zic,⟨[.d t5],Db⟩,[0,1]⟩,
 ⟨104,H9,⟨[.d t2],Db⟩,[0,1]⟩,
 ⟨105,H9,⟨[.d t3],[.box [.d t0,.d t1,.d .bool,.cC 2],.gone,.vec .str]⟩,[0]⟩,
 ⟨106,zic,⟨oP,Db⟩,[0,1]⟩,
 ⟨107,H9,⟨[.d .str],Db⟩,[0,1]⟩,
 pS 108 [t0,t1,.sl t2] [t0,t1,t1],
 pS 109 [.sl t0,.sl t0] [.bool],
 ⟨110,zig,q9,[]⟩,
 ⟨110,⟨[.d (.sl t2),.fn 111 [.ref .str]],[]⟩,q9,[]⟩,
 ⟨110,⟨[.d (.sl t2),.fn 58 [.ref t2]],[]⟩,q9,[]⟩,
 ⟨111,⟨[.d t2,.ref .str],[]⟩,rJ,[]⟩,
 zS,
 pS 116 [t0,t1] [.sl t1],
 ⟨117,Yz,Pl,[0]⟩,
 pS 118 [t0] [t1],
 ⟨119,⟨[.ptr 0 0,.d t0,.d t1,.d t1,.d .bool],Ef⟩,⟨oQ,Uk⟩,[0]⟩,
 ⟨120,⟨[.fn 124 [],.ref t5],[]⟩,rJ,[]⟩,
 ⟨120,⟨[.fn 125 [],.ref t5],[]⟩,rJ,[]⟩,
 ⟨121,⟨[.d .str,.fn 122 []],[]⟩,rJ,[]⟩,
 ⟨121,⟨[.d .str,.fn 127 []],[]⟩,rJ,[]⟩,
 pS 122 [t7] [.bool],
 pS 123 [.str] [.bool],
 pS 124 [t7] [.bool],
 pS 125 [t7] [.bool],
 pS 126 [t1] [t1],
 pS 127 [t7] [.bool],
 zS,
 zS,
 zS,
 zS,
 zS,
 zS,
 zS,
 zS,
 pS 136 [t0,.bool] [t1],
 ⟨137,⟨[.d t0,.ptr 0 0],Nb⟩,⟨oP,Nb⟩,[0]⟩,
 ⟨138,⟨[.d t1,.ptr 0 0],Nb⟩,⟨oP,Nb⟩,[0]⟩,
 pS 139 [t0] [t1],
 ⟨140,zi8,⟨oP,Nb⟩,[0]⟩,
 pS 141 [t0] [.sl t1],
 ⟨142,⟨[.d t0,.ptr 0 0],Ui⟩,⟨oP,Ui⟩,[0,1]⟩,
 ⟨143,⟨[.d t1,.d t1,.ref (.sl t3),.ref .str,.ptr 0 0,.ptr 1 0],[.box oQ,.box oQ]⟩,⟨oP,[.box oQ,.box oQ]⟩,[0,1]⟩,
 ⟨144,zi9,⟨oQ,Uj⟩,[0,1]⟩,
 ⟨144,zi7,⟨oQ,Ui⟩,[0,1]⟩,
 ⟨145,⟨[.d t0,.fn 223 []],[]⟩,q9,[]⟩,
 ⟨145,zib,⟨oQ,Gq⟩,[0]⟩,
 pS 146 [tc,.str] [t1],
 zS,
 zS,
 zS,
 zS,
 zS,
 zS,
 zS,
 zS,
 zS,
 zS,
 zS,
 zS,
 zS,
 zS,
 zS,
 zS,
 zS,
 zS,
 zS,
 ⟨166,⟨[.d t1,.d t1,.ref .str],[]⟩,⟨[.d t5,.d t1,.d t1],[]⟩,[]⟩,
 pS 167 [.str,.str] [.bool],
 pS 168 [t7] [.bool],
 pS 169 [.str] [t1,t1],
 pS 170 [.str] [.str,t1],
 ⟨171,H9,⟨[.d tg],Db⟩,[0,1]⟩,
 ⟨172,Dd,Bd,[0]⟩,
 ⟨173,⟨[.ptr 0 0,.d t1,.d t1],wi⟩,Bd,[0]⟩,
 ⟨174,⟨Yy,wi⟩,⟨oQ,wi⟩,[0]⟩,
 pS 185 [t0,t1] [t1],
 ⟨186,⟨[.d t1,.ptr 0 0,.ptr 1 0],zi6⟩,⟨[.d t0],zi6⟩,[0,1,2]⟩,
 pS 187 [.str] [t0],
 pS 188 [t1] [.str],
 pS 189 [.str] [.str],
 pS 190 [.str] [.str],
 pS 191 [.sl t0] [t0],
 pS 192 [t0] [t0],
 pS 193 [] [t0],
 ⟨194,Yz,Pl,[0]⟩,
 ⟨195,⟨[.ref td,.d t1],[]⟩,q9,[]⟩,
 ⟨196,Yz,Pl,[0]⟩,
 ⟨197,Yz,Pl,[0]⟩,
 pS 198 [t0] [.bool],
 pS 199 [t5] [.bool],
 ⟨200,⟨[.d t1,.d .bool,.ptr 0 0,.ptr 1 0,.ptr 2 0,.ptr 3 0],[.box oQ,.box [.d t1,.d .str,.d t1,.d t1],.box [.ptr 4 0],.box [.d t0],.box [.ib 4,.cC 5,.d .fY,.d t1],.vec t7]⟩,⟨oQ,[.box oQ,.box [.d t1,.d .str,.d t1,.d t1],.box [.ptr 4 0],.box [.d t0],.box [.ib 4,.cC 6,.d .fY,.d t1],.gone,.vec t7]⟩,[0,1,2,3,4]⟩,
 ⟨201,⟨Pm,Ef⟩,⟨[],Uk⟩,[0]⟩,
 ⟨202,⟨Yy,Ef⟩,⟨[],Uk⟩,[0]⟩,
 ⟨203,⟨Yy,Ef⟩,⟨oP,Ef⟩,[0,1]⟩,
 pS 204 [t0] [t1],
 pS 205 [] [tc],
 pS 206 [.str,t7] [t1],
 zS,
 zS,
 zS,
 zS,
 zS,
 pS 212 [t0] [t1],
 ⟨213,⟨[.d t0,.d t1,.d .bool,.fn 214 [.ref t0]],[]⟩,⟨[.d t1,.d t1],[]⟩,[]⟩,
 ⟨214,⟨[.d t1,.d .bool,.ref t0],[]⟩,q9,[]⟩,
 pS 215 [t0,t1,.bool] [t1],
 ⟨216,⟨[.d t1,.ref t0],[]⟩,rJ,[]⟩,
 pS 217 [t0,t1] [t0,t1],
 ⟨218,⟨[.d t0],[]⟩,zb4,[]⟩,
 ⟨219,zb4,⟨[],[.vec .str]⟩,[0]⟩,
 ⟨220,zb4,⟨[.cC 1],[.gone,.vec .str]⟩,[]⟩,
 pS 221 [t0] [t1],
 pS 222 [t1] [.bool],
 pS 223 [t5] [.bool],
 pS 224 [t5] [.bool],
 ⟨225,zi8,⟨oQ,Nb⟩,[0]⟩,
 pS 226 [.sl t1,t1] [.bool],
 zS,
 zS,
 zS,
 zS,
 zS,
 zS,
 zS,
 pS 234 [.str,.str] [.bool],
 pS 235 [.str,.str] [.str,.bool],
 ⟨236,H9,zb6,[0,1]⟩,
 ⟨237,H9,⟨[.d (.sl t0)],Db⟩,[0,1]⟩,
 ⟨238,⟨[.ptr 0 0,.fn 1048815 [.ptr 0 0]],wi⟩,Bd,[0]⟩,
 ⟨238,⟨[.ptr 0 0,.fn 1048923 [.ptr 0 0]],wi⟩,Bd,[0]⟩,
 ⟨239,Dd,Bd,[0]⟩,
 pS 245 [.str] [t0],
 pS 246 [.str,.str,.str,t1] [.str],
 pS 247 [t1,t1] [.str],
 ⟨248,⟨[.ptr 0 0,.d t7],Ul⟩,⟨[.iN],zid⟩,[0]⟩,
 ⟨248,⟨[.ptr 0 0,.d t7],Ef⟩,⟨[.iN],Uk⟩,[0]⟩,
 pS 249 [t0] [t0],
 pS 250 [.sl t0] [t0],
 pS 251 [.sl t0] [t0],
 ⟨252,⟨[.d t5,.d (.sl t0)],[]⟩,⟨[.cC 0],[.vec t5]⟩,[]⟩,
 pS 253 [t0,t1,.bool] [.str],
 ⟨254,⟨[.ref td,.d t1],[]⟩,⟨[.d t2,.d .bool],[]⟩,[]⟩,
 ⟨255,⟨[.ptr 0 0,.d t1,.d t2,.d t1],Yw⟩,Pl,[0]⟩,
 ⟨256,⟨[.ptr 0 0,.d t1,.d .bool],Yw⟩,Pl,[0]⟩,
 ⟨257,⟨[.d .str,.fn 258 []],[]⟩,rJ,[]⟩,
 pS 258 [.int .i32] [.bool],
 pS 259 [.str,t1] [.str],
 pS 260 [.str] [tc],
 zS,
 zS,
 zS,
 ⟨265,q9,⟨[.agg [.d .bool,.d .bool,.fa [(73,false),(70,false)],.fa [(323,true),(294,false),(295,false)],.d .bool]],[]⟩,[]⟩,
 pS 267 [.sl t1,t1] [t1],
 pS 268 [.str,.str] [.str,.bool],
 ⟨269,⟨Pm,Db⟩,zb6,[0,1]⟩,
 ⟨270,H9,zb6,[0,1]⟩,
 ⟨271,H9,⟨oP,Db⟩,[0,1]⟩,
 ⟨272,⟨[.ptr 0 0,.d t1,.d t1,.d tc],wi⟩,⟨oP,wi⟩,[0]⟩,
 ⟨273,Dd,Bd,[0]⟩,
 ⟨274,Dd,⟨[.d t5],wi⟩,[0]⟩,
 ⟨275,Dd,⟨[.d .str],wi⟩,[0]⟩,
 pS 276 [t1,.str,.sl t0] [t0],
 ⟨277,⟨Pm,wi⟩,Bd,[0]⟩,
 ⟨278,⟨Pm,wi⟩,⟨[],wi⟩,[0]⟩,
 pS 285 [.sl t0] [t0],
 pS 286 [t1,t0] [t0],
 ⟨287,⟨[.rr td,.ref t1,.ref t2,.ref t1],[]⟩,rJ,[]⟩,
 ⟨288,⟨[.d .str,.fn 258 []],[]⟩,q9,[]⟩,
 ⟨293,q9,⟨[.fn 323 [.ref t1]],[]⟩,[]⟩,
 pS 294 [t1] [.bool],
 pS 295 [t1] [.bool],
 pS 305 [.sl t0,t0] [t0],
 ⟨306,Dd,Bd,[0]⟩,
 ⟨307,⟨[.d .str,.ptr 0 0],Yx⟩,⟨oP,Yx⟩,[0,1]⟩,
 pS 308 [.sl t2,tc] [.sl t1,t1],
 ⟨309,⟨[.ptr 0 0,.ptr 1 0,.ptr 2 0,.ptr 3 0,.ptr 4 0],zi4⟩,⟨[.d t0],zi4⟩,[0,1,2,3,4]⟩,
 ⟨319,⟨[.d .str,.fn 258 [],.d .bool],[]⟩,q9,[]⟩,
 ⟨323,⟨[.d t1,.ref t1],[]⟩,rJ,[]⟩,
 ⟨327,Dd,Bd,[0]⟩,
 ⟨328,Dd,⟨oP,wi⟩,[0]⟩,
 ⟨329,⟨[.ptr 0 0,.ptr 1 0],[.box [.cC 2],.box [.cC 3],.vec t1,.vec (.sl t1)]⟩,⟨[],[.box [.cC 4],.box [.cC 5],.gone,.gone,.vec t1,.vec (.sl t1)]⟩,[0,1]⟩,
 ⟨330,⟨[.d (.sl (.sl t1))],[]⟩,⟨[.cC 0],[.vec t1]⟩,[]⟩,
 ⟨342,Dd,Bd,[0]⟩,
 ⟨343,⟨[.d (.sl t1),.d t1],[]⟩,⟨[.cC 0],[.vec t1]⟩,[]⟩,
 ⟨347,Dd,Bd,[0]⟩,
 ⟨348,Dd,Bd,[0]⟩]
def zpe:List Int:=AZ
def zme:List Int:=[1,10,100,1000,10000,100000,1000000,10000000,100000000,1000000000,10000000000,100000000000,1000000000000,10000000000000,100000000000000,1000000000000000,10000000000000000,100000000000000000,1000000000000000000,10000000000000000000]
def me:Nat->Option ((t:Ty)×den t)
 |0=>some ⟨.arr 256 (.int .u8),zpe⟩
 |5=>some ⟨.arr 20 (.int .u64),zme⟩
 |_=>none
def fD:List (Nat×Ty):=[
 (2,t1),
 (3,t1),
 (4,.bool),
 (5,t7),
 (6,t7),
 (7,(.st (.pair t1 (.pair t1 (.pair .bool t7))))),
 (8,(.st (.pair t1 (.pair t1 (.pair .bool t7))))),
 (9,.str),
 (10,.str),
 (11,.str),
 (12,th),
 (13,(.st (.pair .str th))),
 (14,(.st (.pair .str th))),
 (21,(.int .i32)),
 (22,tc),
 (23,(.sl t2)),
 (24,(.sl t3)),
 (25,(.sl t8)),
 (26,t4),
 (27,t4),
 (31,t1),
 (45,(.sl te)),
 (46,(.sl (.st (.pair .str t0)))),
 (47,t9),
 (48,t9),
 (49,t0),
 (50,t8),
 (51,t8),
 (52,t1),
 (53,t5),
 (54,t5),
 (55,t2),
 (56,t2),
 (58,(.sl t7)),
 (65,(.arr 3 .str)),
 (68,t6),
 (69,t3),
 (70,t3),
 (86,(.sl t0)),
 (87,tg),
 (88,tg),
 (91,t0),
 (95,(.st (.pair t4 (.sl t2)))),
 (96,(.st (.pair t4 (.sl t2)))),
 (97,t1),
 (98,t5),
 (99,t5),
 (105,(.int .u32)),
 (106,te),
 (107,te),
 (108,(.st (.pair .str t0))),
 (109,(.st (.pair .str t0))),
 (138,(.sl t1)),
 (149,(.st (.pair t0 (.pair t1 (.pair .bool tc))))),
 (150,(.st (.pair t0 (.pair t1 (.pair .bool tc))))),
 (164,th),
 (166,td),
 (167,td),
 (170,.fY),
 (210,tf),
 (211,tf),
 (215,t1),
 (224,th),
 (226,t1),
 (252,th),
 (268,.gz),
 (289,(.arr 256 t7)),
 (301,(.arr 24 t7)),
 (310,(.sl (.st (.pair t1 t1)))),
 (311,(.st (.pair t1 t1))),
 (312,(.st (.pair t1 t1))),
 (317,(.sl (.sl t1))),
 (320,(.st (.pair t7 t7))),
 (321,(.st (.pair t7 t7))),
 (322,(.arr 16 (.st (.pair t7 t7)))),
 (324,(.arr 20 th)),
 (325,(.arr 65 t7)),
 (326,(.sl ta)),
 (327,(.sl tb)),
 (328,(.st (.pair (.sl ta) (.pair (.sl tb) t1)))),
 (329,(.st (.pair (.sl ta) (.pair (.sl tb) t1)))),
 (330,(.int .u16)),
 (331,ta),
 (332,ta),
 (334,tb),
 (335,tb),
 (342,(.arr 32 t7)),
 (343,(.arr 64 t7)),
 (349,t7),
 (350,t7),
 (352,(.int .i32)),
 (353,(.int .i32))]
def eqs:List Nat:=[54,56]
noncomputable def C:Cx:=⟨Tryz.prog,sigs,me,fD,eqs,60,172⟩
def u85:Tryz.prog.underlying 57=some (.pointer 60):=by kernel_rfl
def Um:Tryz.prog.underlying 160=some .unsafePointer:=by kernel_rfl
def i87:(Tryz.prog.info? 60).map (fun x=>x.size)=some 2:=by kernel_rfl
def zpf:liesAt Tryz.prog Tryz.prog.depth 172 (4 / Tryz.prog.cellsOf 172) 0 60 1=true:=by kernel_rfl
def zpg:liesAt Tryz.prog Tryz.prog.depth 60 (2 / Tryz.prog.cellsOf 60) 0 60 1=true:=by kernel_rfl
set_option maxHeartbeats 1000000 in
set_option maxRecDepth 100000 in
def zb7(b:Nat)(w:World)(h0:w.cell? ⟨b,0,none⟩=some (.pointer (some ⟨b,0,none⟩))):Calls Tryz.prog 56 #[.pointer (some ⟨b,0,none⟩)] w fun e w'=>e=.returned (.tuple #[])/\w'=w:=by
 obtain⟨j,hj,_⟩:=jj.1 i87
 go_enter Tryz.func56,Tryz.ntmps56
 go_wp2
 rw[Lib.run_neq_ptr_same w _ u85 hj]
 go_wp2
 go_end0
 exact⟨rfl,rfl⟩
set_option maxHeartbeats 1000000 in
set_option maxRecDepth 100000 in
def z2g{T k:Nat}(hk:0<k)(hl:liesAt Tryz.prog Tryz.prog.depth T (k / Tryz.prog.cellsOf T) 0 60 1=true)(b:Nat)(w:World)(h0:w.cell? ⟨b,0,none⟩=some (.pointer none))(hc:w.shape? b=some (T,k))(hf:w.frozen? ⟨b,0,none⟩=false):Calls Tryz.prog 56 #[.pointer (some ⟨b,0,none⟩)] w fun e w'=>e=.returned (.tuple #[])/\w'=w.setCell ⟨b,0,none⟩ (.pointer (some ⟨b,0,none⟩)):=by
 obtain⟨j,hj,he⟩:=jj.1 i87
 go_enter Tryz.func56,Tryz.ntmps56
 go_wp2
 rw[Lib.run_to_unsafe w ⟨b,0,none⟩ u85 Um hj (by rw[he];decide) hc hk];simp only[Result.andThen];rw[Oper.upon_value]
 go_wp2
 rw[run_callFunc_extern Tryz.func112 (by kernel_rfl) (by kernel_rfl) (by kernel_rfl) (e:=Extern.AbiNoEscape.same) (by kernel_rfl)];rw[Lib.run_noEscape];simp only[Result.andThen];rw[Oper.upon_value]
 go_wp2
 rw[Lib.run_from_unsafe w ⟨b,0,none⟩ Um u85 hj hc hl];simp only[Result.andThen];rw[Oper.upon_value]
 go_wp2
 go_end0
 exact⟨rfl,rfl⟩
def zii:Tryz.prog.follows .mixedOrders=true:=by kernel_rfl
set_option maxHeartbeats 2000000 in
set_option maxRecDepth 100000 in
def zb8:z6z Tryz.prog 27 58 122 3 9 5 where
 walk:=by
  intro b base q n cap bs w w2 c1 hf hg;have mixed:=zii
  go_enter Tryz.func27,Tryz.ntmps27
  go_wp2
  go_region_o
  all_goals (go_wp2;go_ret;exact⟨rfl,rfl⟩)
 G6:=by
  intro b a cs el fz w hc he sh hj;have hg:∀(W:World) (q:Option Addr),(Builtin.unsafeString_ #[122,3] 9 #[.pointer q,.int .i64 0]).run Tryz.prog W=.ok (.string .empty) W:=fun W q=>Lib.run_unsafeString_none W _ _ _ q;have hk:b<w.heap.size:=(Array.getElem?_eq_some_iff.1 hc).1;have c1:w.drew.cell? ⟨b,1,none⟩=some (.slice (some a) 0 0):=by have:w.drew.heap[b]?=some (.cells cs el fz):=hc;simp only[World.cell?,this];exact he
  have hf:(Builtin.unsafeSliceData_ #[58] 122 #[.slice (some a) 0 0]).run Tryz.prog w.drew=.ok (.pointer (some ⟨w.drew.heap.size,0,none⟩)) (w.drew.alloc (.view a 5)):=Lib.run_unsafeSliceData_zero w.drew _ _ 5 (by kernel_rfl) a 0 sh hj;have c2:(w.drew.alloc (.view a 5)).cell? ⟨b,1,none⟩=some (.slice (some a) 0 0):=by have:(w.drew.alloc (.view a 5)).heap[b]?=_:=(Lib.alloc_old w.drew _ b hk).trans hc;simp only[World.cell?,this];exact he
  have c3:(w.alloc (.view a 5)).drew.cell? ⟨b,1,none⟩=some (.slice (some a) 0 0):=c2;have c0:w.cell? ⟨b,1,none⟩=some (.slice (some a) 0 0):=c1;have mixed:=zii
  go_enter Tryz.func27,Tryz.ntmps27
  go_wp2
  go_region_o
  all_goals (go_wp2;go_ret;exact⟨rfl,rfl⟩)
set_option maxHeartbeats 1000000 in
set_option maxRecDepth 100000 in
def zg1(s:ByteArray)(W:World):Calls Tryz.prog 115 #[.string s] W fun e w'=>e=.returned (.bool false)/\w'=W:=by
 go_enter Tryz.func115,Tryz.ntmps115
 go_wp2
 go_ret
 exact⟨rfl,rfl⟩
def zg2{P:Program}(t:TypeId)(a b:ByteArray)(w:World):(binOp .gtr t (.string a) (.string b)).run P w=.ok (.bool (!(Op.bytesLess a.toList b.toList||a.toList==b.toList))) w:=by simp[binOp,Op.stringOp,pure]
def Ar(s t:ByteArray):Int:=bif Op.bytesLess s.toList t.toList then -1 else bif !(Op.bytesLess s.toList t.toList||s.toList==t.toList) then 1 else 0
set_option maxHeartbeats 1000000 in
set_option maxRecDepth 100000 in
def zmf(s t:ByteArray)(W:World):Calls Tryz.prog 61 #[.string s,.string t] W fun e w'=>e=.returned (.int .i64 (Ar s t))/\w'=W:=by
 have h:=zg1;unfold Ar
 go_enter Tryz.func61,Tryz.ntmps61
 go_wp2_with (go_at_call 115;refine(h _ _).mono ?_;rintro e w' ⟨rfl,rfl⟩)
 ·go_ret
  rename_i e1;exact⟨by rw[e1];rfl,rfl⟩
 ·rename_i e1 _ _ _ _ _ _;rw[zg2];simp only[Result.andThen];rw[Oper.upon_value];generalize hg:(!(Op.bytesLess s.toList t.toList||s.toList==t.toList))=g
  go_wp2
  ·go_ret
   rename_i e2;rw[e2,e1] at hg;exact⟨by rw[e1,hg];rfl,rfl⟩
  ·go_ret
   rename_i e2;rw[e2,e1] at hg;exact⟨by rw[e1,hg];rfl,rfl⟩
def zmg(W:World)(a b:Go.Obj):(W.alloc a).alloc b=grow (W.drewN 0) #[a,b]:=by simp only[alloc_eq_grow,grow_grow];rfl
set_option maxHeartbeats 1000000 in
set_option maxRecDepth 100000 in
def z4u(n m p q:Int)(s t:ByteArray)(W:World):Calls Tryz.prog 60 #[.agg #[.string s,.int .i64 n,.int .i64 m],.agg #[.string t,.int .i64 p,.int .i64 q]] W fun e w'=>e=.returned (.int .i64 (Ar s t))/\∃q os',w'=grow (W.drewN q) os':=by
 have h:=zmf;generalize Ar=f at h ⊢
 go_enter Tryz.func60,Tryz.ntmps60
 go_wp2_with (go_at_call 61;refine(h _ _ _).mono ?_;rintro e w' ⟨rfl,rfl⟩)
 go_ret
 exact⟨rfl,0,_,zmg _ _ _⟩
abbrev YB:Ty:=.st (.pair .str (.pair (.int .i64) (.int .i64)))
abbrev FT(m:List af):={x:af // x∈m}
def Au(x:af):List Value:=[.string (mM x.1),.int .i64 x.2.1,.int .i64 x.2.2]
def ac6(imm:Nat->Prop)(w:World)(x:af)(hx:DJ x=true)(cs:List Value):az imm w YB x cs↔cs=Au x:=by
 obtain⟨s,n,m⟩:=x;obtain⟨h5,h6,⟨h3,h4⟩,h7,h8⟩:=qng hx;constructor
 ·rintro⟨c1,d1,e1,⟨t,e3,h1,h2⟩,c2,d2,e2,g2,g3⟩;have h1:t.data.toList.map (fun b=>(b.toNat:Int))=s:=h1;obtain⟨g2,_⟩:=g2;have g2:c2=[.int .i64 n]:=g2;obtain⟨g3,_⟩:=g3;have g3:d2=[.int .i64 m]:=g3;subst e1 e2 e3 h1 g2 g3;show _=[Value.string (mM _),_,_];rw[qu8];rfl
 ·intro e;subst e;refine⟨[.string (mM s)],_,rfl,⟨mM s,rfl,Iu h5,?_⟩,[.int .i64 n],_,rfl,⟨rfl,h3,h4⟩,rfl,h7,h8⟩;show(s.map fun b=>UInt8.ofNat b.toNat).toArray.size<=_;simpa[cG] using h6
def YC(m:List af)(x y:FT m):Int:=Ar (mM x.1.1) (mM y.1.1)
def Un{m:List af}(hm:∀x,x∈m->DJ x=true)(x y:FT m):ltOf (YC m) x y=DL x.1 y.1:=by have hs:=Iu (l:=x.1.1) (qng (hm _ x.2)).1;have ht:=Iu (l:=y.1.1) (qng (hm _ y.2)).1;have h:=qm9 (mM x.1.1).data.toList (mM y.1.1).data.toList;rw[show(mM x.1.1).data.toList.map _=_ from hs,show(mM y.1.1).data.toList.map _=_ from ht] at h;unfold ltOf YC Ar DL;rw[h,ByteArray.toList_eq,ByteArray.toList_eq];cases Op.bytesLess (mM x.1.1).data.toList (mM y.1.1).data.toList<;>cases ((mM x.1.1).data.toList==(mM y.1.1).data.toList)<;>rfl
def ac7{m:List af}(hm:∀x,x∈m->DJ x=true):Go.Sort.SWO (ltOf (YC m)) where
 irrefl x:=by rw[Un hm];exact qdv _
 trans x y z h1 h2:=by rw[Un hm] at*;exact QF _ _ _ h1 h2
 ntrans x y z h1 h2:=by
  rw[Un hm] at*
  unfold DL at*
  cases h:strLt x.1.1 z.1.1 with
  |false=>rfl
  |true=>
   exfalso;cases h3:strLt y.1.1 x.1.1 with
   |true=>rw[QF _ _ _ h3 h] at h2;cases h2
   |false=>have e:=QG _ _ h1 h3;rw[e] at h;rw[h] at h2;cases h2
def Av{α:Type}{c:Bool}{a y:α}(h:(bif c then some a else none)=some y):c=true/\a=y:=by cases c<;>cases h;exact⟨rfl,rfl⟩
def Uo:ay C 210 vr:=fun⟨l,c,_⟩ y h=>by injection h with h;subst h;exact Call.ml 210 _ _ (zmz (C:=C) (f:=206) ⟨_,Tryz.func206,by kernel_rfl⟩ (fun s c w=>Any.strings_IndexByte Tryz.ixL s c w) l c)
def ac8:ay C 297 CD:=fun⟨⟨nil,l⟩,n,_⟩ y h=>by
 obtain⟨hb,rfl⟩:=Av h;simp only[ze,zV] at hb;obtain⟨⟨⟨rfl,h2⟩,h3⟩,h4⟩:=hb;obtain rfl:l=[]:=List.isEmpty_iff.1 h2;obtain⟨k,rfl⟩:=jP h3;have hc:(Tryz.prog.info? (Tryz.growL_ren.t 25)).map (fun i=>(i.zero,i.size,i.bytes))=some (some (.int .i64 0),1,8):=by kernel_rfl
 obtain⟨i0,i1,i2⟩:=jj.1 hc;injection i2 with i2 i3;injection i3 with i3 i4;have key:=zcp (C:=C) (f:=343) ⟨_,Tryz.func343,by kernel_rfl⟩
  (fun w=>Any8.slices_Grow_room Tryz.growL none 0 0 0 w (zm _) dc dc (zm _))
  (fun n w hn he=>by have g:=Any8.slices_Grow_grow Tryz.growL i0 (.int .i64 0) i1 i2 om none 0 0 n [] w (zm _) om (by rw[i4];omega) om (by rw[i3];rfl) (fun _=>rfl) (fun a h=>by cases h);refine Calls.mono g fun e w' ⟨e1,e2⟩=>⟨_,_,_,e1,e2,?_⟩;simp[Builtin.zeroCells];have hs:(Value.int IntKind.i64 0).cells.size=1:=rfl;rw[hs];omega) k om
 rw[jz.2 (show(k:Int)=0↔k=0 by omega)];exact Call.ml 297 _ _ key
def ac9:ay C 247 Fc:=fun⟨n,k,_⟩ y h=>by
 obtain⟨hb,rfl⟩:=Av h;simp only[ze,zV] at hb;obtain⟨rfl,h2,h3⟩:=hb;have ht:zme=Lib.pow10Tab:=dc
 exact Call.ml 247 _ _ (zjy (C:=C) (f:=247) ⟨_,Tryz.func247,by kernel_rfl⟩ (g:=5) (m:=20) (zs:=zme) (by kernel_rfl) rfl
  (fun n h0 h1 w hc=>Any.strconv_FormatInt_10 Tryz.fmtL n h0 h1 w (by rw[<-ht];exact hc)) n h2 h3)
def zg4:Builder.Extra Tryz.prog Tryz.repL_ren where
 sizeBuilder:=by kernel_rfl
 liesBuilder:=by kernel_rfl
 t5:=Tryz.repL.t5
 a5:=Tryz.repL.a5
 z5:=Tryz.repL.z5
 v5:=Tryz.repL.v5
 infoByte:=by kernel_rfl
 cellsByte:=by kernel_rfl
 sizeByte:=by kernel_rfl
 neB5:=dc
def ada:ay C 246 Fb:=fun⟨l,a,b,k,_⟩ y h=>by obtain⟨hb,rfl⟩:=Av h;simp only[ze,zV,beq_iff_eq] at hb;obtain⟨rfl,rfl,rfl,h3⟩:=hb;exact Call.ml 246 _ _ (zjz (C:=C) (f:=246) ⟨_,Tryz.func246,by kernel_rfl⟩ (fun s w hs=>zct Tryz.repL zg4 s w hs) l h3)
def De(x:List UInt8):List Int:=x.map fun b=>(b.toNat:Int)
def qr6(x y:List UInt8)(h:De x=De y):x=y:=(List.map_inj_right fun a b h=>ZB.1 om).1 h
def qr7:∀x y:List UInt8,strLt (De x) (De y)=decide (x<y)
 |[],[]=>rfl
 |[],b::y=>by show true=_;exact(zw (List.nil_lt_cons b y)).symm
 |a::x,[]=>by show false=_;exact(zt (List.not_lt_nil _)).symm
 |a::x,b::y=>by
  show(decide ((a.toNat:Int)<(b.toNat:Int))||(decide ((a.toNat:Int)=(b.toNat:Int))&&strLt (De x) (De y)))=_;rw[qr7 x y,Zh,zV,List.cons_lt_cons_iff];simp only[jk,ze,zV];have e1:((a.toNat:Int)<(b.toNat:Int))↔a<b:=by rw[UInt8.lt_iff_toNat_lt];omega
  have e2:((a.toNat:Int)=(b.toNat:Int))↔a=b:=by rw[<-ZB];omega
  rw[e1,e2]
def zb9(imm:Nat->Prop)(w:World)(x:List UInt8)(hx:x.length<=9223372036854775807)(cs:List Value):az imm w .str (De x) cs↔cs=[encStr x]:=by
 constructor
 ·rintro⟨t,e3,h1,h2⟩;have h1:t.data.toList.map (fun b=>(b.toNat:Int))=De x:=h1;have h3:t.data.toList=x:=qr6 _ _ h1;subst e3;have:t=⟨x.toArray⟩:=by rw[<-h3]
  rw[this]
 ·intro e;subst e;refine⟨⟨x.toArray⟩,rfl,rfl,?_⟩;show x.toArray.size<=_;simpa[cG] using hx
def zba(l:List Int):List UInt8:=l.map fun b=>UInt8.ofNat b.toNat
def adb:ay C 223 B0:=fun⟨⟨nil,l⟩,_⟩ y h=>by
 obtain⟨hg,rfl⟩:=Av h;simp only[ze,zV] at hg;obtain⟨g1,g3⟩:=hg;have gg:∀s,s∈l->(∀b,b∈s->0<=b/\b<=255)/\s.length<=9223372036854775807:=fun s hs=>z6u (ju.1 g1 s hs);have hl:(l.map zba).map De=l:=by rw[ZX];exact(List.map_congr_left (g:=fun s=>s) fun s hs=>Iu (gg s hs).1).trans (List.map_id' l)
 have e:((l.map zba).mergeSort fun x y=>decide (x<=y)).map De=oZ l:=by
  rw[zgo]
  conv=>rhs;rw[<-hl]
  exact List.map_mergeSort (fun a _ b _=>by
   rw[qr7];by_cases h:b<a
   ·rw[zw h,zt (fun e:a<=b=>e h)];rfl
   ·rw[zt h,zw (show a<=b from h)];rfl)
 have key {S x y}:=z73 (C:=C) (f:=219) (t:=.str) (fun x=>[encStr x]) De (fun x=>x.length<=9223372036854775807) (fun l=>l.mergeSort fun x y=>decide (x<=y)) (by intro h;cases h)
  (fun imm w x hx cs=>zb9 imm w x hx cs) (fun _=>rfl) (fun l=>ZE l) (fun l x hx=>(List.mem_mergeSort).1 hx)
  ⟨_,Tryz.func219,by kernel_rfl⟩ (fv:=[]) (fun p cap w=>Any.slices_Sort_string_none Tryz.sortL p cap w)
  (fun kh off cap zs w hH hb hc=>by have:=calls_of_every_depth fun D=>AnyS.slices_Sort_string_alone Tryz.sortL D kh off cap zs.toList w (zn5 hH) hb hc;simp only[zk1] at this;exact this)
  nil (l.map zba) (fun x hx=>by obtain⟨s,hs,rfl⟩:=jS.1 hx;show(s.map _).length<=_;rw[zI];exact(gg s hs).2) (by rw[zI];exact g3) (es:=[]) (fun _ _ _ _ _ h=>h) (S:=S) (x:=x) (y:=y)
 rw[e,hl] at key;exact Call.ml 223 _ _ (key rfl rfl rfl rfl rfl rfl)
def qgn:∀n:Nat,(Lib.repeatL [32] n).map (fun b=>(b.toNat:Int))=List.replicate n 32
 |0=>rfl
 |n+1=>by show(([32]++Lib.repeatL [32] n).map _)=_;rw[jn,qgn n,Jn];rfl
def zg5:Builder.Extra Tryz.prog Tryz.rptL_ren where
 sizeBuilder:=by kernel_rfl
 liesBuilder:=by kernel_rfl
 t5:=Tryz.rptL.t5
 a5:=Tryz.rptL.a5
 z5:=Tryz.rptL.z5
 v5:=Tryz.rptL.v5
 infoByte:=by kernel_rfl
 cellsByte:=by kernel_rfl
 sizeByte:=by kernel_rfl
 neB5:=dc
def ade:ay C 260 Lv:=fun⟨l,n,_⟩ y h=>by obtain⟨hb,rfl⟩:=Av h;simp only[ze,zV,beq_iff_eq] at hb;obtain⟨rfl,h2,h3⟩:=hb;obtain⟨k,rfl⟩:=jP h2;refine Call.ml 260 _ _ ?_;intro X φ w Wt hm hz;have hm:MRel C X φ ry w:=hm;have hz:cu φ ry (ag X φ ry w) w [.d .str ([32]:List Int),.d (.int .i64) (k:Int)] Wt:=hz;refine⟨⟨_,Tryz.func259,by kernel_rfl⟩,?_⟩;obtain⟨z0,r0,rfl,g1,z1,r1,rfl,g2,g3⟩:=hz;have g3:r1=[]:=g3;subst g3;obtain⟨⟨⟨d⟩⟩,rfl,hs,he⟩:=rU g1;obtain⟨rfl,_⟩:=pC g2;obtain rfl:d=[32]:=qr6 d [32] hs;have hc:(⟨#[32]⟩:ByteArray).size=1:=rfl;have hk:(k:Int)<=1000000:=h3;refine Calls.mono (Any.strings_Repeat Tryz.rptL zg5 ⟨#[32]⟩ k w om (by rw[hc];omega)) fun e w' ⟨e1,e2⟩=>?_;subst e1;refine z6w hm (b:=⟨(Lib.repeatL [32] k).toArray⟩) e2 (qgn k) ?_;have:=jd List.length (qgn k);rw[zI,jp] at this;show(Lib.repeatL [32] k).toArray.size<=cG;unfold cG;simp only[Ja];omega
def zij:QJ Tryz.prog Tryz.prog.types.size=true:=by kernel_rfl
def bT2{el:TypeId}(h:GO C el 2):el=60:=by
 rcases h with h|h
 ·exact h.1
 ·cases h.2
def bT4{el:TypeId}(h:GO C el 4):el=172:=by
 rcases h with h|h
 ·cases h.2
 ·exact h.1
def Uq:ay C 55 sC:=fun⟨b,s,_⟩ y h=>by injection h with h;subst h;exact Call.ml 55 _ _ (zn4 (E:=[]) (fun _=>bT2) ⟨_,Tryz.func56,by kernel_rfl⟩ zb7 (z2g (k:=2) (Nat.zero_lt_succ 1) zpg) rfl rfl rfl rfl rfl rfl)
def Ur:ay C 56 vE:=fun⟨b,q,n,s,_⟩ y h=>by injection h with h;subst h;exact Call.ml 56 _ _ (zn4 (E:=[.d .fY q,.d (.int .i64) n]) (fun _=>bT4) ⟨_,Tryz.func56,by kernel_rfl⟩ zb7 (z2g (Nat.zero_lt_succ 3) zpf) rfl rfl rfl rfl rfl rfl)
def Us:ay C 25 yC:=fun⟨b,s,_⟩ y h=>by injection h with h;subst h;exact Call.ml 25 _ _ (zgq (E:=[]) (fun _=>bT2) zb8 (by kernel_rfl) ⟨_,Tryz.func27,by kernel_rfl⟩ (by kernel_rfl) (qv3 zij) rfl rfl rfl rfl rfl rfl)
def adf:ay C 26 RJ:=fun⟨b,q,n,s,_⟩ y h=>by injection h with h;subst h;exact Call.ml 26 _ _ (zgq (E:=[.d .fY q,.d (.int .i64) n]) (fun _=>bT4) zb8 (by kernel_rfl) ⟨_,Tryz.func27,by kernel_rfl⟩ (by kernel_rfl) (qv3 zij) rfl rfl rfl rfl rfl rfl)
def adg:ay C 59 E9:=fun⟨⟨nil,l⟩,_⟩ y h=>by
  obtain⟨hg,rfl⟩:=Av h;simp only[ze,zV] at hg;obtain⟨⟨g1,g2⟩,g3⟩:=hg;have main:∀(m:List af) (hm:∀x,x∈m->DJ x=true) (hu:∀x y,x∈m->y∈m->x.1=y.1->x=y) (d:af) (hd:d∈m) (l':List (FT m)),l'.length<4611686018427387904->
    DG C (bI C.sigs 59) (⟨nil,l'.map (·.1)⟩,()) (⟨nil,(l'.map (·.1)).mergeSort fun a b=>!DL b a⟩,()):=by
   intro m hm hu d hd l' hc
   letI:Inhabited (FT m):=⟨⟨d,hd⟩⟩
   have hs:∀(kh off cap:Nat) (a:Array (FT m)) (w:World),HoldsK (fun x:FT m=>Au x.1) (aB YB) w kh off a->kh<w.heap.size->a.size<4611686018427387904->
     Calls C.P 59 #[.slice (some ⟨kh,off,none⟩) a.size cap,.func (.func 60) #[] #[]] w fun e w'=>e=.returned (.tuple #[])/\∃n os,w'=sortWorldK (fun x:FT m=>Au x.1) (aB YB) w kh off n (a.toList.mergeSort fun x y=>!DL y.1 x.1).toArray os:=by
    intro kh off cap a w hH hb he;have:=AnyQ.slices_SortFunc_total Tryz.sortfL 3 Tryz.isAgg56 Tryz.sizeOf56 (fun x:FT m=>Au x.1) (fun _=>rfl) (fun x v hv=>by
     simp only[Au,zA,zL,Zt] at hv;rcases hv with rfl|rfl|rfl<;>rfl) (YC m) (ac7 hm) 60 #[] kh off cap a w (enters_of Tryz.func60 (by kernel_rfl) rfl) (fun _ _ _ _ x y=>z4u _ _ _ _ _ _ _) hH hb he
     (fun x y h1 h2=>by rw[Un hm] at h1 h2;exact Subtype.ext (hu _ _ x.2 y.2 (QG _ _ h1 h2)))
    simp only[Un hm] at this;exact this
   have key {S x y}:=z73 (C:=C) (f:=59) (t:=YB) (fun x:FT m=>Au x.1) (·.1) (fun _=>True) (fun l=>l.mergeSort fun x y=>!DL y.1 x.1) (by intro h;cases h) (fun imm w x _ cs=>ac6 imm w x.1 (hm _ x.2) cs) (fun _=>rfl) (fun l=>ZE l) (fun l x hx=>(List.mem_mergeSort).1 hx)
    ⟨_,Tryz.func59,by kernel_rfl⟩ (fun p cap w=>AnyF.slices_SortFunc_none Tryz.sortfL p cap _ w) hs nil l' (fun _ _=>trivial) hc (es:=[.fn 60 []]) (fun _ _ _ _ zs hz=>by obtain⟨z1,r1,rfl,⟨cb,rfl,g4⟩,g3⟩:=hz;have g4:cb.toList=[]:=g4;have g3:r1=[]:=g3;rw[g3,Zd.1 (g4.trans rfl:cb.toList=#[].toList)];rfl) (S:=S) (x:=x) (y:=y)
   have e:(l'.mergeSort fun x y=>!DL y.1 x.1).map (·.1)=(l'.map (·.1)).mergeSort fun a b=>!DL b a:=List.map_mergeSort (fun a _ b _=>rfl);rw[e] at key;exact key rfl rfl rfl rfl rfl rfl
  cases l with
  |nil=>exact Call.ml 59 _ _ (main [([],0,0)] (fun x hx=>by rw[zJ.1 hx];decide) (fun x y hx hy _=>by rw[zJ.1 hx,zJ.1 hy]) _ (zJ.2 rfl) [] dc)
  |cons a r=>have key:=main (a::r) (fun x hx=>ju.1 g1 x hx) (fun x y hx hy e=>z3h g2 hx hy e) a (zg ..) (a::r).attach (by rw[List.length_attach];exact g3);rw[List.attach_map_subtype_val] at key;exact Call.ml 59 _ _ key
abbrev DK(k:Nat):Type:=ak (bI C.sigs k).ins.bQ->Option (ak (bI C.sigs k).outs.bQ)
structure Gr (k:Nat) (Y:Type) where
 r:kX C.sigs->Y->DK k
 O:kX C.sigs
 h:QD C O
noncomputable def aF(k:Nat):Gr k (DK k):=⟨fun _ y=>y,QE,zjt⟩
noncomputable def Gr.a{k:Nat}{Y:Type}(c:Gr k Y){j:Nat}{f:DK j}(h:ay C j f):Gr k (DK j->Y):=⟨fun R y=>c.r R (y (R j)),IW j f c.O,zju h c.h⟩
noncomputable instance {k:Nat} {Y:Type}:CoeFun (Gr k Y) (fun _=>∀{j} {f:DK j},ay C j f->Gr k (DK j->Y)):=⟨@Gr.a _ _⟩
def aK{k:Nat}{Y:Type}(c:Gr k Y)(f:DK k)(b:Lf->Y)(e:∀L R x,N9 L C R k x=c.r R (b L) x:=by intro _ _ _;kernel_rfl)(o:∀x,c.r c.O (b lf) x=f x:=by intro _;kernel_rfl):ay C k f:=mkC (fun L R=>c.r R (b L)) c.h e o
def Gs{k:Nat}{Y:Type}{F:DK k->DK k}(c:∀g,ay C k g->Gr k Y)(b:Lf->Y)(e:∀g hg L R x,N9 L C R k x=(c g hg).r R (b L) x:=by intro _ _ _ _ _;kernel_rfl)(o:∀g hg x,(c g hg).r (c g hg).O (b lf) x=F g x:=by intro _ _ _;kernel_rfl):ay C k (iA F):=zjv fun g hg x y h=>Ev.Call.mk (C:=C) (c g hg).O (c g hg).h k x y (((e g hg lf _ x).trans (o g hg x)).trans h)
def Nc:=aK (aF 136) vp I7
def Nd:=aK (aF 137) vq I8
def Nf:=aK (aF 182) sx JH
def Ut:=aK (aF 134 Nf Nd Nc) sy JI
def Uu:=aK (aF 132 Ut) BN QT
def Uv:=aK (aF 160) BO QU
def Gt:=aK (aF 98 Uv) nk JK
def adh:=aK (aF 261) QW QV
def adi:=aK (aF 209 adh) JL QX
def Gu:=aK (aF 135 adi Gt) sA JM
def adk:=aK (aF 130 Nc Gu Uu) BP JN
def adl:=aK (aF 131 Nd Gu Uu) BQ JO
def Ng:=aK (aF 139 Uo) qu JP
def adm:=aK (aF 133 Ng) EY QY
def Nh:=aK (aF 138) qv JR
def wj:=aK (aF 65 Nh Gu adm adl adk) mq JT
def Uw:=aK (aF 53 wj) vt JU
def adn:=aK (aF 52 Uw) yi JV
def ado:=aK (aF 121 adn) JW QZ
def adp:=aK (aF 51 ado) BR JX
def adq:=aK (aF 124) yj JY
def adr:=aK (aF 122 adq) J0 Q0
def Gv:=aK (aF 54 adr) o8 J1
def ux:=aK (aF 16 Gv adp) iC Q3
def Ux:=aK (aF 70 wj) yl J2
def Ni:=aK (aF 32 Ux) qw J3
def ads:=aK (aF 31 Ni) BS J4
def adt:=aK (aF 72 ads) J5 Q4
def adu:=aK (aF 33 adt) vu J6
def Uy:=aK (aF 74 wj) ym J7
def Df:=aK (aF 189) n5 Q5
def Gw:=aK (aF 202 Df) n9 J8
def adv:=aK (aF 216 Gw) BT Q6
def Uz:=aK (aF 226) vv J9
def adw:=aK (aF 282) Q8 Q7
def adx:=aK (aF 265 adw) gG Ka
def ady:=aK (aF 283) BU Kb
def adz:=aK (aF 284) EZ Q9
def adA:=aK (aF 291) BV Kc
def adB:=aK (aF 219 adA adz ady adx Uz Nh Uy Ux) BW Kd
def adC:=aK (aF 218 adB) BX Ke
def adD:ay C 217 E0:=Gs (fun _ hg=>aF 217 adC hg) Kf
def adE:=aK (aF 221 Df) BY Kg
def UA:=aK (aF 222) BZ Ra
def adF:=aK (aF 224) B3 Rb
def adG:=aK (aF 225 UA) B4 Kh
def adH:=aK (aF 220 adG adF adb UA adE) yo Ki
def adI:=aK (aF 148 Uz adH adD adv Gw Df) B5 Re
def Nj:=aK (aF 75 adI) iU Kj
def UB:=aK (aF 36 Nj Uy) qx Kk
def adJ:=aK (aF 35 UB) B6 Kl
def adK:=aK (aF 73 adJ) Km Rf
def adL:=aK (aF 34 adK) vw Kn
def UC:=aK (aF 90 wj) sB Ko
def adM:=aK (aF 228 wj) B7 Kp
def adN:=aK (aF 227 adM) B8 Kq
def adO:=aK (aF 158 adN) Kr Rg
def adP:=aK (aF 96 adO) B9 Ks
def UD:=aK (aF 151 Gw adP) vz Kt
def adQ:=aK (aF 150) Ca Ku
def adR:=aK (aF 229 adQ) Kv Rh
def adS:=aK (aF 152 adR) E1 Kw
def adT:=aK (aF 266) Kx Ri
def adU:=aK (aF 230 adT) yp Ky
def adV:=aK (aF 153 adU UD) E2 Rj
def adW:=aK (aF 149 adV adS UD) E3 Kz
def adX:=aK (aF 154 adW) yq KA
def adY:=aK (aF 157 adX) KB Rk
def adZ:=aK (aF 94 adY) yu KC
def ad0:=aK (aF 79 adZ UC) E4 Rl
def ad1:=aK (aF 78 ad0) Cb KD
def ad2:=aK (aF 80 ad1) KE Rn
def ad3:=aK (aF 76 ad2) yv KF
def ad4:=aK (aF 83) Cc KG
def ad5:=aK (aF 81 ad4) Cd Ro
def ad6:=aK (aF 155) Ce KH
def ad7:=aK (aF 88 ad6) E5 Rp
def ad8:=aK (aF 85 ad7) E6 KI
def ad9:=aK (aF 84 ad8) yw KJ
def aea:=aK (aF 86 ad9) Cf Rq
def aeb:=aK (aF 91) Cg KK
def aec:=aK (aF 82 aeb) KL Rr
def aed:=aK (aF 77 aec) Ch KM
def aee:=aK (aF 89 UC aed) yx KN
def aef:=aK (aF 159 aee) KO Rt
def aeg:=aK (aF 97 aef) E7 KP
def aeh:=aK (aF 95 aeg) yz KQ
def aei:=aK (aF 156 aeh) KR Ru
def aej:=aK (aF 93 aei) E8 KS
def aek:=aK (aF 92 aej) yA KT
def ael:=aK (aF 87 aek) Ci Rv
def UE:=aK (aF 37 ael aea ad5 ad3) qy Rw
def aem:=aK (aF 38 Gt) vA Rx
def Gx:=aK (aF 9 aem UE adL adu Ni ux) o9 Ry
def UF:=aK (aF 17 Uq) kJ KU
def Nk:=aK (aF 19) pe KV
def UG:=aK (aF 58) qz KW
def aen:=aK (aF 123 UG) Cj Rz
def aeo:=aK (aF 57 aen UG) Ck RA
def UH:=aK (aF 20 adg aeo Uw Nk ux) pf KX
def Aw:=aK (aF 126 Df) lE RC
def aep:ay C 62 Cl:=Gs (fun _ hg=>aF 62 Aw hg) KY
def aeq:=aK (aF 21 aep) yB RE
def qgo{g}(hg:ay C 127 g):=aK (aF 190 hg Aw) (Hk g) WI
def re:=aK (aF 253) kt RG
def aer:=aK (aF 245 re) Fa KZ
def Gy:=aK (aF 191 aer) nq K0
def Nl:=aK (aF 192 ac9 ada Nh) mr K1
def aes:=aK (aF 248 Uq) yD K3
def aet:=aK (aF 193 aes Us UF) Fe RH
def UI:=aK (aF 194 wj) sD K4
def aeu:=aK (aF 250 re) Ff K5
def UJ:=aK (aF 278 re) yE K6
def UK:=aK (aF 251 UJ) yF K7
def Gz:=aK (aF 195 UK aeu) ph K8
def Dg:=aK (aF 197 re) nu K9
def aev:=aK (aF 279 re) Fg La
def GA:=aK (aF 252 aev UK) pj Lb
def UL:=aK (aF 196 GA Dg) sE Lc
def aew:ay C 254 Fh:=Gs (fun _ hg=>aF 254 hg UI Nl Aw) Ld
def qgp{g}(hg:ay C 127 g):=aK (aF 198 aew GA Dg UL Gz Gy hg Aw) (Le g) q64
def Np:=aK (aF 255 Gv) vD Lg
def Nq:=aK (aF 199 Np) qA Lh
def qac{g}(hg:ay C 127 g):=aK (aF 257 UJ Gy hg) (Cm g) WL
def aex:=aK (aF 280 Np) Fi Li
def qiv{g}(hg:ay C 127 g):=aK (aF 256 aex (qac hg) Nq) (Hl g) WM
def qiw{g}(hg:ay C 127 g):=aK (aF 200 (qiv hg) Np GA Dg Gz Gy Aw) (Hm g) WN
def qix{g}(hg:ay C 127 g):=aK (aF 201 (qac hg) GA Nq Dg Gz Aw) (Lj g) q7a
def aey:ay C 127 Fk:=Gs (fun _ hg=>aF 127 (qix hg) (qiw hg) Nq (qgp hg) Dg UL Gz UI aet Nl Gy (qgo hg)) Fj
def aez:=aK (aF 63 aey Nj ux) sG Ll
def aeA:=aK (aF 259) Cn Lm
def aeB:=aK (aF 290 aeA) Ln RL
def aeC:=aK (aF 281 aeB) Fl Lo
def aeD:=aK (aF 258 aeC) yG Lp
def aeE:=aK (aF 203 aeD) yH Lq
def aeF:=aK (aF 128 aeE Gw) Co RM
def qgq{g}(hg:ay C 129 g):=aK (aF 204 hg) (OF g) q65
def aeG:=aK (aF 18 Ur) Fm Lr
def UM:=aK (aF 205 aeG) yI Ls
def aeH:=aK (aF 249 Ur) Lu Lt
def aeI:=aK (aF 206 ade aeH UM) Cp Lw
def aeJ:=aK (aF 207) Cq Lx
def aeK:=aK (aF 208) Fo RN
def aeL:ay C 129 Fq:=Gs (fun _ hg=>aF 129 aeK aeJ aeI UM (qgq hg) Df) Fp
def aeM:=aK (aF 64 aeL aeF adf) Cr Ly
def aeN:=aK (aF 22 aeM aez) qC Lz
def aeO:=aK (aF 23 wj) yJ LA
def aeP:=aK (aF 24) Fs RO
def UN:=aK (aF 6 Us aeP aeO aeN aeq UH Nk UF ux Gx) Cs RP
def aeQ:=aK (aF 111) Ct LC
def aeR:=aK (aF 110 aeQ) Cu RQ
def aeS:=aK (aF 107 Ut) Ft RT
def aeT:=aK (aF 108 Ng) Fu RU
def aeU:=aK (aF 109 Nf) Fv RV
def aeV:=aK (aF 180 Gu) vF LD
def UO:=aK (aF 238) Cv LG
def aeW:=aK (aF 181 UO) Cw LH
def aeX:=aK (aF 267 UO) Fw LI
def aeY:=aK (aF 239 aeX) yK LJ
def aeZ:=aK (aF 183 aeY Nl) vG RW
def ae0:=aK (aF 184 Uo) LK RX
def ae1:=aK (aF 112 ae0 aeZ Nf aeW aeV Ng Nd Nc aeU aeT aeS) yL LL
def UP:=aK (aF 45 ae1 aeR) yM RY
def ae2:=aK (aF 113) mu LM
def uy:=aK (aF 117) iV LN
def wm:=aK (aF 114 uy) cH LP
def ae3:=aK (aF 115 wm) yN LR
def ae4:=aK (aF 268 Uv) Cy LS
def Dh{g}(hg:ay C 269 g):=aK (aF 240 hg ae4 uy wm) (mv g) Fy
def ae5:=aK (aF 270 uy) yO LU
def Ia{g}(hg:ay C 269 g):=aK (aF 241 ae5 (Dh hg)) (qD g) LV
def ae6:=aK (aF 285) Cz RZ
def UQ:ay C 269 yP:=Gs (fun _ hg=>aF 269 ae6 hg re (Ia hg) (Dh hg) uy wm) Fz
def ae7:ay C 240 LW:=Dh UQ
def ae8:ay C 241 LZ:=Ia UQ
def ae9:=aK (aF 185 ae8 ae7 uy wm) od L3
def afa:=aK (aF 116 ae9 uy wm Gt) CA R0
def afb:=aK (aF 118 uy wm) vH L4
def wq:=aK (aF 187) mw L5
def wu:=aK (aF 188) my L6
def rf:=aK (aF 271 Gt) gR L7
def afc:=aK (aF 287 Gv) yQ L8
def afd:=aK (aF 71 afc) CB R1
def Ax:=aK (aF 273) mz L9
def wv:=aK (aF 275 re) gS Ma
def Ay:=aK (aF 277 rf wu wq) kK Mb
def UR:=aK (aF 293 rf) sJ Mc
def US:=aK (aF 274 Ay Ax rf wu wq) qE Md
def qel{g}(hg:ay C 243 g):=aK (aF 299 Ay wv US Ax rf re hg) (CC g) WS
def qgr{g}(hg:ay C 243 g):=aK (aF 298 (qel hg) wv Ax rf) (Me g) q66
def afe:ay C 243 lF:=Gs (fun _ hg=>aF 243 (qgr hg) wu wq) FA
def q73{g}(hg:ay C 186 g):=aK (aF 276 Ay hg) (AR g) WU
def qem{g}(hg:ay C 186 g):=aK (aF 296 Ay (q73 hg) wv rf afe hg) (Mg g) q57
def qfa{g}(hg:ay C 186 g):=aK (aF 292 (qem hg) UR Ay wv Ax rf re wu wq hg) (DP g) WW
def qgs{g}(hg:ay C 186 g):=aK (aF 286 UR (qfa hg) wv) (FB g) q67
def aff:=aK (aF 295 ac8) FC R2
def afg:=aK (aF 294 aff) sK Mh
def afh:=aK (aF 288 afg Gv ux) vI R3
def afi:ay C 289 CE:=Gs (fun _ hg=>aF 289 hg wv) FD
def qgt{g}(hg:ay C 186 g):=aK (aF 272 afi afh (qgs hg) Ax rf wu wq afd) (Mi g) q68
def qfb{g}(hg:ay C 186 g):=aK (aF 244 Ay (q73 hg) wv US Ax (qgt hg) rf hg) (Hn g) WZ
def qfc{g}(hg:ay C 186 g):=aK (aF 242 (qfb hg) wu wq) (Ho g) W0
def afj:ay C 186 FF:=Gs (fun _ hg=>aF 186 (qfc hg)) FE
def afk:=aK (aF 119 wu wq afj Nj ux) oo Mj
def afl:=aK (aF 46 afk afb uy afa ae3 wm ae2 UE UB Ni UH ux) yR Mk
def UT:=aK (aF 12 afl UP Nk ux Gx) CF R4
def afm:=aK (aF 14 UP) R6 R5
def qte:=aK (aF 3 afm UT Gx UN) W1 qho
def qyz:=aK (aF 5) R7 qnj
def qtf:=aK (aF 7) R8 qcg
def afn:=aK (aF 47) yS Sk
def UU:=aK (aF 49) vJ Sn
def afo:=aK (aF 120 UU) vK Sp
def afp:=aK (aF 48 afo) yT Sq
def afq:=aK (aF 13 UU afp afn) yU Sr
def mK:=aK (aF 1 afq UT Gx qtf UN qyz qte) cq q8b
def zph:Og C C.fD=true:=by kernel_rfl
def zqn:IF C C.eqs=true:=by kernel_rfl
def zbb:QA C C.sigs=true:=by kernel_rfl
def mixed:C.P.follows .mixedOrders=true:=by kernel_rfl
def calls{i:Nat}{x:ak (bI C.sigs i).ins.bQ}{y:ak (bI C.sigs i).outs.bQ}(h:Ev.Call C i x y):qf C i x y:=zcl zph zqn zbb mixed h
def zpi:Wm C Rows.modJoinsRow.laid:=by
 refine⟨by kernel_rfl,fun g t x h=>?_⟩
 match g with
 |0=>cases h;exact⟨_,_,289,List.Mem.tail _ (List.Mem.tail _ (List.Mem.tail _ (List.Mem.tail _ (List.Mem.tail _ (List.Mem.head _))))),by kernel_rfl,by kernel_rfl,by kernel_rfl,rfl,by kernel_rfl⟩
 |5=>cases h;exact⟨_,_,324,List.Mem.tail _ (List.Mem.tail _ (List.Mem.head _)),by kernel_rfl,by kernel_rfl,by kernel_rfl,rfl,by kernel_rfl⟩
 |1=>cases h
 |2=>cases h
 |3=>cases h
 |4=>cases h
 |n+6=>cases h
def Nr:z6r C Rows.modJoinsRow.laid:=z6s zph (by kernel_rfl) (by kernel_rfl) (by kernel_rfl) zpi
end Go.Proofs.YtdgmbemagoakjaaGreatDoor.Da