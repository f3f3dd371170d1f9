/- The functions of this seat as data: bodies. -/
import Derived.Test.YtdgmbemagoakjaaGreatDoorEvI
section
variable{A B C D E F G H I J K L M N O P Q R:Type}
abbrev Prod.d2(x:A×B×C×D):=x.2.2.1
abbrev Prod.d3(x:A×B×C×D×E):=x.2.2.2.1
abbrev Prod.d4(x:A×B×C×D×E×F):=x.2.2.2.2.1
abbrev Prod.d5(x:A×B×C×D×E×F×G):=x.2.2.2.2.2.1
abbrev Prod.d6(x:A×B×C×D×E×F×G×H):=x.2.2.2.2.2.2.1
abbrev Prod.d7(x:A×B×C×D×E×F×G×H×I):=x.2.2.2.2.2.2.2.1
abbrev Prod.d8(x:A×B×C×D×E×F×G×H×I×J):=x.2.2.2.2.2.2.2.2.1
abbrev Prod.d9(x:A×B×C×D×E×F×G×H×I×J×K):=x.2.2.2.2.2.2.2.2.2.1
abbrev Prod.d10(x:A×B×C×D×E×F×G×H×I×J×K×L):=x.2.2.2.2.2.2.2.2.2.2.1
abbrev Prod.d11(x:A×B×C×D×E×F×G×H×I×J×K×L×M):=x.2.2.2.2.2.2.2.2.2.2.2.1
abbrev Prod.d12(x:A×B×C×D×E×F×G×H×I×J×K×L×M×N):=x.2.2.2.2.2.2.2.2.2.2.2.2.1
abbrev Prod.d13(x:A×B×C×D×E×F×G×H×I×J×K×L×M×N×O):=x.2.2.2.2.2.2.2.2.2.2.2.2.2.1
abbrev Prod.d14(x:A×B×C×D×E×F×G×H×I×J×K×L×M×N×O×P):=x.2.2.2.2.2.2.2.2.2.2.2.2.2.2.1
abbrev Prod.d15(x:A×B×C×D×E×F×G×H×I×J×K×L×M×N×O×P×Q):=x.2.2.2.2.2.2.2.2.2.2.2.2.2.2.2.1
abbrev Prod.d16(x:A×B×C×D×E×F×G×H×I×J×K×L×M×N×O×P×Q×R):=x.2.2.2.2.2.2.2.2.2.2.2.2.2.2.2.2.1
abbrev Prod.s0(x:A×B)(v:A):=(v,x.2)
abbrev Prod.s1(x:A×B×C)(v:B):=(x.1,v,x.2.2)
abbrev Prod.s2(x:A×B×C×D)(v:C):=(x.1,x.2.1,v,x.2.2.2)
abbrev Prod.s3(x:A×B×C×D×E)(v:D):=(x.1,x.2.1,x.2.2.1,v,x.2.2.2.2)
abbrev Prod.s4(x:A×B×C×D×E×F)(v:E):=(x.1,x.2.1,x.2.2.1,x.2.2.2.1,v,x.2.2.2.2.2)
abbrev Prod.s5(x:A×B×C×D×E×F×G)(v:F):=(x.1,x.2.1,x.2.2.1,x.2.2.2.1,x.2.2.2.2.1,v,x.2.2.2.2.2.2)
abbrev Prod.s6(x:A×B×C×D×E×F×G×H)(v:G):=(x.1,x.2.1,x.2.2.1,x.2.2.2.1,x.2.2.2.2.1,x.2.2.2.2.2.1,v,x.2.2.2.2.2.2.2)
abbrev Prod.s7(x:A×B×C×D×E×F×G×H×I)(v:H):=(x.1,x.2.1,x.2.2.1,x.2.2.2.1,x.2.2.2.2.1,x.2.2.2.2.2.1,x.2.2.2.2.2.2.1,v,x.2.2.2.2.2.2.2.2)
abbrev Prod.s8(x:A×B×C×D×E×F×G×H×I×J)(v:I):=(x.1,x.2.1,x.2.2.1,x.2.2.2.1,x.2.2.2.2.1,x.2.2.2.2.2.1,x.2.2.2.2.2.2.1,x.2.2.2.2.2.2.2.1,v,x.2.2.2.2.2.2.2.2.2)
abbrev Prod.s9(x:A×B×C×D×E×F×G×H×I×J×K)(v:J):=(x.1,x.2.1,x.2.2.1,x.2.2.2.1,x.2.2.2.2.1,x.2.2.2.2.2.1,x.2.2.2.2.2.2.1,x.2.2.2.2.2.2.2.1,x.2.2.2.2.2.2.2.2.1,v,x.2.2.2.2.2.2.2.2.2.2)
end
set_option linter.defProp false
namespace Ev
open Go
abbrev Lf.r(L:Lf)(c:Bool)(y:Option Bool):Option Bool:=L.c c (some true) y
abbrev Lf.y(L:Lf)(c:Bool)(y:Option Bool):Option Bool:=L.c c y (some false)
abbrev Lf.w(L:Lf){α β γ:Type}(a:List α)(b:List β)(k:Option γ):Option γ:=L.b (L.f (L.s (L.n a) (L.n b))) λ_=>k
abbrev Lf.z(L:Lf){α γ:Type}(a:Sl α)(b:List α)(k:Sl α->Option γ):Option γ:=L.b (L.f (L.s (L.n a.l) (L.n b))) λ_=>k ⟨L.d a.nil (L.i b),L.app a.l b⟩
abbrev Lf.v(L:Lf){α:Type}(a:Sl α)(b:List α):Sl α:=⟨L.d a.nil (L.i b),L.app a.l b⟩
namespace Fn
noncomputable section
abbrev OZ:Type->Type:=Option
abbrev AZ:List Int:=List.replicate 9 0++List.replicate 5 1++List.replicate 18 0++[1]++List.replicate 223 0
abbrev SZ{α:Type}(a:α):OZ α:=some a
abbrev IZ{α β:Type}(a:α):α⊕β:=.inl a
abbrev JZ{α β:Type}(a:β):α⊕β:=.inr a
abbrev IS{α β:Type}(a:α):OZ (α⊕β):=some (.inl a)
abbrev JS{α β:Type}(a:β):OZ (α⊕β):=some (.inr a)
variable(L:Lf)
abbrev Si:=Unit
abbrev Sd:=Sl Int
abbrev Y1:Type:=List Int
abbrev Se:=Sl Y1
abbrev Y0:Type:=Int×Y1×Int×Int
abbrev Sa:=Sl Y0
abbrev BG:Type:=Y1×Sl Sa
abbrev Y2:Type:=Y1×Int×Sl BG
abbrev Sc:=Sl Y2
abbrev Y6:Type:=Y1×Int×Int
abbrev Y3:Type:=Sl Y6
abbrev Y4:Type:=Sa×Sa×Int×Y3×Int×Int×Int×Int×Si
abbrev Y5:Type:=Y1×Bool×Sl Y0
abbrev Sg:=Sl Y5
abbrev Y7:Type:=Sa×Int×Y3×Int×Int×Int×Int×Si
abbrev Y8:Type:=Bool×Si
abbrev Y9:Type:=Int×Si
abbrev gr:Type:=Sa×Si
abbrev iB:Type:=Sl BG
abbrev fm:Type:=Sl Sa
abbrev xY:Type:=Sa×Int×Si
abbrev dH:Type:=Y1×Si
abbrev o5:Type:=Sa×Sa×Y3×Si
abbrev wL:Type:=Y1×Se×Y3×Sc×Sl Y5
abbrev G8:Type:=Int×Sa×Int×Y3×Int×Int×Int×Int×Si
abbrev I1:Type:=Sa×Sa×Int×Bool×Se×Si
abbrev EM:Type:=Bool×Sa×Int×Y3×Int×Int×Int×Int×Si
abbrev Wz:Type:=Int×Y1×Sa×Int×Bool×Se×Si
abbrev oJ:Type:=Sa×Int×Bool×Se×Si
abbrev vh:Type:=Nat×Nat
abbrev BH:Type:=Int×Bool×vh×Int×Sd×Si
abbrev vi:Type:=Y1×Sa×Int×Y3×Int×Int×Int×Int×Si
abbrev Y27:Type:=Sa×Int×Y3×Si
abbrev Y28:Type:=Int×Int×Se×Sa×Int×Y3×Int×Int×Int×Int×Si
abbrev EN:Type:=Int×Sa×Y3×Si
abbrev iK:Type:=Y1×Int×Si
abbrev iL:Type:=Se×Si
abbrev si:Type:=Bool×vh×Int×Sd×Si
abbrev uF:Type:=Sd×Si
abbrev QK:Type:=Bool×Sa×Int×Bool×Se×Si
abbrev vj:Type:=Sa×Int×Int×Si
abbrev Y37:Type:=Sa×Int×Int×Bool×Bool×vh×Int×Sd×Si
abbrev lU:Type:=Bool×Sc×Si
abbrev Y40:Type:=Int×Int×Sa×Int×Y3×Int×Int×Int×Int×Si
abbrev G9:Type:=Int×Y1×Se×Y3×Sc×Sg×Y1×Se×Y3×Sc×Sg×Si
abbrev Ha:Type:=Y3×Se×Int×Int×Y1×Se×Y3×Sc×Sg×Bool×Sd×Si
abbrev Y43:Type:=Y0×Sa×Int×Y3×Int×Int×Int×Int×Si
abbrev sj:Type:=Y3×Si
abbrev Y45:Type:=Y0×Sa×Int×Bool×Se×Si
abbrev QL:Type:=Sa×Int×Bool×Si
abbrev oK:Type:=Sl Sd
abbrev Hb:Type:=Sa×Int×Bool×Y1×Int×Y1×Int×Se×iB×iB×Si
abbrev EO:Type:=Int×Y1×Int×iB×Si
abbrev WA:Type:=Int×Int×Int×Y1×Int×Int×Sa×Bool×vh×Int×Sd×Si
abbrev Y53:Type:=Sc×Int×Int×Si
abbrev Hc:Type:=Y3×Y3×Int×Int×Y1×Se×Y3×Sc×Sg×Bool×Sd×Si
abbrev DN:Type:=Sc×Int×Int×Sc×Si
abbrev xZ:Type:=Bool×Y1×Int×iB×Si
abbrev Y57:Type:=Sa×Sd×Int×fm×Se×Si
abbrev BI:Type:=Y6×Bool×Si
abbrev AM:Type:=Int×Int×Si
abbrev qj:Type:=Bool×Sd×Si
abbrev AO:Type:=Sd×Int×Si
abbrev I3:Type:=(Y3×Se×Int×Int×Y3×Si)⊕AO
abbrev OC:Type:=Y3×Sc×Int×Int×Y1×Se×Y3×Sc×Sg×Bool×Sd×Si
abbrev AP:Type:=Sc×Sc×Int×Int×Si
abbrev Y67:Type:=Y0×fm×Si
abbrev QM:Type:=fm×Sa×Int×Bool×Se×Si
abbrev Hd:Type:=Int×Sa×Int×Int×Sd×Si
abbrev He:Type:=Int×Sc×Int×Int×Int×Int×Sc×Si
abbrev AQ:Type:=Y1×Int×Int×Se×Si
abbrev DO:Type:=(Sa×Sl Y6)×Int×Si
abbrev Y75:Type:=Sa×Int×Bool×Sa×Si
abbrev QN:Type:=fm×Si
abbrev I4:Type:=Y0×Si
abbrev wM:Type:=Int×Bool×Sd×Si
abbrev Y79:Type:=Sa×Int×Bool×Bool×Si
abbrev WB:Type:=Y1×Sa×Int×Sa×Int×Int×Y1×Y1×Y3×Se×Y3×Sc×Sg×Se×Y3×Sc×Sg×Si
abbrev Hf:Type:=Y1×Int×Int×Int×Int×Si
abbrev OD:Type:=Y3×Int×Si
abbrev QO:Type:=Y2×Sa×Int×Bool×Se×Si
abbrev Y85:Type:=Int×Y1×fm×Si
abbrev Hg:Type:=Sc×Sc×Int×Si
abbrev OE:Type:=Y1×Int×Int×Y1×Int×iB×Si
abbrev Hh:Type:=Int×Int×Y3×Sd×oK×Si
abbrev Hi:Type:=Bool×Int×Int×Si
abbrev QP:Type:=Se×Y1×Si
abbrev Y91:Type:=Sd×Int×fm×Se×Si
abbrev Hj:Type:=Y1×Int×Int×Int×Se×Si
abbrev WC:Type:=Sa×Int×Int×Sd×Si
abbrev WD:Type:=Sa×Int×Y3×Int×Int×Int×Int×fm×Si
abbrev WE:Type:=Sc×Y1×Sc×Int×Int×Int×Int×Si
abbrev Y99:Type:=Int×Bool×Int×Int×Int×Int×Int×Y1×Int×Int×Sa×Bool×vh×Int×Sd×Si
abbrev sq:Type:=Y1×Int×Sa×Si
abbrev ya:Type:=Int×Sc×Si
abbrev EP:Type:=Int×Se×Si
abbrev BJ:Type:=Sc×Si
abbrev BK:Type:=wL×Int×Int×Si
abbrev ER:Type:=Y1×Sa×Int×Bool×Se×Si
abbrev QQ:Type:=Int×Sa×Int×Y3×Int×Int×Int×Int×Sd×fm×Se×Si
abbrev nh:Type:=Sd×oK×Si
abbrev fU:Type:=Y7->OZ Y4
abbrev pH:Type:=dH->OZ Y8
abbrev lV:Type:=EN->OZ o5
abbrev lW:Type:=Y9->OZ Y8
abbrev wN:Type:=I4->OZ Y8
abbrev uG:Type:=QN->OZ gr
abbrev wO:Type:=xY->OZ Y9
abbrev I5:Type:=xY->OZ uF
abbrev ES:Type:=sj->OZ Y9
abbrev ET:Type:=Y67->OZ gr
abbrev EU:Type:=Y9->OZ Y9
abbrev nZ:Type:=oJ->OZ I1
abbrev BL:Type:=gr->OZ Y8
abbrev o6:Type:=gr->OZ Y9
abbrev nj:Type:=Y28->OZ EM
abbrev vk:Type:=Si->OZ gr
abbrev BM:Type:=dH->OZ dH
abbrev o7:Type:=Wz->OZ QK
abbrev aah:Type:=QL->OZ Y9
abbrev yc:Type:=sj->OZ sj
abbrev yd:Type:=dH->OZ gr
abbrev EV:Type:=Y9->OZ dH
abbrev qk:Type:=Y37->OZ BH
abbrev ql:Type:=Wz->OZ Y45
abbrev su:Type:=Y40->OZ Y4
abbrev sw:Type:=G8->OZ G8
abbrev qm:Type:=Y85->OZ gr
abbrev vm:Type:=Y7->OZ Y43
abbrev ye:Type:=vi->OZ Y7
abbrev yf:Type:=QP->OZ Y8
abbrev yg:Type:=Y75->OZ AM
abbrev qn:Type:=Y79->OZ dH
abbrev qq:Type:=QL->OZ dH
abbrev yh:Type:=dH->OZ Y9
abbrev QR:Type:=sj->OZ Y8
abbrev I6:Type:=BJ->OZ Y9
abbrev EW:Type:=gr->OZ gr
abbrev EX:Type:=Y91->OZ Y57
def I7(x:Y9):OZ Y8:=L.b (L.y (L.m 97 x.1) (SZ (L.m x.1 122))) λb=>SZ (b,())
def vp:=I7 lf
def I8(x:Y9):OZ Y8:=L.b (L.y (L.m 65 x.1) (SZ (L.m x.1 90))) λb=>SZ (b,())
def vq:=I8 lf
def JH(x:Y9):OZ Y8:=L.b (L.y (L.m 48 x.1) (SZ (L.m x.1 57))) λb=>SZ (b,())
def sx:=JH lf
def JI(c0:lW)(c1:lW)(c2:lW)(x:Y9):OZ Y8:=L.b (c0 (x.1,())) λb=>L.b (L.r b.1 (L.b (c1 (x.1,())) λd=>SZ d.1)) λe=>L.b (L.r e (L.b (c2 (x.1,())) λg=>SZ g.1)) λh=>L.b (L.r h (SZ (L.e x.1 95))) λi=>L.b (L.r i (SZ (L.e x.1 39))) λj=>SZ (j,())
def sy:=JI lf vp vq sx
def qgc(c0:lW)(b:(Y1×Y1×Int×Si)):OZ ((Y1×Y1×Int×Si)⊕Y8):=L.c (L.l b.d2 (L.n b.2.1)) (L.b (L.c (L.l b.d2 (L.n b.2.1)) (SZ (L.fh b.2.1 b.d2)) none) λd=>L.b (L.r (L.l 126 d) (L.b (c0 (L.fR .u8 d,())) λe=>SZ (L.t e.1))) λg=>L.c g (JS (false,())) (IS (b.s2 (L.gP b.2.1 b.d2)))) (JS (L.t (L.h b.1 ([]:Y1)),()))
def QT(c0:lW)(x:dH):OZ Y8:=L.o (qgc L c0) (x.1,x.1,0,())
def BN:=QT lf sy
def q83(b:(Se×Y1×Int×Int×Si)):OZ ((Se×Y1×Int×Int×Si)⊕Y9):=L.c (L.l b.d3 b.d2) (L.b (L.g b.1.l b.d3) λd=>L.c (L.h b.2.1 d) (JS (b.d3,())) (IS (b.s3 (L.a .i64 b.d3 1)))) (JS ((-1),()))
def QU(x:QP):OZ Y9:=L.o (q83 L) (x.1,x.2.1,L.n x.1.l,0,())
def BO:=QU lf
def JK(c0:QP->OZ Y9)(x:QP):OZ Y8:=L.b (c0 (x.1,x.2.1,())) λb=>SZ (L.m 0 b.1,())
def nk:=JK lf BO
def qhk(b:AQ):OZ (AQ⊕((Hj⊕(Hj⊕(AQ⊕(Hf⊕iL)))))):=L.b (L.y (L.l b.d2 (L.n b.1)) (L.b (L.g b.1 b.d2) λd=>L.b (L.g AZ d) λe=>SZ (L.t (L.e e 0)))) λg=>L.c g (IS (b.1,b.2.1,L.a .i64 b.d2 1,b.d3,())) (JS (IZ (b.1,b.2.1,b.d2,b.d2,b.d3,())))
def qhl(k0:(AQ)->OZ (AQ⊕((Hj⊕(Hj⊕(AQ⊕(Hf⊕iL)))))))(b:Hj):OZ (Hj⊕((AQ⊕(Hf⊕iL)))):=L.c (L.l b.d3 (L.n b.1)) (L.b (L.b (L.g b.1 b.d3) λd=>L.b (L.g AZ d) λe=>L.c (L.e e 0) (IS (b.s3 (L.a .i64 b.d3 1))) (L.b (L.bS b.1 b.d2 b.d3) λg=>L.b (L.cj b.d4.l b.2.1) λh=>L.b (L.b (L.nth b.d4.l h) λ_=>SZ g) λi=>L.o k0 (b.1,L.a .i64 b.2.1 1,L.a .i64 b.d3 1,⟨b.d4.nil,L.kF b.d4.l h i⟩,()))) (L.cd λj=>IS j)) (L.b (L.c (L.l b.d2 (L.n b.1)) (L.b (L.bS b.1 b.d2 (L.n b.1)) λk=>L.b (L.cj b.d4.l b.2.1) λm=>L.b (L.b (L.nth b.d4.l m) λ_=>SZ k) λn=>SZ (⟨b.d4.nil,L.kF b.d4.l m n⟩,())) (SZ (b.d4,()))) λo=>JS (JZ (JZ (o.1,()))))
def qhm(k0:(Hj)->OZ (Hj⊕((AQ⊕(Hf⊕iL)))))(b:AQ):OZ (AQ⊕((Hf⊕iL))):=L.b (L.y (L.l b.d2 (L.n b.1)) (L.b (L.g b.1 b.d2) λd=>L.b (L.g AZ d) λe=>SZ (L.t (L.e e 0)))) λg=>L.c g (IS (b.1,b.2.1,L.a .i64 b.d2 1,b.d3,())) (L.o k0 (b.1,b.2.1,b.d2,b.d2,b.d3,()))
def qhn(k0:(AQ)->OZ (AQ⊕((Hf⊕iL))))(b:Hf):OZ (Hf⊕iL):=L.c (L.l b.d4 (L.n b.1)) (L.b (L.g b.1 b.d4) λd=>L.b (L.g AZ d) λe=>IS (b.1,L.a .i64 b.2.1 (L.mV .i64 b.d2 (L.pX .i64 (-1) (L.fR .i64 e))),L.fR .i64 e,L.Az .u8 b.d3 d,L.a .i64 b.d4 1,())) (L.c (L.m 128 b.d3) none (L.b (L.wy b.2.1 b.2.1) λg=>L.o k0 (b.1,0,0,⟨false,L.rep g ([]:Y1)⟩,())))
def QV(x:dH):OZ iL:=L.o (qhn L (qhm L (qhl L (qhk L)))) (x.1,0,1,0,0,())
def QW:=QV lf
def QX(c0:dH->OZ iL)(_x:Si):OZ iL:=L.b (c0 (([108,101,116,32,114,101,99,32,105,110,32,102,117,110,32,105,102,32,116,104,101,110,32,101,108,115,101,32,109,97,116,99,104,32,119,105,116,104,32,101,110,100,32,114,97,105,115,101,32,116,114,121,32,111,112,101,110,32,116,121,112,101,32,111,102,32,105,110,102,105,120,108,32,105,110,102,105,120,114,32,105,110,102,105,120,32,45,62,32,61,32,124,32,40,32,41,32,95,32,59,59]:Y1),())) λb=>SZ (b.1,())
def JL:=QX lf QW
def JM(c0:yf)(c1:Si->OZ iL)(x:dH):OZ Y8:=L.b (c1 ()) λb=>L.b (c0 (b.1,x.1,())) λd=>SZ (d.1,())
def sA:=JM lf nk JL
def JN(c0:pH)(c1:pH)(c2:lW)(x:I4):OZ Y8:=L.b (c0 (x.1.2.1,())) λb=>L.b (L.y b.1 (L.b (L.g x.1.2.1 0) λd=>L.b (c2 (d,())) λe=>SZ e.1)) λg=>L.b (L.y g (L.b (c1 (x.1.2.1,())) λh=>SZ (L.t h.1))) λi=>SZ (i,())
def BP:=JN lf BN sA vp
def JO(c0:pH)(c1:pH)(c2:lW)(x:I4):OZ Y8:=L.b (c0 (x.1.2.1,())) λb=>L.b (L.y b.1 (L.b (L.g x.1.2.1 0) λd=>L.b (c2 (d,())) λe=>SZ e.1)) λg=>L.b (L.y g (L.b (c1 (x.1.2.1,())) λh=>SZ (L.t h.1))) λi=>SZ (i,())
def BQ:=JO lf BN sA vq
def vr(x:iK):OZ Y9:=SZ (qh x.2.1 x.1,())
def JP(c0:iK->OZ Y9)(x:Y9):OZ Y8:=L.b (c0 (([33,36,37,38,42,43,45,47,58,60,61,62,63,64,94,124]:Y1),x.1,())) λb=>SZ (L.m 0 b.1,())
def qu:=JP lf vr
def qaj(c0:lW)(b:(Y1×Y1×Int×Si)):OZ ((Y1×Y1×Int×Si)⊕Y8):=L.c (L.l b.d2 (L.n b.2.1)) (L.b (L.c (L.l b.d2 (L.n b.2.1)) (SZ (L.fh b.2.1 b.d2)) none) λd=>L.b (L.r (L.l 126 d) (L.b (c0 (L.fR .u8 d,())) λe=>SZ (L.t e.1))) λg=>L.c g (JS (false,())) (IS (b.s2 (L.gP b.2.1 b.d2)))) (JS (L.t (L.h b.1 ([]:Y1)),()))
def QY(c0:lW)(x:dH):OZ Y8:=L.o (qaj L c0) (x.1,x.1,0,())
def EY:=QY lf qu
def JR(x:Y9):OZ Y9:=L.b (L.lr .u64 (L.fR .u64 x.1) 1) λb=>L.b (L.lu .i64 (L.fR .i64 b) 1) λd=>SZ (d,())
def qv:=JR lf
def JT(c0:wN)(c1:wN)(c2:pH)(c3:pH)(c4:EU)(x:I4):OZ Y8:=L.b (L.r (L.l x.1.2.2.2 0) (L.y (L.t (L.e x.1.1 3)) (SZ (L.t (L.e x.1.d2 0))))) λb=>L.b (L.r b (L.y (L.e x.1.1 3) (SZ (L.t (L.h x.1.2.1 ([]:Y1)))))) λd=>L.c d (SZ (false,())) (L.c (L.e x.1.1 1) (L.b (c0 ((x.1.1,x.1.2.1,x.1.d2,x.1.2.2.2),())) λe=>SZ (e.1,())) (L.c (L.e x.1.1 2) (L.b (c1 ((x.1.1,x.1.2.1,x.1.d2,x.1.2.2.2),())) λg=>SZ (g.1,())) (L.c (L.e x.1.1 3) (L.b (c4 (x.1.d2,())) λh=>SZ (L.e h.1 x.1.d2,())) (L.c (L.e x.1.1 4) (SZ (L.m (L.n x.1.2.1) 200,())) (L.c (L.e x.1.1 5) (L.b (c2 (x.1.2.1,())) λi=>L.b (L.y i.1 (L.b (c3 (x.1.2.1,())) λj=>SZ (L.t j.1))) λk=>SZ (k,())) (L.c (L.e x.1.1 6) (L.b (c3 (x.1.2.1,())) λm=>SZ (m.1,())) (SZ (false,()))))))))
def mq:=JT lf BP BQ EY sA qv
def JU(c0:wN)(x:Y6×Si):OZ Y8:=L.b (c0 ((5,x.1.1,0,0),())) λb=>L.b (L.y b.1 (SZ (L.m 0 x.1.2.1))) λd=>L.b (L.y d (SZ (L.m x.1.2.1 9))) λe=>L.b (L.y e (SZ (L.m (-1) x.1.2.2))) λg=>L.b (L.y g (SZ (L.m x.1.2.2 1))) λh=>SZ (h,())
def vt:=JU lf mq
def JV(c0:(Y6×Si)->OZ Y8)(x:Y6×Si):OZ Y8:=L.b (c0 ((x.1.1,x.1.2.1,x.1.2.2),())) λb=>SZ (L.t b.1,())
def yi:=JV lf vt
def q3i(c0:(Y6×Si)->OZ Y8)(b:(Y3×Int×Int×Si)):OZ ((Y3×Int×Int×Si)⊕Y9):=L.c (L.l b.d2 b.2.1) (L.b (L.g b.1.l b.d2) λd=>L.b (c0 (d,())) λe=>L.c e.1 (JS (b.d2,())) (IS (b.s2 (L.a .i64 b.d2 1)))) (JS ((-1),()))
def QZ(c0:(Y6×Si)->OZ Y8)(x:sj):OZ Y9:=L.o (q3i L c0) (x.1,L.n x.1.l,0,())
def JW:=QZ lf yi
def JX(c0:ES)(x:sj):OZ Y8:=L.b (c0 (x.1,())) λb=>SZ (L.m 0 b.1,())
def BR:=JX lf JW
def JY(x:Y6×Y1×Si):OZ Y8:=SZ (L.h x.1.1 x.2.1,())
def yj:=JY lf
def q3j(c0:(Y6×Y1×Si)->OZ Y8)(b:(Y3×Y1×Int×Int×Si)):OZ ((Y3×Y1×Int×Int×Si)⊕Y9):=L.c (L.l b.d3 b.d2) (L.b (L.g b.1.l b.d3) λd=>L.b (c0 (d,b.2.1,())) λe=>L.c e.1 (JS (b.d3,())) (IS (b.s3 (L.a .i64 b.d3 1)))) (JS ((-1),()))
def Q0(c0:(Y6×Y1×Si)->OZ Y8)(x:Y3×Y1×Si):OZ Y9:=L.o (q3j L c0) (x.1,x.2.1,L.n x.1.l,0,())
def J0:=Q0 lf yj
def J1(c0:(Y3×Y1×Si)->OZ Y9)(x:Y3×Y1×Si):OZ BI:=L.b (c0 (x.1,x.2.1,())) λb=>L.c (L.l b.1 0) (SZ ((([]:Y1),0,0),false,())) (L.b (L.g x.1.l b.1) λd=>SZ ((d.1,d.2.1,d.2.2),true,()))
def o8:=J1 lf J0
def qc0(c1:(Y3×Y1×Si)->OZ BI)(b:(Y3×Y3×Int×Int×Si)):OZ ((Y3×Y3×Int×Int×Si)⊕Y9):=L.c (L.l b.d3 b.d2) (L.b (L.g b.2.1.l b.d3) λd=>L.b (L.bS b.1.l 0 b.d3) λe=>L.b (c1 (⟨b.1.nil,e⟩,d.1,())) λg=>L.c (L.t (L.d (L.h g.1.1 ([]:Y1)) (L.d (L.e g.1.2.1 0) (L.e g.1.2.2 0)))) (JS (41,())) (IS (b.s3 (L.a .i64 b.d3 1)))) (JS (0,()))
def Q3(c0:QR)(c1:(Y3×Y1×Si)->OZ BI)(x:sj):OZ Y9:=L.b (L.r (L.l 400 (L.n x.1.l)) (L.b (c0 (x.1,())) λb=>SZ b.1)) λd=>L.c d (SZ (40,())) (L.o (qc0 L c1) (x.1,x.1,L.n x.1.l,0,()))
def iC:=Q3 lf BR o8
def J2(c0:wN)(x:dH):OZ Y8:=L.b (c0 ((2,x.1,0,0),())) λb=>SZ (b.1,())
def yl:=J2 lf mq
def J3(c0:pH)(x:dH):OZ Y8:=L.b (c0 (x.1,())) λb=>L.b (L.y b.1 (SZ (L.m (L.n x.1) 60))) λd=>SZ (d,())
def qw:=J3 lf yl
def J4(c0:pH)(x:dH):OZ Y8:=L.b (c0 (x.1,())) λb=>SZ (L.t b.1,())
def BS:=J4 lf qw
def q3k(c0:pH)(b:(Se×Int×Int×Si)):OZ ((Se×Int×Int×Si)⊕Y9):=L.c (L.l b.d2 b.2.1) (L.b (L.g b.1.l b.d2) λd=>L.b (c0 (d,())) λe=>L.c e.1 (JS (b.d2,())) (IS (b.s2 (L.a .i64 b.d2 1)))) (JS ((-1),()))
def Q4(c0:pH)(x:iL):OZ Y9:=L.o (q3k L c0) (x.1,L.n x.1.l,0,())
def J5:=Q4 lf BS
def J6(c0:iL->OZ Y9)(x:iL):OZ Y8:=L.b (c0 (x.1,())) λb=>SZ (L.m 0 b.1,())
def vu:=J6 lf J5
def J7(c0:wN)(x:dH):OZ Y8:=L.b (c0 ((1,x.1,0,0),())) λb=>L.b (L.r b.1 (L.b (c0 ((5,x.1,0,0),())) λd=>SZ d.1)) λe=>SZ (e,())
def ym:=J7 lf mq
def qdw(b:vj):OZ (vj⊕Y9):=L.b (L.r (L.m (L.n b.1.l) b.2.1) (L.b (L.g b.1.l b.2.1) λd=>SZ (L.l d.2.2.2 0))) λe=>L.b (L.r e (L.b (L.g b.1.l b.2.1) λg=>SZ (L.l (L.n b.1.l) g.2.2.2))) λh=>L.c h (JS ((-1),())) (L.b (L.g b.1.l b.2.1) λi=>L.c (L.l 0 (L.a .i64 b.d2 (L.u .i64 i.2.2.2 1))) (IS (b.1,L.a .i64 b.2.1 1,L.a .i64 b.d2 (L.u .i64 i.2.2.2 1),())) (JS (L.a .i64 b.2.1 1,())))
def Q5(x:xY):OZ Y9:=L.c (L.l x.2.1 0) (SZ ((-1),())) (L.o (qdw L) (x.1,x.2.1,1,()))
def n5:=Q5 lf
def J8(c0:wO)(x:gr):OZ Y8:=L.b (L.y (L.l 0 (L.n x.1.l)) (L.b (c0 (x.1,0,())) λb=>SZ (L.e b.1 (L.n x.1.l)))) λd=>SZ (d,())
def n9:=J8 lf n5
def qc1(b:Hd):OZ (Hd⊕((Hd⊕Y9))):=L.b (L.y (L.l 0 (L.n b.d4.l)) (L.b (L.cj b.d4.l (L.u .i64 (L.n b.d4.l) 1)) λd=>L.b (L.nth b.d4.l d) λe=>SZ (L.e e 0))) λg=>L.c g (L.b (L.dY (L.n b.d4.l) (L.u .i64 (L.n b.d4.l) 1)) λh=>L.b (L.c (L.l 0 (L.n (L.aP b.d4.l h))) (L.b (L.cj (L.aP b.d4.l h) (L.u .i64 (L.n (L.aP b.d4.l h)) 1)) λi=>L.b (L.nth b.d4.l i) λj=>L.b (L.cj (L.aP b.d4.l h) (L.u .i64 (L.n (L.aP b.d4.l h)) 1)) λk=>L.b (L.b (L.nth b.d4.l k) λ_=>SZ (L.u .i64 j 1)) λm=>SZ (b.s4 ⟨b.d4.nil,L.aP (L.kF b.d4.l k m) h⟩)) (SZ (b.s4 ⟨b.d4.nil,L.aP b.d4.l h⟩))) λn=>IS n) (JS (IZ (b.s3 (L.a .i64 b.d3 1))))
def qc2(k0:(Hd)->OZ (Hd⊕((Hd⊕Y9))))(b:Hd):OZ (Hd⊕Y9):=L.c (L.l b.d3 b.d2) (L.b (L.g b.2.1.l b.d3) λd=>L.z b.d4 [d.2.2.2] λzz=>L.o k0 ((b.s0 (L.lB b.1 (L.a .i64 (L.n b.d4.l) 1))).s4 zz)) (JS (b.1,()))
def Q6(c0:BL)(x:gr):OZ Y9:=L.b (c0 (x.1,())) λb=>L.c (L.t b.1) (SZ (0,())) (L.o (qc2 L (qc1 L)) (0,x.1,L.n x.1.l,0,⟨true,([]:Y1)⟩,()))
def BT:=Q6 lf n9
def J9(x:Y9):OZ Y8:=L.b (L.y (L.m 21 x.1) (SZ (L.m x.1 24))) λb=>SZ (b,())
def vv:=J9 lf
def Q7(_L:Lf)(x:Y9):OZ Y9:=SZ (x.1,())
def Q8:=Q7 lf
def Ka(c0:EU)(x:Y9):OZ (Bool×Bool×Int×Int×Int×Int×Bool×Si):=L.b (L.c (L.e x.1 1) (SZ (x.1,L.e x.1 1,false,false,false,())) (SZ (x.1,L.e x.1 23,false,false,false,()))) λb=>L.c b.2.1 (L.b (c0 (0,())) λd=>SZ (true,false,2,0,0,d.1,true,())) (L.c (L.e b.1 2) (L.b (c0 (0,())) λe=>SZ (false,true,2,0,0,e.1,true,())) (L.b (L.c (L.e b.1 3) (SZ (b.s1 (L.e b.1 3))) (SZ (b.s1 (L.e b.1 22)))) λg=>L.c g.2.1 (L.b (c0 (0,())) λh=>SZ (false,false,0,0,0,h.1,true,())) (L.c (L.e g.1 4) (L.b (c0 (0,())) λi=>SZ (false,false,1,0,0,i.1,true,())) (L.c (L.e g.1 5) (L.b (c0 (1,())) λj=>SZ (false,false,0,0,0,j.1,true,())) (L.b (L.c (L.e g.1 7) (SZ (g.s1 (L.e g.1 7))) (L.b (L.c (L.e g.1 8) (SZ (g.s1 (L.e g.1 8))) (SZ (g.s1 (L.e g.1 12)))) λk=>SZ k)) λm=>L.c m.2.1 (L.b (c0 (2,())) λn=>SZ (false,false,0,0,0,n.1,true,())) (L.c (L.e m.1 6) (L.b (c0 (2,())) λo=>SZ (false,false,2,0,0,o.1,true,())) (L.c (L.e m.1 9) (L.b (c0 (3,())) λp=>SZ (false,false,2,0,0,p.1,true,())) (L.c (L.e m.1 10) (SZ (false,false,2,0,1,0,true,())) (L.c (L.e m.1 11) (L.b (c0 (1,())) λq=>SZ (false,false,2,0,0,q.1,true,())) (L.c (L.e m.1 21) (L.b (c0 (0,())) λr=>SZ (false,false,2,0,0,r.1,true,())) (L.c (L.e m.1 24) (SZ (false,false,1,0,2,0,true,())) (SZ (false,false,2,0,3,0,false,())))))))))))))
def gG:=Ka lf Q8
def Kb(x:Y9):OZ Y8:=L.b (L.y (L.m 3 x.1) (L.b (L.oS x.1 2) λb=>SZ (L.e b 1))) λd=>SZ (d,())
def BU:=Kb lf
def Q9(_L:Lf)(_x:Y9):OZ Y8:=SZ (true,())
def EZ:=Q9 lf
def Kc(x:AM):OZ Y8:=SZ (L.e x.1 x.2.1,())
def BV:=Kc lf
def Kd(c0:pH)(c1:pH)(c2:EU)(c3:lW)(c4:Y9->OZ (Bool×Bool×Int×Int×Int×Int×Bool×Si))(c5:lW)(c6:lW)(c7:AM->OZ Y8)(x:QL):OZ Y9:=L.b (L.g x.1.l x.2.1) λb=>L.b (c4 (b.1,())) λd=>L.b (L.r (L.t d.d6) (L.b (c3 (b.1,())) λe=>SZ (L.t (L.ga e.1 x.d2)))) λg=>L.b (L.r g (L.b (L.c (L.e d.d4 0) (L.b (c7 (b.2.2.2,d.d5,())) λh=>SZ h.1) (L.c (L.e d.d4 1) (L.b (c5 (b.2.2.2,())) λi=>SZ i.1) (L.c (L.e d.d4 2) (L.b (c6 (b.2.2.2,())) λj=>SZ j.1) none))) λk=>SZ (L.t k))) λm=>L.c m (SZ (61,())) (L.c d.1 (L.b (c2 (b.d2,())) λn=>L.b (L.c (L.t (L.e n.1 b.d2)) (SZ (x.1,x.2.1,L.t (L.e n.1 b.d2),b.1,b.2.1,b.d2,b.2.2.2,d.1,d.2.1,d.d2,d.d3,d.d4,d.d5,d.d6,())) (L.b (L.y (L.t d.1) (SZ (L.t (L.e b.d2 0)))) λo=>SZ (x.1,x.2.1,o,b.1,b.2.1,b.d2,b.2.2.2,d.1,d.2.1,d.d2,d.d3,d.d4,d.d5,d.d6,()))) λp=>L.c p.d2 (SZ (61,())) (L.b (L.y p.d8 (SZ (L.l 200 (L.n p.d4)))) λq=>L.b (L.c q (SZ (p.s2 q)) (L.b (L.y (L.t p.d8) (SZ (L.e p.d9 2))) λr=>L.b (L.y r (SZ (L.t (L.h p.d4 ([]:Y1))))) λs=>SZ (p.s2 s))) λt=>L.c t.d2 (SZ (61,())) (L.b (L.y (L.e t.d3 8) (L.b (L.g t.1.l (L.a .i64 t.2.1 1)) λu=>SZ (L.t (L.e u.1 5)))) λv=>L.c v (SZ (61,())) (L.b (L.y (L.t (L.e t.d9 2)) (L.b (L.c (L.e t.d9 0) (L.b (c1 (t.d4,())) λw=>SZ w.1) (L.c (L.e t.d9 1) (L.b (c0 (t.d4,())) λy=>SZ y.1) none)) λz=>SZ (L.t z))) λbb=>L.c bb (SZ (62,())) (SZ (0,())))))) (L.b (L.c false (SZ (x.1,x.2.1,false,b.1,b.2.1,b.d2,b.2.2.2,d.1,d.2.1,d.d2,d.d3,d.d4,d.d5,d.d6,())) (L.b (L.y (L.t d.1) (SZ (L.t (L.e b.d2 0)))) λbd=>SZ (x.1,x.2.1,bd,b.1,b.2.1,b.d2,b.2.2.2,d.1,d.2.1,d.d2,d.d3,d.d4,d.d5,d.d6,()))) λbe=>L.c be.d2 (SZ (61,())) (L.b (L.y be.d8 (SZ (L.l 200 (L.n be.d4)))) λbg=>L.b (L.c bg (SZ (be.s2 bg)) (L.b (L.y (L.t be.d8) (SZ (L.e be.d9 2))) λbh=>L.b (L.y bh (SZ (L.t (L.h be.d4 ([]:Y1))))) λbi=>SZ (be.s2 bi))) λbj=>L.c bj.d2 (SZ (61,())) (L.b (L.y (L.e bj.d3 8) (L.b (L.g bj.1.l (L.a .i64 bj.2.1 1)) λbk=>SZ (L.t (L.e bk.1 5)))) λbm=>L.c bm (SZ (61,())) (L.b (L.y (L.t (L.e bj.d9 2)) (L.b (L.c (L.e bj.d9 0) (L.b (c1 (bj.d4,())) λbn=>SZ bn.1) (L.c (L.e bj.d9 1) (L.b (c0 (bj.d4,())) λbo=>SZ bo.1) none)) λbp=>SZ (L.t bp))) λbq=>L.c bq (SZ (62,())) (SZ (0,())))))))
def BW:=Kd lf yl ym qv vv gG BU EZ BV
def Ke(c0:aah)(x:Int×Bool×Sa×Si):OZ Y9:=L.b (c0 (x.d2,x.1,x.2.1,())) λb=>SZ (b.1,())
def BX:=Ke lf BW
def WG(c0:yg)(b:(Sa×Int×Bool×Sa×Int×Int×Int×Si)):OZ ((Sa×Int×Bool×Sa×Int×Int×Int×Si)⊕AM):=L.c (L.l b.d6 b.d5) (L.b (L.r b.d2 (L.b (L.g b.1.l b.2.1) λd=>L.y (L.e d.1 10) (L.b (L.oS b.d6 2) λe=>SZ (L.e e 1)))) λg=>L.b (c0 (b.1,b.d4,g,b.d3,())) λh=>L.c (L.t (L.e h.2.1 0)) (JS (0,h.2.1,())) (IS ((b.s4 h.1).s6 (L.a .i64 b.d6 1)))) (JS (b.d4,0,()))
def Kf(c0:yg)(c1:(Int×Bool×Sa×Si)->OZ Y9)(x:Y75):OZ AM:=L.b (c1 (x.2.1,x.d2,x.d3,())) λb=>L.c (L.t (L.e b.1 0)) (SZ (0,b.1,())) (L.b (L.g x.1.l x.2.1) λd=>L.o (WG L c0) (x.1,x.2.1,x.d2,x.d3,L.a .i64 x.2.1 1,d.2.2.2,0,()))
def oa(self:yg)(x:Y75):OZ AM:=Kf lf self BX x
def E0:=iA oa
def Kg(c0:wO)(x:xY):OZ xY:=L.b (c0 (x.1,x.2.1,())) λb=>L.c (L.l b.1 0) (SZ (⟨true,([]:List Y0)⟩,20,())) (L.b (L.wy (L.u .i64 b.1 x.2.1) (L.u .i64 b.1 x.2.1)) λd=>L.b (L.bS x.1.l x.2.1 b.1) λe=>SZ (⟨false,L.uz (L.rep d (0,([]:Y1),0,0)) e⟩,0,()))
def BY:=Kg lf n5
def qc3(b:(Sa×Int×Int×Se×Si)):OZ ((Sa×Int×Int×Se×Si)⊕iL):=L.c (L.l b.d2 b.2.1) (L.b (L.g b.1.l b.d2) λd=>L.b (L.c (L.e d.1 22) (L.z b.d3 [d.2.1] λzz=>SZ (b.s3 zz)) (SZ b)) λe=>IS (e.s2 (L.a .i64 e.d2 1))) (JS (b.d3,()))
def Ra(x:gr):OZ iL:=L.o (qc3 L) (x.1,L.n x.1.l,0,⟨true,([]:List Y1)⟩,())
def BZ:=Ra lf
def B0(x:iL):OZ iL:=bif x.1.l.all IY&&decide (x.1.l.length<4611686018427387904) then SZ ((⟨x.1.nil,oZ x.1.l⟩:Sl Y1),()) else none
def q62(b:(Int×Int×Int×Se×Si)):OZ ((Int×Int×Int×Se×Si)⊕((EP⊕iL))):=L.c (L.l b.d2 (L.n (L.eN b.d3.l b.2.1))) (L.b (L.c (L.m 0 b.d2) (L.cj b.d3.l (L.s b.2.1 b.d2)) none) λd=>L.b (L.nth b.d3.l d) λe=>L.b (L.c (L.m 0 (L.u .i64 b.d2 1)) (L.cj b.d3.l (L.s b.2.1 (L.u .i64 b.d2 1))) none) λg=>L.b (L.nth b.d3.l g) λh=>L.b (L.c (L.t (L.h e h)) (L.b (L.c (L.m 0 b.d2) (L.cj b.d3.l (L.s b.2.1 b.d2)) none) λi=>L.b (L.nth b.d3.l i) λj=>L.b (L.cj b.d3.l b.1) λk=>L.b (L.b (L.nth b.d3.l k) λ_=>SZ j) λm=>SZ (L.a .i64 b.1 1,b.2.1,b.d2,⟨b.d3.nil,L.kF b.d3.l k m⟩,())) (SZ b)) λn=>IS (n.s2 (L.a .i64 n.d2 1))) (L.b (L.dY (L.n b.d3.l) b.1) λ_=>L.b (L.dY (L.n (L.gb b.d3.l b.1 ([]:Y1))) b.1) λo=>JS (JZ (⟨b.d3.nil,L.aP (L.gb b.d3.l b.1 ([]:Y1)) o⟩,())))
def q63(k0:((Int×Int×Int×Se×Si))->OZ ((Int×Int×Int×Se×Si)⊕((EP⊕iL))))(b:EP):OZ (EP⊕iL):=L.c (L.l b.1 (L.n b.2.1.l)) (L.b (L.cj b.2.1.l b.1) λd=>L.b (L.nth b.2.1.l d) λe=>L.b (L.cj b.2.1.l (L.u .i64 b.1 1)) λg=>L.b (L.nth b.2.1.l g) λh=>L.c (L.h e h) (L.b (L.dY (L.n b.2.1.l) b.1) λ_=>L.o k0 (b.1,b.1,1,b.2.1,())) (IS (L.a .i64 b.1 1,b.2.1,()))) (JS (b.2.1,()))
def Rb(x:iL):OZ iL:=L.c (L.l (L.n x.1.l) 2) (SZ (x.1,())) (L.o (q63 L (q62 L)) (1,x.1,()))
def B3:=Rb lf
def Kh(c0:gr->OZ iL)(x:gr):OZ Y9:=L.b (c0 (x.1,())) λb=>SZ (L.n b.1.l,())
def B4:=Kh lf BZ
def Ki(c0:xY->OZ xY)(c1:gr->OZ iL)(c2:iL->OZ iL)(c3:iL->OZ iL)(c4:o6)(x:Int×Sa×Si):OZ Y8:=L.b (c0 (x.2.1,x.1,())) λb=>L.b (c1 (b.1,())) λd=>L.b (c2 (d.1,())) λe=>L.b (c3 (e.1,())) λg=>L.b (c4 (b.1,())) λh=>SZ (L.l (L.n g.1.l) h.1,())
def yo:=Ki lf BY BZ B0 B3 B4
def qc4(c0:wO)(c4:(Int×Sa×Si)->OZ Y8)(c5:lW)(b:(Int×Sa×Si)):OZ ((Int×Sa×Si)⊕Y9):=L.c (L.l b.1 (L.n b.2.1.l)) (L.b (L.b (L.g b.2.1.l b.1) λd=>L.b (c5 (d.1,())) λe=>L.c (L.t e.1) (IS (b.1,b.2.1,())) (L.b (c4 (b.1,b.2.1,())) λg=>L.c g.1 (JS (JZ (63,()))) (L.b (c0 (b.2.1,b.1,())) λh=>IS (L.u .i64 h.1 1,b.2.1,())))) (L.cd λi=>IS (L.a .i64 i.1 1,i.2.1,()))) (JS (0,()))
def Re(c0:wO)(c1:BL)(c2:o6)(c3:yg)(c4:(Int×Sa×Si)->OZ Y8)(c5:lW)(x:Sa×Bool×Si):OZ Y9:=L.b (L.r (L.l 4000 (L.n x.1.l)) (L.b (c1 (x.1,())) λb=>SZ (L.t b.1))) λd=>L.b (L.r d (L.b (c2 (x.1,())) λe=>SZ (L.l 100 e.1))) λg=>L.c g (SZ (60,())) (L.b (c3 (x.1,0,x.2.1,x.1,())) λh=>L.c (L.t (L.e h.2.1 0)) (SZ (h.2.1,())) (L.o (qc4 L c0 c4 c5) (0,x.1,())))
def B5:=Re lf n5 n9 BT E0 yo vv
def Kj(c0:(Sa×Bool×Si)->OZ Y9)(x:gr):OZ Y9:=L.b (c0 (x.1,false,())) λb=>SZ (b.1,())
def iU:=Kj lf B5
def Kk(c0:pH)(c1:o6)(x:Y5×Si):OZ Y8:=L.b (c0 (x.1.1,())) λb=>L.b (L.y b.1 (L.b (c1 (x.1.2.2,())) λd=>SZ (L.e d.1 0))) λe=>L.b (L.y e (L.r (L.t x.1.2.1) (L.b (L.g x.1.2.2.l 0) λg=>SZ (L.e g.1 5)))) λh=>SZ (h,())
def qx:=Kk lf ym iU
def Kl(c0:(Y5×Si)->OZ Y8)(x:Y5×Si):OZ Y8:=L.b (c0 ((x.1.1,x.1.2.1,x.1.2.2),())) λb=>SZ (L.t b.1,())
def B6:=Kl lf qx
def q3l(c0:(Y5×Si)->OZ Y8)(b:(Sg×Int×Int×Si)):OZ ((Sg×Int×Int×Si)⊕Y9):=L.c (L.l b.d2 b.2.1) (L.b (L.g b.1.l b.d2) λd=>L.b (c0 (d,())) λe=>L.c e.1 (JS (b.d2,())) (IS (b.s2 (L.a .i64 b.d2 1)))) (JS ((-1),()))
def Rf(c0:(Y5×Si)->OZ Y8)(x:Sg×Si):OZ Y9:=L.o (q3l L c0) (x.1,L.n x.1.l,0,())
def Km:=Rf lf B6
def Kn(c0:(Sg×Si)->OZ Y9)(x:Sg×Si):OZ Y8:=L.b (c0 (x.1,())) λb=>SZ (L.m 0 b.1,())
def vw:=Kn lf Km
def Ko(c0:wN)(x:dH):OZ Y8:=L.b (c0 ((2,x.1,0,0),())) λb=>SZ (b.1,())
def sB:=Ko lf mq
def Kp(c0:wN)(x:I4):OZ Y8:=L.c (L.e x.1.1 31) (L.b (L.y (L.e x.1.2.2.2 0) (SZ (L.h x.1.2.1 ([]:Y1)))) λb=>L.b (L.y b (SZ (L.m 0 x.1.d2))) λd=>L.b (L.y d (SZ (L.m x.1.d2 1048576))) λe=>SZ (e,())) (L.b (L.r (L.t (L.e x.1.1 32)) (SZ (L.t (L.e x.1.d2 0)))) λg=>L.c g (SZ (false,())) (L.c (L.h x.1.2.1 ([45,62]:Y1)) (SZ (L.e x.1.2.2.2 2,())) (L.b (L.c (L.h x.1.2.1 ([105,110,116]:Y1)) (SZ (x.1.2.1,L.h x.1.2.1 ([105,110,116]:Y1),x.1.1,x.1.2.1,x.1.d2,x.1.2.2.2,())) (SZ (x.1.2.1,L.h x.1.2.1 ([116,101,120,116]:Y1),x.1.1,x.1.2.1,x.1.d2,x.1.2.2.2,()))) λh=>L.c h.2.1 (SZ (L.e h.d5 0,())) (L.c (L.h h.1 ([114,101,102]:Y1)) (SZ (L.e h.d5 1,())) (L.b (c0 ((2,h.d3,0,0),())) λi=>L.b (L.y i.1 (SZ (L.m h.d5 8))) λj=>SZ (j,()))))))
def B7:=Kp lf mq
def Kq(c0:wN)(x:I4):OZ Y8:=L.b (c0 ((x.1.1,x.1.2.1,x.1.d2,x.1.2.2.2),())) λb=>SZ (L.t b.1,())
def B8:=Kq lf B7
def q32(c0:wN)(b:vj):OZ (vj⊕Y9):=L.c (L.l b.d2 b.2.1) (L.b (L.g b.1.l b.d2) λd=>L.b (c0 (d,())) λe=>L.c e.1 (JS (b.d2,())) (IS (b.s2 (L.a .i64 b.d2 1)))) (JS ((-1),()))
def Rg(c0:wN)(x:gr):OZ Y9:=L.o (q32 L c0) (x.1,L.n x.1.l,0,())
def Kr:=Rg lf B8
def Ks(c0:o6)(x:gr):OZ Y8:=L.b (c0 (x.1,())) λb=>SZ (L.m 0 b.1,())
def B9:=Ks lf Kr
def Kt(c0:BL)(c1:BL)(x:gr):OZ Y9:=L.b (L.r (L.l 4000 (L.n x.1.l)) (L.b (c1 (x.1,())) λb=>SZ (L.t b.1))) λd=>L.c d (L.c true (SZ (90,())) (SZ (0,()))) (L.b (c0 (x.1,())) λe=>L.c e.1 (SZ (90,())) (SZ (0,())))
def vz:=Kt lf B9 n9
def Ku(x:EO):OZ xZ:=SZ (L.m x.d2 x.1,x.2.1,x.d2,x.d3,())
def Ca:=Ku lf
def q33(c0:EO->OZ xZ)(b:(Sd×Int×Int×Y1×Int×iB×Si)):OZ ((Sd×Int×Int×Y1×Int×iB×Si)⊕EO):=L.c (L.l b.d2 b.2.1) (L.b (L.g b.1.l b.d2) λd=>L.b (c0 (d,b.d3,b.d4,b.d5,())) λe=>L.c e.1 (JS (b.d2,e.2.1,e.d2,e.d3,())) (IS (b.1,b.2.1,L.a .i64 b.d2 1,e.2.1,e.d2,e.d3,()))) (JS ((-1),b.d3,b.d4,b.d5,()))
def Rh(c0:EO->OZ xZ)(x:Sd×Y1×Int×iB×Si):OZ EO:=L.o (q33 L c0) (x.1,L.n x.1.l,0,x.2.1,x.d2,x.d3,())
def Kv:=Rh lf Ca
def Kw(c0:(Sd×Y1×Int×iB×Si)->OZ EO)(x:Sd×Y1×Int×iB×Si):OZ xZ:=L.b (c0 (x.1,x.2.1,x.d2,x.d3,())) λb=>SZ (L.m 0 b.1,b.2.1,b.d2,b.d3,())
def E1:=Kw lf Kv
def q5i(b:(Sd×Int×Int×Int×Si)):OZ ((Sd×Int×Int×Int×Si)⊕Y9):=L.c (L.l b.d3 b.d2) (L.b (L.g b.1.l b.d3) λd=>L.c (L.e b.2.1 d) (JS (b.d3,())) (IS (b.s3 (L.a .i64 b.d3 1)))) (JS ((-1),()))
def Ri(x:AO):OZ Y9:=L.o (q5i L) (x.1,x.2.1,L.n x.1.l,0,())
def Kx:=Ri lf
def Ky(c0:AO->OZ Y9)(x:AO):OZ Y8:=L.b (c0 (x.1,x.2.1,())) λb=>SZ (L.m 0 b.1,())
def yp:=Ky lf Kx
def qdx(c1:AO->OZ Y8)(b:WC):OZ (WC⊕uF):=L.c (L.l b.d2 b.2.1) (L.b (L.g b.1.l b.d2) λd=>L.b (L.y (L.e d.1 31) (L.b (c1 (b.d3,d.d2,())) λe=>SZ (L.t e.1))) λg=>L.b (L.c g (L.z b.d3 [d.d2] λzz=>SZ (b.s3 zz)) (SZ b)) λh=>IS (h.s2 (L.a .i64 h.d2 1))) (JS (b.d3,()))
def Rj(c0:o6)(c1:AO->OZ Y8)(x:gr):OZ uF:=L.b (c0 (x.1,())) λb=>L.c (L.t (L.e b.1 0)) (SZ (⟨true,([]:Y1)⟩,())) (L.o (qdx L c1) (x.1,L.n x.1.l,0,⟨true,([]:Y1)⟩,()))
def E2:=Rj lf vz yp
def Kz(c0:o6)(c1:(Sd×Y1×Int×iB×Si)->OZ xZ)(c2:gr->OZ uF)(x:Sa×Y1×Int×iB×Si):OZ xZ:=L.b (c0 (x.1,())) λb=>L.c (L.e b.1 0) (L.b (c2 (x.1,())) λd=>L.b (c1 (d.1,x.2.1,x.d2,x.d3,())) λe=>SZ (e.s0 (L.t e.1))) (SZ (false,x.2.1,x.d2,x.d3,()))
def E3:=Kz lf vz E1 E2
def KA(c0:(Sa×Y1×Int×iB×Si)->OZ xZ)(x:Sa×Y1×Int×iB×Si):OZ xZ:=L.b (c0 (x.1,x.2.1,x.d2,x.d3,())) λb=>SZ (b.s0 (L.t b.1))
def yq:=KA lf E3
def q34(c0:(Sa×Y1×Int×iB×Si)->OZ xZ)(b:(fm×Int×Int×Y1×Int×iB×Si)):OZ ((fm×Int×Int×Y1×Int×iB×Si)⊕EO):=L.c (L.l b.d2 b.2.1) (L.b (L.g b.1.l b.d2) λd=>L.b (c0 (d,b.d3,b.d4,b.d5,())) λe=>L.c e.1 (JS (b.d2,e.2.1,e.d2,e.d3,())) (IS (b.1,b.2.1,L.a .i64 b.d2 1,e.2.1,e.d2,e.d3,()))) (JS ((-1),b.d3,b.d4,b.d5,()))
def Rk(c0:(Sa×Y1×Int×iB×Si)->OZ xZ)(x:fm×Y1×Int×iB×Si):OZ EO:=L.o (q34 L c0) (x.1,L.n x.1.l,0,x.2.1,x.d2,x.d3,())
def KB:=Rk lf yq
def KC(c0:(fm×Y1×Int×iB×Si)->OZ EO)(x:fm×Y1×Int×iB×Si):OZ xZ:=L.b (c0 (x.1,x.2.1,x.d2,x.d3,())) λb=>SZ (L.m 0 b.1,b.2.1,b.d2,b.d3,())
def yu:=KC lf KB
def qak(c0:pH)(c1:(fm×Y1×Int×iB×Si)->OZ xZ)(b:(iB×Int×Int×Y1×Int×iB×Si)):OZ ((iB×Int×Int×Y1×Int×iB×Si)⊕Y8):=L.c (L.l b.d2 b.2.1) (L.b (L.g b.1.l b.d2) λd=>L.b (c0 (d.1,())) λe=>L.b (L.r (L.t e.1) (SZ (L.l 8 (L.n d.2.l)))) λg=>L.c g (L.c true (JS (false,())) (IS (b.s2 (L.a .i64 b.d2 1)))) (L.b (c1 (d.2,b.d3,b.d4,b.d5,())) λh=>L.c h.1 (JS (false,())) (IS (b.1,b.2.1,L.a .i64 b.d2 1,h.2.1,h.d2,h.d3,())))) (JS (true,()))
def Rl(c0:pH)(c1:(fm×Y1×Int×iB×Si)->OZ xZ)(x:Y2×Si):OZ Y8:=L.b (c0 (x.1.1,())) λb=>L.b (L.r (L.t b.1) (SZ (L.l x.1.2.1 0))) λd=>L.b (L.r d (SZ (L.l 8 x.1.2.1))) λe=>L.b (L.r e (SZ (L.l (L.n x.1.2.2.l) 1))) λg=>L.b (L.r g (SZ (L.l 60 (L.n x.1.2.2.l)))) λh=>L.c h (SZ (false,())) (L.o (qak L c0 c1) (x.1.2.2,L.n x.1.2.2.l,0,x.1.1,x.1.2.1,x.1.2.2,()))
def E4:=Rl lf sB yu
def KD(c0:(Y2×Si)->OZ Y8)(x:Y2×Si):OZ Y8:=L.b (c0 ((x.1.1,x.1.2.1,x.1.2.2),())) λb=>SZ (L.t b.1,())
def Cb:=KD lf E4
def q3m(c0:(Y2×Si)->OZ Y8)(b:Y53):OZ (Y53⊕Y9):=L.c (L.l b.d2 b.2.1) (L.b (L.g b.1.l b.d2) λd=>L.b (c0 (d,())) λe=>L.c e.1 (JS (b.d2,())) (IS (b.s2 (L.a .i64 b.d2 1)))) (JS ((-1),()))
def Rn(c0:(Y2×Si)->OZ Y8)(x:BJ):OZ Y9:=L.o (q3m L c0) (x.1,L.n x.1.l,0,())
def KE:=Rn lf Cb
def KF(c0:I6)(x:BJ):OZ Y8:=L.b (c0 (x.1,())) λb=>SZ (L.m 0 b.1,())
def yv:=KF lf KE
def KG(x:Y2×Y2×Si):OZ Y8:=SZ (L.h x.1.1 x.2.1.1,())
def Cc:=KG lf
def q3n(c0:(Y2×Y2×Si)->OZ Y8)(b:(Sc×Y2×Int×Int×Si)):OZ ((Sc×Y2×Int×Int×Si)⊕Y9):=L.c (L.l b.d3 b.d2) (L.b (L.g b.1.l b.d3) λd=>L.b (c0 (d,b.2.1,())) λe=>L.c e.1 (JS (b.d3,())) (IS (b.s3 (L.a .i64 b.d3 1)))) (JS ((-1),()))
def Ro(c0:(Y2×Y2×Si)->OZ Y8)(x:Sc×Y2×Si):OZ Y9:=L.o (q3n L c0) (x.1,x.2.1,L.n x.1.l,0,())
def Cd:=Ro lf Cc
def KH(x:Int×Int×Sc×Y1×Int×Int×Si):OZ Hi:=L.b (L.g x.d2.l x.1) λb=>L.b (L.g b.2.2.l x.2.1) λd=>L.c (L.t (L.h d.1 x.d3)) (SZ (false,x.d4,x.d5,())) (SZ (true,x.1,x.2.1,()))
def Ce:=KH lf
def q84(c0:(Int×Int×Sc×Y1×Int×Int×Si)->OZ Hi)(b:(Sc×Y1×Int×Sc×Int×Int×Int×Int×Int×Int×Si)):OZ ((Sc×Y1×Int×Sc×Int×Int×Int×Int×Int×Int×Si)⊕((WE⊕Hi))):=L.c (L.l b.d7 b.d6) (L.b (c0 (b.d2,b.d7,b.1,b.2.1,b.d8,b.d9,())) λd=>L.c d.1 (JS (JZ (d.s0 true))) (IS (((b.s7 (L.a .i64 b.d7 1)).s8 d.2.1).s9 d.d2))) (JS (IZ (b.1,b.2.1,b.d3,b.d4,L.a .i64 b.d5 1,b.d8,b.d9,())))
def q85(k0:((Sc×Y1×Int×Sc×Int×Int×Int×Int×Int×Int×Si))->OZ ((Sc×Y1×Int×Sc×Int×Int×Int×Int×Int×Int×Si)⊕((WE⊕Hi))))(b:WE):OZ (WE⊕Hi):=L.c (L.l b.d4 b.d3) (L.b (L.g b.d2.l b.d4) λd=>L.o k0 (b.1,b.2.1,b.d4,b.d2,b.d3,b.d4,L.n d.2.2.l,0,b.d5,b.d6,())) (JS (false,b.d5,b.d6,()))
def Rp(c0:(Int×Int×Sc×Y1×Int×Int×Si)->OZ Hi)(x:Sc×Sc×Y1×Int×Int×Si):OZ Hi:=L.o (q85 L (q84 L c0)) (x.2.1,x.d2,x.1,L.n x.1.l,0,x.d3,x.d4,())
def E5:=Rp lf Ce
def KI(c0:(Sc×Sc×Y1×Int×Int×Si)->OZ Hi)(x:Sc×Y1×Si):OZ (Int×Int×Bool×Si):=L.b (c0 (x.1,x.1,x.2.1,0,0,())) λb=>SZ (b.2.1,b.d2,b.1,())
def E6:=KI lf E5
def KJ(c0:(Sc×Y1×Si)->OZ (Int×Int×Bool×Si))(x:Int×Int×Sc×Si):OZ lU:=L.b (L.g x.d2.l x.1) λb=>L.b (L.g b.2.2.l x.2.1) λd=>L.b (c0 (x.d2,d.1,())) λe=>L.b (L.r (L.t (L.e e.1 x.1)) (SZ (L.t (L.e e.2.1 x.2.1)))) λg=>SZ (g,x.d2,())
def yw:=KJ lf E6
def qc5(c0:(Int×Int×Sc×Si)->OZ lU)(b:He):OZ (He⊕((DN⊕lU))):=L.c (L.l b.d5 b.d4) (L.b (c0 (b.1,b.d5,b.d6,())) λd=>L.c d.1 (JS (JZ (true,d.2.1,()))) (IS ((b.s5 (L.a .i64 b.d5 1)).s6 d.2.1))) (JS (IZ (b.2.1,b.d2,L.a .i64 b.d3 1,b.d6,())))
def qc6(k0:(He)->OZ (He⊕((DN⊕lU))))(b:DN):OZ (DN⊕lU):=L.c (L.l b.d2 b.2.1) (L.b (L.g b.1.l b.d2) λd=>L.o k0 (b.d2,b.1,b.2.1,b.d2,L.n d.2.2.l,0,b.d3,())) (JS (false,b.d3,()))
def Rq(c0:(Int×Int×Sc×Si)->OZ lU)(x:Sc×Sc×Si):OZ lU:=L.o (qc6 L (qc5 L c0)) (x.1,L.n x.1.l,0,x.2.1,())
def Cf:=Rq lf yw
def KK(x:Y2×Y0×Si):OZ Y8:=L.b (L.y (L.h x.1.1 x.2.1.2.1) (SZ (L.e x.1.2.1 x.2.1.2.2.2))) λb=>SZ (b,())
def Cg:=KK lf
def q3o(c0:(Y2×Y0×Si)->OZ Y8)(b:(Sc×Y0×Int×Int×Si)):OZ ((Sc×Y0×Int×Int×Si)⊕Y9):=L.c (L.l b.d3 b.d2) (L.b (L.g b.1.l b.d3) λd=>L.b (c0 (d,b.2.1,())) λe=>L.c e.1 (JS (b.d3,())) (IS (b.s3 (L.a .i64 b.d3 1)))) (JS ((-1),()))
def Rr(c0:(Y2×Y0×Si)->OZ Y8)(x:Sc×Y0×Si):OZ Y9:=L.o (q3o L c0) (x.1,x.2.1,L.n x.1.l,0,())
def KL:=Rr lf Cg
def KM(c0:(Sc×Y0×Si)->OZ Y9)(x:Sc×Y0×Si):OZ Y8:=L.b (c0 (x.1,x.2.1,())) λb=>SZ (L.m 0 b.1,())
def Ch:=KM lf KL
def KN(c0:(Sc×Y0×Si)->OZ Y8)(c1:pH)(x:Y0×Sc×Si):OZ lU:=L.b (L.r (L.t (L.e x.1.1 32)) (L.b (c1 (x.1.2.1,())) λb=>SZ (L.t b.1))) λd=>L.c d (SZ (false,x.2.1,())) (L.b (c0 (x.2.1,(x.1.1,x.1.2.1,x.1.d2,x.1.2.2.2),())) λe=>SZ (L.t e.1,x.2.1,()))
def yx:=KN lf Ch sB
def q35(c0:(Y0×Sc×Si)->OZ lU)(b:(Sa×Int×Int×Sc×Si)):OZ ((Sa×Int×Int×Sc×Si)⊕ya):=L.c (L.l b.d2 b.2.1) (L.b (L.g b.1.l b.d2) λd=>L.b (c0 (d,b.d3,())) λe=>L.c e.1 (JS (b.d2,e.2.1,())) (IS (b.1,b.2.1,L.a .i64 b.d2 1,e.2.1,()))) (JS ((-1),b.d3,()))
def Rt(c0:(Y0×Sc×Si)->OZ lU)(x:Sa×Sc×Si):OZ ya:=L.o (q35 L c0) (x.1,L.n x.1.l,0,x.2.1,())
def KO:=Rt lf yx
def KP(c0:(Sa×Sc×Si)->OZ ya)(x:Sa×Sc×Si):OZ lU:=L.b (c0 (x.1,x.2.1,())) λb=>SZ (L.m 0 b.1,b.2.1,())
def E7:=KP lf KO
def KQ(c0:(Sa×Sc×Si)->OZ lU)(x:Sa×Sc×Si):OZ lU:=L.b (c0 (x.1,x.2.1,())) λb=>SZ (b.1,b.2.1,())
def yz:=KQ lf E7
def q36(c0:(Sa×Sc×Si)->OZ lU)(b:(fm×Int×Int×Sc×Si)):OZ ((fm×Int×Int×Sc×Si)⊕ya):=L.c (L.l b.d2 b.2.1) (L.b (L.g b.1.l b.d2) λd=>L.b (c0 (d,b.d3,())) λe=>L.c e.1 (JS (b.d2,e.2.1,())) (IS (b.1,b.2.1,L.a .i64 b.d2 1,e.2.1,()))) (JS ((-1),b.d3,()))
def Ru(c0:(Sa×Sc×Si)->OZ lU)(x:fm×Sc×Si):OZ ya:=L.o (q36 L c0) (x.1,L.n x.1.l,0,x.2.1,())
def KR:=Ru lf yz
def KS(c0:(fm×Sc×Si)->OZ ya)(x:fm×Sc×Si):OZ lU:=L.b (c0 (x.1,x.2.1,())) λb=>SZ (L.m 0 b.1,b.2.1,())
def E8:=KS lf KR
def KT(c0:(fm×Sc×Si)->OZ lU)(x:Int×Int×Sc×Si):OZ lU:=L.b (L.g x.d2.l x.1) λb=>L.b (L.g b.2.2.l x.2.1) λd=>L.b (c0 (d.2,x.d2,())) λe=>SZ (e.1,e.2.1,())
def yA:=KT lf E8
def q86(c0:(Int×Int×Sc×Si)->OZ lU)(b:He):OZ (He⊕((DN⊕lU))):=L.c (L.l b.d5 b.d4) (L.b (c0 (b.1,b.d5,b.d6,())) λd=>L.c d.1 (JS (JZ (true,d.2.1,()))) (IS ((b.s5 (L.a .i64 b.d5 1)).s6 d.2.1))) (JS (IZ (b.2.1,b.d2,L.a .i64 b.d3 1,b.d6,())))
def q87(k0:(He)->OZ (He⊕((DN⊕lU))))(b:DN):OZ (DN⊕lU):=L.c (L.l b.d2 b.2.1) (L.b (L.g b.1.l b.d2) λd=>L.o k0 (b.d2,b.1,b.2.1,b.d2,L.n d.2.2.l,0,b.d3,())) (JS (false,b.d3,()))
def Rv(c0:(Int×Int×Sc×Si)->OZ lU)(x:Sc×Sc×Si):OZ lU:=L.o (q87 L (q86 L c0)) (x.1,L.n x.1.l,0,x.2.1,())
def Ci:=Rv lf yA
def qal(c1:(Sc×Y2×Si)->OZ Y9)(c2:(Sc×Sc×Si)->OZ lU)(c3:(Sc×Sc×Si)->OZ lU)(b:DN):OZ (DN⊕Y9):=L.c (L.l b.d2 b.2.1) (L.b (L.g b.1.l b.d2) λd=>L.b (c1 (b.d3,(d.1,d.2.1,d.2.2),())) λe=>L.c (L.l e.1 b.d2) (JS (101,())) (IS (b.s2 (L.a .i64 b.d2 1)))) (L.b (c2 (b.d3,b.d3,())) λg=>L.c g.1 (JS (101,())) (L.b (c3 (g.2.1,g.2.1,())) λh=>L.c h.1 (JS (102,())) (JS (0,()))))
def Rw(c0:BJ->OZ Y8)(c1:(Sc×Y2×Si)->OZ Y9)(c2:(Sc×Sc×Si)->OZ lU)(c3:(Sc×Sc×Si)->OZ lU)(x:BJ):OZ Y9:=L.b (L.r (L.l 60 (L.n x.1.l)) (L.b (c0 (x.1,())) λb=>SZ b.1)) λd=>L.c d (SZ (100,())) (L.o (qal L c1 c2 c3) (x.1,L.n x.1.l,0,x.1,()))
def qy:=Rw lf yv Cd Cf Ci
def q88(c0:yf)(b:(Se×Se×Int×Int×Si)):OZ ((Se×Se×Int×Int×Si)⊕Y8):=L.c (L.l b.d3 b.d2) (L.b (L.g b.2.1.l b.d3) λd=>L.b (L.bS b.1.l 0 b.d3) λe=>L.b (c0 (⟨b.1.nil,e⟩,d,())) λg=>L.c g.1 (JS (true,())) (IS (b.s3 (L.a .i64 b.d3 1)))) (JS (false,()))
def Rx(c0:yf)(x:iL):OZ Y8:=L.o (q88 L c0) (x.1,x.1,L.n x.1.l,0,())
def vA:=Rx lf nk
def q89(c5:iL->OZ Y8)(b:(Sg×Int×Int×Y1×Se×Y3×Sc×Sg×Se×Si)):OZ ((Sg×Int×Int×Y1×Se×Y3×Sc×Sg×Se×Si)⊕Y9):=L.c (L.l b.d2 b.2.1) (L.b (L.g b.1.l b.d2) λd=>L.z b.d8 [d.1] λzz=>IS ((b.s2 (L.a .i64 b.d2 1)).s8 zz)) (L.w ([b.d3]:List Y1) b.d4.l (L.b (c5 (⟨L.d false (L.i b.d4.l),L.app ([b.d3]:List Y1) b.d4.l⟩,())) λe=>L.b (L.r e.1 (L.b (c5 (b.d8,())) λg=>SZ g.1)) λh=>L.c h (JS (241,())) (JS (0,()))))
def Ry(c0:ES)(c1:pH)(c2:iL->OZ Y8)(c3:(Sg×Si)->OZ Y8)(c4:I6)(c5:iL->OZ Y8)(x:wL×Si):OZ Y9:=L.b (c1 (x.1.1,())) λb=>L.b (L.r (L.t b.1) (SZ (L.l 60 (L.n x.1.2.1.l)))) λd=>L.b (L.r d (SZ (L.l 200 (L.n x.1.2.2.2.2.l)))) λe=>L.b (L.r e (L.b (c2 (x.1.2.1,())) λg=>SZ g.1)) λh=>L.b (L.r h (L.b (c3 (x.1.2.2.2.2,())) λi=>SZ i.1)) λj=>L.c j (SZ (240,())) (L.b (c4 (x.1.d3,())) λk=>L.b (L.y (L.t (L.e k.1 0)) (SZ (L.t (L.e k.1 102)))) λm=>L.b (L.r m (L.b (c0 (x.1.d2,())) λn=>SZ (L.t (L.e n.1 0)))) λo=>L.c o (SZ (240,())) (L.o (q89 L c5) (x.1.2.2.2.2,L.n x.1.2.2.2.2.l,0,x.1.1,x.1.2.1,x.1.d2,x.1.d3,x.1.2.2.2.2,⟨true,([]:List Y1)⟩,())))
def o9:=Ry lf iC qw vu vw qy vA
def sC(x:qj):OZ qj:=SZ (true,x.2.1,())
def KU(c0:qj->OZ qj)(x:Y1×Bool×Sd×Si):OZ wM:=L.b (c0 (x.2.1,x.d2,())) λb=>L.w b.2.1.l x.1 (SZ (L.n x.1,b.1,⟨L.d b.2.1.nil (L.i x.1),L.app b.2.1.l x.1⟩,()))
def kJ:=KU lf sC
def KV(x:sj):OZ sj:=L.c x.1.nil (SZ (⟨true,([]:List Y6)⟩,())) (L.w ([]:List Y6) x.1.l (SZ (⟨L.d false (L.i x.1.l),L.app ([]:List Y6) x.1.l⟩,())))
def pe:=KV lf
def KW(x:Y6×Y6×Si):OZ Y8:=SZ (L.h x.1.1 x.2.1.1,())
def qz:=KW lf
def q3p(c0:(Y6×Y6×Si)->OZ Y8)(b:(Y3×Y6×Int×Int×Si)):OZ ((Y3×Y6×Int×Int×Si)⊕Y9):=L.c (L.l b.d3 b.d2) (L.b (L.g b.1.l b.d3) λd=>L.b (c0 (d,b.2.1,())) λe=>L.c e.1 (JS (b.d3,())) (IS (b.s3 (L.a .i64 b.d3 1)))) (JS ((-1),()))
def Rz(c0:(Y6×Y6×Si)->OZ Y8)(x:Y3×Y6×Si):OZ Y9:=L.o (q3p L c0) (x.1,x.2.1,L.n x.1.l,0,())
def Cj:=Rz lf qz
def q4j(c0:(Y6×Y6×Si)->OZ Y8)(b:(Y6×Int×Int×Y3×Si)):OZ ((Y6×Int×Int×Y3×Si)⊕sj):=L.c (L.l b.d2 (L.n b.d3.l)) (L.b (L.cj b.d3.l b.d2) λd=>L.b (L.nth b.d3.l d) λe=>L.b (c0 ((e.1,e.2.1,e.2.2),b.1,())) λg=>L.b (L.c (L.t g.1) (L.b (L.cj b.d3.l b.2.1) λh=>L.b (L.b (L.nth b.d3.l h) λ_=>SZ (e.1,e.2.1,e.2.2)) λi=>SZ (b.1,L.a .i64 b.2.1 1,b.d2,⟨b.d3.nil,L.kF b.d3.l h i⟩,())) (SZ b)) λj=>IS (j.s2 (L.a .i64 j.d2 1))) (L.b (L.dY (L.n b.d3.l) b.2.1) λ_=>L.b (L.dY (L.n (L.gb b.d3.l b.2.1 (([]:Y1),0,0))) b.2.1) λk=>JS (⟨b.d3.nil,L.aP (L.gb b.d3.l b.2.1 (([]:Y1),0,0)) k⟩,()))
def RA(c0:(Y6×Y6×Si)->OZ Y8)(c1:(Y3×Y6×Si)->OZ Y9)(x:Y6×Y3×Si):OZ sj:=L.b (c1 (x.2.1,x.1,())) λb=>L.c (L.e b.1 (-1)) (SZ (x.2.1,())) (L.o (q4j L c0) (x.1,b.1,L.a .i64 b.1 1,x.2.1,()))
def Ck:=RA lf qz Cj
def E9(x:sj):OZ sj:=bif x.1.l.all DJ&&QH x.1.l&&decide (x.1.l.length<4611686018427387904) then SZ ((⟨x.1.nil,x.1.l.mergeSort fun a b=>!DL b a⟩:Sl af),()) else none
def KX(c0:ES)(c1:yc)(c2:(Y6×Si)->OZ Y8)(c3:(Y6×Y3×Si)->OZ sj)(c4:yc)(x:Y3×Y6×Si):OZ OD:=L.b (c0 (x.1,())) λb=>L.c (L.t (L.e b.1 0)) (SZ (⟨true,([]:List Y6)⟩,b.1,())) (L.b (c1 (x.1,())) λd=>L.b (c3 ((x.2.1.1,x.2.1.2.1,x.2.1.2.2),d.1,())) λe=>L.b (c2 ((x.2.1.1,x.2.1.2.1,x.2.1.2.2),())) λg=>L.b (L.r (L.t g.1) (SZ (L.e (L.n e.1.l) 400))) λh=>L.c h (SZ (⟨true,([]:List Y6)⟩,40,())) (L.z e.1 [(x.2.1.1,x.2.1.2.1,x.2.1.2.2)] λzz=>L.b (c4 (zz,())) λi=>SZ (i.1,0,())))
def pf:=KX lf iC pe vt Ck E9
def qc7(c0:wO)(b:WC):OZ (WC⊕uF):=L.c (L.l (L.n b.d3.l) b.d2) (L.z b.d3 [b.2.1] λzz=>L.b (c0 (b.1,b.2.1,())) λd=>IS (b.1,d.1,b.d2,zz,())) (JS (b.d3,()))
def RC(c0:wO)(x:xY):OZ uF:=L.b (c0 (x.1,x.2.1,())) λb=>L.c (L.l b.1 0) (SZ (⟨true,([]:Y1)⟩,())) (L.b (L.g x.1.l x.2.1) λd=>L.o (qc7 L c0) (x.1,L.a .i64 x.2.1 1,d.2.2.2,⟨true,([]:Y1)⟩,()))
def lE:=RC lf n5
def WH(c0:qn)(b:(Sa×Bool×Sd×Y1×Sd×Int×Int×Si)):OZ ((Sa×Bool×Sd×Y1×Sd×Int×Int×Si)⊕dH):=L.c (L.l b.d6 b.d5) (L.b (L.g b.d4.l b.d6) λd=>L.b (c0 (b.1,d,true,false,())) λe=>L.w ([32]:Y1) e.1 (L.w b.d3 (L.q ([32]:Y1) e.1) (IS ((b.s3 (L.q b.d3 (L.q ([32]:Y1) e.1))).s6 (L.a .i64 b.d6 1))))) (L.b (L.y b.2.1 (SZ (L.l 0 (L.n b.d2.l)))) λg=>L.c g (L.w ([40]:Y1) b.d3 (L.w (L.q ([40]:Y1) b.d3) ([41]:Y1) (JS (L.q (L.q ([40]:Y1) b.d3) ([41]:Y1),())))) (JS (b.d3,())))
def KY(c0:qn)(c1:I5)(x:Y79):OZ dH:=L.b (L.g x.1.l x.2.1) λb=>L.c (L.e b.1 31) (SZ (([L.fR .u8 (L.a .i64 97 b.d2)]:Y1),())) (L.b (c1 (x.1,x.2.1,())) λd=>L.c (L.h b.2.1 ([45,62]:Y1)) (L.b (L.g d.1.l 0) λe=>L.b (c0 (x.1,e,false,true,())) λg=>L.w g.1 ([32,45,62,32]:Y1) (L.b (L.g d.1.l 1) λh=>L.b (c0 (x.1,h,false,false,())) λi=>L.w (L.q g.1 ([32,45,62,32]:Y1)) i.1 (L.b (L.r x.d2 (SZ x.d3)) λj=>L.c j (L.w ([40]:Y1) (L.q (L.q g.1 ([32,45,62,32]:Y1)) i.1) (L.w (L.q ([40]:Y1) (L.q (L.q g.1 ([32,45,62,32]:Y1)) i.1)) ([41]:Y1) (SZ (L.q (L.q ([40]:Y1) (L.q (L.q g.1 ([32,45,62,32]:Y1)) i.1)) ([41]:Y1),())))) (SZ (L.q (L.q g.1 ([32,45,62,32]:Y1)) i.1,()))))) (L.o (WH L c0) (x.1,x.d2,d.1,b.2.1,d.1,L.n d.1.l,0,())))
def vB(self:qn)(x:Y79):OZ dH:=KY lf self lE x
def Cl:=iA vB
def q5j(c0:qn)(b:(Y1×iB×Int×Int×fm×Int×Int×Si)):OZ ((Y1×iB×Int×Int×fm×Int×Int×Si)⊕(((Y1×iB×Int×Int×Si)⊕(OE⊕dH)))):=L.c (L.l b.d6 b.d5) (L.b (L.g b.d4.l b.d6) λd=>L.b (c0 (d,0,true,false,())) λe=>L.w ([32]:Y1) e.1 (L.w b.1 (L.q ([32]:Y1) e.1) (IS (L.q b.1 (L.q ([32]:Y1) e.1),b.2.1,b.d2,b.d3,b.d4,b.d5,L.a .i64 b.d6 1,())))) (JS (IZ (b.1,b.2.1,b.d2,L.a .i64 b.d3 1,())))
def q5k(k0:((Y1×iB×Int×Int×fm×Int×Int×Si))->OZ ((Y1×iB×Int×Int×fm×Int×Int×Si)⊕(((Y1×iB×Int×Int×Si)⊕(OE⊕dH)))))(b:(Y1×iB×Int×Int×Si)):OZ ((Y1×iB×Int×Int×Si)⊕((OE⊕dH))):=L.c (L.l b.d3 b.d2) (L.b (L.g b.2.1.l b.d3) λd=>L.b (L.c (L.e b.d3 0) (L.w ([32,61,32]:Y1) d.1 (L.w b.1 (L.q ([32,61,32]:Y1) d.1) (SZ (L.q b.1 (L.q ([32,61,32]:Y1) d.1),b.2.1,b.d2,b.d3,d.1,d.2,())))) (L.w ([32,124,32]:Y1) d.1 (L.w b.1 (L.q ([32,124,32]:Y1) d.1) (SZ (L.q b.1 (L.q ([32,124,32]:Y1) d.1),b.2.1,b.d2,b.d3,d.1,d.2,()))))) λe=>L.b (L.c (L.l 0 (L.n e.d5.l)) (L.w e.1 ([32,111,102]:Y1) (SZ (e.s0 (L.q e.1 ([32,111,102]:Y1))))) (SZ e)) λg=>L.o k0 (g.1,g.2.1,g.d2,g.d3,g.d5,L.n g.d5.l,0,())) (JS (JZ (b.1,())))
def q5l(k0:((Y1×iB×Int×Int×Si))->OZ ((Y1×iB×Int×Int×Si)⊕((OE⊕dH))))(b:OE):OZ (OE⊕dH):=L.c (L.l b.d2 b.2.1) (L.w ([32]:Y1) ([L.fR .u8 (L.a .i64 97 b.d2)]:Y1) (L.w b.1 (L.q ([32]:Y1) ([L.fR .u8 (L.a .i64 97 b.d2)]:Y1)) (IS ((b.s0 (L.q b.1 (L.q ([32]:Y1) ([L.fR .u8 (L.a .i64 97 b.d2)]:Y1)))).s2 (L.a .i64 b.d2 1))))) (L.o k0 (b.1,b.d5,L.n b.d5.l,0,()))
def RE(c0:qn)(x:Y2×Si):OZ dH:=L.w ([116,121,112,101,32]:Y1) x.1.1 (L.o (q5l L (q5k L (q5j L c0))) (L.q ([116,121,112,101,32]:Y1) x.1.1,x.1.2.1,0,x.1.1,x.1.2.1,x.1.2.2,()))
def yB:=RE lf Cl
def WI(c0:I5)(c1:lV)(x:Int×Int×Sa×Y3×Si):OZ (Sa×Int×Sa×Y3×Si):=L.b (c0 (x.d2,x.2.1,())) λb=>L.b (L.g b.1.l x.1) λd=>L.b (c1 (d,x.d2,x.d3,())) λe=>SZ (e.1,x.2.1,e.2.1,e.d2,())
def Hk(self:lV)(x:Int×Int×Sa×Y3×Si):OZ (Sa×Int×Sa×Y3×Si):=WI lf lE self x
def qc8(b:(fm×Int×Int×Sa×Si)):OZ ((fm×Int×Int×Sa×Si)⊕gr):=L.c (L.l b.d2 b.2.1) (L.b (L.g b.1.l b.d2) λd=>L.w b.d3.l d.l (IS (b.1,b.2.1,L.a .i64 b.d2 1,⟨L.d b.d3.nil (L.i d.l),L.app b.d3.l d.l⟩,()))) (JS (b.d3,()))
def RG(x:Y67):OZ gr:=L.o (qc8 L) (x.2.1,L.n x.2.1.l,0,⟨false,([(x.1.1,x.1.2.1,x.1.d2,L.n x.2.1.l)]:List Y0)⟩,())
def kt:=RG lf
def KZ(c0:ET)(x:dH):OZ gr:=L.b (c0 ((41,x.1,0,0),⟨true,([]:List Sa)⟩,())) λb=>SZ (b.1,())
def Fa:=KZ lf kt
def K0(c0:yd)(x:dH):OZ gr:=L.b (c0 (x.1,())) λb=>SZ (b.1,())
def nq:=K0 lf Fa
def Fb(x:Y1×Y1×Y1×Int×Si):OZ dH:=bif (x.2.1==[45])&&((x.2.2.1==[126])&&(decide (x.2.2.2.1=1)&&decide (x.1.length<=1000))) then SZ (kr x.1,()) else none
def Fc(x:AM):OZ dH:=bif decide (x.2.1=10)&&(decide (-9223372036854775808<=x.1)&&decide (x.1<=9223372036854775807)) then SZ (o4 x.1,()) else none
def K1(c0:EU)(c1:(Y1×Y1×Y1×Int×Si)->OZ dH)(c2:AM->OZ dH)(x:Y9):OZ dH:=L.b (c0 (x.1,())) λb=>L.b (c2 (b.1,10,())) λd=>L.b (c1 (d.1,([45]:Y1),([126]:Y1),1,())) λe=>SZ (e.1,())
def mr:=K1 lf qv Fb Fc
def yC(x:qj):OZ dH:=SZ (x.2.1.l,())
def K3(c0:qj->OZ qj)(x:wM):OZ qj:=L.b (c0 (x.2.1,x.d2,())) λb=>L.z b.2.1 [x.1] λzz=>SZ (b.1,zz,())
def yD:=K3 lf sC
def qc9(c0:(Y1×Bool×Sd×Si)->OZ wM)(c1:qj->OZ dH)(c2:wM->OZ qj)(b:(Y1×Int×Int×Bool×Sd×Si)):OZ ((Y1×Int×Int×Bool×Sd×Si)⊕dH):=L.c (L.l b.d2 b.2.1) (L.b (L.g b.1 b.d2) λd=>L.b (L.c (L.e d 34) (SZ (b.1,b.d2,d,b.2.1,b.d2,L.e d 34,b.d3,b.d4,())) (SZ (b.1,b.d2,d,b.2.1,b.d2,L.e d 92,b.d3,b.d4,()))) λe=>L.b (L.c e.d5 (L.b (L.bS e.1 e.2.1 (L.a .i64 e.2.1 1)) λg=>L.w ([92]:Y1) g (L.b (c0 (L.q ([92]:Y1) g,e.d6,e.d7,())) λh=>SZ (e.1,e.d3,e.d4,h.2.1,h.d2,()))) (L.b (L.c (L.e e.d2 10) (L.b (c0 (([92,110]:Y1),e.d6,e.d7,())) λi=>SZ (e.1,e.d3,e.d4,i.2.1,i.d2,())) (L.b (L.r (L.l e.d2 32) (SZ (L.l 126 e.d2))) λj=>L.b (L.c j (L.b (L.lu .u8 e.d2 4) λk=>L.b (L.lu .u8 e.d2 4) λm=>L.b (L.bS ([48,49,50,51,52,53,54,55,56,57,97,98,99,100,101,102]:Y1) k (L.a .u8 m 1)) λn=>L.w ([92,120]:Y1) n (L.b (L.bS ([48,49,50,51,52,53,54,55,56,57,97,98,99,100,101,102]:Y1) (L.mV .u8 e.d2 15) (L.a .u8 (L.mV .u8 e.d2 15) 1)) λo=>L.w (L.q ([92,120]:Y1) n) o (L.b (c0 (L.q (L.q ([92,120]:Y1) n) o,e.d6,e.d7,())) λp=>SZ (e.1,e.d3,e.d4,p.2.1,p.d2,())))) (L.b (c2 (e.d2,e.d6,e.d7,())) λq=>SZ (e.1,e.d3,e.d4,q.1,q.2.1,()))) λr=>SZ r)) λs=>SZ s)) λt=>IS (t.s2 (L.a .i64 t.d2 1))) (L.b (c2 (34,b.d3,b.d4,())) λu=>L.b (c1 (u.1,u.2.1,())) λv=>JS (v.1,()))
def RH(c0:(Y1×Bool×Sd×Si)->OZ wM)(c1:qj->OZ dH)(c2:wM->OZ qj)(x:dH):OZ dH:=L.b (c2 (34,false,⟨true,([]:Y1)⟩,())) λb=>L.o (qc9 L c0 c1 c2) (x.1,L.n x.1,0,b.1,b.2.1,())
def Fe:=RH lf kJ yC yD
def K4(c0:wN)(x:dH):OZ dH:=L.b (c0 ((5,x.1,0,0),())) λb=>L.c b.1 (L.w ([40]:Y1) x.1 (L.w (L.q ([40]:Y1) x.1) ([41]:Y1) (SZ (L.q (L.q ([40]:Y1) x.1) ([41]:Y1),())))) (SZ (x.1,()))
def sD:=K4 lf mq
def K5(c0:ET)(x:gr):OZ gr:=L.b (c0 ((44,([]:Y1),0,0),⟨false,([x.1]:List Sa)⟩,())) λb=>SZ (b.1,())
def Ff:=K5 lf kt
def K6(c0:ET)(x:QN):OZ gr:=L.b (c0 ((45,([]:Y1),0,0),x.1,())) λb=>SZ (b.1,())
def yE:=K6 lf kt
def K7(c0:uG)(x:QN):OZ gr:=L.c (L.e (L.n x.1.l) 1) (L.b (L.g x.1.l 0) λb=>SZ (b,())) (L.b (c0 (x.1,())) λd=>SZ (d.1,()))
def yF:=K7 lf yE
def K8(c0:EW)(c1:uG)(x:QN):OZ gr:=L.b (c1 (x.1,())) λb=>L.b (c0 (b.1,())) λd=>SZ (d.1,())
def ph:=K8 lf Ff yF
def K9(c0:ET)(_x:Si):OZ gr:=L.b (c0 ((42,([]:Y1),0,0),⟨true,([]:List Sa)⟩,())) λb=>SZ (b.1,())
def nu:=K9 lf kt
def La(c0:ET)(x:Int×Sa×Si):OZ gr:=L.b (c0 ((43,([]:Y1),x.1,0),⟨false,([x.2.1]:List Sa)⟩,())) λb=>SZ (b.1,())
def Fg:=La lf kt
def Lb(c0:uG)(c1:(Int×Sa×Si)->OZ gr)(x:QN):OZ gr:=L.b (c0 (x.1,())) λb=>L.b (c1 (2,b.1,())) λd=>SZ (d.1,())
def pj:=Lb lf yF Fg
def Lc(c0:vk)(c1:uG)(x:gr):OZ gr:=L.b (c0 ()) λb=>L.b (c1 (⟨false,([b.1,x.1]:List Sa)⟩,())) λd=>SZ (d.1,())
def sE:=Lc lf nu pj
def WJ(c3:qq)(b:(Sa×Bool×Y1×Sd×Int×Int×Int×Y1×Int×Int×Si)):OZ ((Sa×Bool×Y1×Sd×Int×Int×Int×Y1×Int×Int×Si)⊕dH):=L.c (L.l b.d5 b.d4) (L.b (L.g b.d3.l b.d5) λd=>L.b (c3 (b.1,d,true,())) λe=>L.w ([32]:Y1) e.1 (L.w b.d2 (L.q ([32]:Y1) e.1) (IS ((b.s2 (L.q b.d2 (L.q ([32]:Y1) e.1))).s5 (L.a .i64 b.d5 1))))) (L.b (L.y b.2.1 (SZ (L.l 0 b.d9))) λg=>L.c g (L.w ([40]:Y1) b.d2 (L.w (L.q ([40]:Y1) b.d2) ([41]:Y1) (JS (L.q (L.q ([40]:Y1) b.d2) ([41]:Y1),())))) (JS (b.d2,())))
def Ld(c0:I5)(c1:EV)(c2:BM)(c3:qq)(x:QL):OZ dH:=L.b (L.g x.1.l x.2.1) λb=>L.c (L.e b.1 21) (SZ (([95]:Y1),())) (L.c (L.e b.1 22) (L.b (c2 (b.2.1,())) λd=>SZ (d.1,())) (L.c (L.e b.1 23) (L.b (c1 (b.d2,())) λe=>SZ (e.1,())) (L.b (c0 (x.1,x.2.1,())) λg=>L.o (WJ L c3) (x.1,x.d2,b.2.1,g.1,L.n g.1.l,0,b.1,b.2.1,b.d2,b.2.2.2,()))))
def vC(self:qq)(x:QL):OZ dH:=Ld lf lE mr sD self x
def Fh:=iA vC
def WK(c1:lV)(c2:yd)(c3:uG)(c4:EW)(c5:vk)(c6:uG)(c7:qq)(b:(Sd×Int×Sa×Y3×fm×Si)):OZ ((Sd×Int×Sa×Y3×fm×Si)⊕o5):=L.c (L.l b.2.1 (L.n b.1.l)) (L.b (L.g b.1.l b.2.1) λd=>L.b (c7 (b.d2,d,false,())) λe=>L.w e.1 ([32,45,62]:Y1) (L.b (L.g b.1.l (L.a .i64 b.2.1 1)) λg=>L.b (c1 (g,b.d2,b.d3,())) λh=>L.b (c4 (h.1,())) λi=>L.b (L.c (L.e b.2.1 1) (L.b (c5 ()) λj=>L.b (c2 (L.q e.1 ([32,45,62]:Y1),())) λk=>L.b (c6 (⟨false,([j.1,k.1,i.1]:List Sa)⟩,())) λm=>L.z b.d4 [m.1] λzz=>SZ (b.1,b.2.1,h.2.1,h.d2,zz,())) (L.b (c5 ()) λn=>L.w ([124,32]:Y1) (L.q e.1 ([32,45,62]:Y1)) (L.b (c2 (L.q ([124,32]:Y1) (L.q e.1 ([32,45,62]:Y1)),())) λo=>L.z b.d4 [n.1,o.1,i.1] λzy=>SZ (b.1,b.2.1,h.2.1,h.d2,zy,())))) λp=>IS (p.s1 (L.a .i64 p.2.1 2)))) (L.b (c5 ()) λq=>L.b (c2 (([101,110,100]:Y1),())) λr=>L.z b.d4 [q.1,r.1] λzx=>L.b (c3 (zx,())) λs=>JS (s.1,b.d2,b.d3,()))
def q64(c0:I5)(c1:lV)(c2:yd)(c3:uG)(c4:EW)(c5:vk)(c6:uG)(c7:qq)(x:EN):OZ o5:=L.b (c0 (x.2.1,x.1,())) λb=>L.b (c2 (([109,97,116,99,104]:Y1),())) λd=>L.b (L.g b.1.l 0) λe=>L.b (c1 (e,x.2.1,x.d2,())) λg=>L.b (c4 (g.1,())) λh=>L.b (c5 ()) λi=>L.b (c2 (([119,105,116,104]:Y1),())) λj=>L.o (WK L c1 c2 c3 c4 c5 c6 c7) (b.1,1,g.2.1,g.d2,⟨false,([d.1,h.1,i.1,j.1]:List Sa)⟩,())
def Le(self:lV)(x:EN):OZ o5:=q64 lf lE self nq ph sE nu pj Fh x
def Lg(c0:(Y3×Y1×Si)->OZ BI)(x:DO):OZ BI:=L.b (L.g x.1.1.l x.2.1) λb=>L.b (L.r (L.t (L.e b.1 6)) (L.b (L.g x.1.1.l (L.a .i64 x.2.1 1)) λd=>SZ (L.t (L.e d.1 6)))) λe=>L.b (L.r e (L.b (L.g x.1.1.l (L.a .i64 x.2.1 2)) λg=>SZ (L.t (L.e g.1 3)))) λh=>L.c h (SZ ((([]:Y1),0,0),false,())) (L.b (L.g x.1.1.l (L.a .i64 x.2.1 2)) λi=>L.b (c0 (x.1.2,i.2.1,())) λj=>SZ ((j.1.1,j.1.2.1,j.1.2.2),j.2.1,()))
def vD:=Lg lf o8
def Lh(c0:DO->OZ BI)(x:DO):OZ Y9:=L.b (L.g x.1.1.l x.2.1) λb=>L.c (L.e b.1 6) (L.b (c0 (x.1,x.2.1,())) λd=>L.c d.2.1 (SZ (2,())) (SZ (1,()))) (L.b (L.c (L.e b.1 5) (SZ (L.e b.1 5,())) (L.b (L.c (L.e b.1 7) (SZ (L.e b.1 7,())) (L.b (L.c (L.e b.1 8) (SZ (L.e b.1 8,())) (L.b (L.c (L.e b.1 9) (SZ (L.e b.1 9,())) (L.b (L.c (L.e b.1 11) (SZ (L.e b.1 11,())) (SZ (L.e b.1 12,()))) λe=>SZ (e.1,()))) λg=>SZ (g.1,()))) λh=>SZ (h.1,()))) λi=>SZ (i.1,()))) λj=>L.c j.1 (SZ (3,())) (SZ (0,())))
def qA:=Lh lf vD
def WL(c0:lV)(c1:yd)(c2:uG)(x:Int×Bool×Sa×Y3×Si):OZ o5:=L.b (c0 (x.1,x.d2,x.d3,())) λb=>L.c x.2.1 (L.b (c1 (([40]:Y1),())) λd=>L.b (c1 (([41]:Y1),())) λe=>L.b (c2 (⟨false,([d.1,b.1,e.1]:List Sa)⟩,())) λg=>SZ (b.s0 g.1)) (SZ b)
def Cm(self:lV)(x:Int×Bool×Sa×Y3×Si):OZ o5:=WL lf self nq yE x
def Li(c0:DO->OZ BI)(x:(Sa×Sl Y6)×Int×Y6×Int×Si):OZ Y8:=L.b (c0 (x.1,x.2.1,())) λb=>L.b (L.y b.2.1 (L.r (L.l b.1.2.1 x.d2.2.1) (L.y (L.e b.1.2.1 x.d2.2.1) (L.r (L.t (L.e b.1.2.2 x.d3)) (SZ (L.t (L.e x.d2.2.2 x.d3))))))) λd=>SZ (d,())
def Fi:=Li lf vD
def WM(c0:DO->OZ Y9)(c1:(Int×Bool×Sa×Y3×Si)->OZ o5)(c2:((Sa×Sl Y6)×Int×Y6×Int×Si)->OZ Y8)(x:Int×Y6×Int×Sa×Y3×Si):OZ o5:=L.b (c0 ((x.d3,x.d4),x.1,())) λb=>L.c (L.e b.1 3) (L.b (c1 (x.1,true,x.d3,x.d4,())) λd=>SZ d) (L.b (c2 ((x.d3,x.d4),x.1,(x.2.1.1,x.2.1.2.1,x.2.1.2.2),x.d2,())) λe=>L.b (c1 (x.1,e.1,x.d3,x.d4,())) λg=>SZ g)
def Hl(self:lV)(x:Int×Y6×Int×Sa×Y3×Si):OZ o5:=WM lf qA (Cm self) Fi x
def WN(c0:I5)(c1:yd)(c2:uG)(c3:vk)(c4:uG)(c5:DO->OZ BI)(c6:(Int×Y6×Int×Sa×Y3×Si)->OZ o5)(x:EN):OZ o5:=L.b (c5 ((x.2.1,x.d2),x.1,())) λb=>L.b (c0 (x.2.1,x.1,())) λd=>L.b (L.g d.1.l 0) λe=>L.b (c0 (x.2.1,e,())) λg=>L.b (L.g g.1.l 1) λh=>L.b (c6 (h,(b.1.1,b.1.2.1,b.1.2.2),(-1),x.2.1,x.d2,())) λi=>L.b (c3 ()) λj=>L.w b.1.1 ([32]:Y1) (L.b (c1 (L.q b.1.1 ([32]:Y1),())) λk=>L.b (L.g d.1.l 1) λm=>L.b (c6 (m,(b.1.1,b.1.2.1,b.1.2.2),1,i.2.1,i.d2,())) λn=>L.b (c4 (⟨false,([j.1,k.1,n.1]:List Sa)⟩,())) λo=>L.b (c2 (⟨false,([i.1,o.1]:List Sa)⟩,())) λp=>SZ (n.s0 p.1))
def Hm(self:lV)(x:EN):OZ o5:=WN lf lE nq ph nu pj vD (Hl self) x
def WO(c1:uG)(c2:vk)(c3:DO->OZ Y9)(c4:uG)(c5:(Int×Bool×Sa×Y3×Si)->OZ o5)(b:(Int×Int×Int×Sa×Y3×Sd×fm×Si)):OZ ((Int×Int×Int×Sa×Y3×Sd×fm×Si)⊕(((Int×Sa×Y3×Sd×Si)⊕o5))):=L.c (L.m 0 b.d2) (L.b (c2 ()) λd=>L.b (L.cj b.d5.l b.d2) λe=>L.b (L.nth b.d5.l e) λg=>L.b (L.cj b.d5.l b.d2) λh=>L.b (L.nth b.d5.l h) λi=>L.b (c3 ((b.d3,b.d4),i,())) λj=>L.b (c5 (g,L.t (L.e j.1 0),b.d3,b.d4,())) λk=>L.z b.d6 [d.1,k.1] λzz=>IS (b.1,b.2.1,L.u .i64 b.d2 1,k.2.1,k.d2,b.d5,zz,())) (L.b (L.r (L.e b.2.1 2) (SZ (L.e b.2.1 3))) λm=>L.b (c5 (b.1,m,b.d3,b.d4,())) λn=>L.b (c4 (b.d6,())) λo=>L.b (c1 (⟨false,([n.1,o.1]:List Sa)⟩,())) λp=>JS (JZ (n.s0 p.1)))
def WQ(c0:I5)(c3:DO->OZ Y9)(k0:((Int×Int×Int×Sa×Y3×Sd×fm×Si))->OZ ((Int×Int×Int×Sa×Y3×Sd×fm×Si)⊕(((Int×Sa×Y3×Sd×Si)⊕o5))))(b:(Int×Sa×Y3×Sd×Si)):OZ ((Int×Sa×Y3×Sd×Si)⊕o5):=L.b (c3 ((b.2.1,b.d2),b.1,())) λd=>L.c (L.e d.1 1) (L.b (c0 (b.2.1,b.1,())) λe=>L.b (L.g e.1.l 1) λg=>L.z b.d3 [g] λzz=>L.b (L.g e.1.l 0) λh=>IS (h,b.2.1,b.d2,zz,())) (L.b (c3 ((b.2.1,b.d2),b.1,())) λi=>L.o k0 (b.1,i.1,L.u .i64 (L.n b.d3.l) 1,b.2.1,b.d2,b.d3,⟨true,([]:List Sa)⟩,()))
def q7a(c0:I5)(c1:uG)(c2:vk)(c3:DO->OZ Y9)(c4:uG)(c5:(Int×Bool×Sa×Y3×Si)->OZ o5)(x:EN):OZ o5:=L.o (WQ L c0 c3 (WO L c1 c2 c3 c4 c5)) (x.1,x.2.1,x.d2,⟨true,([]:Y1)⟩,())
def Lj(self:lV)(x:EN):OZ o5:=q7a lf lE ph nu qA pj (Cm self) x
def Fj(c0:(Int×Int×Sa×Y3×Si)->OZ (Sa×Int×Sa×Y3×Si))(c1:yd)(c2:EV)(c3:BM)(c4:BM)(c5:uG)(c6:EW)(c7:vk)(c8:lV)(c9:DO->OZ Y9)(sF:lV)(Lk:lV)(x:EN):OZ o5:=L.b (L.g x.2.1.l x.1) λb=>L.c (L.e b.1 1) (L.b (c2 (b.d2,())) λd=>L.b (c1 (d.1,())) λe=>SZ (e.1,x.2.1,x.d2,())) (L.c (L.e b.1 2) (L.b (c3 (b.2.1,())) λg=>L.b (c1 (g.1,())) λh=>SZ (h.1,x.2.1,x.d2,())) (L.c (L.e b.1 3) (L.b (c4 (b.2.1,())) λi=>L.b (c1 (i.1,())) λj=>SZ (j.1,x.2.1,x.d2,())) (L.c (L.e b.1 5) (L.b (c4 (b.2.1,())) λk=>L.w ([102,117,110,32]:Y1) k.1 (L.w (L.q ([102,117,110,32]:Y1) k.1) ([32,45,62]:Y1) (L.b (c1 (L.q (L.q ([102,117,110,32]:Y1) k.1) ([32,45,62]:Y1),())) λm=>L.b (c0 (0,x.1,x.2.1,x.d2,())) λn=>L.b (c6 (n.1,())) λo=>L.b (c5 (⟨false,([m.1,o.1]:List Sa)⟩,())) λp=>SZ (p.1,n.d2,n.d3,())))) (L.c (L.e b.1 7) (L.b (c4 (b.2.1,())) λq=>L.w ([108,101,116,32]:Y1) q.1 (L.w (L.q ([108,101,116,32]:Y1) q.1) ([32,61]:Y1) (L.b (c1 (L.q (L.q ([108,101,116,32]:Y1) q.1) ([32,61]:Y1),())) λr=>L.b (c0 (0,x.1,x.2.1,x.d2,())) λs=>L.b (c6 (s.1,())) λt=>L.b (c7 ()) λu=>L.b (c1 (([105,110]:Y1),())) λv=>L.b (c7 ()) λw=>L.b (c0 (1,s.2.1,s.d2,s.d3,())) λy=>L.b (c5 (⟨false,([r.1,t.1,u.1,v.1,w.1,y.1]:List Sa)⟩,())) λz=>SZ (z.1,y.d2,y.d3,())))) (L.c (L.e b.1 8) (L.b (c4 (b.2.1,())) λbb=>L.w ([108,101,116,32,114,101,99,32]:Y1) bb.1 (L.w (L.q ([108,101,116,32,114,101,99,32]:Y1) bb.1) ([32,61]:Y1) (L.b (c1 (L.q (L.q ([108,101,116,32,114,101,99,32]:Y1) bb.1) ([32,61]:Y1),())) λbd=>L.b (c0 (0,x.1,x.2.1,x.d2,())) λbe=>L.b (c6 (be.1,())) λbg=>L.b (c7 ()) λbh=>L.b (c1 (([105,110]:Y1),())) λbi=>L.b (c7 ()) λbj=>L.b (c0 (1,be.2.1,be.d2,be.d3,())) λbk=>L.b (c5 (⟨false,([bd.1,bg.1,bh.1,bi.1,bj.1,bk.1]:List Sa)⟩,())) λbm=>SZ (bm.1,bk.d2,bk.d3,())))) (L.c (L.e b.1 9) (L.b (c1 (([105,102]:Y1),())) λbn=>L.b (c0 (0,x.1,x.2.1,x.d2,())) λbo=>L.b (c6 (bo.1,())) λbp=>L.b (c7 ()) λbq=>L.b (c1 (([116,104,101,110]:Y1),())) λbr=>L.b (c0 (1,bo.2.1,bo.d2,bo.d3,())) λbs=>L.b (c6 (bs.1,())) λbt=>L.b (c7 ()) λbu=>L.b (c1 (([101,108,115,101]:Y1),())) λbv=>L.b (c0 (2,bs.2.1,bs.d2,bs.d3,())) λbw=>L.b (c6 (bw.1,())) λbz=>L.b (c5 (⟨false,([bn.1,bp.1,bq.1,br.1,bt.1,bu.1,bv.1,bz.1]:List Sa)⟩,())) λdb=>SZ (db.1,bw.d2,bw.d3,())) (L.c (L.e b.1 11) (L.b (c1 (([114,97,105,115,101]:Y1),())) λdd=>L.b (c0 (0,x.1,x.2.1,x.d2,())) λde=>L.b (c6 (de.1,())) λdg=>L.b (c5 (⟨false,([dd.1,dg.1]:List Sa)⟩,())) λdh=>SZ (dh.1,de.d2,de.d3,())) (L.c (L.e b.1 12) (L.b (c1 (([116,114,121]:Y1),())) λdi=>L.b (c0 (0,x.1,x.2.1,x.d2,())) λdj=>L.b (c6 (dj.1,())) λdk=>L.b (c7 ()) λdm=>L.b (c4 (b.2.1,())) λdn=>L.w ([119,105,116,104,32]:Y1) dn.1 (L.w (L.q ([119,105,116,104,32]:Y1) dn.1) ([32,45,62]:Y1) (L.b (c1 (L.q (L.q ([119,105,116,104,32]:Y1) dn.1) ([32,45,62]:Y1),())) λdp=>L.b (c0 (1,dj.2.1,dj.d2,dj.d3,())) λdq=>L.b (c6 (dq.1,())) λdr=>L.b (c5 (⟨false,([di.1,dk.1,dm.1,dp.1,dr.1]:List Sa)⟩,())) λds=>SZ (ds.1,dq.d2,dq.d3,())))) (L.c (L.e b.1 10) (L.b (c8 (x.1,x.2.1,x.d2,())) λdt=>SZ dt) (L.c (L.e b.1 6) (L.b (c9 ((x.2.1,x.d2),x.1,())) λdu=>L.c (L.e du.1 2) (L.b (sF (x.1,x.2.1,x.d2,())) λdv=>SZ dv) (L.b (Lk (x.1,x.2.1,x.d2,())) λdw=>SZ dw)) (L.b (c1 (b.2.1,())) λdy=>SZ (dy.1,x.2.1,x.d2,()))))))))))))
def qB(self:lV)(x:EN):OZ o5:=Fj lf (Hk self) nq mr Fe sD ph sE nu (Le self) qA (Hm self) (Lj self) x
def Fk:=iA qB
def Ll(c0:ES)(c1:o6)(c2:lV)(x:Sa×Y3×Si):OZ xY:=L.b (c1 (x.1,())) λb=>L.c (L.t (L.e b.1 0)) (SZ (⟨true,([]:List Y0)⟩,b.1,())) (L.b (c0 (x.2.1,())) λd=>L.c (L.t (L.e d.1 0)) (SZ (⟨true,([]:List Y0)⟩,d.1,())) (L.b (c2 (0,x.1,x.2.1,())) λe=>SZ (e.1,0,())))
def sG:=Ll lf iC iU Fk
def RJ(x:si):OZ dH:=SZ (x.2.2.2.1.l,())
def Lm(x:Y9):OZ Y8:=L.b (L.r (L.l x.1 32) (SZ (L.l 126 x.1))) λb=>SZ (b,())
def Cn:=Lm lf
def q4k(c0:lW)(b:(Bool×Y1×Int×Si)):OZ ((Bool×Y1×Int×Si)⊕Y9):=L.c (L.l b.d2 (L.n b.2.1)) (L.b (L.c (L.l b.d2 (L.n b.2.1)) (SZ b.d2) none) λd=>L.b (L.c (L.l b.d2 (L.n b.2.1)) (SZ (L.fh b.2.1 b.d2)) none) λe=>L.b (c0 (e,())) λg=>L.c (L.ga g.1 b.1) (JS (d,())) (IS (b.s2 (L.gP b.2.1 b.d2)))) (JS ((-1),()))
def RL(c0:lW)(x:Y1×Bool×Si):OZ Y9:=L.o (q4k L c0) (x.2.1,x.1,0,())
def Ln:=RL lf Cn
def Lo(c0:(Y1×Bool×Si)->OZ Y9)(x:dH):OZ Y9:=L.b (c0 (x.1,true,())) λb=>SZ (b.1,())
def Fl:=Lo lf Ln
def Lp(c0:yh)(x:dH):OZ Y8:=L.b (c0 (x.1,())) λb=>SZ (L.m 0 b.1,())
def yG:=Lp lf Fl
def Lq(c0:pH)(x:I4):OZ Y8:=L.b (L.c (L.e x.1.1 41) (IS (0,true,L.e x.1.d2 0,x.1.1,x.1.2.1,x.1.d2,x.1.2.2.2,())) (L.b (L.c (L.e x.1.1 42) (IS (0,false,L.e x.1.d2 0,x.1.1,x.1.2.1,x.1.d2,x.1.2.2.2,())) (L.b (L.c (L.e x.1.1 43) (L.c (L.m 0 x.1.d2) (IS (1,false,L.m x.1.d2 40,x.1.1,x.1.2.1,x.1.d2,x.1.2.2.2,())) (IS (1,false,false,x.1.1,x.1.2.1,x.1.d2,x.1.2.2.2,()))) (L.b (L.c (L.e x.1.1 44) (IS (1,false,L.e x.1.d2 0,x.1.1,x.1.2.1,x.1.d2,x.1.2.2.2,())) (L.c (L.e x.1.1 45) (IS (x.1.2.2.2,false,L.e x.1.d2 0,x.1.1,x.1.2.1,x.1.d2,x.1.2.2.2,())) (JS (JZ (JZ (JZ (false,()))))))) (L.cd λb=>IS b))) (L.cd λd=>IS d))) (L.cd λe=>IS e))) (L.cd λg=>L.b (c0 (g.d4,())) λh=>L.b (L.y (L.e g.d6 g.1) (SZ g.d2)) λi=>L.b (L.y i (SZ (L.t h.1))) λj=>L.b (L.y j (L.r g.2.1 (SZ (L.h g.d4 ([]:Y1))))) λk=>SZ (k,()))
def yH:=Lq lf yG
def q8a(c1:wN)(b:vj):OZ (vj⊕Y9):=L.c (L.l b.d2 b.2.1) (L.b (L.g b.1.l b.d2) λd=>L.b (c1 ((d.1,d.2.1,d.d2,d.2.2.2),())) λe=>L.c (L.t e.1) (JS (50,())) (IS (b.s2 (L.a .i64 b.d2 1)))) (JS (0,()))
def RM(c0:BL)(c1:wN)(x:gr):OZ Y9:=L.b (L.r (L.l 4000 (L.n x.1.l)) (L.b (c0 (x.1,())) λb=>SZ (L.t b.1))) λd=>L.c d (SZ (50,())) (L.o (q8a L c1) (x.1,L.n x.1.l,0,()))
def Co:=RM lf n9 yH
def q65(c0:qk)(x:Int×Bool×Int×Int×Y1×Int×Int×Sa×Bool×vh×Int×Sd×Si):OZ WA:=L.o (fun(b:Y99)=>L.c (L.l b.d4 b.d3) (L.b (c0 (b.d10,b.d2,b.1,b.2.1,b.d11,b.d12,b.d13,b.d14,())) λd=>IS (b.1,b.2.1,d.1,b.d3,L.a .i64 b.d4 1,b.d5,b.d6,b.d7,b.d8,b.d9,b.d10,d.2.1,d.d2,d.d3,d.d4,())) (JS (b.d2,b.d5,b.d6,b.d7,b.d8,b.d9,b.d10,b.d11,b.d12,b.d13,b.d14,()))) (x.1,x.2.1,L.a .i64 x.d2 1,x.d6,0,x.d2,x.d3,x.d4,x.d5,x.d6,x.d7,x.d8,x.d9,x.d10,x.d11,())
def OF(self:qk)(x:Int×Bool×Int×Int×Y1×Int×Int×Sa×Bool×vh×Int×Sd×Si):OZ WA:=q65 lf self x
def vE(x:si):OZ si:=SZ (true,x.2.1,x.2.2.1,x.2.2.2.1,())
def Lr(c0:si->OZ si)(x:Y1×Bool×vh×Int×Sd×Si):OZ BH:=L.b (c0 (x.2.1,x.d2,x.d3,x.d4,())) λb=>L.w b.d3.l x.1 (SZ (L.n x.1,b.1,b.2.1,b.d2,⟨L.d b.d3.nil (L.i x.1),L.app b.d3.l x.1⟩,()))
def Fm:=Lr lf vE
def Ls(c0:(Y1×Bool×vh×Int×Sd×Si)->OZ BH)(x:Y1×Bool×vh×Int×Sd×Si):OZ si:=L.b (c0 (x.1,x.2.1,x.d2,x.d3,x.d4,())) λb=>L.b (L.b (L.ko b.d2.1 (L.cV (L.n x.1))) λd=>L.b (L.ko b.d2.2 0) λe=>SZ (d,e)) λg=>SZ (b.2.1,g,b.d3,b.d4,())
def yI:=Ls lf Fm
def Lt(c0:si->OZ si)(x:BH):OZ si:=L.b (c0 (x.2.1,x.d2,x.d3,x.d4,())) λb=>L.z b.d3 [x.1] λzz=>SZ (b.s3 zz)
def Lu:=Lt lf vE
def Lv(x:iK):OZ dH:=bif (x.1==[32])&&(decide (0<=x.2.1)&&decide (x.2.1<=1000000)) then SZ (List.replicate x.2.1.toNat (32:Int),()) else none
def Lw(c0:(Y1×Bool×vh×Int×Sd×Si)->OZ si)(c1:BH->OZ si)(c2:iK->OZ dH)(x:BH):OZ si:=L.b (c1 (10,x.2.1,x.d2,x.d3,x.d4,())) λb=>L.b (L.ko b.2.1.2 4607182418800017408) λd=>L.b (c2 (([32]:Y1),x.1,())) λe=>L.b (c0 (e.1,b.1,(0,d),b.d2,b.d3,())) λg=>SZ g
def Cp:=Lw lf yI Lu Lv
def Lx(x:BH):OZ (Bool×Bool×vh×Int×Sd×Si):=L.b (L.ko x.d2.1 (L.cV x.1)) λb=>SZ (L.GC b (L.cV x.d3),x.2.1,x.d2,x.d3,x.d4,())
def Cq:=Lx lf
def q9a(b:(Int×Sa×Int×Int×Si)):OZ ((Int×Sa×Int×Int×Si)⊕Y9):=L.c (L.l b.d3 b.d2) (L.b (L.g b.2.1.l b.d3) λd=>L.b (L.c (L.e d.1 42) (SZ (b.s0 (L.a .i64 (L.a .i64 b.1 (L.n d.2.1)) 1))) (SZ (b.s0 (L.a .i64 b.1 (L.n d.2.1))))) λe=>IS (e.s3 (L.a .i64 e.d3 1))) (JS (b.1,()))
def RN(x:gr):OZ Y9:=L.o (q9a L) (0,x.1,L.n x.1.l,0,())
def Fo:=RN lf
def Fp(c0:wO)(c1:(Int×Bool×Int×Int×Y1×Int×Int×Sa×Bool×vh×Int×Sd×Si)->OZ WA)(c2:(Y1×Bool×vh×Int×Sd×Si)->OZ si)(c3:BH->OZ si)(c4:BH->OZ (Bool×Bool×vh×Int×Sd×Si))(c5:o6)(x:Y37):OZ BH:=L.b (L.g x.1.l x.2.1) λb=>L.b (L.c (L.e b.1 41) (L.b (c2 (b.2.1,x.d4,x.d5,x.d6,x.d7,())) λd=>IS (x.d2,x.d3,d.1,d.2.1,d.d2,x.2.1,b.1,b.2.1,b.d2,b.2.2.2,x.1,d.d3,())) (L.b (L.c (L.e b.1 42) (L.b (L.c x.d3 (L.b (c2 (([32]:Y1),x.d4,x.d5,x.d6,x.d7,())) λe=>SZ (x.d2,x.d3,e.1,e.2.1,e.d2,x.2.1,b.1,b.2.1,b.d2,b.2.2.2,x.1,e.d3,())) (L.b (c3 (x.d2,x.d4,x.d5,x.d6,x.d7,())) λg=>SZ (x.d2,x.d3,g.1,g.2.1,g.d2,x.2.1,b.1,b.2.1,b.d2,b.2.2.2,x.1,g.d3,()))) λh=>IS h) (L.c (L.e b.1 43) (L.b (c1 (L.a .i64 x.d2 b.d2,x.d3,x.2.1,b.1,b.2.1,b.d2,b.2.2.2,x.1,x.d4,x.d5,x.d6,x.d7,())) λi=>JS (JZ (i.1,i.d7,i.d8,i.d9,i.d10,()))) (L.c (L.e b.1 44) (L.c x.d3 (L.b (c1 (x.d2,true,x.2.1,b.1,b.2.1,b.d2,b.2.2.2,x.1,x.d4,x.d5,x.d6,x.d7,())) λj=>JS (JZ (j.1,j.d7,j.d8,j.d9,j.d10,()))) (L.b (c0 (x.1,x.2.1,())) λk=>L.b (L.bS x.1.l x.2.1 k.1) λm=>L.b (c5 (⟨x.1.nil,m⟩,())) λn=>L.b (c4 (n.1,x.d4,x.d5,x.d6,x.d7,())) λo=>L.b (c1 (x.d2,o.1,x.2.1,b.1,b.2.1,b.d2,b.2.2.2,x.1,o.2.1,o.d2,o.d3,o.d4,())) λp=>JS (JZ (p.1,p.d7,p.d8,p.d9,p.d10,())))) (IS (x.d2,x.d3,x.d4,x.d5,x.d6,x.2.1,b.1,b.2.1,b.d2,b.2.2.2,x.1,x.d7,()))))) (L.cd λq=>IS q))) (L.cd λr=>L.b (c1 (r.1,r.2.1,r.d5,r.d6,r.d7,r.d8,r.d9,r.d10,r.d2,r.d3,r.d4,r.d11,())) λs=>SZ (s.1,s.d7,s.d8,s.d9,s.d10,()))
def sH(self:qk)(x:Y37):OZ BH:=Fp lf n5 (OF self) yI Cp Cq Fo x
def Fq:=iA sH
def Ly(c0:si->OZ dH)(c1:o6)(c2:qk)(x:gr):OZ iK:=L.b (c1 (x.1,())) λb=>L.c (L.t (L.e b.1 0)) (SZ (([]:Y1),b.1,())) (L.b (c2 (x.1,0,0,true,false,(0,0),0,⟨true,([]:Y1)⟩,())) λd=>L.b (c0 (d.2.1,d.d2,d.d3,d.d4,())) λe=>SZ (e.1,0,()))
def Cr:=Ly lf RJ Co Fq
def Lz(c0:(Sa×Y3×Si)->OZ xY)(c1:gr->OZ iK)(x:Sa×Y3×Si):OZ iK:=L.b (c0 (x.1,x.2.1,())) λb=>L.c (L.t (L.e b.2.1 0)) (SZ (([]:Y1),b.2.1,())) (L.b (c1 (b.1,())) λd=>SZ (d.1,d.2.1,()))
def qC:=Lz lf sG Cr
def LA(c0:wN)(x:dH):OZ dH:=L.b (c0 ((5,x.1,0,0),())) λb=>L.c b.1 (L.w ([40]:Y1) x.1 (L.w (L.q ([40]:Y1) x.1) ([41]:Y1) (SZ (L.q (L.q ([40]:Y1) x.1) ([41]:Y1),())))) (SZ (x.1,()))
def yJ:=LA lf mq
def RO(x:qj):OZ wM:=SZ (L.n x.2.1.l,x.1,x.2.1,())
def Fs:=RO lf
def q9b(c2:(Y1×Bool×Sd×Si)->OZ wM)(c6:(Sa×Y3×Si)->OZ iK)(c7:BM)(c8:qj->OZ wM)(c9:qj->OZ dH)(b:(Y3×Sg×Int×Int×Bool×Sd×Si)):OZ ((Y3×Sg×Int×Int×Bool×Sd×Si)⊕((OC⊕(Hc⊕(Ha⊕iK))))):=L.c (L.l b.d3 b.d2) (L.b (L.g b.2.1.l b.d3) λd=>L.b (c6 (d.2.2,b.1,())) λe=>L.c (L.t (L.e e.2.1 0)) (JS (JZ (JZ (JZ (([]:Y1),e.2.1,()))))) (L.b (L.c d.2.1 (SZ (b.1,e.1,([108,101,116,32,114,101,99,32]:Y1),b.2.1,b.d2,b.d3,b.d4,d.1,d.2.1,d.2.2,b.d5,())) (SZ (b.1,e.1,([108,101,116,32]:Y1),b.2.1,b.d2,b.d3,b.d4,d.1,d.2.1,d.2.2,b.d5,()))) λg=>L.b (c7 (g.d7,())) λh=>L.w g.d2 h.1 (L.w (L.q g.d2 h.1) ([32,61,32]:Y1) (L.w (L.q (L.q g.d2 h.1) ([32,61,32]:Y1)) g.2.1 (L.w (L.q (L.q (L.q g.d2 h.1) ([32,61,32]:Y1)) g.2.1) ([59,59,10]:Y1) (L.b (c2 (L.q (L.q (L.q (L.q g.d2 h.1) ([32,61,32]:Y1)) g.2.1) ([59,59,10]:Y1),g.d6,g.d10,())) λi=>IS (g.1,g.d3,g.d4,L.a .i64 g.d5 1,i.2.1,i.d2,()))))))) (L.b (c8 (b.d4,b.d5,())) λj=>L.c (L.l 262144 j.1) (JS (JZ (JZ (JZ (([]:Y1),240,()))))) (L.b (c9 (j.2.1,j.d2,())) λk=>JS (JZ (JZ (JZ (k.1,0,()))))))
def q9c(c2:(Y1×Bool×Sd×Si)->OZ wM)(c5:(Y2×Si)->OZ dH)(k0:((Y3×Sg×Int×Int×Bool×Sd×Si))->OZ ((Y3×Sg×Int×Int×Bool×Sd×Si)⊕((OC⊕(Hc⊕(Ha⊕iK))))))(b:OC):OZ (OC⊕((Hc⊕(Ha⊕iK)))):=L.c (L.l b.d3 b.d2) (L.b (L.g b.2.1.l b.d3) λd=>L.b (c5 ((d.1,d.2.1,d.2.2),())) λe=>L.w e.1 ([59,59,10]:Y1) (L.b (c2 (L.q e.1 ([59,59,10]:Y1),b.d9,b.d10,())) λg=>IS (b.1,b.2.1,b.d2,L.a .i64 b.d3 1,b.d4,b.d5,b.d6,b.d7,b.d8,g.2.1,g.d2,()))) (L.o k0 (b.1,b.d8,L.n b.d8.l,0,b.d9,b.d10,()))
def q9d(c2:(Y1×Bool×Sd×Si)->OZ wM)(c4:(Y3×Y6×Si)->OZ OD)(k0:(OC)->OZ (OC⊕((Hc⊕(Ha⊕iK)))))(b:Hc):OZ (Hc⊕((Ha⊕iK))):=L.c (L.l b.d3 b.d2) (L.b (L.g b.2.1.l b.d3) λd=>L.b (L.g ([([105,110,102,105,120,108]:Y1),([105,110,102,105,120]:Y1),([105,110,102,105,120,114]:Y1)]:List Y1) (L.a .i64 d.2.2 1)) λe=>L.w e ([32]:Y1) (L.w (L.q e ([32]:Y1)) ([L.fR .u8 (L.a .i64 48 d.2.1)]:Y1) (L.w (L.q (L.q e ([32]:Y1)) ([L.fR .u8 (L.a .i64 48 d.2.1)]:Y1)) ([32]:Y1) (L.w (L.q (L.q (L.q e ([32]:Y1)) ([L.fR .u8 (L.a .i64 48 d.2.1)]:Y1)) ([32]:Y1)) d.1 (L.w (L.q (L.q (L.q (L.q e ([32]:Y1)) ([L.fR .u8 (L.a .i64 48 d.2.1)]:Y1)) ([32]:Y1)) d.1) ([59,59,10]:Y1) (L.b (c2 (L.q (L.q (L.q (L.q (L.q e ([32]:Y1)) ([L.fR .u8 (L.a .i64 48 d.2.1)]:Y1)) ([32]:Y1)) d.1) ([59,59,10]:Y1),b.d9,b.d10,())) λg=>L.b (c4 (b.1,(d.1,d.2.1,d.2.2),())) λh=>IS (h.1,b.2.1,b.d2,L.a .i64 b.d3 1,b.d4,b.d5,b.d6,b.d7,b.d8,g.2.1,g.d2,()))))))) (L.o k0 (b.1,b.d7,L.n b.d7.l,0,b.d4,b.d5,b.d6,b.d7,b.d8,b.d9,b.d10,()))
def q9e(c2:(Y1×Bool×Sd×Si)->OZ wM)(c3:yc)(k0:(Hc)->OZ (Hc⊕((Ha⊕iK))))(b:Ha):OZ (Ha⊕iK):=L.c (L.l b.d3 b.d2) (L.b (L.g b.2.1.l b.d3) λd=>L.w ([111,112,101,110,32]:Y1) d (L.w (L.q ([111,112,101,110,32]:Y1) d) ([59,59,10]:Y1) (L.b (c2 (L.q (L.q ([111,112,101,110,32]:Y1) d) ([59,59,10]:Y1),b.d9,b.d10,())) λe=>IS (b.1,b.2.1,b.d2,L.a .i64 b.d3 1,b.d4,b.d5,b.d6,b.d7,b.d8,e.2.1,e.d2,())))) (L.b (c3 (b.1,())) λg=>L.o k0 (g.1,b.d6,L.n b.d6.l,0,b.d4,b.d5,b.d6,b.d7,b.d8,b.d9,b.d10,()))
def RP(c0:(wL×Si)->OZ Y9)(c1:ES)(c2:(Y1×Bool×Sd×Si)->OZ wM)(c3:yc)(c4:(Y3×Y6×Si)->OZ OD)(c5:(Y2×Si)->OZ dH)(c6:(Sa×Y3×Si)->OZ iK)(c7:BM)(c8:qj->OZ wM)(c9:qj->OZ dH)(x:wL×Y3×Si):OZ iK:=L.b (c0 ((x.1.1,x.1.2.1,x.1.d2,x.1.d3,x.1.2.2.2.2),())) λb=>L.c (L.t (L.e b.1 0)) (SZ (([]:Y1),b.1,())) (L.b (c1 (x.2.1,())) λd=>L.c (L.t (L.e d.1 0)) (SZ (([]:Y1),d.1,())) (L.o (q9e L c2 c3 (q9d L c2 c4 (q9c L c2 c5 (q9b L c2 c6 c7 c8 c9)))) (x.2.1,x.1.2.1,L.n x.1.2.1.l,0,x.1.1,x.1.2.1,x.1.d2,x.1.d3,x.1.2.2.2.2,false,⟨true,([]:Y1)⟩,())))
def Cs:=RP lf o9 iC kJ pe pf yB qC yJ Fs yC
def LC(x:Y9):OZ Y8:=SZ (L.t (L.e x.1 10),())
def Ct:=LC lf
def qdy(c0:lW)(b:iK):OZ (iK⊕Y9):=L.b (L.y (L.l b.2.1 (L.n b.1)) (L.b (L.g b.1 b.2.1) λd=>L.b (c0 (d,())) λe=>SZ e.1)) λg=>L.c g (IS (b.1,L.a .i64 b.2.1 1,())) (JS (b.2.1,()))
def RQ(c0:lW)(x:dH):OZ Y9:=L.o (qdy L c0) (x.1,0,())
def Cu:=RQ lf Ct
def qkj(c0:lW)(b:iK):OZ (iK⊕Y9):=L.b (L.y (L.l b.2.1 (L.n b.1)) (L.b (L.g b.1 b.2.1) λd=>L.b (c0 (d,())) λe=>SZ e.1)) λg=>L.c g (IS (b.1,L.a .i64 b.2.1 1,())) (JS (b.2.1,()))
def RT(c0:lW)(x:dH):OZ Y9:=L.o (qkj L c0) (x.1,0,())
def Ft:=RT lf sy
def qdz(c0:lW)(b:iK):OZ (iK⊕Y9):=L.b (L.y (L.l b.2.1 (L.n b.1)) (L.b (L.g b.1 b.2.1) λd=>L.b (c0 (d,())) λe=>SZ e.1)) λg=>L.c g (IS (b.1,L.a .i64 b.2.1 1,())) (JS (b.2.1,()))
def RU(c0:lW)(x:dH):OZ Y9:=L.o (qdz L c0) (x.1,0,())
def Fu:=RU lf qu
def qe0(c0:lW)(b:iK):OZ (iK⊕Y9):=L.b (L.y (L.l b.2.1 (L.n b.1)) (L.b (L.g b.1 b.2.1) λd=>L.b (c0 (d,())) λe=>SZ e.1)) λg=>L.c g (IS (b.1,L.a .i64 b.2.1 1,())) (JS (b.2.1,()))
def RV(c0:lW)(x:dH):OZ Y9:=L.o (qe0 L c0) (x.1,0,())
def Fv:=RV lf sx
def LD(c0:pH)(x:Int×Int×Y1×Si):OZ (Y0×Int×Int×Si):=L.b (L.bS x.d2 0 x.1) λb=>L.b (c0 (b,())) λd=>L.b (L.c d.1 (SZ (x.1,(6:Int),x.d2,(0:Int),([]:Y1),(0:Int),(0:Int),())) (SZ (x.1,x.2.1,x.d2,0,([]:Y1),0,0,()))) λe=>L.b (L.bS e.d2 0 e.1) λg=>SZ ((e.2.1,g,0,0),e.1,0,())
def vF:=LD lf sA
def LG(x:Y1×Y1×Si):OZ Y8:=L.b (L.y (L.m (L.n x.2.1) (L.n x.1)) (L.b (L.bS x.1 0 (L.n x.2.1)) λb=>SZ (L.h b x.2.1))) λd=>SZ (d,())
def Cv:=LG lf
def LH(c0:(Y1×Y1×Si)->OZ Y8)(x:Y1×Y1×Si):OZ Y8:=L.b (c0 (x.1,x.2.1,())) λb=>SZ (b.1,())
def Cw:=LH lf Cv
def LI(c0:(Y1×Y1×Si)->OZ Y8)(x:Y1×Y1×Si):OZ (Y1×Bool×Si):=L.b (c0 (x.1,x.2.1,())) λb=>L.c (L.t b.1) (SZ (x.1,false,())) (L.b (L.bS x.1 (L.n x.2.1) (L.n x.1)) λd=>SZ (d,true,()))
def Fw:=LI lf Cv
def LJ(c0:(Y1×Y1×Si)->OZ (Y1×Bool×Si))(x:Y1×Y1×Si):OZ (Y1×Bool×Si):=L.b (c0 (x.1,x.2.1,())) λb=>SZ (b.1,b.2.1,())
def yK:=LJ lf Fw
def qca(c0:EV)(b:(Y1×Bool×Int×Y1×Int×Si)):OZ ((Y1×Bool×Int×Y1×Int×Si)⊕AM):=L.c (L.l b.d4 (L.n b.d3)) (L.b (L.c (L.l b.d4 (L.n b.d3)) (SZ (L.fh b.d3 b.d4)) none) λd=>L.b (L.r (L.l d 48) (SZ (L.l 57 d))) λe=>L.b (L.r e (SZ (L.l b.d2 (-461168601842738790)))) λg=>L.c g (JS (0,11,())) (IS ((b.s2 (L.u .i64 (L.pW .i64 10 b.d2) (L.fR .i64 (L.u .i32 d 48)))).s4 (L.gP b.d3 b.d4)))) (L.b (L.c (L.t b.2.1) (SZ (b.1,L.u .i64 0 b.d2,())) (SZ (b.1,b.d2,()))) λh=>L.b (L.r (L.l 4611686018427387903 h.2.1) (SZ (L.l h.2.1 (-4611686018427387904)))) λi=>L.b (L.r i (L.b (c0 (h.2.1,())) λj=>SZ (L.t (L.h j.1 h.1)))) λk=>L.c k (JS (0,11,())) (JS (h.2.1,0,())))
def RW(c0:EV)(c1:(Y1×Y1×Si)->OZ (Y1×Bool×Si))(x:dH):OZ AM:=L.b (c1 (x.1,([126]:Y1),())) λb=>L.o (qca L c0) (x.1,b.2.1,0,b.1,0,())
def vG:=RW lf mr yK
def qam(c0:iK->OZ Y9)(b:(Y1×Int×Sd×Si)):OZ ((Y1×Int×Sd×Si)⊕((Si⊕iK))):=L.c (L.l b.2.1 (L.n b.1)) (L.b (L.b (L.g b.1 b.2.1) λd=>L.c (L.e d 34) (JS (JZ (JZ (b.d2.l,L.a .i64 b.2.1 1,())))) (L.b (L.r (L.l d 32) (SZ (L.l 126 d))) λe=>L.c e (JS (JZ (JZ (([]:Y1),0,())))) (L.c (L.t (L.e d 92)) (L.z b.d2 [d] λzz=>IS (b.s2 zz)) (L.c (L.e (L.a .i64 b.2.1 1) (L.n b.1)) (JS (JZ (IZ ()))) (L.b (L.g b.1 (L.a .i64 b.2.1 1)) λg=>L.b (L.c (L.e g 34) (SZ (b.1,L.a .i64 b.2.1 1,g,L.e g 34,b.d2,())) (SZ (b.1,L.a .i64 b.2.1 1,g,L.e g 92,b.d2,()))) λh=>L.b (L.c h.d3 (L.b (L.g h.1 h.2.1) λi=>L.z h.d4 [i] λzy=>IS (h.1,h.2.1,zy,())) (L.b (L.c (L.e h.d2 110) (L.z h.d4 [10] λzx=>IS (h.1,h.2.1,zx,())) (L.c (L.e h.d2 120) (L.c (L.m (L.n h.1) (L.a .i64 h.2.1 2)) (JS (JZ (JZ (JZ (JZ (([]:Y1),0,())))))) (L.b (L.g h.1 (L.a .i64 h.2.1 1)) λj=>L.b (c0 (([48,49,50,51,52,53,54,55,56,57,97,98,99,100,101,102]:Y1),j,())) λk=>L.b (L.g h.1 (L.a .i64 h.2.1 2)) λm=>L.b (c0 (([48,49,50,51,52,53,54,55,56,57,97,98,99,100,101,102]:Y1),m,())) λn=>L.b (L.r (L.l k.1 0) (SZ (L.l n.1 0))) λo=>L.c o (JS (JZ (JZ (JZ (JZ (([]:Y1),0,())))))) (L.b (L.lr .i64 k.1 4) λp=>L.z h.d4 [L.fR .u8 (L.Az .i64 p n.1)] λzw=>IS (h.1,L.a .i64 h.2.1 2,zw,())))) (JS (JZ (JZ (JZ (JZ (([]:Y1),0,())))))))) (L.cd λq=>IS (q.1,q.2.1,q.d2,())))) (L.cd λr=>IS (r.1,r.2.1,r.d2,()))))))) (L.cd λs=>IS (s.s1 (L.a .i64 s.2.1 1)))) (JS (IZ ()))
def RX(c0:iK->OZ Y9)(x:dH):OZ iK:=L.b (L.o (qam L c0) (x.1,1,⟨true,([]:Y1)⟩,())) (L.cd λ_=>SZ (([]:Y1),0,()))
def LK:=RX lf vr
def LL(c0:yh)(c1:yh)(c2:yh)(c3:lW)(c4:lW)(c5:lW)(c6:(Int×Int×Y1×Si)->OZ (Y0×Int×Int×Si))(c7:(Y1×Y1×Si)->OZ Y8)(c8:lW)(c9:dH->OZ AM)(sF:dH->OZ iK)(x:dH):OZ (Y0×Int×Int×Si):=L.b (L.g x.1 0) λb=>L.b (c3 (b,())) λd=>L.c d.1 (L.b (c0 (x.1,())) λe=>L.b (c6 (e.1,1,x.1,())) λg=>SZ (g.s0 (g.1.1,g.1.2.1,g.1.d2,g.1.2.2.2))) (L.b (c4 (b,())) λh=>L.c h.1 (L.b (c0 (x.1,())) λi=>L.b (c6 (i.1,2,x.1,())) λj=>SZ (j.s0 (j.1.1,j.1.2.1,j.1.d2,j.1.2.2.2))) (L.b (c5 (b,())) λk=>L.c k.1 (L.b (c1 (x.1,())) λm=>L.b (c6 (m.1,5,x.1,())) λn=>SZ (n.s0 (n.1.1,n.1.2.1,n.1.d2,n.1.2.2.2))) (L.b (L.r (L.e b 40) (SZ (L.e b 41))) λo=>L.b (L.r o (SZ (L.e b 95))) λp=>L.c p (L.b (c6 (1,6,x.1,())) λq=>SZ (q.s0 (q.1.1,q.1.2.1,q.1.d2,q.1.2.2.2))) (L.b (c7 (x.1,([59,59]:Y1),())) λr=>L.c r.1 (L.b (c6 (2,6,x.1,())) λs=>SZ (s.s0 (s.1.1,s.1.2.1,s.1.d2,s.1.2.2.2))) (L.b (c8 (b,())) λt=>L.b (L.r t.1 (SZ (L.e b 126))) λu=>L.c u (L.b (L.bS x.1 1 (L.n x.1)) λv=>L.b (c2 (v,())) λw=>L.b (L.bS x.1 0 (L.a .i64 1 w.1)) λy=>L.b (c9 (y,())) λz=>L.c (L.t (L.e z.2.1 0)) (SZ ((0,([]:Y1),0,0),0,31,())) (SZ ((3,([]:Y1),z.1,0),L.a .i64 1 w.1,0,()))) (L.c (L.e b 34) (L.b (sF (x.1,())) λbb=>L.b (L.r (L.e bb.2.1 0) (SZ (L.l 200 (L.n bb.1)))) λbd=>L.c bd (SZ ((0,([]:Y1),0,0),0,32,())) (SZ ((4,bb.1,0,0),bb.2.1,0,()))) (SZ ((0,([]:Y1),0,0),0,30,()))))))))
def yL:=LL lf Ft Fu Fv vp vq qu vF Cw sx vG LK
def qgd(c0:yh)(c1:dH->OZ (Y0×Int×Int×Si))(b:sq):OZ (sq⊕((sq⊕vj))):=L.b (L.y (L.l b.2.1 (L.n b.1)) (L.b (L.g b.1 b.2.1) λd=>L.r (L.e d 32) (L.b (L.g b.1 b.2.1) λe=>SZ (L.e e 10)))) λg=>L.c g (IS (b.s1 (L.a .i64 b.2.1 1))) (L.b (L.y (L.l b.2.1 (L.n b.1)) (L.b (L.g b.1 b.2.1) λh=>SZ (L.e h 35))) λi=>L.c i (L.b (L.bS b.1 b.2.1 (L.n b.1)) λj=>L.b (c0 (j,())) λk=>JS (IZ (b.s1 (L.a .i64 b.2.1 k.1)))) (L.c (L.e b.2.1 (L.n b.1)) (JS (JZ (b.d2,0,0,()))) (L.b (L.bS b.1 b.2.1 (L.n b.1)) λm=>L.b (c1 (m,())) λn=>L.b (L.y (L.e n.d2 0) (SZ (L.e (L.n b.d2.l) 4000))) λo=>L.b (L.c o (SZ (b.1,b.2.1,n.2.1,33,b.d2,n.1.1,n.1.2.1,n.1.d2,n.1.2.2.2,())) (SZ (b.1,b.2.1,n.2.1,n.d2,b.d2,n.1.1,n.1.2.1,n.1.d2,n.1.2.2.2,()))) λp=>L.c (L.t (L.e p.d3 0)) (JS (JZ (⟨true,([]:List Y0)⟩,p.2.1,p.d3,()))) (L.z p.d4 [(p.d5,p.d6,p.d7,p.2.1)] λzz=>JS (IZ (p.1,L.a .i64 p.2.1 p.d2,zz,()))))))
def qni(k0:(sq)->OZ (sq⊕((sq⊕vj))))(b:sq):OZ (sq⊕vj):=L.o k0 b
def RY(c0:yh)(c1:dH->OZ (Y0×Int×Int×Si))(x:dH):OZ vj:=L.o (qni L (qgd L c0 c1)) (x.1,0,⟨true,([]:List Y0)⟩,())
def yM:=RY lf Cu yL
def LM(x:Bool×Sa×Sa×Int×Bool×Se×Si):OZ (Int×Int×Sa×Sa×Int×Bool×Se×Si):=L.c x.d4 (L.c true (L.b (L.g x.2.1.l 0) λb=>SZ (b.2.2.2,240,x.2.1,x.d2,x.d3,x.d4,x.d5,())) (SZ (0,0,x.2.1,x.d2,x.d3,x.d4,x.d5,()))) (L.c (L.l x.d3 (L.n x.2.1.l)) (L.c true (L.b (L.g x.2.1.l 0) λd=>SZ (d.2.2.2,240,x.2.1,x.d2,x.d3,x.d4,x.d5,())) (SZ (0,0,x.2.1,x.d2,x.d3,x.d4,x.d5,()))) (L.c x.1 (L.b (L.g x.2.1.l 0) λe=>SZ (e.2.2.2,240,x.2.1,x.d2,x.d3,x.d4,x.d5,())) (SZ (0,0,x.2.1,x.d2,x.d3,x.d4,x.d5,()))))
def mu:=LM lf
def LN(x:Wz):OZ QK:=L.c (L.t x.d4) (L.c (L.l x.d3 (L.n x.d2.l)) (L.b (L.g x.d2.l x.d3) λb=>L.c (L.e b.1 x.1) (L.c (L.h x.2.1 ([]:Y1)) (SZ (true,x.d2,x.d3,x.d4,x.d5,())) (L.b (L.g x.d2.l x.d3) λd=>SZ (L.h d.2.1 x.2.1,x.d2,x.d3,x.d4,x.d5,()))) (SZ (false,x.d2,x.d3,x.d4,x.d5,()))) (SZ (false,x.d2,x.d3,x.d4,x.d5,()))) (SZ (false,x.d2,x.d3,x.d4,x.d5,()))
def iV:=LN lf
def LP(c0:o7)(x:Wz):OZ Y45:=L.c x.d4 (L.c true (SZ ((0,([]:Y1),0,0),x.d2,x.d3,true,x.d5,())) (L.b (L.g x.d2.l (L.u .i64 (L.a .i64 x.d3 1) 1)) λb=>SZ ((b.1,b.2.1,b.d2,b.2.2.2),x.d2,L.a .i64 x.d3 1,x.d4,x.d5,()))) (L.b (c0 (x.1,x.2.1,x.d2,x.d3,x.d4,x.d5,())) λd=>L.c (L.t d.1) (SZ ((0,([]:Y1),0,0),d.2.1,d.d2,true,d.d4,())) (L.b (L.g d.2.1.l (L.u .i64 (L.a .i64 d.d2 1) 1)) λe=>SZ ((e.1,e.2.1,e.d2,e.2.2.2),d.2.1,L.a .i64 d.d2 1,d.d3,d.d4,())))
def cH:=LP lf iV
def LR(c0:ql)(x:oJ):OZ (Y6×Sa×Int×Bool×Se×Si):=L.b (L.g x.1.l 0) λb=>L.b (L.c (L.h b.2.1 ([105,110,102,105,120,108]:Y1)) (SZ ((-1),x.1,x.2.1,x.d2,x.d3,([]:Y1),(0:Int),(0:Int),())) (L.b (L.c (L.h b.2.1 ([105,110,102,105,120,114]:Y1)) (SZ (1,x.1,x.2.1,x.d2,x.d3,([]:Y1),(0:Int),(0:Int),())) (SZ (0,x.1,x.2.1,x.d2,x.d3,([]:Y1),(0:Int),(0:Int),()))) λd=>SZ d)) λe=>L.b (c0 (3,([]:Y1),e.2.1,L.a .i64 e.d2 1,e.d3,e.d4,())) λg=>L.b (L.r (L.l g.1.d2 0) (SZ (L.l 9 g.1.d2))) λh=>L.b (L.c h (SZ (e.1,0,g.2.1,g.d2,true,g.d4,e.d5,e.d6,e.d7,())) (SZ (e.1,g.1.d2,g.2.1,g.d2,g.d3,g.d4,e.d5,e.d6,e.d7,()))) λi=>L.b (c0 (5,([]:Y1),i.d2,i.d3,i.d4,i.d5,())) λj=>SZ ((j.1.2.1,i.2.1,i.1),j.2.1,j.d2,j.d3,j.d4,())
def yN:=LR lf cH
def LS(c0:QP->OZ Y9)(x:ER):OZ I1:=L.b (c0 (x.d4,x.1,())) λb=>L.c (L.m 0 b.1) (SZ (⟨false,([(31,([]:Y1),b.1,0)]:List Y0)⟩,x.2.1,x.d2,x.d3,x.d4,())) (L.b (L.y (L.t (L.h x.1 ([105,110,116]:Y1))) (SZ (L.t (L.h x.1 ([116,101,120,116]:Y1))))) λd=>L.b (L.c d (SZ (x.1,x.2.1,x.d2,true,x.d4,())) (SZ (x.1,x.2.1,x.d2,x.d3,x.d4,()))) λe=>SZ (⟨false,([(32,e.1,0,0)]:List Y0)⟩,e.2.1,e.d2,e.d3,e.d4,()))
def Cy:=LS lf BO
def Fy(c0:ql)(c1:o7)(c2:ER->OZ I1)(c3:nZ)(x:oJ):OZ I1:=L.c x.d2 (SZ (⟨true,([]:List Y0)⟩,x.1,x.2.1,x.d2,x.d3,())) (L.b (c1 (1,([]:Y1),x.1,x.2.1,x.d2,x.d3,())) λb=>L.c b.1 (L.b (c0 (1,([]:Y1),b.2.1,b.d2,b.d3,b.d4,())) λd=>L.b (c2 (d.1.2.1,d.2.1,d.d2,d.d3,d.d4,())) λe=>SZ e) (L.b (c1 (2,([]:Y1),b.2.1,b.d2,b.d3,b.d4,())) λg=>L.c g.1 (L.b (c0 (2,([]:Y1),g.2.1,g.d2,g.d3,g.d4,())) λh=>SZ (⟨false,([(32,h.1.2.1,0,0)]:List Y0)⟩,h.2.1,h.d2,h.d3,h.d4,())) (L.b (c0 (6,([40]:Y1),g.2.1,g.d2,g.d3,g.d4,())) λi=>L.b (c3 (i.2.1,i.d2,i.d3,i.d4,())) λj=>L.b (c0 (6,([41]:Y1),j.2.1,j.d2,j.d3,j.d4,())) λk=>SZ (j.1,k.2.1,k.d2,k.d3,k.d4,()))))
def mv(self:nZ)(x:oJ):OZ I1:=Fy lf cH iV Cy self x
def LU(c0:o7)(x:oJ):OZ QK:=L.b (c0 (1,([]:Y1),x.1,x.2.1,x.d2,x.d3,())) λb=>L.c b.1 (L.c true (SZ (b.s0 true)) (L.b (c0 (6,([40]:Y1),b.2.1,b.d2,b.d3,b.d4,())) λd=>SZ d)) (L.b (c0 (2,([]:Y1),b.2.1,b.d2,b.d3,b.d4,())) λe=>L.c e.1 (SZ (e.s0 true)) (L.b (c0 (6,([40]:Y1),e.2.1,e.d2,e.d3,e.d4,())) λg=>SZ g))
def yO:=LU lf iV
def WR(c0:nZ)(c1:oJ->OZ QK)(b:(Sa×Int×Bool×Se×fm×Si)):OZ ((Sa×Int×Bool×Se×fm×Si)⊕QM):=L.c (L.t b.d2) (L.b (c1 (b.1,b.2.1,b.d2,b.d3,())) λd=>L.c d.1 (L.b (c0 (d.2.1,d.d2,d.d3,d.d4,())) λe=>L.z b.d4 [e.1] λzz=>IS (e.2.1,e.d2,e.d3,e.d4,zz,())) (JS (b.d4,d.2.1,d.d2,d.d3,d.d4,()))) (L.c false (L.b (c0 (b.1,b.2.1,b.d2,b.d3,())) λg=>L.z b.d4 [g.1] λzy=>IS (g.2.1,g.d2,g.d3,g.d4,zy,())) (JS (b.d4,b.1,b.2.1,b.d2,b.d3,())))
def LV(c0:nZ)(c1:oJ->OZ QK)(x:oJ):OZ QM:=L.o (WR L c0 c1) (x.1,x.2.1,x.d2,x.d3,⟨true,([]:List Sa)⟩,())
def qD(self:nZ)(x:oJ):OZ QM:=LV lf (mv self) yO x
def qan(b:(Sa×fm×Int×Int×Sa×Si)):OZ ((Sa×fm×Int×Int×Sa×Si)⊕gr):=L.c (L.l b.d3 b.d2) (L.b (L.g b.2.1.l b.d3) λd=>L.w b.d4.l ([(32,([45,62]:Y1),0,2)]:List Y0) (L.w (L.app b.d4.l ([(32,([45,62]:Y1),0,2)]:List Y0)) d.l (IS ((b.s3 (L.a .i64 b.d3 1)).s4 ⟨L.d (L.d b.d4.nil (L.i ([(32,([45,62]:Y1),0,2)]:List Y0))) (L.i d.l),L.app (L.app b.d4.l ([(32,([45,62]:Y1),0,2)]:List Y0)) d.l⟩)))) (L.w b.d4.l b.1.l (JS (⟨L.d b.d4.nil (L.i b.1.l),L.app b.d4.l b.1.l⟩,())))
def RZ(x:fm×Sa×Si):OZ gr:=L.o (qan L) (x.2.1,x.1,L.n x.1.l,0,⟨true,([]:List Y0)⟩,())
def Cz:=RZ lf
def Fz(c0:ql)(c1:o7)(c2:nZ)(c3:oJ->OZ QM)(c4:ET)(c5:nZ)(c6:(fm×Sa×Si)->OZ gr)(x:oJ):OZ I1:=L.c x.d2 (SZ (⟨true,([]:List Y0)⟩,x.1,x.2.1,x.d2,x.d3,())) (L.b (c1 (1,([114,101,102]:Y1),x.1,x.2.1,x.d2,x.d3,())) λb=>L.b (L.c b.1 (L.b (c0 (1,([114,101,102]:Y1),b.2.1,b.d2,b.d3,b.d4,())) λd=>L.b (c2 (d.2.1,d.d2,d.d3,d.d4,())) λe=>L.b (c4 ((32,([114,101,102]:Y1),0,0),⟨false,([e.1]:List Sa)⟩,())) λg=>SZ (e.s0 g.1)) (L.b (c1 (2,([]:Y1),b.2.1,b.d2,b.d3,b.d4,())) λh=>L.b (L.c h.1 (L.b (c0 (2,([]:Y1),h.2.1,h.d2,h.d3,h.d4,())) λi=>L.b (c3 (i.2.1,i.d2,i.d3,i.d4,())) λj=>L.b (c4 ((32,i.1.2.1,0,0),j.1,())) λk=>SZ (k.1,j.2.1,j.d2,j.d3,j.d4,())) (L.b (c2 (h.2.1,h.d2,h.d3,h.d4,())) λm=>SZ m)) λn=>SZ n)) λo=>L.b (c1 (6,([45,62]:Y1),o.2.1,o.d2,o.d3,o.d4,())) λp=>L.c p.1 (L.b (c0 (6,([45,62]:Y1),p.2.1,p.d2,p.d3,p.d4,())) λq=>L.b (c5 (q.2.1,q.d2,q.d3,q.d4,())) λr=>L.b (c6 (⟨false,([o.1]:List Sa)⟩,r.1,())) λs=>SZ (r.s0 s.1)) (SZ (o.1,p.2.1,p.d2,p.d3,p.d4,())))
def sI(self:nZ)(x:oJ):OZ I1:=Fz lf cH iV (mv self) (qD self) kt self Cz x
def yP:=iA sI
def LW:=mv yP
def LZ:=qD yP
def L3(c0:ql)(c1:o7)(c2:nZ)(c3:oJ->OZ QM)(x:oJ):OZ (BG×Sa×Int×Bool×Se×Si):=L.b (c0 (2,([]:Y1),x.1,x.2.1,x.d2,x.d3,())) λb=>L.b (c1 (6,([111,102]:Y1),b.2.1,b.d2,b.d3,b.d4,())) λd=>L.b (L.c d.1 (L.b (c0 (6,([111,102]:Y1),d.2.1,d.d2,d.d3,d.d4,())) λe=>L.b (c2 (e.2.1,e.d2,e.d3,e.d4,())) λg=>L.b (c3 (g.2.1,g.d2,g.d3,g.d4,())) λh=>L.w ([g.1]:List Sa) h.1.l (SZ (h.2.1,h.d2,h.d3,h.d4,([]:Y1),b.1.2.1,(⟨true,[]⟩:Sl Sa),(⟨L.d false (L.i h.1.l),L.app [g.1] h.1.l⟩:Sl Sa),()))) (SZ (d.2.1,d.d2,d.d3,d.d4,([]:Y1),b.1.2.1,(⟨true,[]⟩:Sl Sa),(⟨true,[]⟩:Sl Sa),()))) λi=>SZ ((i.d5,i.d7),i.1,i.2.1,i.d2,i.d3,())
def od:=L3 lf cH iV LW LZ
def q42(c1:ql)(c2:o7)(c3:oJ->OZ (BG×Sa×Int×Bool×Se×Si))(b:Hb):OZ (Hb⊕((Hb⊕QO))):=L.b (c2 (6,([124]:Y1),b.1,b.2.1,b.d2,b.d7,())) λd=>L.c d.1 (L.b (c1 (6,([124]:Y1),d.2.1,d.d2,d.d3,d.d4,())) λe=>L.b (c3 (e.2.1,e.d2,e.d3,e.d4,())) λg=>L.z b.d9 [g.1] λzz=>IS (g.2.1,g.d2,g.d3,b.d3,b.d4,b.d5,b.d6,g.d4,b.d8,zz,())) (JS (JZ ((b.d5,b.d6,b.d9),d.2.1,d.d2,d.d3,d.d4,())))
def q43(c0:yf)(c1:ql)(c2:o7)(c3:oJ->OZ (BG×Sa×Int×Bool×Se×Si))(k0:(Hb)->OZ (Hb⊕((Hb⊕QO))))(b:Hb):OZ (Hb⊕QO):=L.b (c2 (1,([]:Y1),b.1,b.2.1,b.d2,b.d7,())) λd=>L.c d.1 (L.b (c1 (1,([]:Y1),d.2.1,d.d2,d.d3,d.d4,())) λe=>L.w ([([105,110,116]:Y1),([116,101,120,116]:Y1),([114,101,102]:Y1)]:List Y1) e.d4.l (L.b (c0 (⟨L.d false (L.i e.d4.l),L.app ([([105,110,116]:Y1),([116,101,120,116]:Y1),([114,101,102]:Y1)]:List Y1) e.d4.l⟩,e.1.2.1,())) λg=>L.b (L.c g.1 (SZ (e.1.2.1,e.2.1,e.d2,true,b.d3,b.d4,b.d5,b.d6,e.d4,b.d8,b.d9,())) (SZ (e.1.2.1,e.2.1,e.d2,e.d3,b.d3,b.d4,b.d5,b.d6,e.d4,b.d8,b.d9,()))) λh=>L.z h.d8 [h.1] λzz=>IS (h.2.1,h.d2,h.d3,h.d4,h.d5,h.d6,h.d7,zz,h.d9,h.d10,()))) (L.b (c1 (6,([61]:Y1),d.2.1,d.d2,d.d3,d.d4,())) λi=>L.b (c3 (i.2.1,i.d2,i.d3,i.d4,())) λj=>L.o k0 (j.2.1,j.d2,j.d3,b.d3,b.d4,b.d5,L.n d.d4.l,j.d4,b.d8,⟨false,([j.1]:List BG)⟩,()))
def R0(c0:yf)(c1:ql)(c2:o7)(c3:oJ->OZ (BG×Sa×Int×Bool×Se×Si))(x:oJ):OZ QO:=L.b (c1 (6,([116,121,112,101]:Y1),x.1,x.2.1,x.d2,x.d3,())) λb=>L.b (c1 (2,([]:Y1),b.2.1,b.d2,b.d3,b.d4,())) λd=>L.o (q43 L c0 c1 c2 c3 (q42 L c1 c2 c3)) (d.2.1,d.d2,d.d3,([]:Y1),0,d.1.2.1,0,d.d4,⟨true,([]:List BG)⟩,⟨true,([]:List BG)⟩,())
def CA:=R0 lf nk cH iV od
def L4(c0:ql)(c1:o7)(x:oJ):OZ ER:=L.b (c1 (6,([40]:Y1),x.1,x.2.1,x.d2,x.d3,())) λb=>L.c (L.t b.1) (L.b (c0 (1,([]:Y1),b.2.1,b.d2,b.d3,b.d4,())) λd=>SZ (d.1.2.1,d.2.1,d.d2,d.d3,d.d4,())) (L.b (c0 (6,([40]:Y1),b.2.1,b.d2,b.d3,b.d4,())) λe=>L.b (c0 (5,([]:Y1),e.2.1,e.d2,e.d3,e.d4,())) λg=>L.b (c0 (6,([41]:Y1),g.2.1,g.d2,g.d3,g.d4,())) λh=>SZ (g.1.2.1,h.2.1,h.d2,h.d3,h.d4,()))
def vH:=L4 lf cH iV
def L5(x:Y40):OZ Y4:=L.b (L.c (L.e x.d8 0) (SZ (x.d2,x.d3,x.d4,x.d5,x.d6,x.1,x.2.1,())) (SZ (x.d2,x.d3,x.d4,x.d5,x.d6,x.d7,x.d8,()))) λb=>SZ (⟨true,([]:List Y0)⟩,b.1,b.2.1,b.d2,b.d3,b.d4,b.d5,b.d6,())
def mw:=L5 lf
def L6(x:G8):OZ G8:=L.c (L.l x.1 (L.n x.2.1.l)) (L.b (L.g x.2.1.l x.1) λb=>SZ (b.2.2.2,x.2.1,x.d2,x.d3,x.d4,x.d5,x.d6,x.d7,())) (SZ (x.d2,x.2.1,x.d2,x.d3,x.d4,x.d5,x.d6,x.d7,()))
def my:=L6 lf
def L7(c0:yf)(x:Y28):OZ EM:=L.b (L.y (L.e x.d9 0) (SZ (L.l (L.a .i64 x.d6 x.1) (L.n x.d3.l)))) λb=>L.b (L.y b (L.b (L.g x.d3.l (L.a .i64 x.d6 x.1)) λd=>SZ (L.e d.1 x.2.1))) λe=>L.b (L.y e (L.r (L.e (L.n x.d2.l) 0) (L.b (L.g x.d3.l (L.a .i64 x.d6 x.1)) λg=>L.b (c0 (x.d2,g.2.1,())) λh=>SZ h.1))) λi=>SZ (i,x.d3,x.d4,x.d5,x.d6,x.d7,x.d8,x.d9,())
def gR:=L7 lf nk
def L8(c0:(Y3×Y1×Si)->OZ BI)(x:vi):OZ EM:=L.b (c0 (x.d3,x.1,())) λb=>SZ (L.t b.2.1,x.2.1,x.d2,x.d3,x.d4,x.d5,x.d6,x.d7,())
def yQ:=L8 lf o8
def q56(c0:vi->OZ EM)(b:(Se×Int×Int×Sa×Int×Y3×Int×Int×Int×Int×Si)):OZ ((Se×Int×Int×Sa×Int×Y3×Int×Int×Int×Int×Si)⊕G8):=L.c (L.l b.d2 b.2.1) (L.b (L.g b.1.l b.d2) λd=>L.b (c0 (d,b.d3,b.d4,b.d5,b.d6,b.d7,b.d8,b.d9,())) λe=>L.c e.1 (JS (b.d2,e.2.1,e.d2,e.d3,e.d4,e.d5,e.d6,e.d7,())) (IS (b.1,b.2.1,L.a .i64 b.d2 1,e.2.1,e.d2,e.d3,e.d4,e.d5,e.d6,e.d7,()))) (JS ((-1),b.d3,b.d4,b.d5,b.d6,b.d7,b.d8,b.d9,()))
def R1(c0:vi->OZ EM)(x:Se×Sa×Int×Y3×Int×Int×Int×Int×Si):OZ G8:=L.o (q56 L c0) (x.1,L.n x.1.l,0,x.2.1,x.d2,x.d3,x.d4,x.d5,x.d6,x.d7,())
def CB:=R1 lf yQ
def L9(x:Y7):OZ Y43:=L.b (L.g x.1.l (L.u .i64 (L.a .i64 x.d3 1) 1)) λb=>SZ ((b.1,b.2.1,b.d2,b.2.2.2),x.1,x.2.1,x.d2,L.a .i64 x.d3 1,x.d4,x.d5,x.d6,())
def mz:=L9 lf
def Ma(c0:ET)(x:Y85):OZ gr:=L.b (c0 ((x.1,x.2.1,0,0),x.d2,())) λb=>SZ (b.1,())
def gS:=Ma lf kt
def Mb(c0:su)(c1:sw)(c2:nj)(x:vi):OZ Y7:=L.b (c2 (0,6,⟨false,([x.1]:List Y1)⟩,x.2.1,x.d2,x.d3,x.d4,x.d5,x.d6,x.d7,())) λb=>L.b (L.c (L.t b.1) (L.b (c1 (b.d4,b.2.1,b.d2,b.d3,b.d4,b.d5,b.d6,b.d7,())) λd=>L.b (c0 (d.1,70,d.2.1,d.d2,d.d3,d.d4,d.d5,d.d6,d.d7,())) λe=>SZ (e.2.1,e.d2,e.d3,e.d4,e.d5,e.d6,e.d7,())) (SZ (b.2.1,b.d2,b.d3,b.d4,b.d5,b.d6,b.d7,()))) λg=>SZ (g.s3 (L.a .i64 g.d3 1))
def kK:=Mb lf mw my gR
def Mc(c0:nj)(x:Y7):OZ EM:=L.b (c0 (0,3,⟨true,([]:List Y1)⟩,x.1,x.2.1,x.d2,x.d3,x.d4,x.d5,x.d6,())) λb=>L.c b.1 (L.c true (L.c true (L.c true (SZ (b.s0 true)) (L.b (c0 (0,6,⟨false,([([40]:Y1),([109,97,116,99,104]:Y1)]:List Y1)⟩,b.2.1,b.d2,b.d3,b.d4,b.d5,b.d6,b.d7,())) λd=>SZ d)) (L.b (c0 (0,2,⟨true,([]:List Y1)⟩,b.2.1,b.d2,b.d3,b.d4,b.d5,b.d6,b.d7,())) λe=>L.c e.1 (SZ (e.s0 true)) (L.b (c0 (0,6,⟨false,([([40]:Y1),([109,97,116,99,104]:Y1)]:List Y1)⟩,e.2.1,e.d2,e.d3,e.d4,e.d5,e.d6,e.d7,())) λg=>SZ g))) (L.b (c0 (0,1,⟨true,([]:List Y1)⟩,b.2.1,b.d2,b.d3,b.d4,b.d5,b.d6,b.d7,())) λh=>L.c h.1 (L.c true (SZ (h.s0 true)) (L.b (c0 (0,6,⟨false,([([40]:Y1),([109,97,116,99,104]:Y1)]:List Y1)⟩,h.2.1,h.d2,h.d3,h.d4,h.d5,h.d6,h.d7,())) λi=>SZ i)) (L.b (c0 (0,2,⟨true,([]:List Y1)⟩,h.2.1,h.d2,h.d3,h.d4,h.d5,h.d6,h.d7,())) λj=>L.c j.1 (SZ (j.s0 true)) (L.b (c0 (0,6,⟨false,([([40]:Y1),([109,97,116,99,104]:Y1)]:List Y1)⟩,j.2.1,j.d2,j.d3,j.d4,j.d5,j.d6,j.d7,())) λk=>SZ k)))) (L.b (c0 (0,4,⟨true,([]:List Y1)⟩,b.2.1,b.d2,b.d3,b.d4,b.d5,b.d6,b.d7,())) λm=>L.c m.1 (L.c true (L.c true (SZ (m.s0 true)) (L.b (c0 (0,6,⟨false,([([40]:Y1),([109,97,116,99,104]:Y1)]:List Y1)⟩,m.2.1,m.d2,m.d3,m.d4,m.d5,m.d6,m.d7,())) λn=>SZ n)) (L.b (c0 (0,2,⟨true,([]:List Y1)⟩,m.2.1,m.d2,m.d3,m.d4,m.d5,m.d6,m.d7,())) λo=>L.c o.1 (SZ (o.s0 true)) (L.b (c0 (0,6,⟨false,([([40]:Y1),([109,97,116,99,104]:Y1)]:List Y1)⟩,o.2.1,o.d2,o.d3,o.d4,o.d5,o.d6,o.d7,())) λp=>SZ p))) (L.b (c0 (0,1,⟨true,([]:List Y1)⟩,m.2.1,m.d2,m.d3,m.d4,m.d5,m.d6,m.d7,())) λq=>L.c q.1 (L.c true (SZ (q.s0 true)) (L.b (c0 (0,6,⟨false,([([40]:Y1),([109,97,116,99,104]:Y1)]:List Y1)⟩,q.2.1,q.d2,q.d3,q.d4,q.d5,q.d6,q.d7,())) λr=>SZ r)) (L.b (c0 (0,2,⟨true,([]:List Y1)⟩,q.2.1,q.d2,q.d3,q.d4,q.d5,q.d6,q.d7,())) λs=>L.c s.1 (SZ (s.s0 true)) (L.b (c0 (0,6,⟨false,([([40]:Y1),([109,97,116,99,104]:Y1)]:List Y1)⟩,s.2.1,s.d2,s.d3,s.d4,s.d5,s.d6,s.d7,())) λt=>SZ t))))
def sJ:=Mc lf gR
def Md(c0:su)(c1:sw)(c2:nj)(c3:vm)(c4:ye)(x:Y7):OZ vi:=L.b (c2 (0,1,⟨true,([]:List Y1)⟩,x.1,x.2.1,x.d2,x.d3,x.d4,x.d5,x.d6,())) λb=>L.c b.1 (L.b (c3 (b.2.1,b.d2,b.d3,b.d4,b.d5,b.d6,b.d7,())) λd=>SZ (d.1.2.1,d.2.1,d.d2,d.d3,d.d4,d.d5,d.d6,d.d7,())) (L.b (c2 (0,6,⟨false,([([40]:Y1)]:List Y1)⟩,b.2.1,b.d2,b.d3,b.d4,b.d5,b.d6,b.d7,())) λe=>L.c e.1 (L.b (c2 (1,5,⟨true,([]:List Y1)⟩,e.2.1,e.d2,e.d3,e.d4,e.d5,e.d6,e.d7,())) λg=>L.c g.1 (L.b (c3 (g.2.1,g.d2,g.d3,L.a .i64 g.d4 1,g.d5,g.d6,g.d7,())) λh=>L.b (c4 (([41]:Y1),h.2.1,h.d2,h.d3,h.d4,h.d5,h.d6,h.d7,())) λi=>SZ (h.1.2.1,i.1,i.2.1,i.d2,i.d3,i.d4,i.d5,i.d6,())) (L.b (c2 (0,6,⟨false,([([40]:Y1)]:List Y1)⟩,g.2.1,g.d2,g.d3,g.d4,g.d5,g.d6,g.d7,())) λj=>L.b (L.c j.1 (SZ (j.2.1,j.d2,j.d3,L.a .i64 j.d4 1,j.d5,j.d6,j.d7,())) (SZ (j.2.1,j.d2,j.d3,j.d4,j.d5,j.d6,j.d7,()))) λk=>L.b (c1 (k.d3,k.1,k.2.1,k.d2,k.d3,k.d4,k.d5,k.d6,())) λm=>L.b (c0 (m.1,70,m.2.1,m.d2,m.d3,m.d4,m.d5,m.d6,m.d7,())) λn=>SZ (([]:Y1),n.2.1,n.d2,n.d3,n.d4,n.d5,n.d6,n.d7,()))) (L.c false (L.b (c3 (e.2.1,e.d2,e.d3,L.a .i64 e.d4 1,e.d5,e.d6,e.d7,())) λo=>L.b (c4 (([41]:Y1),o.2.1,o.d2,o.d3,o.d4,o.d5,o.d6,o.d7,())) λp=>SZ (o.1.2.1,p.1,p.2.1,p.d2,p.d3,p.d4,p.d5,p.d6,())) (L.b (c2 (0,6,⟨false,([([40]:Y1)]:List Y1)⟩,e.2.1,e.d2,e.d3,e.d4,e.d5,e.d6,e.d7,())) λq=>L.b (L.c q.1 (SZ (q.2.1,q.d2,q.d3,L.a .i64 q.d4 1,q.d5,q.d6,q.d7,())) (SZ (q.2.1,q.d2,q.d3,q.d4,q.d5,q.d6,q.d7,()))) λr=>L.b (c1 (r.d3,r.1,r.2.1,r.d2,r.d3,r.d4,r.d5,r.d6,())) λs=>L.b (c0 (s.1,70,s.2.1,s.d2,s.d3,s.d4,s.d5,s.d6,s.d7,())) λt=>SZ (([]:Y1),t.2.1,t.d2,t.d3,t.d4,t.d5,t.d6,t.d7,()))))
def qE:=Md lf mw my gR mz kK
def WS(c0:fU)(c1:ET)(c2:nj)(c3:vm)(c4:Y7->OZ vi)(c5:qm)(c6:ye)(x:Y7):OZ Y4:=L.b (c2 (0,6,⟨false,([([95]:Y1)]:List Y1)⟩,x.1,x.2.1,x.d2,x.d3,x.d4,x.d5,x.d6,())) λb=>L.c b.1 (L.b (c5 (21,([]:Y1),⟨true,([]:List Sa)⟩,())) λd=>SZ (d.1,b.2.1,b.d2,b.d3,L.a .i64 b.d4 1,b.d5,b.d6,b.d7,())) (L.b (c2 (0,3,⟨true,([]:List Y1)⟩,b.2.1,b.d2,b.d3,b.d4,b.d5,b.d6,b.d7,())) λe=>L.c e.1 (L.b (c3 (e.2.1,e.d2,e.d3,e.d4,e.d5,e.d6,e.d7,())) λg=>L.b (c1 ((23,([]:Y1),g.1.d2,0),⟨true,([]:List Sa)⟩,())) λh=>SZ (h.1,g.2.1,g.d2,g.d3,g.d4,g.d5,g.d6,g.d7,())) (L.b (c2 (0,2,⟨true,([]:List Y1)⟩,e.2.1,e.d2,e.d3,e.d4,e.d5,e.d6,e.d7,())) λi=>L.c i.1 (L.b (c3 (i.2.1,i.d2,i.d3,i.d4,i.d5,i.d6,i.d7,())) λj=>L.b (c5 (24,j.1.2.1,⟨true,([]:List Sa)⟩,())) λk=>SZ (k.1,j.2.1,j.d2,j.d3,j.d4,j.d5,j.d6,j.d7,())) (L.b (c2 (0,6,⟨false,([([40]:Y1)]:List Y1)⟩,i.2.1,i.d2,i.d3,i.d4,i.d5,i.d6,i.d7,())) λm=>L.c m.1 (L.b (c2 (1,5,⟨true,([]:List Y1)⟩,m.2.1,m.d2,m.d3,m.d4,m.d5,m.d6,m.d7,())) λn=>L.c (L.t n.1) (L.b (c0 (n.2.1,n.d2,n.d3,L.a .i64 n.d4 1,n.d5,n.d6,n.d7,())) λo=>L.b (c6 (([41]:Y1),o.2.1,o.d2,o.d3,o.d4,o.d5,o.d6,o.d7,())) λp=>SZ (o.1,p.1,p.2.1,p.d2,p.d3,p.d4,p.d5,p.d6,())) (L.b (c4 (n.2.1,n.d2,n.d3,n.d4,n.d5,n.d6,n.d7,())) λq=>L.b (c5 (22,q.1,⟨true,([]:List Sa)⟩,())) λr=>SZ (r.1,q.2.1,q.d2,q.d3,q.d4,q.d5,q.d6,q.d7,()))) (L.c false (L.b (c0 (m.2.1,m.d2,m.d3,L.a .i64 m.d4 1,m.d5,m.d6,m.d7,())) λs=>L.b (c6 (([41]:Y1),s.2.1,s.d2,s.d3,s.d4,s.d5,s.d6,s.d7,())) λt=>SZ (s.1,t.1,t.2.1,t.d2,t.d3,t.d4,t.d5,t.d6,())) (L.b (c4 (m.2.1,m.d2,m.d3,m.d4,m.d5,m.d6,m.d7,())) λu=>L.b (c5 (22,u.1,⟨true,([]:List Sa)⟩,())) λv=>SZ (v.1,u.2.1,u.d2,u.d3,u.d4,u.d5,u.d6,u.d7,()))))))
def CC(self:fU)(x:Y7):OZ Y4:=WS lf self kt gR mz qE gS kK x
def WT(c0:nj)(c2:qm)(c3:fU)(b:(Y1×Sa×Int×Y3×Int×Int×Int×Int×fm×Si)):OZ ((Y1×Sa×Int×Y3×Int×Int×Int×Int×fm×Si)⊕Y4):=L.b (c0 (0,3,⟨true,([]:List Y1)⟩,b.2.1,b.d2,b.d3,b.d4,b.d5,b.d6,b.d7,())) λd=>L.c d.1 (L.c true (L.c true (L.c true (L.b (c3 (d.2.1,d.d2,d.d3,d.d4,d.d5,d.d6,d.d7,())) λe=>L.z b.d8 [e.1] λzz=>IS (b.1,e.2.1,e.d2,e.d3,e.d4,e.d5,e.d6,e.d7,zz,())) (L.b (c2 (24,b.1,b.d8,())) λg=>JS (g.1,d.2.1,d.d2,d.d3,d.d4,d.d5,d.d6,d.d7,()))) (L.b (c0 (0,6,⟨false,([([95]:Y1),([40]:Y1)]:List Y1)⟩,d.2.1,d.d2,d.d3,d.d4,d.d5,d.d6,d.d7,())) λh=>L.c h.1 (L.b (c3 (h.2.1,h.d2,h.d3,h.d4,h.d5,h.d6,h.d7,())) λi=>L.z b.d8 [i.1] λzy=>IS (b.1,i.2.1,i.d2,i.d3,i.d4,i.d5,i.d6,i.d7,zy,())) (L.b (c2 (24,b.1,b.d8,())) λj=>JS (j.1,h.2.1,h.d2,h.d3,h.d4,h.d5,h.d6,h.d7,())))) (L.b (c0 (0,1,⟨true,([]:List Y1)⟩,d.2.1,d.d2,d.d3,d.d4,d.d5,d.d6,d.d7,())) λk=>L.c k.1 (L.c true (L.b (c3 (k.2.1,k.d2,k.d3,k.d4,k.d5,k.d6,k.d7,())) λm=>L.z b.d8 [m.1] λzx=>IS (b.1,m.2.1,m.d2,m.d3,m.d4,m.d5,m.d6,m.d7,zx,())) (L.b (c2 (24,b.1,b.d8,())) λn=>JS (n.1,k.2.1,k.d2,k.d3,k.d4,k.d5,k.d6,k.d7,()))) (L.b (c0 (0,6,⟨false,([([95]:Y1),([40]:Y1)]:List Y1)⟩,k.2.1,k.d2,k.d3,k.d4,k.d5,k.d6,k.d7,())) λo=>L.c o.1 (L.b (c3 (o.2.1,o.d2,o.d3,o.d4,o.d5,o.d6,o.d7,())) λp=>L.z b.d8 [p.1] λzw=>IS (b.1,p.2.1,p.d2,p.d3,p.d4,p.d5,p.d6,p.d7,zw,())) (L.b (c2 (24,b.1,b.d8,())) λq=>JS (q.1,o.2.1,o.d2,o.d3,o.d4,o.d5,o.d6,o.d7,()))))) (L.b (c0 (0,2,⟨true,([]:List Y1)⟩,d.2.1,d.d2,d.d3,d.d4,d.d5,d.d6,d.d7,())) λr=>L.c r.1 (L.c true (L.c true (L.b (c3 (r.2.1,r.d2,r.d3,r.d4,r.d5,r.d6,r.d7,())) λs=>L.z b.d8 [s.1] λzv=>IS (b.1,s.2.1,s.d2,s.d3,s.d4,s.d5,s.d6,s.d7,zv,())) (L.b (c2 (24,b.1,b.d8,())) λt=>JS (t.1,r.2.1,r.d2,r.d3,r.d4,r.d5,r.d6,r.d7,()))) (L.b (c0 (0,6,⟨false,([([95]:Y1),([40]:Y1)]:List Y1)⟩,r.2.1,r.d2,r.d3,r.d4,r.d5,r.d6,r.d7,())) λu=>L.c u.1 (L.b (c3 (u.2.1,u.d2,u.d3,u.d4,u.d5,u.d6,u.d7,())) λv=>L.z b.d8 [v.1] λzu=>IS (b.1,v.2.1,v.d2,v.d3,v.d4,v.d5,v.d6,v.d7,zu,())) (L.b (c2 (24,b.1,b.d8,())) λw=>JS (w.1,u.2.1,u.d2,u.d3,u.d4,u.d5,u.d6,u.d7,())))) (L.b (c0 (0,1,⟨true,([]:List Y1)⟩,r.2.1,r.d2,r.d3,r.d4,r.d5,r.d6,r.d7,())) λy=>L.c y.1 (L.c true (L.b (c3 (y.2.1,y.d2,y.d3,y.d4,y.d5,y.d6,y.d7,())) λz=>L.z b.d8 [z.1] λzt=>IS (b.1,z.2.1,z.d2,z.d3,z.d4,z.d5,z.d6,z.d7,zt,())) (L.b (c2 (24,b.1,b.d8,())) λbb=>JS (bb.1,y.2.1,y.d2,y.d3,y.d4,y.d5,y.d6,y.d7,()))) (L.b (c0 (0,6,⟨false,([([95]:Y1),([40]:Y1)]:List Y1)⟩,y.2.1,y.d2,y.d3,y.d4,y.d5,y.d6,y.d7,())) λbd=>L.c bd.1 (L.b (c3 (bd.2.1,bd.d2,bd.d3,bd.d4,bd.d5,bd.d6,bd.d7,())) λbe=>L.z b.d8 [be.1] λzs=>IS (b.1,be.2.1,be.d2,be.d3,be.d4,be.d5,be.d6,be.d7,zs,())) (L.b (c2 (24,b.1,b.d8,())) λbg=>JS (bg.1,bd.2.1,bd.d2,bd.d3,bd.d4,bd.d5,bd.d6,bd.d7,())))))
def q66(c0:nj)(c1:vm)(c2:qm)(c3:fU)(x:Y7):OZ Y4:=L.b (c0 (0,2,⟨true,([]:List Y1)⟩,x.1,x.2.1,x.d2,x.d3,x.d4,x.d5,x.d6,())) λb=>L.c (L.t b.1) (L.b (c3 (b.2.1,b.d2,b.d3,b.d4,b.d5,b.d6,b.d7,())) λd=>SZ d) (L.b (c1 (b.2.1,b.d2,b.d3,b.d4,b.d5,b.d6,b.d7,())) λe=>L.o (WT L c0 c2 c3) (e.1.2.1,e.2.1,e.d2,e.d3,e.d4,e.d5,e.d6,e.d7,⟨true,([]:List Sa)⟩,()))
def Me(self:fU)(x:Y7):OZ Y4:=q66 lf gR mz gS (CC self) x
def FA(c0:su)(c1:sw)(c2:fU)(x:Y7):OZ Y4:=L.c (L.t (L.e x.d6 0)) (SZ (⟨true,([]:List Y0)⟩,x.1,x.2.1,x.d2,x.d3,x.d4,x.d5,x.d6,())) (L.c (L.e x.d4 100) (L.b (c1 (x.d3,x.1,x.2.1,x.d2,x.d3,x.d4,x.d5,x.d6,())) λb=>L.b (c0 (b.1,73,b.2.1,b.d2,b.d3,b.d4,b.d5,b.d6,b.d7,())) λd=>SZ d) (L.b (c2 (x.1,x.2.1,x.d2,x.d3,L.a .i64 x.d4 1,x.d5,x.d6,())) λe=>SZ (e.s5 (L.u .i64 e.d5 1))))
def oe(self:fU)(x:Y7):OZ Y4:=FA lf mw my (Me self) x
def lF:=iA oe
def WU(c0:fU)(c1:ye)(x:vi):OZ Y4:=L.b (c1 (x.1,x.2.1,x.d2,x.d3,x.d4,x.d5,x.d6,x.d7,())) λb=>L.b (c0 b) λd=>SZ d
def AR(self:fU)(x:vi):OZ Y4:=WU lf self kK x
def WV(c1:fU)(c2:nj)(c4:vi->OZ Y4)(b:WD):OZ (WD⊕((WD⊕Y4))):=L.c (L.e b.d6 0) (L.b (c1 (b.1,b.2.1,b.d2,b.d3,b.d4,b.d5,b.d6,())) λd=>L.b (c4 (([45,62]:Y1),d.2.1,d.d2,d.d3,d.d4,d.d5,d.d6,d.d7,())) λe=>L.z b.d7 [d.1,e.1] λzz=>L.b (c2 (0,6,⟨false,([([124]:Y1)]:List Y1)⟩,e.2.1,e.d2,e.d3,e.d4,e.d5,e.d6,e.d7,())) λg=>L.c (L.t g.1) (JS (IZ (g.2.1,g.d2,g.d3,g.d4,g.d5,g.d6,g.d7,zz,()))) (IS (g.2.1,g.d2,g.d3,L.a .i64 g.d4 1,g.d5,g.d6,g.d7,zz,()))) (JS (IZ (b.1,b.2.1,b.d2,b.d3,b.d4,b.d5,b.d6,b.d7,())))
def q57(c0:fU)(c1:fU)(c2:nj)(c3:qm)(c4:vi->OZ Y4)(c5:ye)(x:Y7):OZ Y4:=L.b (c0 (x.1,x.2.1,x.d2,x.d3,x.d4,x.d5,x.d6,())) λb=>L.b (c5 (([119,105,116,104]:Y1),b.2.1,b.d2,b.d3,b.d4,b.d5,b.d6,b.d7,())) λd=>L.b (L.o (WV L c1 c2 c4) (d.1,d.2.1,d.d2,d.d3,d.d4,d.d5,d.d6,⟨false,([b.1]:List Sa)⟩,())) (L.cd λe=>L.b (c5 (([101,110,100]:Y1),e.1,e.2.1,e.d2,e.d3,e.d4,e.d5,e.d6,())) λg=>L.b (c3 (10,([]:Y1),e.d7,())) λh=>SZ (h.1,g.1,g.2.1,g.d2,g.d3,g.d4,g.d5,g.d6,()))
def Mg(self:fU)(x:Y7):OZ Y4:=q57 lf self lF gR gS (AR self) kK x
def WW(c0:fU)(c1:su)(c2:sw)(c3:ET)(c4:nj)(c5:vm)(c6:qm)(c7:ye)(c8:Y7->OZ EM)(c9:fU)(x:Y7):OZ Y4:=L.b (c8 (x.1,x.2.1,x.d2,x.d3,x.d4,x.d5,x.d6,())) λb=>L.c (L.t b.1) (L.b (c2 (b.d4,b.2.1,b.d2,b.d3,b.d4,b.d5,b.d6,b.d7,())) λd=>L.b (c1 (d.1,70,d.2.1,d.d2,d.d3,d.d4,d.d5,d.d6,d.d7,())) λe=>SZ e) (L.b (c5 (b.2.1,b.d2,b.d3,b.d4,b.d5,b.d6,b.d7,())) λg=>L.c (L.e g.1.1 3) (L.b (c3 ((1,([]:Y1),g.1.d2,0),⟨true,([]:List Sa)⟩,())) λh=>SZ (h.1,g.2.1,g.d2,g.d3,g.d4,g.d5,g.d6,g.d7,())) (L.c (L.e g.1.1 4) (L.b (c6 (2,g.1.2.1,⟨true,([]:List Sa)⟩,())) λi=>SZ (i.1,g.2.1,g.d2,g.d3,g.d4,g.d5,g.d6,g.d7,())) (L.c (L.e g.1.1 1) (L.b (c6 (3,g.1.2.1,⟨true,([]:List Sa)⟩,())) λj=>SZ (j.1,g.2.1,g.d2,g.d3,g.d4,g.d5,g.d6,g.d7,())) (L.c (L.e g.1.1 2) (L.b (c6 (4,g.1.2.1,⟨true,([]:List Sa)⟩,())) λk=>SZ (k.1,g.2.1,g.d2,g.d3,g.d4,g.d5,g.d6,g.d7,())) (L.c (L.h g.1.2.1 ([109,97,116,99,104]:Y1)) (L.b (c9 (g.2.1,g.d2,g.d3,g.d4,g.d5,g.d6,g.d7,())) λm=>SZ m) (L.b (c4 (0,5,⟨true,([]:List Y1)⟩,g.2.1,g.d2,g.d3,g.d4,g.d5,g.d6,g.d7,())) λn=>L.c n.1 (L.b (c5 (n.2.1,n.d2,n.d3,n.d4,n.d5,n.d6,n.d7,())) λo=>L.b (c6 (3,o.1.2.1,⟨true,([]:List Sa)⟩,())) λp=>L.b (c7 (([41]:Y1),o.2.1,o.d2,o.d3,o.d4,o.d5,o.d6,o.d7,())) λq=>SZ (p.1,q.1,q.2.1,q.d2,q.d3,q.d4,q.d5,q.d6,())) (L.b (c0 (n.2.1,n.d2,n.d3,n.d4,n.d5,n.d6,n.d7,())) λr=>L.b (c7 (([41]:Y1),r.2.1,r.d2,r.d3,r.d4,r.d5,r.d6,r.d7,())) λs=>SZ (r.1,s.1,s.2.1,s.d2,s.d3,s.d4,s.d5,s.d6,()))))))))
def DP(self:fU)(x:Y7):OZ Y4:=WW lf self mw my kt gR mz gS kK sJ (Mg self) x
def WX(c0:qm)(c1:fU)(c2:Y7->OZ EM)(b:Y4):OZ (Y4⊕Y4):=L.b (c2 (b.2.1,b.d2,b.d3,b.d4,b.d5,b.d6,b.d7,())) λd=>L.c d.1 (L.b (c1 (d.2.1,d.d2,d.d3,d.d4,d.d5,d.d6,d.d7,())) λe=>L.b (c0 (6,([]:Y1),⟨false,([b.1,e.1]:List Sa)⟩,())) λg=>IS (e.s0 g.1)) (JS (b.1,d.2.1,d.d2,d.d3,d.d4,d.d5,d.d6,d.d7,()))
def q67(c0:qm)(c1:fU)(c2:Y7->OZ EM)(x:Y7):OZ Y4:=L.b (c1 (x.1,x.2.1,x.d2,x.d3,x.d4,x.d5,x.d6,())) λb=>L.o (WX L c0 c1 c2) b
def FB(self:fU)(x:Y7):OZ Y4:=q67 lf gS (DP self) sJ x
def CD(x:AO):OZ uF:=bif x.1.nil&&x.1.l.isEmpty&&decide (0<=x.2.1)&&decide (x.2.1<=1000000) then SZ ((⟨decide (x.2.1=0),([]:Y1)⟩:Sl Int),()) else none
def q7b(b:(oK×Int×Int×Sd×Si)):OZ ((oK×Int×Int×Sd×Si)⊕(((oK×Int×oK×Int×Int×Si)⊕uF))):=L.c (L.l b.d2 b.2.1) (L.b (L.g b.1.l b.d2) λd=>L.w b.d3.l d.l (IS (b.1,b.2.1,L.a .i64 b.d2 1,⟨L.d b.d3.nil (L.i d.l),L.app b.d3.l d.l⟩,()))) (JS (JZ (b.d3,())))
def q7c(c0:AO->OZ uF)(k0:((oK×Int×Int×Sd×Si))->OZ ((oK×Int×Int×Sd×Si)⊕(((oK×Int×oK×Int×Int×Si)⊕uF))))(b:(oK×Int×oK×Int×Int×Si)):OZ ((oK×Int×oK×Int×Int×Si)⊕uF):=L.c (L.l b.d4 b.d3) (L.b (L.g b.d2.l b.d4) λd=>L.b (L.c (L.l (L.a .i64 b.2.1 (L.n d.l)) 0) none (SZ (b.s1 (L.a .i64 b.2.1 (L.n d.l))))) λe=>IS (e.s4 (L.a .i64 e.d4 1))) (L.b (c0 (⟨true,([]:Y1)⟩,b.2.1,())) λg=>L.o k0 (b.1,L.n b.1.l,0,g.1,()))
def R2(c0:AO->OZ uF)(x:oK×Si):OZ uF:=L.o (q7c L c0 (q7b L)) (x.1,0,x.1,L.n x.1.l,0,())
def FC:=R2 lf CD
def Mh(c0:(oK×Si)->OZ uF)(x:nh):OZ nh:=L.b (L.cj x.1.l (L.u .i64 (L.n x.1.l) 1)) λb=>L.b (L.nth x.1.l b) λd=>L.b (L.cj x.2.1.l (L.u .i64 (L.n x.2.1.l) 2)) λe=>L.b (L.nth x.2.1.l e) λg=>L.b (L.cj x.2.1.l (L.u .i64 (L.n x.2.1.l) 1)) λh=>L.b (L.nth x.2.1.l h) λi=>L.b (c0 (⟨false,([⟨false,([d]:Y1)⟩,g,i]:List Sd)⟩,())) λj=>L.b (L.dY (L.n x.1.l) (L.u .i64 (L.n x.1.l) 1)) λk=>L.b (L.b (L.dY (L.n x.2.1.l) (L.u .i64 (L.n x.2.1.l) 2)) λm=>L.c (L.e (L.u .i64 (L.n x.2.1.l) 2) (L.u .i64 (L.n x.2.1.l) 2)) (SZ m) none) λn=>L.b (L.w (L.aP x.2.1.l n) ([j.1]:List Sd) (L.c (L.i ([j.1]:List Sd)) none (SZ ()))) λ_=>SZ (⟨x.1.nil,L.aP x.1.l k⟩,⟨false,L.app (L.aP x.2.1.l n) ([j.1]:List Sd)⟩,())
def sK:=Mh lf FC
def qcb(c2:nh->OZ nh)(b:nh):OZ (nh⊕((Hh⊕I3))):=L.c (L.l 0 (L.n b.1.l)) (L.b (c2 (b.1,b.2.1,())) λd=>IS (d.1,d.2.1,())) (L.b (L.cj b.2.1.l 0) λe=>L.b (L.nth b.2.1.l e) λg=>JS (JZ (JZ (g,0,()))))
def qcc(c2:nh->OZ nh)(b:(Int×Int×Int×Y3×Y1×Int×Int×Sd×oK×Si)):OZ ((Int×Int×Int×Y3×Y1×Int×Int×Sd×oK×Si)⊕(((Int×Int×Int×Y3×Sd×oK×Si)⊕(Hh⊕I3)))):=L.c (L.l 0 (L.n b.d7.l)) (L.b (L.cj b.d7.l (L.u .i64 (L.n b.d7.l) 1)) λd=>L.b (L.nth b.d7.l d) λe=>L.b (L.cj b.d3.l e) λg=>L.b (L.nth b.d3.l g) λh=>L.c (L.l h.2.1 b.d5) (JS (IZ (b.1,b.2.1,b.d2,b.d3,b.d7,b.d8,()))) (L.b (L.c (L.l b.d5 h.2.1) (IS (b.1,b.2.1,b.d2,b.d3,b.d4,b.d5,b.d6,b.d7,b.d8,())) (L.b (L.r (L.t (L.e h.2.2 b.d6)) (SZ (L.e b.d6 0))) λi=>L.c i (JS (JZ (JZ (JZ (JZ (⟨true,([]:Y1)⟩,43,())))))) (L.c (L.l 0 b.d6) (JS (JZ (IZ (b.1,b.2.1,b.d2,b.d3,b.d7,b.d8,())))) (IS (b.1,b.2.1,b.d2,b.d3,b.d4,b.d5,b.d6,b.d7,b.d8,()))))) (L.cd λj=>L.b (c2 (j.d7,j.d8,())) λk=>IS (j.1,j.2.1,j.d2,j.d3,j.d4,j.d5,j.d6,k.1,k.2.1,())))) (JS (IZ (b.1,b.2.1,b.d2,b.d3,b.d7,b.d8,())))
def qcd(k0:((Int×Int×Int×Y3×Y1×Int×Int×Sd×oK×Si))->OZ ((Int×Int×Int×Y3×Y1×Int×Int×Sd×oK×Si)⊕(((Int×Int×Int×Y3×Sd×oK×Si)⊕(Hh⊕I3)))))(k1:(nh)->OZ (nh⊕((Hh⊕I3))))(b:Hh):OZ (Hh⊕(I3)):=L.c (L.l b.2.1 b.1) (L.b (L.cj b.d2.l b.2.1) λd=>L.b (L.nth b.d2.l d) λe=>L.b (L.o k0 (b.2.1,b.1,b.2.1,b.d2,e.1,e.2.1,e.2.2,b.d3,b.d4,())) (L.cd λg=>L.z g.d4 [g.1] λzz=>L.z g.d5 [⟨false,([L.u .i64 (-2) g.1]:Y1)⟩] λzy=>IS (g.2.1,L.a .i64 g.d2 1,g.d3,zz,zy,()))) (L.o k1 (b.d3,b.d4,()))
def qce(c1:(Y3×Y1×Si)->OZ BI)(k0:(Hh)->OZ (Hh⊕(I3)))(b:(Y3×Se×Int×Int×Y3×Si)):OZ I3:=L.c (L.l b.d3 b.d2) (L.b (L.g b.2.1.l b.d3) λd=>L.b (c1 (b.1,d,())) λe=>L.c (L.t e.2.1) (JS (⟨true,([]:Y1)⟩,42,())) (L.b (L.cj b.d4.l b.d3) λg=>L.b (L.b (L.nth b.d4.l g) λ_=>SZ (e.1.1,e.1.2.1,e.1.2.2)) λh=>IS ((b.s3 (L.a .i64 b.d3 1)).s4 ⟨b.d4.nil,L.kF b.d4.l g h⟩))) (L.o k0 (L.n b.d4.l,0,b.d4,⟨true,([]:Y1)⟩,⟨false,([⟨false,([(-1)]:Y1)⟩]:List Sd)⟩,()))
def R3(c0:ES)(c1:(Y3×Y1×Si)->OZ BI)(c2:nh->OZ nh)(x:Y3×Se×Si):OZ AO:=L.b (c0 (x.1,())) λb=>L.c (L.t (L.e b.1 0)) (SZ (⟨true,([]:Y1)⟩,b.1,())) (L.c (L.l 400 (L.n x.2.1.l)) (SZ (⟨true,([]:Y1)⟩,40,())) (L.b (L.wy (L.n x.2.1.l) (L.n x.2.1.l)) λd=>L.o (qce L c1 (qcd L (qcc L c2) (qcb L c2))) (x.1,x.2.1,L.n x.2.1.l,0,⟨false,L.rep d (([]:Y1),0,0)⟩,())))
def vI:=R3 lf iC o8 sK
def FD(c0:qm)(c1:EX)(x:Y91):OZ Y57:=L.b (L.g x.1.l x.2.1) λb=>L.c (L.l b 0) (L.b (L.g x.d2.l (L.u .i64 (-1) b)) λd=>SZ (d,x.1,L.a .i64 x.2.1 1,x.d2,x.d3,())) (L.b (L.g x.d3.l b) λe=>L.b (c0 (3,e,⟨true,([]:List Sa)⟩,())) λg=>L.b (c1 (x.1,L.a .i64 x.2.1 1,x.d2,x.d3,())) λh=>L.b (c0 (6,([]:Y1),⟨false,([g.1,h.1]:List Sa)⟩,())) λi=>L.b (c1 (h.2.1,h.d2,h.d3,h.d4,())) λj=>L.b (c0 (6,([]:Y1),⟨false,([i.1,j.1]:List Sa)⟩,())) λk=>SZ (j.s0 k.1))
def sL(self:EX)(x:Y91):OZ Y57:=FD lf gS self x
def CE:=iA sL
def WY(c0:(Se×Sa×Int×Y3×Int×Int×Int×Int×Si)->OZ G8)(c1:su)(c2:sw)(c3:nj)(c4:vm)(c5:fU)(c6:(Y3×Se×Si)->OZ AO)(c7:EX)(b:QQ):OZ (QQ⊕Y4):=L.b (c3 (0,5,⟨true,([]:List Y1)⟩,b.2.1,b.d2,b.d3,b.d4,b.d5,b.d6,b.d7,())) λd=>L.c d.1 (L.b (c2 (d.d4,d.2.1,d.d2,d.d3,d.d4,d.d5,d.d6,d.d7,())) λe=>L.z b.d8 [e.1] λzz=>L.b (c4 (e.2.1,e.d2,e.d3,e.d4,e.d5,e.d6,e.d7,())) λg=>L.z b.d10 [g.1.2.1] λzy=>L.b (c5 (g.2.1,g.d2,g.d3,g.d4,g.d5,g.d6,g.d7,())) λh=>L.z b.d9 [h.1] λzx=>IS (b.1,h.2.1,h.d2,h.d3,h.d4,h.d5,h.d6,h.d7,zz,zx,zy,())) (L.b (L.r (L.t (L.e d.d7 0)) (SZ (L.e (L.n b.d10.l) 0))) λi=>L.c i (L.b (L.cj b.d9.l 0) λj=>L.b (L.nth b.d9.l j) λk=>JS (k,d.2.1,d.d2,d.d3,d.d4,d.d5,d.d6,d.d7,())) (L.b (c0 (b.d10,d.2.1,d.d2,d.d3,d.d4,d.d5,d.d6,d.d7,())) λm=>L.c (L.m 0 m.1) (L.b (L.cj b.d8.l m.1) λn=>L.b (L.nth b.d8.l n) λo=>L.b (c1 (o,71,m.2.1,m.d2,m.d3,m.d4,m.d5,m.d6,m.d7,())) λp=>JS p) (L.b (c6 (m.d3,b.d10,())) λq=>L.c (L.t (L.e q.2.1 0)) (L.b (c1 (b.1,72,m.2.1,m.d2,m.d3,m.d4,m.d5,m.d6,m.d7,())) λr=>JS r) (L.b (c7 (q.1,0,b.d9,b.d10,())) λs=>JS (s.1,m.2.1,m.d2,m.d3,m.d4,m.d5,m.d6,m.d7,())))))
def q68(c0:(Se×Sa×Int×Y3×Int×Int×Int×Int×Si)->OZ G8)(c1:su)(c2:sw)(c3:nj)(c4:vm)(c5:fU)(c6:(Y3×Se×Si)->OZ AO)(c7:EX)(x:Y7):OZ Y4:=L.b (c2 (x.d3,x.1,x.2.1,x.d2,x.d3,x.d4,x.d5,x.d6,())) λb=>L.b (c5 (b.2.1,b.d2,b.d3,b.d4,b.d5,b.d6,b.d7,())) λd=>L.o (WY L c0 c1 c2 c3 c4 c5 c6 c7) (b.1,d.2.1,d.d2,d.d3,d.d4,d.d5,d.d6,d.d7,⟨true,([]:Y1)⟩,⟨false,([d.1]:List Sa)⟩,⟨true,([]:List Y1)⟩,())
def Mi(self:fU)(x:Y7):OZ Y4:=q68 lf CB mw my gR mz (FB self) vI CE x
def WZ(c0:fU)(c1:nj)(c2:fU)(c3:vm)(c4:Y7->OZ vi)(c5:qm)(c6:vi->OZ Y4)(c7:ye)(x:Y7):OZ Y4:=L.b (c1 (0,6,⟨false,([([102,117,110]:Y1),([108,101,116]:Y1),([105,102]:Y1),([114,97,105,115,101]:Y1),([116,114,121]:Y1)]:List Y1)⟩,x.1,x.2.1,x.d2,x.d3,x.d4,x.d5,x.d6,())) λb=>L.c (L.t b.1) (L.b (c2 (b.2.1,b.d2,b.d3,b.d4,b.d5,b.d6,b.d7,())) λd=>SZ d) (L.b (c3 (b.2.1,b.d2,b.d3,b.d4,b.d5,b.d6,b.d7,())) λe=>L.c (L.h e.1.2.1 ([102,117,110]:Y1)) (L.b (c4 (e.2.1,e.d2,e.d3,e.d4,e.d5,e.d6,e.d7,())) λg=>L.b (c6 (g.s0 ([45,62]:Y1))) λh=>L.b (c5 (5,g.1,⟨false,([h.1]:List Sa)⟩,())) λi=>SZ (h.s0 i.1)) (L.c (L.h e.1.2.1 ([108,101,116]:Y1)) (L.b (c1 (0,6,⟨false,([([114,101,99]:Y1)]:List Y1)⟩,e.2.1,e.d2,e.d3,e.d4,e.d5,e.d6,e.d7,())) λj=>L.b (L.c j.1 (SZ (8,j.2.1,j.d2,j.d3,L.a .i64 j.d4 1,j.d5,j.d6,j.d7,())) (SZ (7,j.2.1,j.d2,j.d3,j.d4,j.d5,j.d6,j.d7,()))) λk=>L.b (c4 (k.2.1,k.d2,k.d3,k.d4,k.d5,k.d6,k.d7,())) λm=>L.b (c6 (m.s0 ([61]:Y1))) λn=>L.b (c6 (([105,110]:Y1),n.2.1,n.d2,n.d3,n.d4,n.d5,n.d6,n.d7,())) λo=>L.b (c5 (k.1,m.1,⟨false,([n.1,o.1]:List Sa)⟩,())) λp=>SZ (o.s0 p.1)) (L.c (L.h e.1.2.1 ([105,102]:Y1)) (L.b (c0 (e.2.1,e.d2,e.d3,e.d4,e.d5,e.d6,e.d7,())) λq=>L.b (c6 (([116,104,101,110]:Y1),q.2.1,q.d2,q.d3,q.d4,q.d5,q.d6,q.d7,())) λr=>L.b (c6 (([101,108,115,101]:Y1),r.2.1,r.d2,r.d3,r.d4,r.d5,r.d6,r.d7,())) λs=>L.b (c5 (9,([]:Y1),⟨false,([q.1,r.1,s.1]:List Sa)⟩,())) λt=>SZ (s.s0 t.1)) (L.c (L.h e.1.2.1 ([114,97,105,115,101]:Y1)) (L.b (c0 (e.2.1,e.d2,e.d3,e.d4,e.d5,e.d6,e.d7,())) λu=>L.b (c5 (11,([]:Y1),⟨false,([u.1]:List Sa)⟩,())) λv=>SZ (u.s0 v.1)) (L.b (c0 (e.2.1,e.d2,e.d3,e.d4,e.d5,e.d6,e.d7,())) λw=>L.b (c7 (([119,105,116,104]:Y1),w.2.1,w.d2,w.d3,w.d4,w.d5,w.d6,w.d7,())) λy=>L.b (c4 y) λz=>L.b (c6 (z.s0 ([45,62]:Y1))) λbb=>L.b (c5 (12,z.1,⟨false,([w.1,bb.1]:List Sa)⟩,())) λbd=>SZ (bb.s0 bd.1))))))
def Hn(self:fU)(x:Y7):OZ Y4:=WZ lf self gR (Mi self) mz qE gS (AR self) kK x
def W0(c0:su)(c1:sw)(c2:fU)(x:Y7):OZ Y4:=L.c (L.t (L.e x.d6 0)) (SZ (⟨true,([]:List Y0)⟩,x.1,x.2.1,x.d2,x.d3,x.d4,x.d5,x.d6,())) (L.c (L.e x.d4 100) (L.b (c1 (x.d3,x.1,x.2.1,x.d2,x.d3,x.d4,x.d5,x.d6,())) λb=>L.b (c0 (b.1,73,b.2.1,b.d2,b.d3,b.d4,b.d5,b.d6,b.d7,())) λd=>SZ d) (L.b (c2 (x.1,x.2.1,x.d2,x.d3,L.a .i64 x.d4 1,x.d5,x.d6,())) λe=>SZ (e.s5 (L.u .i64 e.d5 1))))
def Ho(self:fU)(x:Y7):OZ Y4:=W0 lf mw my (Hn self) x
def FE(c0:fU)(x:Y7):OZ Y4:=L.b (c0 (x.1,x.2.1,x.d2,x.d3,x.d4,x.d5,x.d6,())) λb=>SZ b
def oh(self:fU)(x:Y7):OZ Y4:=FE lf (Ho self) x
def FF:=iA oh
def Mj(c0:ES)(c1:o6)(c2:fU)(c3:su)(c4:sw)(x:Y27):OZ vj:=L.b (c0 (x.d2,())) λb=>L.c (L.t (L.e b.1 0)) (SZ (⟨true,([]:List Y0)⟩,0,b.1,())) (L.b (c2 (x.1,x.2.1,x.d2,0,0,0,0,())) λd=>L.b (L.y (L.e d.d7 0) (SZ (L.l d.d4 (L.n x.1.l)))) λe=>L.b (L.c e (L.b (c4 (d.d4,d.2.1,d.d2,d.d3,d.d4,d.d5,d.d6,d.d7,())) λg=>L.b (c3 (g.1,70,g.2.1,g.d2,g.d3,g.d4,g.d5,g.d6,g.d7,())) λh=>SZ (h.s0 d.1)) (SZ (d.1,d.2.1,d.d2,d.d3,d.d4,d.d5,d.d6,d.d7,()))) λi=>L.c (L.t (L.e i.d7 0)) (SZ (⟨true,([]:List Y0)⟩,i.d6,i.d7,())) (L.b (c1 (i.1,())) λj=>L.c (L.t (L.e j.1 0)) (SZ (⟨true,([]:List Y0)⟩,0,74,())) (SZ (i.1,0,0,()))))
def oo:=Mj lf iC iU FF mw my
def Mk(c0:ES)(c1:(Y3×Y6×Si)->OZ OD)(c2:pH)(c3:(Y5×Si)->OZ Y8)(c4:I6)(c5:(Bool×Sa×Sa×Int×Bool×Se×Si)->OZ (Int×Int×Sa×Sa×Int×Bool×Se×Si))(c6:ql)(c7:oJ->OZ (Y6×Sa×Int×Bool×Se×Si))(c8:oJ->OZ QO)(c9:o7)(sF:oJ->OZ ER)(Lk:Y27->OZ vj)(x:Sa×Int×Y1×Y3×Se×Y3×Sc×Sg×Si):OZ (Int×Int×Y1×Y3×Se×Y3×Sc×Sg×Si):=L.c (L.e (L.n x.1.l) 0) (SZ (x.2.1,240,x.d2,x.d3,x.d4,x.d5,x.d6,x.d7,())) (L.b (L.g x.1.l 0) λb=>L.c (L.t (L.e b.1 6)) (L.b (L.g x.1.l 0) λd=>SZ (d.2.2.2,240,x.d2,x.d3,x.d4,x.d5,x.d6,x.d7,())) (L.b (L.g x.1.l 0) λe=>L.b (L.b (L.b (L.c (L.h e.2.1 ([111,112,101,110]:Y1)) (L.b (c6 (2,([]:Y1),x.1,L.a .i64 0 1,false,(⟨true,[]⟩:Sl Y1),())) λg=>L.z x.d4 [g.1.2.1] λzz=>L.b (c2 (g.1.2.1,())) λh=>L.b (c5 (L.t h.1,x.1,g.2.1,g.d2,g.d3,g.d4,())) λi=>JS (JZ (JZ (i.1,i.2.1,x.d2,x.d3,zz,x.d5,x.d6,x.d7,())))) (L.c (L.h e.2.1 ([105,110,102,105,120,108]:Y1)) (IS (x.d2,x.d3,x.1,x.d4,x.d5,x.d6,x.d7,x.1,0,false,(⟨true,[]⟩:Sl Y1),())) (L.c (L.h e.2.1 ([105,110,102,105,120,114]:Y1)) (IS (x.d2,x.d3,x.1,x.d4,x.d5,x.d6,x.d7,x.1,0,false,(⟨true,[]⟩:Sl Y1),())) (L.c (L.h e.2.1 ([105,110,102,105,120]:Y1)) (JS (IZ (x.d2,x.d3,x.1,x.d4,x.d5,x.d6,x.d7,x.1,0,false,(⟨true,[]⟩:Sl Y1),()))) (L.c (L.h e.2.1 ([116,121,112,101]:Y1)) (L.b (c8 (x.1,0,false,(⟨true,[]⟩:Sl Y1),())) λj=>L.z x.d6 [j.1] λzy=>L.b (c4 (zy,())) λk=>L.b (L.y (L.t (L.e k.1 0)) (SZ (L.t (L.e k.1 102)))) λm=>L.b (c5 (m,x.1,j.2.1,j.d2,j.d3,j.d4,())) λn=>JS (JZ (JZ (n.1,n.2.1,x.d2,x.d3,x.d4,x.d5,zy,x.d7,())))) (L.c (L.h e.2.1 ([108,101,116]:Y1)) (L.b (c9 (6,([114,101,99]:Y1),x.1,L.a .i64 0 1,false,(⟨true,[]⟩:Sl Y1),())) λo=>L.b (L.c o.1 (SZ (x.2.1,x.d2,x.d3,x.1,([]:Y1),o.1,x.d4,x.d5,x.d6,x.d7,o.2.1,L.a .i64 o.d2 1,o.d3,(⟨true,[]⟩:Sl Y0),o.d4,())) (SZ (x.2.1,x.d2,x.d3,x.1,([]:Y1),o.1,x.d4,x.d5,x.d6,x.d7,o.2.1,o.d2,o.d3,(⟨true,[]⟩:Sl Y0),o.d4,()))) λp=>L.b (sF (p.d10,p.d11,p.d12,p.d14,())) λq=>L.b (c6 (6,([61]:Y1),q.2.1,q.d2,q.d3,q.d4,())) λr=>L.c r.d3 (L.b (L.g p.d3.l 0) λs=>JS (JZ (JZ (s.2.2.2,240,p.2.1,p.d2,p.d6,p.d7,p.d8,p.d9,())))) (L.b (L.bS p.d3.l r.d2 (L.n p.d3.l)) λt=>L.b (Lk (⟨p.d3.nil,t⟩,p.1,p.d2,())) λu=>L.c (L.t (L.e u.d2 0)) (JS (JZ (JZ (u.2.1,u.d2,p.2.1,p.d2,p.d6,p.d7,p.d8,p.d9,())))) (L.z p.d9 [(q.1,p.d5,u.1)] λzx=>L.b (c3 ((q.1,p.d5,u.1),())) λv=>L.b (c5 (L.t v.1,p.d3,r.2.1,L.n p.d3.l,r.d3,r.d4,())) λw=>JS (JZ (JZ (w.1,w.2.1,p.2.1,p.d2,p.d6,p.d7,p.d8,zx,())))))) (JS (JZ (IZ (x.d2,x.d3,x.1,x.d4,x.d5,x.d6,x.d7,())))))))))) (L.cd λy=>IS y)) (L.cd λz=>L.b (c7 (z.d7,z.d8,z.d9,z.d10,())) λbb=>L.z z.d4 [(bb.1.1,bb.1.2.1,bb.1.2.2)] λzw=>L.b (c1 (z.2.1,(bb.1.1,bb.1.2.1,bb.1.2.2),())) λbd=>L.b (L.r (L.t (L.e bd.2.1 0)) (L.b (c0 (zw,())) λbe=>SZ (L.t (L.e be.1 0)))) λbg=>L.b (c5 (bg,z.d2,bb.2.1,bb.d2,bb.d3,bb.d4,())) λbh=>JS (bh.1,bh.2.1,z.1,bd.1,z.d3,zw,z.d5,z.d6,()))) (L.cd λbi=>L.b (L.g bi.d2.l 0) λbj=>SZ (bj.2.2.2,240,bi.1,bi.2.1,bi.d3,bi.d4,bi.d5,bi.d6,()))))
def yR:=Mk lf iC pf qw qx qy mu cH yN CA iV vH oo
def q9f(c0:(wL×Si)->OZ Y9)(c4:(Sa×Int×Y1×Y3×Se×Y3×Sc×Sg×Si)->OZ (Int×Int×Y1×Y3×Se×Y3×Sc×Sg×Si))(b:WB):OZ (WB⊕BK):=L.c (L.l b.d5 b.d4) (L.b (L.b (L.g b.d3.l b.d5) λd=>L.b (L.r (L.t (L.e d.1 6)) (SZ (L.t (L.h d.2.1 ([59,59]:Y1))))) λe=>L.c e (IS b) (L.b (L.bS b.2.1.l b.d2 b.d5) λg=>L.b (c4 (⟨b.2.1.nil,g⟩,d.2.2.2,b.d7,b.d8,b.d13,b.d14,b.d15,b.d16,())) λh=>L.c (L.t (L.e h.2.1 0)) (JS (JZ ((([]:Y1),⟨true,([]:List Y1)⟩,⟨true,([]:List Y6)⟩,⟨true,([]:List Y2)⟩,⟨true,([]:List Y5)⟩),h.1,h.2.1,()))) (IS (b.1,b.2.1,L.a .i64 b.d5 1,b.d3,b.d4,b.d5,b.d6,h.d2,h.d3,b.d9,b.d10,b.d11,b.d12,h.d4,h.d5,h.d6,h.d7,())))) (L.cd λi=>IS (i.s5 (L.a .i64 i.d5 1)))) (L.c (L.l b.d2 (L.n b.2.1.l)) (JS ((([]:Y1),⟨true,([]:List Y1)⟩,⟨true,([]:List Y6)⟩,⟨true,([]:List Y2)⟩,⟨true,([]:List Y5)⟩),L.n b.1,240,())) (L.b (c0 ((b.d7,b.d13,b.d14,b.d15,b.d16),())) λj=>L.c (L.t (L.e j.1 0)) (JS ((([]:Y1),⟨true,([]:List Y1)⟩,⟨true,([]:List Y6)⟩,⟨true,([]:List Y2)⟩,⟨true,([]:List Y5)⟩),0,j.1,())) (JS ((b.d7,b.d13,b.d14,b.d15,b.d16),0,0,()))))
def R4(c0:(wL×Si)->OZ Y9)(c1:ES)(c2:yc)(c3:dH->OZ vj)(c4:(Sa×Int×Y1×Y3×Se×Y3×Sc×Sg×Si)->OZ (Int×Int×Y1×Y3×Se×Y3×Sc×Sg×Si))(x:Y1×Y1×Y3×Si):OZ BK:=L.b (c1 (x.d2,())) λb=>L.c (L.t (L.e b.1 0)) (SZ ((([]:Y1),⟨true,([]:List Y1)⟩,⟨true,([]:List Y6)⟩,⟨true,([]:List Y2)⟩,⟨true,([]:List Y5)⟩),0,b.1,())) (L.c (L.l 262144 (L.n x.2.1)) (SZ ((([]:Y1),⟨true,([]:List Y1)⟩,⟨true,([]:List Y6)⟩,⟨true,([]:List Y2)⟩,⟨true,([]:List Y5)⟩),0,240,())) (L.b (c3 (x.2.1,())) λd=>L.c (L.t (L.e d.d2 0)) (SZ ((([]:Y1),⟨true,([]:List Y1)⟩,⟨true,([]:List Y6)⟩,⟨true,([]:List Y2)⟩,⟨true,([]:List Y5)⟩),d.2.1,d.d2,())) (L.b (c2 (x.d2,())) λe=>L.o (q9f L c0 c4) (x.2.1,d.1,0,d.1,L.n d.1.l,0,([]:Y1),x.1,e.1,⟨true,([]:List Y1)⟩,⟨true,([]:List Y6)⟩,⟨true,([]:List Y2)⟩,⟨true,([]:List Y5)⟩,⟨true,([]:List Y1)⟩,⟨true,([]:List Y6)⟩,⟨true,([]:List Y2)⟩,⟨true,([]:List Y5)⟩,()))))
def CF:=R4 lf o9 iC pe yM yR
def qkz(b:(Sa×Bool×Sa×Int×Int×Se×Si)):OZ ((Sa×Bool×Sa×Int×Int×Se×Si)⊕iL):=L.c (L.l b.d4 b.d3) (L.b (L.g b.d2.l b.d4) λd=>L.b (L.y b.2.1 (SZ (L.e d.1 6))) λe=>L.b (L.y e (SZ (L.h d.2.1 ([111,112,101,110]:Y1)))) λg=>L.b (L.y g (SZ (L.l (L.a .i64 b.d4 1) (L.n b.1.l)))) λh=>L.b (L.y h (L.b (L.g b.1.l (L.a .i64 b.d4 1)) λi=>SZ (L.e i.1 2))) λj=>L.b (L.c j (L.b (L.g b.1.l (L.a .i64 b.d4 1)) λk=>L.z b.d5 [k.2.1] λzz=>SZ (b.1,b.d2,b.d3,b.d4,zz,d.1,d.2.1,d.d2,d.2.2.2,())) (SZ (b.1,b.d2,b.d3,b.d4,b.d5,d.1,d.2.1,d.d2,d.2.2.2,()))) λm=>L.b (L.y (L.e m.d5 6) (SZ (L.h m.d6 ([59,59]:Y1)))) λn=>IS (m.1,n,m.2.1,m.d2,L.a .i64 m.d3 1,m.d4,())) (JS (b.d5,()))
def R5(c0:dH->OZ vj)(x:dH):OZ iL:=L.b (c0 (x.1,())) λb=>L.c (L.t (L.e b.d2 0)) (SZ (⟨true,([]:List Y1)⟩,())) (L.o (qkz L) (b.1,true,b.1,L.n b.1.l,0,⟨true,([]:List Y1)⟩,()))
def R6:=R5 lf yM
def qho(c0:(wL×Y3×Si)->OZ iK)(c1:(wL×Si)->OZ Y9)(c2:(Y1×Y1×Y3×Si)->OZ BK)(c3:dH->OZ iL)(_x:Si):OZ Y8:=L.b (c2 (([77]:Y1),([116,121,112,101,32,76,105,115,116,32,97,32,61,32,78,105,108,32,124,32,67,111,110,115,32,111,102,32,97,32,40,76,105,115,116,32,97,41,59,59,10,108,101,116,32,120,32,61,32,67,111,110,115,32,49,32,78,105,108,59,59,10]:Y1),⟨true,([]:List Y6)⟩,())) λb=>L.b (c0 ((b.1.1,b.1.2.1,b.1.d2,b.1.d3,b.1.2.2.2.2),⟨true,([]:List Y6)⟩,())) λd=>L.b (c2 (([77]:Y1),([108,101,116,32,120,32,61,32,49]:Y1),⟨true,([]:List Y6)⟩,())) λe=>L.b (c3 (([111,112,101,110,32,65,59,59]:Y1),())) λg=>L.b (L.y (L.e b.d2 0) (SZ (L.e b.2.1 0))) λh=>L.b (L.y h (SZ (L.e (L.n b.1.d3.l) 1))) λi=>L.b (L.y i (SZ (L.e (L.n b.1.2.2.2.2.l) 1))) λj=>L.b (L.y j (SZ (L.h d.1 ([116,121,112,101,32,76,105,115,116,32,97,32,61,32,78,105,108,32,124,32,67,111,110,115,32,111,102,32,97,32,40,76,105,115,116,32,97,41,59,59,10,108,101,116,32,120,32,61,32,67,111,110,115,32,49,32,78,105,108,59,59,10]:Y1)))) λk=>L.b (L.y k (SZ (L.e d.2.1 0))) λm=>L.b (L.y m (SZ (L.e e.d2 240))) λn=>L.b (L.y n (SZ (L.e e.2.1 9))) λo=>L.b (L.y o (SZ (L.e (L.n g.1.l) 1))) λp=>L.b (L.y p (L.b (L.g g.1.l 0) λq=>SZ (L.h q ([65]:Y1)))) λr=>L.b (L.y r (L.b (c1 ((b.1.1,b.1.2.1,b.1.d2,b.1.d3,b.1.2.2.2.2),())) λs=>SZ (L.e s.1 0))) λt=>SZ (t,())
def W1:=qho lf Cs o9 CF R6
def qcf(b:OD):OZ (OD⊕Y8):=L.b (L.y (L.l b.2.1 (L.n b.1.l)) (SZ (L.l b.2.1 21))) λd=>L.c d (L.b (L.g b.1.l b.2.1) λe=>L.c (L.l 20 (L.n e.1)) (JS (false,())) (IS (b.1,L.a .i64 b.2.1 1,()))) (JS (L.m (L.n b.1.l) 20,()))
def qnj(x:sj):OZ Y8:=L.o (qcf L) (x.1,0,())
def R7:=qnj lf
def qcg(x:sj):OZ sj:=L.w ([]:List Y6) x.1.l (SZ (⟨L.d false (L.i x.1.l),L.app ([]:List Y6) x.1.l⟩,()))
def R8:=qcg lf
def W2(c0:wO)(b:(Sa×Int×Int×Int×Si)):OZ ((Sa×Int×Int×Int×Si)⊕Y9):=L.b (L.g b.1.l b.2.1) λd=>L.c (L.l b.d3 d.2.2.2) (L.b (c0 (b.1,b.d2,())) λe=>L.c (L.l e.1 0) (JS ((-1),())) (IS (b.1,b.2.1,e.1,L.a .i64 b.d3 1,()))) (JS (b.d2,()))
def R9(c0:wO)(x:xY):OZ Y9:=L.b (L.r (L.l x.2.1 0) (SZ (L.m (L.n x.1.l) x.2.1))) λb=>L.b (L.r b (L.b (L.g x.1.l x.2.1) λd=>SZ (L.l d.2.2.2 0))) λe=>L.b (L.r e (L.b (L.g x.1.l x.2.1) λg=>SZ (L.l (L.n x.1.l) g.2.2.2))) λh=>L.c h (SZ ((-1),())) (L.o (W2 L c0) (x.1,x.2.1,L.a .i64 x.2.1 1,0,()))
def qF(self:wO)(x:xY):OZ Y9:=R9 lf self x
def FG:=iA qF
def qao(c0:wO)(b:(Sa×Int×Int×Int×Sd×Si)):OZ ((Sa×Int×Int×Int×Sd×Si)⊕uF):=L.b (L.g b.1.l b.2.1) λd=>L.c (L.l b.d3 d.2.2.2) (L.z b.d4 [b.d2] λzz=>L.b (c0 (b.1,b.d2,())) λe=>IS (b.1,b.2.1,e.1,L.a .i64 b.d3 1,zz,())) (JS (b.d4,()))
def aai(c0:wO)(x:xY):OZ uF:=L.b (c0 (x.1,x.2.1,())) λb=>L.c (L.l b.1 0) (SZ (⟨false,([]:Y1)⟩,())) (L.o (qao L c0) (x.1,x.2.1,L.a .i64 x.2.1 1,0,⟨false,([]:Y1)⟩,()))
def Sj:=aai lf FG
def qap(b:(Se×Se×Int×Si)):OZ ((Se×Se×Int×Si)⊕Y8):=L.c (L.l b.d2 (L.n b.1.l)) (L.b (L.g b.1.l b.d2) λd=>L.b (L.g b.2.1.l b.d2) λe=>L.c (L.t (L.h d e)) (JS (false,())) (IS (b.s2 (L.a .i64 b.d2 1)))) (JS (true,()))
def Sk(x:Se×Se×Si):OZ Y8:=L.c (L.t (L.e (L.n x.1.l) (L.n x.2.1.l))) (SZ (false,())) (L.o (qap L) (x.1,x.2.1,0,()))
def yS:=Sk lf
def qaq(b:(Sa×Sa×Int×Si)):OZ ((Sa×Sa×Int×Si)⊕Y8):=L.c (L.l b.d2 (L.n b.1.l)) (L.b (L.g b.1.l b.d2) λd=>L.b (L.g b.2.1.l b.d2) λe=>L.c (L.t (L.d (L.e d.1 e.1) (L.d (L.h d.2.1 e.2.1) (L.d (L.e d.d2 e.d2) (L.e d.2.2.2 e.2.2.2))))) (JS (false,())) (IS (b.s2 (L.a .i64 b.d2 1)))) (JS (true,()))
def Sn(x:Sa×Sa×Si):OZ Y8:=L.c (L.t (L.e (L.n x.1.l) (L.n x.2.1.l))) (SZ (false,())) (L.o (qaq L) (x.1,x.2.1,0,()))
def vJ:=Sn lf
def q9h(c0:(Sa×Sa×Si)->OZ Y8)(b:(fm×fm×Int×Si)):OZ ((fm×fm×Int×Si)⊕Y8):=L.c (L.l b.d2 (L.n b.1.l)) (L.b (L.g b.1.l b.d2) λd=>L.b (L.g b.2.1.l b.d2) λe=>L.b (c0 (d,e,())) λg=>L.c (L.t g.1) (JS (false,())) (IS (b.s2 (L.a .i64 b.d2 1)))) (JS (true,()))
def Sp(c0:(Sa×Sa×Si)->OZ Y8)(x:fm×fm×Si):OZ Y8:=L.c (L.t (L.e (L.n x.1.l) (L.n x.2.1.l))) (SZ (false,())) (L.o (q9h L c0) (x.1,x.2.1,0,()))
def vK:=Sp lf vJ
def q5m(c0:(fm×fm×Si)->OZ Y8)(b:AP):OZ (AP⊕((Hg⊕Y8))):=L.b (L.g b.1.l b.d2) λd=>L.c (L.l b.d3 (L.n d.2.2.l)) (L.b (L.g b.1.l b.d2) λe=>L.b (L.g e.2.2.l b.d3) λg=>L.b (L.g b.2.1.l b.d2) λh=>L.b (L.g h.2.2.l b.d3) λi=>L.c (L.t (L.h g.1 i.1)) (L.c true (JS (JZ (false,()))) (IS (b.1,b.2.1,b.d2,L.a .i64 b.d3 1,()))) (L.b (L.g b.1.l b.d2) λj=>L.b (L.g j.2.2.l b.d3) λk=>L.b (L.g b.2.1.l b.d2) λm=>L.b (L.g m.2.2.l b.d3) λn=>L.b (c0 (k.2,n.2,())) λo=>L.c (L.t o.1) (JS (JZ (false,()))) (IS (b.1,b.2.1,b.d2,L.a .i64 b.d3 1,())))) (JS (IZ (b.1,b.2.1,L.a .i64 b.d2 1,())))
def q9i(c0:(fm×fm×Si)->OZ Y8)(b:AP):OZ (AP⊕((Hg⊕Y8))):=L.b (L.g b.1.l b.d2) λd=>L.c (L.l b.d3 (L.n d.2.2.l)) (L.b (L.g b.1.l b.d2) λe=>L.b (L.g e.2.2.l b.d3) λg=>L.b (L.g b.2.1.l b.d2) λh=>L.b (L.g h.2.2.l b.d3) λi=>L.c (L.t (L.h g.1 i.1)) (L.c true (JS (JZ (false,()))) (IS (b.1,b.2.1,b.d2,L.a .i64 b.d3 1,()))) (L.b (L.g b.1.l b.d2) λj=>L.b (L.g j.2.2.l b.d3) λk=>L.b (L.g b.2.1.l b.d2) λm=>L.b (L.g m.2.2.l b.d3) λn=>L.b (c0 (k.2,n.2,())) λo=>L.c (L.t o.1) (JS (JZ (false,()))) (IS (b.1,b.2.1,b.d2,L.a .i64 b.d3 1,())))) (JS (IZ (b.1,b.2.1,L.a .i64 b.d2 1,())))
def q9j(c0:(fm×fm×Si)->OZ Y8)(b:AP):OZ (AP⊕((Hg⊕Y8))):=L.b (L.g b.1.l b.d2) λd=>L.c (L.l b.d3 (L.n d.2.2.l)) (L.b (L.g b.1.l b.d2) λe=>L.b (L.g e.2.2.l b.d3) λg=>L.b (L.g b.2.1.l b.d2) λh=>L.b (L.g h.2.2.l b.d3) λi=>L.c (L.t (L.h g.1 i.1)) (L.c true (JS (JZ (false,()))) (IS (b.1,b.2.1,b.d2,L.a .i64 b.d3 1,()))) (L.b (L.g b.1.l b.d2) λj=>L.b (L.g j.2.2.l b.d3) λk=>L.b (L.g b.2.1.l b.d2) λm=>L.b (L.g m.2.2.l b.d3) λn=>L.b (c0 (k.2,n.2,())) λo=>L.c (L.t o.1) (JS (JZ (false,()))) (IS (b.1,b.2.1,b.d2,L.a .i64 b.d3 1,())))) (JS (IZ (b.1,b.2.1,L.a .i64 b.d2 1,())))
def q5n(k0:(AP)->OZ (AP⊕((Hg⊕Y8))))(k1:(AP)->OZ (AP⊕((Hg⊕Y8))))(k2:(AP)->OZ (AP⊕((Hg⊕Y8))))(b:Hg):OZ (Hg⊕Y8):=L.c (L.l b.d2 (L.n b.1.l)) (L.b (L.g b.1.l b.d2) λd=>L.b (L.g b.2.1.l b.d2) λe=>L.c (L.t (L.h d.1 e.1)) (L.c true (JS (false,())) (L.o k0 (b.1,b.2.1,b.d2,0,()))) (L.b (L.g b.1.l b.d2) λg=>L.b (L.g b.2.1.l b.d2) λh=>L.c (L.t (L.e g.2.1 h.2.1)) (L.c true (JS (false,())) (L.o k1 (b.1,b.2.1,b.d2,0,()))) (L.b (L.g b.1.l b.d2) λi=>L.b (L.g b.2.1.l b.d2) λj=>L.c (L.t (L.e (L.n i.2.2.l) (L.n j.2.2.l))) (JS (false,())) (L.o k2 (b.1,b.2.1,b.d2,0,()))))) (JS (true,()))
def Sq(c0:(fm×fm×Si)->OZ Y8)(x:Sc×Sc×Si):OZ Y8:=L.c (L.t (L.e (L.n x.1.l) (L.n x.2.1.l))) (SZ (false,())) (L.o (q5n L (q9j L c0) (q9i L c0) (q5m L c0)) (x.1,x.2.1,0,()))
def yT:=Sq lf vK
def qar(c2:(Sa×Sa×Si)->OZ Y8)(b:G9):OZ (G9⊕((G9⊕Y8))):=L.c (L.l b.1 (L.n b.d5.l)) (L.b (L.g b.d5.l b.1) λd=>L.b (L.g b.d10.l b.1) λe=>L.c (L.t (L.h d.1 e.1)) (L.c true (JS (JZ (false,()))) (IS (b.s0 (L.a .i64 b.1 1)))) (L.b (L.g b.d5.l b.1) λg=>L.b (L.g b.d10.l b.1) λh=>L.c (L.t (L.ga g.2.1 h.2.1)) (L.c true (JS (JZ (false,()))) (IS (b.s0 (L.a .i64 b.1 1)))) (L.b (L.g b.d5.l b.1) λi=>L.b (L.g b.d10.l b.1) λj=>L.b (c2 (i.2.2,j.2.2,())) λk=>L.c (L.t k.1) (JS (JZ (false,()))) (IS (b.s0 (L.a .i64 b.1 1)))))) (JS (JZ (true,())))
def qas(k0:(G9)->OZ (G9⊕((G9⊕Y8))))(b:G9):OZ (G9⊕Y8):=L.c (L.l b.1 (L.n b.d3.l)) (L.b (L.g b.d3.l b.1) λd=>L.b (L.g b.d8.l b.1) λe=>L.c (L.t (L.d (L.h d.1 e.1) (L.d (L.e d.2.1 e.2.1) (L.e d.2.2 e.2.2)))) (JS (false,())) (IS (b.s0 (L.a .i64 b.1 1)))) (L.o k0 (b.s0 0))
def Sr(c0:(Se×Se×Si)->OZ Y8)(c1:(Sc×Sc×Si)->OZ Y8)(c2:(Sa×Sa×Si)->OZ Y8)(x:wL×wL×Si):OZ Y8:=L.b (L.r (L.t (L.h x.1.1 x.2.1.1)) (L.b (c0 (x.1.2.1,x.2.1.2.1,())) λb=>SZ (L.t b.1))) λd=>L.b (L.r d (SZ (L.t (L.e (L.n x.1.d2.l) (L.n x.2.1.d2.l))))) λe=>L.b (L.r e (L.b (c1 (x.1.d3,x.2.1.d3,())) λg=>SZ (L.t g.1))) λh=>L.b (L.r h (SZ (L.t (L.e (L.n x.1.2.2.2.2.l) (L.n x.2.1.2.2.2.2.l))))) λi=>L.c i (SZ (false,())) (L.o (qas L (qar L c2)) (0,x.1.1,x.1.2.1,x.1.d2,x.1.d3,x.1.2.2.2.2,x.2.1.1,x.2.1.2.1,x.2.1.d2,x.2.1.d3,x.2.1.2.2.2.2,()))
def yU:=Sr lf yS yT vJ
def q8b(c0:Si->OZ Y8)(c1:QR)(c2:(wL×Y3×Si)->OZ iK)(c3:yc)(c4:(wL×Si)->OZ Y9)(c5:(Y1×Y1×Y3×Si)->OZ BK)(c6:(wL×wL×Si)->OZ Y8)(x:Y1×Y1×Y3×Si):OZ Y8:=L.b (c0 ()) λb=>L.b (L.r (L.t b.1) (SZ (L.l 100 (L.n x.1)))) λd=>L.b (L.r d (SZ (L.l 600 (L.n x.2.1)))) λe=>L.b (L.r e (L.b (c1 (x.d2,())) λg=>SZ (L.t g.1))) λh=>L.c h (L.b (c0 ()) λi=>SZ (i.1,())) (L.b (c3 (x.d2,())) λj=>L.b (c5 (x.1,x.2.1,j.1,())) λk=>L.c (L.t (L.e k.d2 0)) (L.b (c6 ((k.1.1,k.1.2.1,k.1.d2,k.1.d3,k.1.2.2.2.2),(([]:Y1),⟨true,([]:List Y1)⟩,⟨true,([]:List Y6)⟩,⟨true,([]:List Y2)⟩,⟨true,([]:List Y5)⟩),())) λm=>SZ (m.1,())) (L.b (c3 (x.d2,())) λn=>L.b (c2 ((k.1.1,k.1.2.1,k.1.d2,k.1.d3,k.1.2.2.2.2),n.1,())) λo=>L.b (c3 (x.d2,())) λp=>L.b (c5 (x.1,o.1,p.1,())) λq=>L.b (c4 ((k.1.1,k.1.2.1,k.1.d2,k.1.d3,k.1.2.2.2.2),())) λr=>L.b (L.y (L.e r.1 0) (SZ (L.h k.1.1 x.1))) λs=>L.b (L.y s (L.r (L.t (L.e o.2.1 0)) (L.y (L.e q.d2 0) (L.b (c6 ((k.1.1,k.1.2.1,k.1.d2,k.1.d3,k.1.2.2.2.2),(q.1.1,q.1.2.1,q.1.d2,q.1.d3,q.1.2.2.2.2),())) λt=>SZ t.1)))) λu=>SZ (u,())))
def cq:=q8b lf W1 R7 Cs R8 o9 CF yU
end
end Fn
end Ev