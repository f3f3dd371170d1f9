/- The functions of this seat as data: bodies. -/
import Derived.Test.YtdgmbemagoakjaaGreatDoorEvI
abbrev Prod.d2{T0 T1 T2 T3:Type}(x:T0×T1×T2×T3):T2:=x.2.2.1
abbrev Prod.d3{T0 T1 T2 T3 T4:Type}(x:T0×T1×T2×T3×T4):T3:=x.2.2.2.1
abbrev Prod.d4{T0 T1 T2 T3 T4 T5:Type}(x:T0×T1×T2×T3×T4×T5):T4:=x.2.2.2.2.1
abbrev Prod.d5{T0 T1 T2 T3 T4 T5 T6:Type}(x:T0×T1×T2×T3×T4×T5×T6):T5:=x.2.2.2.2.2.1
abbrev Prod.d6{T0 T1 T2 T3 T4 T5 T6 T7:Type}(x:T0×T1×T2×T3×T4×T5×T6×T7):T6:=x.2.2.2.2.2.2.1
abbrev Prod.d7{T0 T1 T2 T3 T4 T5 T6 T7 T8:Type}(x:T0×T1×T2×T3×T4×T5×T6×T7×T8):T7:=x.2.2.2.2.2.2.2.1
abbrev Prod.d8{T0 T1 T2 T3 T4 T5 T6 T7 T8 T9:Type}(x:T0×T1×T2×T3×T4×T5×T6×T7×T8×T9):T8:=x.2.2.2.2.2.2.2.2.1
abbrev Prod.d9{T0 T1 T2 T3 T4 T5 T6 T7 T8 T9 qz:Type}(x:T0×T1×T2×T3×T4×T5×T6×T7×T8×T9×qz):T9:=x.2.2.2.2.2.2.2.2.2.1
abbrev Prod.d10{T0 T1 T2 T3 T4 T5 T6 T7 T8 T9 qz xI:Type}(x:T0×T1×T2×T3×T4×T5×T6×T7×T8×T9×qz×xI):qz:=x.2.2.2.2.2.2.2.2.2.2.1
abbrev Prod.d11{T0 T1 T2 T3 T4 T5 T6 T7 T8 T9 qz xI BE:Type}(x:T0×T1×T2×T3×T4×T5×T6×T7×T8×T9×qz×xI×BE):xI:=x.2.2.2.2.2.2.2.2.2.2.2.1
abbrev Prod.d12{T0 T1 T2 T3 T4 T5 T6 T7 T8 T9 qz xI BE FN:Type}(x:T0×T1×T2×T3×T4×T5×T6×T7×T8×T9×qz×xI×BE×FN):BE:=x.2.2.2.2.2.2.2.2.2.2.2.2.1
abbrev Prod.d13{T0 T1 T2 T3 T4 T5 T6 T7 T8 T9 qz xI BE FN KO:Type}(x:T0×T1×T2×T3×T4×T5×T6×T7×T8×T9×qz×xI×BE×FN×KO):FN:=x.2.2.2.2.2.2.2.2.2.2.2.2.2.1
abbrev Prod.d14{T0 T1 T2 T3 T4 T5 T6 T7 T8 T9 qz xI BE FN KO Rb:Type}(x:T0×T1×T2×T3×T4×T5×T6×T7×T8×T9×qz×xI×BE×FN×KO×Rb):KO:=x.2.2.2.2.2.2.2.2.2.2.2.2.2.2.1
abbrev Prod.d15{T0 T1 T2 T3 T4 T5 T6 T7 T8 T9 qz xI BE FN KO Rb XU:Type}(x:T0×T1×T2×T3×T4×T5×T6×T7×T8×T9×qz×xI×BE×FN×KO×Rb×XU):Rb:=x.2.2.2.2.2.2.2.2.2.2.2.2.2.2.2.1
abbrev Prod.d16{T0 T1 T2 T3 T4 T5 T6 T7 T8 T9 qz xI BE FN KO Rb XU T17:Type}(x:T0×T1×T2×T3×T4×T5×T6×T7×T8×T9×qz×xI×BE×FN×KO×Rb×XU×T17):XU:=x.2.2.2.2.2.2.2.2.2.2.2.2.2.2.2.2.1
abbrev Prod.s0{T0 T1:Type}(x:T0×T1)(v:T0):T0×T1:=(v,x.2)
abbrev Prod.s1{T0 T1 T2:Type}(x:T0×T1×T2)(v:T1):T0×T1×T2:=(x.1,v,x.2.2)
abbrev Prod.s2{T0 T1 T2 T3:Type}(x:T0×T1×T2×T3)(v:T2):T0×T1×T2×T3:=(x.1,x.2.1,v,x.2.2.2)
abbrev Prod.s3{T0 T1 T2 T3 T4:Type}(x:T0×T1×T2×T3×T4)(v:T3):T0×T1×T2×T3×T4:=(x.1,x.2.1,x.2.2.1,v,x.2.2.2.2)
abbrev Prod.s4{T0 T1 T2 T3 T4 T5:Type}(x:T0×T1×T2×T3×T4×T5)(v:T4):T0×T1×T2×T3×T4×T5:=(x.1,x.2.1,x.2.2.1,x.2.2.2.1,v,x.2.2.2.2.2)
abbrev Prod.s5{T0 T1 T2 T3 T4 T5 T6:Type}(x:T0×T1×T2×T3×T4×T5×T6)(v:T5):T0×T1×T2×T3×T4×T5×T6:=(x.1,x.2.1,x.2.2.1,x.2.2.2.1,x.2.2.2.2.1,v,x.2.2.2.2.2.2)
abbrev Prod.s6{T0 T1 T2 T3 T4 T5 T6 T7:Type}(x:T0×T1×T2×T3×T4×T5×T6×T7)(v:T6):T0×T1×T2×T3×T4×T5×T6×T7:=(x.1,x.2.1,x.2.2.1,x.2.2.2.1,x.2.2.2.2.1,x.2.2.2.2.2.1,v,x.2.2.2.2.2.2.2)
abbrev Prod.s7{T0 T1 T2 T3 T4 T5 T6 T7 T8:Type}(x:T0×T1×T2×T3×T4×T5×T6×T7×T8)(v:T7):T0×T1×T2×T3×T4×T5×T6×T7×T8:=(x.1,x.2.1,x.2.2.1,x.2.2.2.1,x.2.2.2.2.1,x.2.2.2.2.2.1,x.2.2.2.2.2.2.1,v,x.2.2.2.2.2.2.2.2)
abbrev Prod.s8{T0 T1 T2 T3 T4 T5 T6 T7 T8 T9:Type}(x:T0×T1×T2×T3×T4×T5×T6×T7×T8×T9)(v:T8):T0×T1×T2×T3×T4×T5×T6×T7×T8×T9:=(x.1,x.2.1,x.2.2.1,x.2.2.2.1,x.2.2.2.2.1,x.2.2.2.2.2.1,x.2.2.2.2.2.2.1,x.2.2.2.2.2.2.2.1,v,x.2.2.2.2.2.2.2.2.2)
abbrev Prod.s9{T0 T1 T2 T3 T4 T5 T6 T7 T8 T9 qz:Type}(x:T0×T1×T2×T3×T4×T5×T6×T7×T8×T9×qz)(v:T9):T0×T1×T2×T3×T4×T5×T6×T7×T8×T9×qz:=(x.1,x.2.1,x.2.2.1,x.2.2.2.1,x.2.2.2.2.1,x.2.2.2.2.2.1,x.2.2.2.2.2.2.1,x.2.2.2.2.2.2.2.1,x.2.2.2.2.2.2.2.2.1,v,x.2.2.2.2.2.2.2.2.2.2)
set_option linter.defProp false
namespace Ev
open Go
abbrev Lf.r(L:Lf)(c:Bool)(y:Option Bool):Option Bool:=L.c c (some true) y
abbrev Lf.y(L:Lf)(c:Bool)(y:Option Bool):Option Bool:=L.c c y (some false)
abbrev Lf.w(L:Lf){α β γ:Type}(a:List α)(b:List β)(k:Option γ):Option γ:=L.b (L.f (L.s (L.n a) (L.n b))) λ_=>k
abbrev Lf.z(L:Lf){α γ:Type}(a:Sl α)(b:List α)(k:Sl α->Option γ):Option γ:=L.b (L.f (L.s (L.n a.l) (L.n b))) λ_=>k ⟨L.d a.nil (L.i b),L.app a.l b⟩
abbrev Lf.v(L:Lf){α:Type}(a:Sl α)(b:List α):Sl α:=⟨L.d a.nil (L.i b),L.app a.l b⟩
namespace Fn
noncomputable section
abbrev OZ:Type->Type:=Option
abbrev AZ:List Int:=[0,0,0,0,0,0,0,0,0,1,1,1,1,1,0,0,0,0,0,0,0,0,0,0,0,0,0,0,0,0,0,0,1,0,0,0,0,0,0,0,0,0,0,0,0,0,0,0,0,0,0,0,0,0,0,0,0,0,0,0,0,0,0,0,0,0,0,0,0,0,0,0,0,0,0,0,0,0,0,0,0,0,0,0,0,0,0,0,0,0,0,0,0,0,0,0,0,0,0,0,0,0,0,0,0,0,0,0,0,0,0,0,0,0,0,0,0,0,0,0,0,0,0,0,0,0,0,0,0,0,0,0,0,0,0,0,0,0,0,0,0,0,0,0,0,0,0,0,0,0,0,0,0,0,0,0,0,0,0,0,0,0,0,0,0,0,0,0,0,0,0,0,0,0,0,0,0,0,0,0,0,0,0,0,0,0,0,0,0,0,0,0,0,0,0,0,0,0,0,0,0,0,0,0,0,0,0,0,0,0,0,0,0,0,0,0,0,0,0,0,0,0,0,0,0,0,0,0,0,0,0,0,0,0,0,0,0,0,0,0,0,0,0,0,0,0,0,0,0,0,0,0,0,0,0,0]
abbrev SZ{α:Type}(a:α):OZ α:=some a
abbrev IZ{α β:Type}(a:α):α⊕β:=.inl a
abbrev JZ{α β:Type}(a:β):α⊕β:=.inr a
abbrev Y1:Type:=List Int
abbrev Y0:Type:=Int×Y1×Int×Int
abbrev GG:Type:=Y1×Sl (Sl Y0)
abbrev Y2:Type:=Y1×Int×Sl GG
abbrev Y6:Type:=Y1×Int×Int
abbrev Y3:Type:=Sl Y6
abbrev Y4:Type:=(Sl Y0)×(Sl Y0)×Int×Y3×Int×Int×Int×Int×Unit
abbrev Y5:Type:=Y1×Bool×Sl Y0
abbrev Y7:Type:=(Sl Y0)×Int×Y3×Int×Int×Int×Int×Unit
abbrev Y8:Type:=Bool×Unit
abbrev Y9:Type:=Int×Unit
abbrev dA:Type:=(Sl Y0)×Unit
abbrev fL:Type:=Sl GG
abbrev fO:Type:=Y3×Y1×Y1×Int×Y1×(Sl Y1)×Y3×(Sl Y2)×(Sl Y5)×Unit
abbrev eK:Type:=Sl (Sl Y0)
abbrev jP:Type:=(Sl Y0)×Int×Unit
abbrev ch:Type:=Y1×Unit
abbrev fB:Type:=Int×Y1×(Sl Y1)×Y3×(Sl Y2)×(Sl Y5)×Unit
abbrev oK:Type:=(Sl Y0)×(Sl Y0)×Y3×Unit
abbrev sq:Type:=Y1×(Sl Y1)×Y3×(Sl Y2)×Sl Y5
abbrev KP:Type:=Int×(Sl Y0)×Int×Y3×Int×Int×Int×Int×Unit
abbrev Mk:Type:=(Sl Y0)×(Sl Y0)×Int×Bool×(Sl Y1)×Unit
abbrev GH:Type:=Bool×(Sl Y0)×Int×Y3×Int×Int×Int×Int×Unit
abbrev vY:Type:=Sl (Y1×Int)
abbrev jQ:Type:=Y1×Sl Y0
abbrev nq:Type:=Int×Y1×vY×(Sl Y2)×Y3×(Sl jQ)×Unit
abbrev XV:Type:=Int×Y1×(Sl Y0)×Int×Bool×(Sl Y1)×Unit
abbrev oz:Type:=(Sl Y0)×Int×Bool×(Sl Y1)×Unit
abbrev vZ:Type:=Nat×Nat
abbrev Ck:Type:=Int×Bool×vZ×Int×(Sl Int)×Unit
abbrev y6:Type:=Y1×(Sl Y0)×Int×Y3×Int×Int×Int×Int×Unit
abbrev su:Type:=(Sl Y0)×Int×Y3×Unit
abbrev Y28:Type:=Int×Int×(Sl Y1)×(Sl Y0)×Int×Y3×Int×Int×Int×Int×Unit
abbrev GI:Type:=Int×(Sl Y0)×Y3×Unit
abbrev eT:Type:=Y1×Int×Unit
abbrev fo:Type:=(Sl Y1)×Unit
abbrev qA:Type:=Bool×vZ×Int×(Sl Int)×Unit
abbrev jV:Type:=(Sl Y2)×(Sl Y1)×Int×Unit
abbrev pI:Type:=(Sl Int)×Unit
abbrev S5:Type:=Bool×(Sl Y0)×Int×Bool×(Sl Y1)×Unit
abbrev sv:Type:=(Sl Y0)×Int×Int×Unit
abbrev Y37:Type:=(Sl Y0)×Int×Int×Bool×Bool×vZ×Int×(Sl Int)×Unit
abbrev kX:Type:=Bool×(Sl Y2)×Unit
abbrev Y40:Type:=Int×Int×(Sl Y0)×Int×Y3×Int×Int×Int×Int×Unit
abbrev KQ:Type:=Y3×(Sl Y1)×Int×Int×Y1×(Sl Y1)×Y3×(Sl Y2)×(Sl Y5)×Bool×(Sl Int)×Unit
abbrev Y43:Type:=Y0×(Sl Y0)×Int×Y3×Int×Int×Int×Int×Unit
abbrev rL:Type:=Y3×Unit
abbrev Y45:Type:=Y0×(Sl Y0)×Int×Bool×(Sl Y1)×Unit
abbrev KR:Type:=(Sl Y0)×Int×Bool×Unit
abbrev oA:Type:=Sl (Sl Int)
abbrev KS:Type:=(Sl Y0)×Int×Bool×Y1×Int×Y1×Int×(Sl Y1)×fL×fL×Unit
abbrev kY:Type:=(Sl Y2)×Int×Unit
abbrev KT:Type:=Y3×Y1×Y1×Int×Int×Y1×(Sl Y1)×Y3×(Sl Y2)×(Sl Y5)×Y1×Int×fL×Unit
abbrev v7:Type:=Int×Y1×Int×fL×Unit
abbrev XW:Type:=Int×Int×Int×Y1×Int×Int×(Sl Y0)×Bool×vZ×Int×(Sl Int)×Unit
abbrev rM:Type:=(Sl Y2)×Int×Int×Unit
abbrev KU:Type:=Y3×Y3×Int×Int×Y1×(Sl Y1)×Y3×(Sl Y2)×(Sl Y5)×Bool×(Sl Int)×Unit
abbrev FO:Type:=(Sl Y2)×Int×Int×(Sl Y2)×Unit
abbrev y7:Type:=Bool×Y1×Int×fL×Unit
abbrev Y57:Type:=(Sl Y0)×(Sl Int)×Int×eK×(Sl Y1)×Unit
abbrev rN:Type:=Y6×Bool×Unit
abbrev y8:Type:=Int×Int×Unit
abbrev oL:Type:=Bool×(Sl Int)×Unit
abbrev v8:Type:=(Sl Int)×Int×Unit
abbrev Ml:Type:=(Y3×(Sl Y1)×Int×Int×Y3×Unit)⊕v8
abbrev xJ:Type:=(Sl Y2)×Int×Int×Int×Unit
abbrev Rc:Type:=Y3×Y1×Y1×Int×Y1×Int×Y1×(Sl Y1)×Y3×(Sl Y2)×(Sl Y5)×Y1×Int×fL×Unit
abbrev Re:Type:=Y3×(Sl Y2)×Int×Int×Y1×(Sl Y1)×Y3×(Sl Y2)×(Sl Y5)×Bool×(Sl Int)×Unit
abbrev Y67:Type:=Y0×eK×Unit
abbrev S6:Type:=eK×(Sl Y0)×Int×Bool×(Sl Y1)×Unit
abbrev KV:Type:=Int×(Sl Y0)×Int×Int×(Sl Int)×Unit
abbrev KW:Type:=Int×Int×Y1×(Sl Y1)×Y3×(Sl Y2)×(Sl Y5)×Unit
abbrev KX:Type:=Int×(Sl Y2)×Int×Int×Int×Int×(Sl Y2)×Unit
abbrev BF:Type:=Y1×Int×Int×(Sl Y1)×Unit
abbrev Y73:Type:=(Sl Y0)×Int×Int×Int×Int×Unit
abbrev FP:Type:=((Sl Y0)×Sl Y6)×Int×Unit
abbrev Y75:Type:=(Sl Y0)×Int×Bool×(Sl Y0)×Unit
abbrev KY:Type:=eK×Unit
abbrev KZ:Type:=Y0×Unit
abbrev xK:Type:=Int×Bool×(Sl Int)×Unit
abbrev Y79:Type:=(Sl Y0)×Int×Bool×Bool×Unit
abbrev Y80:Type:=Y1×(Sl Y0)×Int×(Sl Y0)×Int×Int×Y1×Y1×Y3×(Sl Y1)×Y3×(Sl Y2)×(Sl Y5)×(Sl Y1)×Y3×(Sl Y2)×(Sl Y5)×Unit
abbrev K0:Type:=Y1×Int×Int×Int×Int×Unit
abbrev xL:Type:=Y3×Int×Unit
abbrev S7:Type:=Y2×(Sl Y0)×Int×Bool×(Sl Y1)×Unit
abbrev Y85:Type:=Int×Y1×eK×Unit
abbrev Rf:Type:=Y1×Int×Int×Y1×Int×fL×Unit
abbrev K1:Type:=Int×Int×Y3×(Sl Int)×oA×Unit
abbrev K2:Type:=Bool×Int×Int×Unit
abbrev Rg:Type:=(Sl Y1)×Y1×Unit
abbrev Y91:Type:=(Sl Int)×Int×eK×(Sl Y1)×Unit
abbrev K3:Type:=Y1×Int×Int×Int×(Sl Y1)×Unit
abbrev XX:Type:=(Sl Y0)×Int×Int×(Sl Int)×Unit
abbrev Y94:Type:=(Sl Y0)×Int×Y3×Int×Int×Int×Int×eK×Unit
abbrev Rh:Type:=Y3×Int×Y1×Int×Int×Y3×Unit
abbrev K4:Type:=(Sl Y2)×(Sl Y1)×Int×Int×Unit
abbrev S8:Type:=(Sl Y0)×Y1×(Sl Int)×Int×Unit
abbrev XY:Type:=(Sl Y2)×Y1×(Sl Y2)×Int×Int×Int×Int×Unit
abbrev Y99:Type:=Int×Bool×Int×Int×Int×Int×Int×Y1×Int×Int×(Sl Y0)×Bool×vZ×Int×(Sl Int)×Unit
abbrev y9:Type:=Int×Y1×Int×Unit
abbrev GJ:Type:=Y3×Y1×Y1×Int×Y1×Int×Int×Y1×(Sl Y1)×Y3×(Sl Y2)×(Sl Y5)×Y1×Int×fL×Unit
abbrev sw:Type:=Y1×Int×(Sl Y0)×Unit
abbrev z8:Type:=(Sl Y2)×Int×Int×Int×Int×Y1×eK×Unit
abbrev Aa:Type:=Int×(Sl Y2)×Unit
abbrev sx:Type:=Int×(Sl Y1)×Unit
abbrev lH:Type:=(Sl Y2)×Unit
abbrev GK:Type:=Int×eK×Unit
abbrev Ab:Type:=Int×Int×Y1×Int×fL×Y1×eK×Unit
abbrev Mm:Type:=sq×Int×Int×Unit
abbrev GO:Type:=Y1×(Sl Y0)×Int×Bool×(Sl Y1)×Unit
abbrev S9:Type:=Int×(Sl Y0)×Int×Y3×Int×Int×Int×Int×(Sl Int)×eK×(Sl Y1)×Unit
abbrev mD:Type:=(Sl Int)×oA×Unit
abbrev fC:Type:=Y7->OZ Y4
abbrev j4:Type:=ch->OZ Y8
abbrev iI:Type:=GI->OZ oK
abbrev kx:Type:=Y9->OZ Y8
abbrev oM:Type:=KZ->OZ Y8
abbrev oB:Type:=KY->OZ dA
abbrev oN:Type:=jP->OZ Y9
abbrev sy:Type:=jP->OZ pI
abbrev Ac:Type:=rL->OZ Y9
abbrev Ad:Type:=Y67->OZ dA
abbrev gH:Type:=su->OZ dA
abbrev lI:Type:=Y9->OZ Y9
abbrev mE:Type:=oz->OZ Mk
abbrev gI:Type:=jP->OZ ch
abbrev nu:Type:=dA->OZ Y8
abbrev oO:Type:=dA->OZ Y9
abbrev mF:Type:=Y28->OZ GH
abbrev nv:Type:=Unit->OZ dA
abbrev oP:Type:=ch->OZ ch
abbrev oQ:Type:=XV->OZ S5
abbrev sA:Type:=KR->OZ Y9
abbrev Ae:Type:=rL->OZ rL
abbrev qB:Type:=ch->OZ dA
abbrev qC:Type:=Y9->OZ ch
abbrev nw:Type:=Y37->OZ Ck
abbrev qD:Type:=XV->OZ Y45
abbrev sB:Type:=Y40->OZ Y4
abbrev sC:Type:=KP->OZ KP
abbrev qE:Type:=Y85->OZ dA
abbrev wa:Type:=Y7->OZ Y43
abbrev Af:Type:=y6->OZ Y7
abbrev sD:Type:=Rg->OZ Y8
abbrev wb:Type:=Y75->OZ y8
abbrev oS:Type:=Y79->OZ ch
abbrev oT:Type:=KR->OZ ch
abbrev Ag:Type:=ch->OZ Y9
abbrev Ah:Type:=jP->OZ fo
abbrev Ai:Type:=jP->OZ Y8
abbrev qF:Type:=sv->OZ ch
abbrev GP:Type:=Y73->OZ ch
abbrev Ta:Type:=rL->OZ Y8
abbrev GQ:Type:=lH->OZ Y9
abbrev Aj:Type:=dA->OZ dA
abbrev Cl:Type:=Y91->OZ Y57
abbrev Mn:Type:=su->OZ GK
def Cm(L:Lf)(x:Y9):OZ Y8:=L.b (L.y (L.m 97 x.1) (SZ (L.m x.1 122))) λb=>SZ (b,())
def qG:=Cm lf
def Cn(L:Lf)(x:Y9):OZ Y8:=L.b (L.y (L.m 65 x.1) (SZ (L.m x.1 90))) λb=>SZ (b,())
def qH:=Cn lf
def Co(L:Lf)(x:Y9):OZ Y8:=L.b (L.y (L.m 48 x.1) (SZ (L.m x.1 57))) λb=>SZ (b,())
def qI:=Co lf
def Cp(L:Lf)(c0:kx)(c1:kx)(c2:kx)(x:Y9):OZ Y8:=L.b (c0 (x.1,())) λb=>L.b (L.r b.1 (L.b (c1 (x.1,())) λd=>SZ d.1)) λe=>L.b (L.r e (L.b (c2 (x.1,())) λg=>SZ g.1)) λh=>L.b (L.r h (SZ (L.e x.1 95))) λi=>L.b (L.r i (SZ (L.e x.1 39))) λj=>SZ (j,())
def qJ:=Cp lf qG qH qI
def XZ(L:Lf)(c0:kx)(b:(Y1×Y1×Int×Unit)):OZ ((Y1×Y1×Int×Unit)⊕Y8):=L.c (L.l b.d2 (L.n b.2.1)) (L.b (L.c (L.l b.d2 (L.n b.2.1)) (SZ (L.fN b.2.1 b.d2)) none) λd=>L.b (L.r (L.l 126 d) (L.b (c0 (L.dV .u8 d,())) λe=>SZ (L.t e.1))) λg=>L.c g (SZ (JZ (false,()))) (SZ (IZ (b.s2 (L.gO b.2.1 b.d2))))) (SZ (JZ (L.t (L.h b.1 ([]:Y1)),())))
def GR(L:Lf)(c0:kx)(x:ch):OZ Y8:=L.o (XZ L c0) (x.1,x.1,0,())
def wc:=GR lf qJ
def X0(L:Lf)(b:((Sl Y1)×Y1×Int×Int×Unit)):OZ (((Sl Y1)×Y1×Int×Int×Unit)⊕Y9):=L.c (L.l b.d3 b.d2) (L.b (L.g b.1.l b.d3) λd=>L.c (L.h b.2.1 d) (SZ (JZ (b.d3,()))) (SZ (IZ (b.s3 (L.a .i64 b.d3 1))))) (SZ (JZ ((-1),())))
def GS(L:Lf)(x:Rg):OZ Y9:=L.o (X0 L) (x.1,x.2.1,L.n x.1.l,0,())
def Ak:=GS lf
def Cq(L:Lf)(c0:Rg->OZ Y9)(x:Rg):OZ Y8:=L.b (c0 (x.1,x.2.1,())) λb=>SZ (L.m 0 b.1,())
def nx:=Cq lf Ak
def qal(L:Lf)(b:BF):OZ (BF⊕((K3⊕(K3⊕(BF⊕(K0⊕fo)))))):=L.b (L.y (L.l b.d2 (L.n b.1)) (L.b (L.g b.1 b.d2) λd=>L.b (L.g AZ d) λe=>SZ (L.t (L.e e 0)))) λg=>L.c g (SZ (IZ (b.1,b.2.1,L.a .i64 b.d2 1,b.d3,()))) (SZ (JZ (IZ (b.1,b.2.1,b.d2,b.d2,b.d3,()))))
def qam(L:Lf)(k0:(BF)->OZ (BF⊕((K3⊕(K3⊕(BF⊕(K0⊕fo)))))))(b:K3):OZ (K3⊕((BF⊕(K0⊕fo)))):=L.c (L.l b.d3 (L.n b.1)) (L.b (L.b (L.g b.1 b.d3) λd=>L.b (L.g AZ d) λe=>L.c (L.e e 0) (SZ (IZ (b.s3 (L.a .i64 b.d3 1)))) (L.b (L.cI b.1 b.d2 b.d3) λg=>L.b (L.cD b.d4.l b.2.1) λh=>L.b (L.b (L.nth b.d4.l h) λ_=>SZ g) λi=>L.o k0 (b.1,L.a .i64 b.2.1 1,L.a .i64 b.d3 1,⟨b.d4.nil,L.jY b.d4.l h i⟩,()))) (L.cH λj=>SZ (IZ j))) (L.b (L.c (L.l b.d2 (L.n b.1)) (L.b (L.cI b.1 b.d2 (L.n b.1)) λk=>L.b (L.cD b.d4.l b.2.1) λm=>L.b (L.b (L.nth b.d4.l m) λ_=>SZ k) λn=>SZ (⟨b.d4.nil,L.jY b.d4.l m n⟩,())) (SZ (b.d4,()))) λo=>SZ (JZ (JZ (JZ (o.1,())))))
def qan(L:Lf)(k0:(K3)->OZ (K3⊕((BF⊕(K0⊕fo)))))(b:BF):OZ (BF⊕((K0⊕fo))):=L.b (L.y (L.l b.d2 (L.n b.1)) (L.b (L.g b.1 b.d2) λd=>L.b (L.g AZ d) λe=>SZ (L.t (L.e e 0)))) λg=>L.c g (SZ (IZ (b.1,b.2.1,L.a .i64 b.d2 1,b.d3,()))) (L.o k0 (b.1,b.2.1,b.d2,b.d2,b.d3,()))
def qao(L:Lf)(k0:(BF)->OZ (BF⊕((K0⊕fo))))(b:K0):OZ (K0⊕fo):=L.c (L.l b.d4 (L.n b.1)) (L.b (L.g b.1 b.d4) λd=>L.b (L.g AZ d) λe=>SZ (IZ (b.1,L.a .i64 b.2.1 (L.l9 .i64 b.d2 (L.qk .i64 (-1) (L.dV .i64 e))),L.dV .i64 e,L.Ly .u8 b.d3 d,L.a .i64 b.d4 1,()))) (L.c (L.m 128 b.d3) none (L.b (L.BR b.2.1 b.2.1) λg=>L.o k0 (b.1,0,0,⟨false,L.rep g ([]:Y1)⟩,())))
def GU(L:Lf)(x:ch):OZ fo:=L.o (qao L (qan L (qam L (qal L)))) (x.1,0,1,0,0,())
def GV:=GU lf
def GW(L:Lf)(c0:ch->OZ fo)(_x:Unit):OZ fo:=L.b (c0 (([108,101,116,32,114,101,99,32,105,110,32,102,117,110,32,105,102,32,116,104,101,110,32,101,108,115,101,32,109,97,116,99,104,32,119,105,116,104,32,101,110,100,32,114,97,105,115,101,32,116,114,121,32,111,112,101,110,32,116,121,112,101,32,111,102,32,105,110,102,105,120,108,32,105,110,102,105,120,114,32,105,110,102,105,120,32,45,62,32,61,32,124,32,40,32,41,32,95,32,59,59]:Y1),())) λb=>SZ (b.1,())
def Cr:=GW lf GV
def Cs(L:Lf)(c0:sD)(c1:Unit->OZ fo)(x:ch):OZ Y8:=L.b (c1 ()) λb=>L.b (c0 (b.1,x.1,())) λd=>SZ (d.1,())
def oU:=Cs lf nx Cr
def Ct(L:Lf)(c0:j4)(c1:j4)(c2:kx)(x:KZ):OZ Y8:=L.b (c0 (x.1.2.1,())) λb=>L.b (L.y b.1 (L.b (L.g x.1.2.1 0) λd=>L.b (c2 (d,())) λe=>SZ e.1)) λg=>L.b (L.y g (L.b (c1 (x.1.2.1,())) λh=>SZ (L.t h.1))) λi=>SZ (i,())
def we:=Ct lf wc oU qG
def Cu(L:Lf)(c0:j4)(c1:j4)(c2:kx)(x:KZ):OZ Y8:=L.b (c0 (x.1.2.1,())) λb=>L.b (L.y b.1 (L.b (L.g x.1.2.1 0) λd=>L.b (c2 (d,())) λe=>SZ e.1)) λg=>L.b (L.y g (L.b (c1 (x.1.2.1,())) λh=>SZ (L.t h.1))) λi=>SZ (i,())
def wg:=Cu lf wc oU qH
def Al(x:eT):OZ Y9:=SZ (qy x.2.1 x.1,())
def Cv(L:Lf)(c0:eT->OZ Y9)(x:Y9):OZ Y8:=L.b (c0 (([33,36,37,38,42,43,45,47,58,60,61,62,63,64,94,124]:Y1),x.1,())) λb=>SZ (L.m 0 b.1,())
def oV:=Cv lf Al
def X4(L:Lf)(c0:kx)(b:(Y1×Y1×Int×Unit)):OZ ((Y1×Y1×Int×Unit)⊕Y8):=L.c (L.l b.d2 (L.n b.2.1)) (L.b (L.c (L.l b.d2 (L.n b.2.1)) (SZ (L.fN b.2.1 b.d2)) none) λd=>L.b (L.r (L.l 126 d) (L.b (c0 (L.dV .u8 d,())) λe=>SZ (L.t e.1))) λg=>L.c g (SZ (JZ (false,()))) (SZ (IZ (b.s2 (L.gO b.2.1 b.d2))))) (SZ (JZ (L.t (L.h b.1 ([]:Y1)),())))
def GX(L:Lf)(c0:kx)(x:ch):OZ Y8:=L.o (X4 L c0) (x.1,x.1,0,())
def Am:=GX lf oV
def Cw(L:Lf)(x:Y9):OZ Y9:=L.b (L.qj .u64 (L.dV .u64 x.1) 1) λb=>L.b (L.la .i64 (L.dV .i64 b) 1) λd=>SZ (d,())
def oW:=Cw lf
def Cy(L:Lf)(c0:oM)(c1:oM)(c2:j4)(c3:j4)(c4:lI)(x:KZ):OZ Y8:=L.b (L.r (L.l x.1.2.2.2 0) (L.y (L.t (L.e x.1.1 3)) (SZ (L.t (L.e x.1.d2 0))))) λb=>L.b (L.r b (L.y (L.e x.1.1 3) (SZ (L.t (L.h x.1.2.1 ([]:Y1)))))) λd=>L.c d (SZ (false,())) (L.c (L.e x.1.1 1) (L.b (c0 ((x.1.1,x.1.2.1,x.1.d2,x.1.2.2.2),())) λe=>SZ (e.1,())) (L.c (L.e x.1.1 2) (L.b (c1 ((x.1.1,x.1.2.1,x.1.d2,x.1.2.2.2),())) λg=>SZ (g.1,())) (L.c (L.e x.1.1 3) (L.b (c4 (x.1.d2,())) λh=>SZ (L.e h.1 x.1.d2,())) (L.c (L.e x.1.1 4) (SZ (L.m (L.n x.1.2.1) 200,())) (L.c (L.e x.1.1 5) (L.b (c2 (x.1.2.1,())) λi=>L.b (L.y i.1 (L.b (c3 (x.1.2.1,())) λj=>SZ (L.t j.1))) λk=>SZ (k,())) (L.c (L.e x.1.1 6) (L.b (c3 (x.1.2.1,())) λm=>SZ (m.1,())) (SZ (false,()))))))))
def j5:=Cy lf we wg Am oU oW
def Cz(L:Lf)(c0:oM)(x:Y6×Unit):OZ Y8:=L.b (c0 ((5,x.1.1,0,0),())) λb=>L.b (L.y b.1 (SZ (L.m 0 x.1.2.1))) λd=>L.b (L.y d (SZ (L.m x.1.2.1 9))) λe=>L.b (L.y e (SZ (L.m (-1) x.1.2.2))) λg=>L.b (L.y g (SZ (L.m x.1.2.2 1))) λh=>SZ (h,())
def nz:=Cz lf j5
def CA(L:Lf)(c0:(Y6×Unit)->OZ Y8)(x:Y6×Unit):OZ Y8:=L.b (c0 ((x.1.1,x.1.2.1,x.1.2.2),())) λb=>SZ (L.t b.1,())
def sE:=CA lf nz
def X5(L:Lf)(c0:(Y6×Unit)->OZ Y8)(b:(Y3×Int×Int×Unit)):OZ ((Y3×Int×Int×Unit)⊕Y9):=L.c (L.l b.d2 b.2.1) (L.b (L.g b.1.l b.d2) λd=>L.b (c0 (d,())) λe=>L.c e.1 (SZ (JZ (b.d2,()))) (SZ (IZ (b.s2 (L.a .i64 b.d2 1))))) (SZ (JZ ((-1),())))
def GY(L:Lf)(c0:(Y6×Unit)->OZ Y8)(x:rL):OZ Y9:=L.o (X5 L c0) (x.1,L.n x.1.l,0,())
def CB:=GY lf sE
def CC(L:Lf)(c0:Ac)(x:rL):OZ Y8:=L.b (c0 (x.1,())) λb=>SZ (L.m 0 b.1,())
def wh:=CC lf CB
def CD(L:Lf)(x:Y6×Y1×Unit):OZ Y8:=SZ (L.h x.1.1 x.2.1,())
def sF:=CD lf
def X6(L:Lf)(c0:(Y6×Y1×Unit)->OZ Y8)(b:(Y3×Y1×Int×Int×Unit)):OZ ((Y3×Y1×Int×Int×Unit)⊕Y9):=L.c (L.l b.d3 b.d2) (L.b (L.g b.1.l b.d3) λd=>L.b (c0 (d,b.2.1,())) λe=>L.c e.1 (SZ (JZ (b.d3,()))) (SZ (IZ (b.s3 (L.a .i64 b.d3 1))))) (SZ (JZ ((-1),())))
def GZ(L:Lf)(c0:(Y6×Y1×Unit)->OZ Y8)(x:Y3×Y1×Unit):OZ Y9:=L.o (X6 L c0) (x.1,x.2.1,L.n x.1.l,0,())
def CE:=GZ lf sF
def CF(L:Lf)(c0:(Y3×Y1×Unit)->OZ Y9)(x:Y3×Y1×Unit):OZ rN:=L.b (c0 (x.1,x.2.1,())) λb=>L.c (L.l b.1 0) (SZ ((([]:Y1),0,0),false,())) (L.b (L.g x.1.l b.1) λd=>SZ ((d.1,d.2.1,d.2.2),true,()))
def nA:=CF lf CE
def X7(L:Lf)(c1:(Y3×Y1×Unit)->OZ rN)(b:(Y3×Y3×Int×Int×Unit)):OZ ((Y3×Y3×Int×Int×Unit)⊕Y9):=L.c (L.l b.d3 b.d2) (L.b (L.g b.2.1.l b.d3) λd=>L.b (L.cI b.1.l 0 b.d3) λe=>L.b (c1 (⟨b.1.nil,e⟩,d.1,())) λg=>L.c (L.t (L.d (L.h g.1.1 ([]:Y1)) (L.d (L.e g.1.2.1 0) (L.e g.1.2.2 0)))) (SZ (JZ (41,()))) (SZ (IZ (b.s3 (L.a .i64 b.d3 1))))) (SZ (JZ (0,())))
def G0(L:Lf)(c0:Ta)(c1:(Y3×Y1×Unit)->OZ rN)(x:rL):OZ Y9:=L.b (L.r (L.l 400 (L.n x.1.l)) (L.b (c0 (x.1,())) λb=>SZ b.1)) λd=>L.c d (SZ (40,())) (L.o (X7 L c1) (x.1,x.1,L.n x.1.l,0,()))
def iZ:=G0 lf wh nA
def CG(L:Lf)(c0:oM)(x:ch):OZ Y8:=L.b (c0 ((2,x.1,0,0),())) λb=>SZ (b.1,())
def sG:=CG lf j5
def CH(L:Lf)(c0:j4)(x:ch):OZ Y8:=L.b (c0 (x.1,())) λb=>L.b (L.y b.1 (SZ (L.m (L.n x.1) 60))) λd=>SZ (d,())
def oX:=CH lf sG
def CI(L:Lf)(c0:j4)(x:ch):OZ Y8:=L.b (c0 (x.1,())) λb=>SZ (L.t b.1,())
def wi:=CI lf oX
def X8(L:Lf)(c0:j4)(b:((Sl Y1)×Int×Int×Unit)):OZ (((Sl Y1)×Int×Int×Unit)⊕Y9):=L.c (L.l b.d2 b.2.1) (L.b (L.g b.1.l b.d2) λd=>L.b (c0 (d,())) λe=>L.c e.1 (SZ (JZ (b.d2,()))) (SZ (IZ (b.s2 (L.a .i64 b.d2 1))))) (SZ (JZ ((-1),())))
def G1(L:Lf)(c0:j4)(x:fo):OZ Y9:=L.o (X8 L c0) (x.1,L.n x.1.l,0,())
def CJ:=G1 lf wi
def CK(L:Lf)(c0:fo->OZ Y9)(x:fo):OZ Y8:=L.b (c0 (x.1,())) λb=>SZ (L.m 0 b.1,())
def qK:=CK lf CJ
def CL(L:Lf)(c0:oM)(x:ch):OZ Y8:=L.b (c0 ((1,x.1,0,0),())) λb=>L.b (L.r b.1 (L.b (c0 ((5,x.1,0,0),())) λd=>SZ d.1)) λe=>SZ (e,())
def sH:=CL lf j5
def X9(L:Lf)(b:sv):OZ (sv⊕Y9):=L.b (L.r (L.m (L.n b.1.l) b.2.1) (L.b (L.g b.1.l b.2.1) λd=>SZ (L.l d.2.2.2 0))) λe=>L.b (L.r e (L.b (L.g b.1.l b.2.1) λg=>SZ (L.l (L.n b.1.l) g.2.2.2))) λh=>L.c h (SZ (JZ ((-1),()))) (L.b (L.g b.1.l b.2.1) λi=>L.c (L.l 0 (L.a .i64 b.d2 (L.u .i64 i.2.2.2 1))) (SZ (IZ (b.1,L.a .i64 b.2.1 1,L.a .i64 b.d2 (L.u .i64 i.2.2.2 1),()))) (SZ (JZ (L.a .i64 b.2.1 1,()))))
def G2(L:Lf)(x:jP):OZ Y9:=L.c (L.l x.2.1 0) (SZ ((-1),())) (L.o (X9 L) (x.1,x.2.1,1,()))
def kG:=G2 lf
def CM(L:Lf)(c0:oN)(x:dA):OZ Y8:=L.b (L.y (L.l 0 (L.n x.1.l)) (L.b (c0 (x.1,0,())) λb=>SZ (L.e b.1 (L.n x.1.l)))) λd=>SZ (d,())
def lJ:=CM lf kG
def Ya(L:Lf)(b:KV):OZ (KV⊕((KV⊕Y9))):=L.b (L.y (L.l 0 (L.n b.d4.l)) (L.b (L.cD b.d4.l (L.u .i64 (L.n b.d4.l) 1)) λd=>L.b (L.nth b.d4.l d) λe=>SZ (L.e e 0))) λg=>L.c g (L.b (L.df (L.n b.d4.l) (L.u .i64 (L.n b.d4.l) 1)) λh=>L.b (L.c (L.l 0 (L.n (L.aH b.d4.l h))) (L.b (L.cD (L.aH b.d4.l h) (L.u .i64 (L.n (L.aH b.d4.l h)) 1)) λi=>L.b (L.nth b.d4.l i) λj=>L.b (L.cD (L.aH b.d4.l h) (L.u .i64 (L.n (L.aH b.d4.l h)) 1)) λk=>L.b (L.b (L.nth b.d4.l k) λ_=>SZ (L.u .i64 j 1)) λm=>SZ (b.s4 ⟨b.d4.nil,L.aH (L.jY b.d4.l k m) h⟩)) (SZ (b.s4 ⟨b.d4.nil,L.aH b.d4.l h⟩))) λn=>SZ (IZ n)) (SZ (JZ (IZ (b.s3 (L.a .i64 b.d3 1)))))
def Yb(L:Lf)(k0:(KV)->OZ (KV⊕((KV⊕Y9))))(b:KV):OZ (KV⊕Y9):=L.c (L.l b.d3 b.d2) (L.b (L.g b.2.1.l b.d3) λd=>L.z b.d4 [d.2.2.2] λzz=>L.o k0 ((b.s0 (L.kD b.1 (L.a .i64 (L.n b.d4.l) 1))).s4 zz)) (SZ (JZ (b.1,())))
def G3(L:Lf)(c0:nu)(x:dA):OZ Y9:=L.b (c0 (x.1,())) λb=>L.c (L.t b.1) (SZ (0,())) (L.o (Yb L (Ya L)) (0,x.1,L.n x.1.l,0,⟨true,([]:Y1)⟩,()))
def wj:=G3 lf lJ
def CN(L:Lf)(x:Y9):OZ Y8:=L.b (L.y (L.m 21 x.1) (SZ (L.m x.1 24))) λb=>SZ (b,())
def qL:=CN lf
def G4(_L:Lf)(x:Y9):OZ Y9:=SZ (x.1,())
def G5:=G4 lf
def CO(L:Lf)(c0:lI)(x:Y9):OZ (Bool×Bool×Int×Int×Int×Int×Bool×Unit):=L.b (L.c (L.e x.1 1) (SZ (x.1,L.e x.1 1,false,false,false,())) (SZ (x.1,L.e x.1 23,false,false,false,()))) λb=>L.c b.2.1 (L.b (c0 (0,())) λd=>SZ (true,false,2,0,0,d.1,true,())) (L.c (L.e b.1 2) (L.b (c0 (0,())) λe=>SZ (false,true,2,0,0,e.1,true,())) (L.b (L.c (L.e b.1 3) (SZ (b.s1 (L.e b.1 3))) (SZ (b.s1 (L.e b.1 22)))) λg=>L.c g.2.1 (L.b (c0 (0,())) λh=>SZ (false,false,0,0,0,h.1,true,())) (L.c (L.e g.1 4) (L.b (c0 (0,())) λi=>SZ (false,false,1,0,0,i.1,true,())) (L.c (L.e g.1 5) (L.b (c0 (1,())) λj=>SZ (false,false,0,0,0,j.1,true,())) (L.b (L.c (L.e g.1 7) (SZ (g.s1 (L.e g.1 7))) (L.b (L.c (L.e g.1 8) (SZ (g.s1 (L.e g.1 8))) (SZ (g.s1 (L.e g.1 12)))) λk=>SZ k)) λm=>L.c m.2.1 (L.b (c0 (2,())) λn=>SZ (false,false,0,0,0,n.1,true,())) (L.c (L.e m.1 6) (L.b (c0 (2,())) λo=>SZ (false,false,2,0,0,o.1,true,())) (L.c (L.e m.1 9) (L.b (c0 (3,())) λp=>SZ (false,false,2,0,0,p.1,true,())) (L.c (L.e m.1 10) (SZ (false,false,2,0,1,0,true,())) (L.c (L.e m.1 11) (L.b (c0 (1,())) λq=>SZ (false,false,2,0,0,q.1,true,())) (L.c (L.e m.1 21) (L.b (c0 (0,())) λr=>SZ (false,false,2,0,0,r.1,true,())) (L.c (L.e m.1 24) (SZ (false,false,1,0,2,0,true,())) (SZ (false,false,2,0,3,0,false,())))))))))))))
def fu:=CO lf G5
def CP(L:Lf)(x:Y9):OZ Y8:=L.b (L.y (L.m 3 x.1) (L.b (L.jK x.1 2) λb=>SZ (L.e b 1))) λd=>SZ (d,())
def wk:=CP lf
def G6(_L:Lf)(_x:Y9):OZ Y8:=SZ (true,())
def An:=G6 lf
def CQ(L:Lf)(x:y8):OZ Y8:=SZ (L.e x.1 x.2.1,())
def wm:=CQ lf
def CR(L:Lf)(c0:j4)(c1:j4)(c2:lI)(c3:kx)(c4:Y9->OZ (Bool×Bool×Int×Int×Int×Int×Bool×Unit))(c5:kx)(c6:kx)(c7:y8->OZ Y8)(x:KR):OZ Y9:=L.b (L.g x.1.l x.2.1) λb=>L.b (c4 (b.1,())) λd=>L.b (L.r (L.t d.d6) (L.b (c3 (b.1,())) λe=>SZ (L.t (L.fA e.1 x.d2)))) λg=>L.b (L.r g (L.b (L.c (L.e d.d4 0) (L.b (c7 (b.2.2.2,d.d5,())) λh=>SZ h.1) (L.c (L.e d.d4 1) (L.b (c5 (b.2.2.2,())) λi=>SZ i.1) (L.c (L.e d.d4 2) (L.b (c6 (b.2.2.2,())) λj=>SZ j.1) none))) λk=>SZ (L.t k))) λm=>L.c m (SZ (61,())) (L.c d.1 (L.b (c2 (b.d2,())) λn=>L.b (L.c (L.t (L.e n.1 b.d2)) (SZ (x.1,x.2.1,L.t (L.e n.1 b.d2),b.1,b.2.1,b.d2,b.2.2.2,d.1,d.2.1,d.d2,d.d3,d.d4,d.d5,d.d6,())) (L.b (L.y (L.t d.1) (SZ (L.t (L.e b.d2 0)))) λo=>SZ (x.1,x.2.1,o,b.1,b.2.1,b.d2,b.2.2.2,d.1,d.2.1,d.d2,d.d3,d.d4,d.d5,d.d6,()))) λp=>L.c p.d2 (SZ (61,())) (L.b (L.y p.d8 (SZ (L.l 200 (L.n p.d4)))) λq=>L.b (L.c q (SZ (p.s2 q)) (L.b (L.y (L.t p.d8) (SZ (L.e p.d9 2))) λr=>L.b (L.y r (SZ (L.t (L.h p.d4 ([]:Y1))))) λs=>SZ (p.s2 s))) λt=>L.c t.d2 (SZ (61,())) (L.b (L.y (L.e t.d3 8) (L.b (L.g t.1.l (L.a .i64 t.2.1 1)) λu=>SZ (L.t (L.e u.1 5)))) λv=>L.c v (SZ (61,())) (L.b (L.y (L.t (L.e t.d9 2)) (L.b (L.c (L.e t.d9 0) (L.b (c1 (t.d4,())) λw=>SZ w.1) (L.c (L.e t.d9 1) (L.b (c0 (t.d4,())) λy=>SZ y.1) none)) λz=>SZ (L.t z))) λbb=>L.c bb (SZ (62,())) (SZ (0,())))))) (L.b (L.c false (SZ (x.1,x.2.1,false,b.1,b.2.1,b.d2,b.2.2.2,d.1,d.2.1,d.d2,d.d3,d.d4,d.d5,d.d6,())) (L.b (L.y (L.t d.1) (SZ (L.t (L.e b.d2 0)))) λbd=>SZ (x.1,x.2.1,bd,b.1,b.2.1,b.d2,b.2.2.2,d.1,d.2.1,d.d2,d.d3,d.d4,d.d5,d.d6,()))) λbe=>L.c be.d2 (SZ (61,())) (L.b (L.y be.d8 (SZ (L.l 200 (L.n be.d4)))) λbg=>L.b (L.c bg (SZ (be.s2 bg)) (L.b (L.y (L.t be.d8) (SZ (L.e be.d9 2))) λbh=>L.b (L.y bh (SZ (L.t (L.h be.d4 ([]:Y1))))) λbi=>SZ (be.s2 bi))) λbj=>L.c bj.d2 (SZ (61,())) (L.b (L.y (L.e bj.d3 8) (L.b (L.g bj.1.l (L.a .i64 bj.2.1 1)) λbk=>SZ (L.t (L.e bk.1 5)))) λbm=>L.c bm (SZ (61,())) (L.b (L.y (L.t (L.e bj.d9 2)) (L.b (L.c (L.e bj.d9 0) (L.b (c1 (bj.d4,())) λbn=>SZ bn.1) (L.c (L.e bj.d9 1) (L.b (c0 (bj.d4,())) λbo=>SZ bo.1) none)) λbp=>SZ (L.t bp))) λbq=>L.c bq (SZ (62,())) (SZ (0,())))))))
def wo:=CR lf sG sH oW qL fu wk An wm
def CS(L:Lf)(c0:sA)(x:Int×Bool×(Sl Y0)×Unit):OZ Y9:=L.b (c0 (x.d2,x.1,x.2.1,())) λb=>SZ (b.1,())
def sI:=CS lf wo
def Yc(L:Lf)(c0:wb)(b:((Sl Y0)×Int×Bool×(Sl Y0)×Int×Int×Int×Unit)):OZ (((Sl Y0)×Int×Bool×(Sl Y0)×Int×Int×Int×Unit)⊕y8):=L.c (L.l b.d6 b.d5) (L.b (L.r b.d2 (L.b (L.g b.1.l b.2.1) λd=>L.y (L.e d.1 10) (L.b (L.jK b.d6 2) λe=>SZ (L.e e 1)))) λg=>L.b (c0 (b.1,b.d4,g,b.d3,())) λh=>L.c (L.t (L.e h.2.1 0)) (SZ (JZ (0,h.2.1,()))) (SZ (IZ ((b.s4 h.1).s6 (L.a .i64 b.d6 1))))) (SZ (JZ (b.d4,0,())))
def G7(L:Lf)(c0:wb)(c1:(Int×Bool×(Sl Y0)×Unit)->OZ Y9)(x:Y75):OZ y8:=L.b (c1 (x.2.1,x.d2,x.d3,())) λb=>L.c (L.t (L.e b.1 0)) (SZ (0,b.1,())) (L.b (L.g x.1.l x.2.1) λd=>L.o (Yc L c0) (x.1,x.2.1,x.d2,x.d3,L.a .i64 x.2.1 1,d.2.2.2,0,()))
def nB(self:wb)(x:Y75):OZ y8:=G7 lf self sI x
def CU:=eN nB
def CV(L:Lf)(c0:oN)(x:jP):OZ jP:=L.b (c0 (x.1,x.2.1,())) λb=>L.c (L.l b.1 0) (SZ (⟨true,([]:List Y0)⟩,20,())) (L.b (L.BR (L.u .i64 b.1 x.2.1) (L.u .i64 b.1 x.2.1)) λd=>L.b (L.cI x.1.l x.2.1 b.1) λe=>SZ (⟨false,L.rS (L.rep d (0,([]:Y1),0,0)) e⟩,0,()))
def wq:=CV lf kG
def Yd(L:Lf)(b:((Sl Y0)×Int×Int×(Sl Y1)×Unit)):OZ (((Sl Y0)×Int×Int×(Sl Y1)×Unit)⊕fo):=L.c (L.l b.d2 b.2.1) (L.b (L.g b.1.l b.d2) λd=>L.b (L.c (L.e d.1 22) (L.z b.d3 [d.2.1] λzz=>SZ (b.s3 zz)) (SZ b)) λe=>SZ (IZ (e.s2 (L.a .i64 e.d2 1)))) (SZ (JZ (b.d3,())))
def G8(L:Lf)(x:dA):OZ fo:=L.o (Yd L) (x.1,L.n x.1.l,0,⟨true,([]:List Y1)⟩,())
def wu:=G8 lf
def wv(x:fo):OZ fo:=bif x.1.l.all yZ&&decide (x.1.l.length<4611686018427387904) then SZ ((⟨x.1.nil,x.1.l.mergeSort fun a b=>!strLt b a⟩:Sl Y1),()) else none
def Ye(L:Lf)(b:(Int×Int×Int×(Sl Y1)×Unit)):OZ ((Int×Int×Int×(Sl Y1)×Unit)⊕((sx⊕fo))):=L.c (L.l b.d2 (L.n (L.cj b.d3.l b.2.1))) (L.b (L.c (L.m 0 b.d2) (L.cD b.d3.l (L.s b.2.1 b.d2)) none) λd=>L.b (L.nth b.d3.l d) λe=>L.b (L.c (L.m 0 (L.u .i64 b.d2 1)) (L.cD b.d3.l (L.s b.2.1 (L.u .i64 b.d2 1))) none) λg=>L.b (L.nth b.d3.l g) λh=>L.b (L.c (L.t (L.h e h)) (L.b (L.c (L.m 0 b.d2) (L.cD b.d3.l (L.s b.2.1 b.d2)) none) λi=>L.b (L.nth b.d3.l i) λj=>L.b (L.cD b.d3.l b.1) λk=>L.b (L.b (L.nth b.d3.l k) λ_=>SZ j) λm=>SZ (L.a .i64 b.1 1,b.2.1,b.d2,⟨b.d3.nil,L.jY b.d3.l k m⟩,())) (SZ b)) λn=>SZ (IZ (n.s2 (L.a .i64 n.d2 1)))) (L.b (L.df (L.n b.d3.l) b.1) λ_=>L.b (L.df (L.n (L.fF b.d3.l b.1 ([]:Y1))) b.1) λo=>SZ (JZ (JZ (⟨b.d3.nil,L.aH (L.fF b.d3.l b.1 ([]:Y1)) o⟩,()))))
def Yf(L:Lf)(k0:((Int×Int×Int×(Sl Y1)×Unit))->OZ ((Int×Int×Int×(Sl Y1)×Unit)⊕((sx⊕fo))))(b:sx):OZ (sx⊕fo):=L.c (L.l b.1 (L.n b.2.1.l)) (L.b (L.cD b.2.1.l b.1) λd=>L.b (L.nth b.2.1.l d) λe=>L.b (L.cD b.2.1.l (L.u .i64 b.1 1)) λg=>L.b (L.nth b.2.1.l g) λh=>L.c (L.h e h) (L.b (L.df (L.n b.2.1.l) b.1) λ_=>L.o k0 (b.1,b.1,1,b.2.1,())) (SZ (IZ (L.a .i64 b.1 1,b.2.1,())))) (SZ (JZ (b.2.1,())))
def G9(L:Lf)(x:fo):OZ fo:=L.c (L.l (L.n x.1.l) 2) (SZ (x.1,())) (L.o (Yf L (Ye L)) (1,x.1,()))
def wy:=G9 lf
def CW(L:Lf)(c0:dA->OZ fo)(x:dA):OZ Y9:=L.b (c0 (x.1,())) λb=>SZ (L.n b.1.l,())
def wz:=CW lf wu
def CY(L:Lf)(c0:jP->OZ jP)(c1:dA->OZ fo)(c2:fo->OZ fo)(c3:fo->OZ fo)(c4:oO)(x:Int×(Sl Y0)×Unit):OZ Y8:=L.b (c0 (x.2.1,x.1,())) λb=>L.b (c1 (b.1,())) λd=>L.b (c2 (d.1,())) λe=>L.b (c3 (e.1,())) λg=>L.b (c4 (b.1,())) λh=>SZ (L.l (L.n g.1.l) h.1,())
def sJ:=CY lf wq wu wv wy wz
def Yg(L:Lf)(c0:oN)(c4:(Int×(Sl Y0)×Unit)->OZ Y8)(c5:kx)(b:(Int×(Sl Y0)×Unit)):OZ ((Int×(Sl Y0)×Unit)⊕Y9):=L.c (L.l b.1 (L.n b.2.1.l)) (L.b (L.b (L.g b.2.1.l b.1) λd=>L.b (c5 (d.1,())) λe=>L.c (L.t e.1) (SZ (IZ (b.1,b.2.1,()))) (L.b (c4 (b.1,b.2.1,())) λg=>L.c g.1 (SZ (JZ (JZ (63,())))) (L.b (c0 (b.2.1,b.1,())) λh=>SZ (IZ (L.u .i64 h.1 1,b.2.1,()))))) (L.cH λi=>SZ (IZ (L.a .i64 i.1 1,i.2.1,())))) (SZ (JZ (0,())))
def Ha(L:Lf)(c0:oN)(c1:nu)(c2:oO)(c3:wb)(c4:(Int×(Sl Y0)×Unit)->OZ Y8)(c5:kx)(x:(Sl Y0)×Bool×Unit):OZ Y9:=L.b (L.r (L.l 4000 (L.n x.1.l)) (L.b (c1 (x.1,())) λb=>SZ (L.t b.1))) λd=>L.b (L.r d (L.b (c2 (x.1,())) λe=>SZ (L.l 100 e.1))) λg=>L.c g (SZ (60,())) (L.b (c3 (x.1,0,x.2.1,x.1,())) λh=>L.c (L.t (L.e h.2.1 0)) (SZ (h.2.1,())) (L.o (Yg L c0 c4 c5) (0,x.1,())))
def qM:=Ha lf kG lJ wj CU sJ qL
def CZ(L:Lf)(c0:((Sl Y0)×Bool×Unit)->OZ Y9)(x:dA):OZ Y9:=L.b (c0 (x.1,false,())) λb=>SZ (b.1,())
def jc:=CZ lf qM
def C0(L:Lf)(c0:j4)(c1:oO)(x:Y5×Unit):OZ Y8:=L.b (c0 (x.1.1,())) λb=>L.b (L.y b.1 (L.b (c1 (x.1.2.2,())) λd=>SZ (L.e d.1 0))) λe=>L.b (L.y e (L.r (L.t x.1.2.1) (L.b (L.g x.1.2.2.l 0) λg=>SZ (L.e g.1 5)))) λh=>SZ (h,())
def sK:=C0 lf sH jc
def C1(L:Lf)(c0:(Y5×Unit)->OZ Y8)(x:Y5×Unit):OZ Y8:=L.b (c0 ((x.1.1,x.1.2.1,x.1.2.2),())) λb=>SZ (L.t b.1,())
def wA:=C1 lf sK
def Yh(L:Lf)(c0:(Y5×Unit)->OZ Y8)(b:((Sl Y5)×Int×Int×Unit)):OZ (((Sl Y5)×Int×Int×Unit)⊕Y9):=L.c (L.l b.d2 b.2.1) (L.b (L.g b.1.l b.d2) λd=>L.b (c0 (d,())) λe=>L.c e.1 (SZ (JZ (b.d2,()))) (SZ (IZ (b.s2 (L.a .i64 b.d2 1))))) (SZ (JZ ((-1),())))
def Hb(L:Lf)(c0:(Y5×Unit)->OZ Y8)(x:(Sl Y5)×Unit):OZ Y9:=L.o (Yh L c0) (x.1,L.n x.1.l,0,())
def C2:=Hb lf wA
def C3(L:Lf)(c0:((Sl Y5)×Unit)->OZ Y9)(x:(Sl Y5)×Unit):OZ Y8:=L.b (c0 (x.1,())) λb=>SZ (L.m 0 b.1,())
def qN:=C3 lf C2
def C4(L:Lf)(c0:oM)(x:ch):OZ Y8:=L.b (c0 ((2,x.1,0,0),())) λb=>SZ (b.1,())
def oY:=C4 lf j5
def C5(L:Lf)(c0:oM)(x:KZ):OZ Y8:=L.c (L.e x.1.1 31) (L.b (L.y (L.e x.1.2.2.2 0) (SZ (L.h x.1.2.1 ([]:Y1)))) λb=>L.b (L.y b (SZ (L.m 0 x.1.d2))) λd=>L.b (L.y d (SZ (L.m x.1.d2 1048576))) λe=>SZ (e,())) (L.b (L.r (L.t (L.e x.1.1 32)) (SZ (L.t (L.e x.1.d2 0)))) λg=>L.c g (SZ (false,())) (L.c (L.h x.1.2.1 ([45,62]:Y1)) (SZ (L.e x.1.2.2.2 2,())) (L.b (L.c (L.h x.1.2.1 ([105,110,116]:Y1)) (SZ (x.1.2.1,L.h x.1.2.1 ([105,110,116]:Y1),x.1.1,x.1.2.1,x.1.d2,x.1.2.2.2,())) (SZ (x.1.2.1,L.h x.1.2.1 ([116,101,120,116]:Y1),x.1.1,x.1.2.1,x.1.d2,x.1.2.2.2,()))) λh=>L.c h.2.1 (SZ (L.e h.d5 0,())) (L.c (L.h h.1 ([114,101,102]:Y1)) (SZ (L.e h.d5 1,())) (L.b (c0 ((2,h.d3,0,0),())) λi=>L.b (L.y i.1 (SZ (L.m h.d5 8))) λj=>SZ (j,()))))))
def wB:=C5 lf j5
def C6(L:Lf)(c0:oM)(x:KZ):OZ Y8:=L.b (c0 ((x.1.1,x.1.2.1,x.1.d2,x.1.2.2.2),())) λb=>SZ (L.t b.1,())
def wC:=C6 lf wB
def Yi(L:Lf)(c0:oM)(b:sv):OZ (sv⊕Y9):=L.c (L.l b.d2 b.2.1) (L.b (L.g b.1.l b.d2) λd=>L.b (c0 (d,())) λe=>L.c e.1 (SZ (JZ (b.d2,()))) (SZ (IZ (b.s2 (L.a .i64 b.d2 1))))) (SZ (JZ ((-1),())))
def Hc(L:Lf)(c0:oM)(x:dA):OZ Y9:=L.o (Yi L c0) (x.1,L.n x.1.l,0,())
def C7:=Hc lf wC
def C8(L:Lf)(c0:oO)(x:dA):OZ Y8:=L.b (c0 (x.1,())) λb=>SZ (L.m 0 b.1,())
def wD:=C8 lf C7
def C9(L:Lf)(c0:nu)(c1:nu)(x:dA):OZ Y9:=L.b (L.r (L.l 4000 (L.n x.1.l)) (L.b (c1 (x.1,())) λb=>SZ (L.t b.1))) λd=>L.c d (L.c true (SZ (90,())) (SZ (0,()))) (L.b (c0 (x.1,())) λe=>L.c e.1 (SZ (90,())) (SZ (0,())))
def qO:=C9 lf wD lJ
def Da(L:Lf)(x:v7):OZ y7:=SZ (L.m x.d2 x.1,x.2.1,x.d2,x.d3,())
def wF:=Da lf
def Yj(L:Lf)(c0:v7->OZ y7)(b:((Sl Int)×Int×Int×Y1×Int×fL×Unit)):OZ (((Sl Int)×Int×Int×Y1×Int×fL×Unit)⊕v7):=L.c (L.l b.d2 b.2.1) (L.b (L.g b.1.l b.d2) λd=>L.b (c0 (d,b.d3,b.d4,b.d5,())) λe=>L.c e.1 (SZ (JZ (b.d2,e.2.1,e.d2,e.d3,()))) (SZ (IZ (b.1,b.2.1,L.a .i64 b.d2 1,e.2.1,e.d2,e.d3,())))) (SZ (JZ ((-1),b.d3,b.d4,b.d5,())))
def Hd(L:Lf)(c0:v7->OZ y7)(x:(Sl Int)×Y1×Int×fL×Unit):OZ v7:=L.o (Yj L c0) (x.1,L.n x.1.l,0,x.2.1,x.d2,x.d3,())
def Db:=Hd lf wF
def Dd(L:Lf)(c0:((Sl Int)×Y1×Int×fL×Unit)->OZ v7)(x:(Sl Int)×Y1×Int×fL×Unit):OZ y7:=L.b (c0 (x.1,x.2.1,x.d2,x.d3,())) λb=>SZ (L.m 0 b.1,b.2.1,b.d2,b.d3,())
def Ao:=Dd lf Db
def Yk(L:Lf)(b:((Sl Int)×Int×Int×Int×Unit)):OZ (((Sl Int)×Int×Int×Int×Unit)⊕Y9):=L.c (L.l b.d3 b.d2) (L.b (L.g b.1.l b.d3) λd=>L.c (L.e b.2.1 d) (SZ (JZ (b.d3,()))) (SZ (IZ (b.s3 (L.a .i64 b.d3 1))))) (SZ (JZ ((-1),())))
def He(L:Lf)(x:v8):OZ Y9:=L.o (Yk L) (x.1,x.2.1,L.n x.1.l,0,())
def De:=He lf
def Df(L:Lf)(c0:v8->OZ Y9)(x:v8):OZ Y8:=L.b (c0 (x.1,x.2.1,())) λb=>SZ (L.m 0 b.1,())
def sL:=Df lf De
def Yl(L:Lf)(c1:v8->OZ Y8)(b:XX):OZ (XX⊕pI):=L.c (L.l b.d2 b.2.1) (L.b (L.g b.1.l b.d2) λd=>L.b (L.y (L.e d.1 31) (L.b (c1 (b.d3,d.d2,())) λe=>SZ (L.t e.1))) λg=>L.b (L.c g (L.z b.d3 [d.d2] λzz=>SZ (b.s3 zz)) (SZ b)) λh=>SZ (IZ (h.s2 (L.a .i64 h.d2 1)))) (SZ (JZ (b.d3,())))
def Hf(L:Lf)(c0:oO)(c1:v8->OZ Y8)(x:dA):OZ pI:=L.b (c0 (x.1,())) λb=>L.c (L.t (L.e b.1 0)) (SZ (⟨true,([]:Y1)⟩,())) (L.o (Yl L c1) (x.1,L.n x.1.l,0,⟨true,([]:Y1)⟩,()))
def Ap:=Hf lf qO sL
def Dg(L:Lf)(c0:oO)(c1:((Sl Int)×Y1×Int×fL×Unit)->OZ y7)(c2:dA->OZ pI)(x:(Sl Y0)×Y1×Int×fL×Unit):OZ y7:=L.b (c0 (x.1,())) λb=>L.c (L.e b.1 0) (L.b (c2 (x.1,())) λd=>L.b (c1 (d.1,x.2.1,x.d2,x.d3,())) λe=>SZ (e.s0 (L.t e.1))) (SZ (false,x.2.1,x.d2,x.d3,()))
def Aq:=Dg lf qO Ao Ap
def Dh(L:Lf)(c0:((Sl Y0)×Y1×Int×fL×Unit)->OZ y7)(x:(Sl Y0)×Y1×Int×fL×Unit):OZ y7:=L.b (c0 (x.1,x.2.1,x.d2,x.d3,())) λb=>SZ (b.s0 (L.t b.1))
def sM:=Dh lf Aq
def Ym(L:Lf)(c0:((Sl Y0)×Y1×Int×fL×Unit)->OZ y7)(b:(eK×Int×Int×Y1×Int×fL×Unit)):OZ ((eK×Int×Int×Y1×Int×fL×Unit)⊕v7):=L.c (L.l b.d2 b.2.1) (L.b (L.g b.1.l b.d2) λd=>L.b (c0 (d,b.d3,b.d4,b.d5,())) λe=>L.c e.1 (SZ (JZ (b.d2,e.2.1,e.d2,e.d3,()))) (SZ (IZ (b.1,b.2.1,L.a .i64 b.d2 1,e.2.1,e.d2,e.d3,())))) (SZ (JZ ((-1),b.d3,b.d4,b.d5,())))
def Hg(L:Lf)(c0:((Sl Y0)×Y1×Int×fL×Unit)->OZ y7)(x:eK×Y1×Int×fL×Unit):OZ v7:=L.o (Ym L c0) (x.1,L.n x.1.l,0,x.2.1,x.d2,x.d3,())
def Di:=Hg lf sM
def Dj(L:Lf)(c0:(eK×Y1×Int×fL×Unit)->OZ v7)(x:eK×Y1×Int×fL×Unit):OZ y7:=L.b (c0 (x.1,x.2.1,x.d2,x.d3,())) λb=>SZ (L.m 0 b.1,b.2.1,b.d2,b.d3,())
def sO:=Dj lf Di
def Yn(L:Lf)(c0:j4)(c1:(eK×Y1×Int×fL×Unit)->OZ y7)(b:(fL×Int×Int×Y1×Int×fL×Unit)):OZ ((fL×Int×Int×Y1×Int×fL×Unit)⊕Y8):=L.c (L.l b.d2 b.2.1) (L.b (L.g b.1.l b.d2) λd=>L.b (c0 (d.1,())) λe=>L.b (L.r (L.t e.1) (SZ (L.l 8 (L.n d.2.l)))) λg=>L.c g (L.c true (SZ (JZ (false,()))) (SZ (IZ (b.s2 (L.a .i64 b.d2 1))))) (L.b (c1 (d.2,b.d3,b.d4,b.d5,())) λh=>L.c h.1 (SZ (JZ (false,()))) (SZ (IZ (b.1,b.2.1,L.a .i64 b.d2 1,h.2.1,h.d2,h.d3,()))))) (SZ (JZ (true,())))
def Hh(L:Lf)(c0:j4)(c1:(eK×Y1×Int×fL×Unit)->OZ y7)(x:Y2×Unit):OZ Y8:=L.b (c0 (x.1.1,())) λb=>L.b (L.r (L.t b.1) (SZ (L.l x.1.2.1 0))) λd=>L.b (L.r d (SZ (L.l 8 x.1.2.1))) λe=>L.b (L.r e (SZ (L.l (L.n x.1.2.2.l) 1))) λg=>L.b (L.r g (SZ (L.l 60 (L.n x.1.2.2.l)))) λh=>L.c h (SZ (false,())) (L.o (Yn L c0 c1) (x.1.2.2,L.n x.1.2.2.l,0,x.1.1,x.1.2.1,x.1.2.2,()))
def Ar:=Hh lf oY sO
def Dk(L:Lf)(c0:(Y2×Unit)->OZ Y8)(x:Y2×Unit):OZ Y8:=L.b (c0 ((x.1.1,x.1.2.1,x.1.2.2),())) λb=>SZ (L.t b.1,())
def wG:=Dk lf Ar
def Yo(L:Lf)(c0:(Y2×Unit)->OZ Y8)(b:rM):OZ (rM⊕Y9):=L.c (L.l b.d2 b.2.1) (L.b (L.g b.1.l b.d2) λd=>L.b (c0 (d,())) λe=>L.c e.1 (SZ (JZ (b.d2,()))) (SZ (IZ (b.s2 (L.a .i64 b.d2 1))))) (SZ (JZ ((-1),())))
def Hi(L:Lf)(c0:(Y2×Unit)->OZ Y8)(x:lH):OZ Y9:=L.o (Yo L c0) (x.1,L.n x.1.l,0,())
def Dl:=Hi lf wG
def Dm(L:Lf)(c0:GQ)(x:lH):OZ Y8:=L.b (c0 (x.1,())) λb=>SZ (L.m 0 b.1,())
def sP:=Dm lf Dl
def Dn(L:Lf)(x:Y2×Y2×Unit):OZ Y8:=SZ (L.h x.1.1 x.2.1.1,())
def wH:=Dn lf
def Yp(L:Lf)(c0:(Y2×Y2×Unit)->OZ Y8)(b:((Sl Y2)×Y2×Int×Int×Unit)):OZ (((Sl Y2)×Y2×Int×Int×Unit)⊕Y9):=L.c (L.l b.d3 b.d2) (L.b (L.g b.1.l b.d3) λd=>L.b (c0 (d,b.2.1,())) λe=>L.c e.1 (SZ (JZ (b.d3,()))) (SZ (IZ (b.s3 (L.a .i64 b.d3 1))))) (SZ (JZ ((-1),())))
def Hj(L:Lf)(c0:(Y2×Y2×Unit)->OZ Y8)(x:(Sl Y2)×Y2×Unit):OZ Y9:=L.o (Yp L c0) (x.1,x.2.1,L.n x.1.l,0,())
def wJ:=Hj lf wH
def Dp(L:Lf)(x:Int×Int×(Sl Y2)×Y1×Int×Int×Unit):OZ K2:=L.b (L.g x.d2.l x.1) λb=>L.b (L.g b.2.2.l x.2.1) λd=>L.c (L.t (L.h d.1 x.d3)) (SZ (false,x.d4,x.d5,())) (SZ (true,x.1,x.2.1,()))
def wK:=Dp lf
def Yq(L:Lf)(c0:(Int×Int×(Sl Y2)×Y1×Int×Int×Unit)->OZ K2)(b:((Sl Y2)×Y1×Int×(Sl Y2)×Int×Int×Int×Int×Int×Int×Unit)):OZ (((Sl Y2)×Y1×Int×(Sl Y2)×Int×Int×Int×Int×Int×Int×Unit)⊕((XY⊕K2))):=L.c (L.l b.d7 b.d6) (L.b (c0 (b.d2,b.d7,b.1,b.2.1,b.d8,b.d9,())) λd=>L.c d.1 (SZ (JZ (JZ (d.s0 true)))) (SZ (IZ (((b.s7 (L.a .i64 b.d7 1)).s8 d.2.1).s9 d.d2)))) (SZ (JZ (IZ (b.1,b.2.1,b.d3,b.d4,L.a .i64 b.d5 1,b.d8,b.d9,()))))
def Yr(L:Lf)(k0:(((Sl Y2)×Y1×Int×(Sl Y2)×Int×Int×Int×Int×Int×Int×Unit))->OZ (((Sl Y2)×Y1×Int×(Sl Y2)×Int×Int×Int×Int×Int×Int×Unit)⊕((XY⊕K2))))(b:XY):OZ (XY⊕K2):=L.c (L.l b.d4 b.d3) (L.b (L.g b.d2.l b.d4) λd=>L.o k0 (b.1,b.2.1,b.d4,b.d2,b.d3,b.d4,L.n d.2.2.l,0,b.d5,b.d6,())) (SZ (JZ (false,b.d5,b.d6,())))
def Hk(L:Lf)(c0:(Int×Int×(Sl Y2)×Y1×Int×Int×Unit)->OZ K2)(x:(Sl Y2)×(Sl Y2)×Y1×Int×Int×Unit):OZ K2:=L.o (Yr L (Yq L c0)) (x.2.1,x.d2,x.1,L.n x.1.l,0,x.d3,x.d4,())
def As:=Hk lf wK
def Dq(L:Lf)(c0:((Sl Y2)×(Sl Y2)×Y1×Int×Int×Unit)->OZ K2)(x:(Sl Y2)×Y1×Unit):OZ (Int×Int×Bool×Unit):=L.b (c0 (x.1,x.1,x.2.1,0,0,())) λb=>SZ (b.2.1,b.d2,b.1,())
def Au:=Dq lf As
def Dr(L:Lf)(c0:((Sl Y2)×Y1×Unit)->OZ (Int×Int×Bool×Unit))(x:Int×Int×(Sl Y2)×Unit):OZ kX:=L.b (L.g x.d2.l x.1) λb=>L.b (L.g b.2.2.l x.2.1) λd=>L.b (c0 (x.d2,d.1,())) λe=>L.b (L.r (L.t (L.e e.1 x.1)) (SZ (L.t (L.e e.2.1 x.2.1)))) λg=>SZ (g,x.d2,())
def sQ:=Dr lf Au
def Ys(L:Lf)(c0:(Int×Int×(Sl Y2)×Unit)->OZ kX)(b:KX):OZ (KX⊕((FO⊕kX))):=L.c (L.l b.d5 b.d4) (L.b (c0 (b.1,b.d5,b.d6,())) λd=>L.c d.1 (SZ (JZ (JZ (true,d.2.1,())))) (SZ (IZ ((b.s5 (L.a .i64 b.d5 1)).s6 d.2.1)))) (SZ (JZ (IZ (b.2.1,b.d2,L.a .i64 b.d3 1,b.d6,()))))
def Yt(L:Lf)(k0:(KX)->OZ (KX⊕((FO⊕kX))))(b:FO):OZ (FO⊕kX):=L.c (L.l b.d2 b.2.1) (L.b (L.g b.1.l b.d2) λd=>L.o k0 (b.d2,b.1,b.2.1,b.d2,L.n d.2.2.l,0,b.d3,())) (SZ (JZ (false,b.d3,())))
def Hl(L:Lf)(c0:(Int×Int×(Sl Y2)×Unit)->OZ kX)(x:(Sl Y2)×(Sl Y2)×Unit):OZ kX:=L.o (Yt L (Ys L c0)) (x.1,L.n x.1.l,0,x.2.1,())
def wL:=Hl lf sQ
def Dt(L:Lf)(x:Y2×Y0×Unit):OZ Y8:=L.b (L.y (L.h x.1.1 x.2.1.2.1) (SZ (L.e x.1.2.1 x.2.1.2.2.2))) λb=>SZ (b,())
def wM:=Dt lf
def Yu(L:Lf)(c0:(Y2×Y0×Unit)->OZ Y8)(b:((Sl Y2)×Y0×Int×Int×Unit)):OZ (((Sl Y2)×Y0×Int×Int×Unit)⊕Y9):=L.c (L.l b.d3 b.d2) (L.b (L.g b.1.l b.d3) λd=>L.b (c0 (d,b.2.1,())) λe=>L.c e.1 (SZ (JZ (b.d3,()))) (SZ (IZ (b.s3 (L.a .i64 b.d3 1))))) (SZ (JZ ((-1),())))
def Hm(L:Lf)(c0:(Y2×Y0×Unit)->OZ Y8)(x:(Sl Y2)×Y0×Unit):OZ Y9:=L.o (Yu L c0) (x.1,x.2.1,L.n x.1.l,0,())
def Du:=Hm lf wM
def Dv(L:Lf)(c0:((Sl Y2)×Y0×Unit)->OZ Y9)(x:(Sl Y2)×Y0×Unit):OZ Y8:=L.b (c0 (x.1,x.2.1,())) λb=>SZ (L.m 0 b.1,())
def wN:=Dv lf Du
def Dw(L:Lf)(c0:((Sl Y2)×Y0×Unit)->OZ Y8)(c1:j4)(x:Y0×(Sl Y2)×Unit):OZ kX:=L.b (L.r (L.t (L.e x.1.1 32)) (L.b (c1 (x.1.2.1,())) λb=>SZ (L.t b.1))) λd=>L.c d (SZ (false,x.2.1,())) (L.b (c0 (x.2.1,(x.1.1,x.1.2.1,x.1.d2,x.1.2.2.2),())) λe=>SZ (L.t e.1,x.2.1,()))
def sR:=Dw lf wN oY
def Yv(L:Lf)(c0:(Y0×(Sl Y2)×Unit)->OZ kX)(b:((Sl Y0)×Int×Int×(Sl Y2)×Unit)):OZ (((Sl Y0)×Int×Int×(Sl Y2)×Unit)⊕Aa):=L.c (L.l b.d2 b.2.1) (L.b (L.g b.1.l b.d2) λd=>L.b (c0 (d,b.d3,())) λe=>L.c e.1 (SZ (JZ (b.d2,e.2.1,()))) (SZ (IZ (b.1,b.2.1,L.a .i64 b.d2 1,e.2.1,())))) (SZ (JZ ((-1),b.d3,())))
def Hn(L:Lf)(c0:(Y0×(Sl Y2)×Unit)->OZ kX)(x:(Sl Y0)×(Sl Y2)×Unit):OZ Aa:=L.o (Yv L c0) (x.1,L.n x.1.l,0,x.2.1,())
def Dx:=Hn lf sR
def Dy(L:Lf)(c0:((Sl Y0)×(Sl Y2)×Unit)->OZ Aa)(x:(Sl Y0)×(Sl Y2)×Unit):OZ kX:=L.b (c0 (x.1,x.2.1,())) λb=>SZ (L.m 0 b.1,b.2.1,())
def Av:=Dy lf Dx
def Dz(L:Lf)(c0:((Sl Y0)×(Sl Y2)×Unit)->OZ kX)(x:(Sl Y0)×(Sl Y2)×Unit):OZ kX:=L.b (c0 (x.1,x.2.1,())) λb=>SZ (b.1,b.2.1,())
def sS:=Dz lf Av
def Yw(L:Lf)(c0:((Sl Y0)×(Sl Y2)×Unit)->OZ kX)(b:(eK×Int×Int×(Sl Y2)×Unit)):OZ ((eK×Int×Int×(Sl Y2)×Unit)⊕Aa):=L.c (L.l b.d2 b.2.1) (L.b (L.g b.1.l b.d2) λd=>L.b (c0 (d,b.d3,())) λe=>L.c e.1 (SZ (JZ (b.d2,e.2.1,()))) (SZ (IZ (b.1,b.2.1,L.a .i64 b.d2 1,e.2.1,())))) (SZ (JZ ((-1),b.d3,())))
def Ho(L:Lf)(c0:((Sl Y0)×(Sl Y2)×Unit)->OZ kX)(x:eK×(Sl Y2)×Unit):OZ Aa:=L.o (Yw L c0) (x.1,L.n x.1.l,0,x.2.1,())
def DA:=Ho lf sS
def DB(L:Lf)(c0:(eK×(Sl Y2)×Unit)->OZ Aa)(x:eK×(Sl Y2)×Unit):OZ kX:=L.b (c0 (x.1,x.2.1,())) λb=>SZ (L.m 0 b.1,b.2.1,())
def Aw:=DB lf DA
def DC(L:Lf)(c0:(eK×(Sl Y2)×Unit)->OZ kX)(x:Int×Int×(Sl Y2)×Unit):OZ kX:=L.b (L.g x.d2.l x.1) λb=>L.b (L.g b.2.2.l x.2.1) λd=>L.b (c0 (d.2,x.d2,())) λe=>SZ (e.1,e.2.1,())
def sT:=DC lf Aw
def Yx(L:Lf)(c0:(Int×Int×(Sl Y2)×Unit)->OZ kX)(b:KX):OZ (KX⊕((FO⊕kX))):=L.c (L.l b.d5 b.d4) (L.b (c0 (b.1,b.d5,b.d6,())) λd=>L.c d.1 (SZ (JZ (JZ (true,d.2.1,())))) (SZ (IZ ((b.s5 (L.a .i64 b.d5 1)).s6 d.2.1)))) (SZ (JZ (IZ (b.2.1,b.d2,L.a .i64 b.d3 1,b.d6,()))))
def Yy(L:Lf)(k0:(KX)->OZ (KX⊕((FO⊕kX))))(b:FO):OZ (FO⊕kX):=L.c (L.l b.d2 b.2.1) (L.b (L.g b.1.l b.d2) λd=>L.o k0 (b.d2,b.1,b.2.1,b.d2,L.n d.2.2.l,0,b.d3,())) (SZ (JZ (false,b.d3,())))
def Hp(L:Lf)(c0:(Int×Int×(Sl Y2)×Unit)->OZ kX)(x:(Sl Y2)×(Sl Y2)×Unit):OZ kX:=L.o (Yy L (Yx L c0)) (x.1,L.n x.1.l,0,x.2.1,())
def wO:=Hp lf sT
def Yz(L:Lf)(c1:((Sl Y2)×Y2×Unit)->OZ Y9)(c2:((Sl Y2)×(Sl Y2)×Unit)->OZ kX)(c3:((Sl Y2)×(Sl Y2)×Unit)->OZ kX)(b:FO):OZ (FO⊕Y9):=L.c (L.l b.d2 b.2.1) (L.b (L.g b.1.l b.d2) λd=>L.b (c1 (b.d3,(d.1,d.2.1,d.2.2),())) λe=>L.c (L.l e.1 b.d2) (SZ (JZ (101,()))) (SZ (IZ (b.s2 (L.a .i64 b.d2 1))))) (L.b (c2 (b.d3,b.d3,())) λg=>L.c g.1 (SZ (JZ (101,()))) (L.b (c3 (g.2.1,g.2.1,())) λh=>L.c h.1 (SZ (JZ (102,()))) (SZ (JZ (0,())))))
def Hq(L:Lf)(c0:lH->OZ Y8)(c1:((Sl Y2)×Y2×Unit)->OZ Y9)(c2:((Sl Y2)×(Sl Y2)×Unit)->OZ kX)(c3:((Sl Y2)×(Sl Y2)×Unit)->OZ kX)(x:lH):OZ Y9:=L.b (L.r (L.l 60 (L.n x.1.l)) (L.b (c0 (x.1,())) λb=>SZ b.1)) λd=>L.c d (SZ (100,())) (L.o (Yz L c1 c2 c3) (x.1,L.n x.1.l,0,x.1,()))
def qP:=Hq lf sP wJ wL wO
def YA(L:Lf)(c0:sD)(b:((Sl Y1)×(Sl Y1)×Int×Int×Unit)):OZ (((Sl Y1)×(Sl Y1)×Int×Int×Unit)⊕Y8):=L.c (L.l b.d3 b.d2) (L.b (L.g b.2.1.l b.d3) λd=>L.b (L.cI b.1.l 0 b.d3) λe=>L.b (c0 (⟨b.1.nil,e⟩,d,())) λg=>L.c g.1 (SZ (JZ (true,()))) (SZ (IZ (b.s3 (L.a .i64 b.d3 1))))) (SZ (JZ (false,())))
def Hr(L:Lf)(c0:sD)(x:fo):OZ Y8:=L.o (YA L c0) (x.1,x.1,L.n x.1.l,0,())
def qQ:=Hr lf nx
def YB(L:Lf)(c5:fo->OZ Y8)(b:((Sl Y5)×Int×Int×Y1×(Sl Y1)×Y3×(Sl Y2)×(Sl Y5)×(Sl Y1)×Unit)):OZ (((Sl Y5)×Int×Int×Y1×(Sl Y1)×Y3×(Sl Y2)×(Sl Y5)×(Sl Y1)×Unit)⊕Y9):=L.c (L.l b.d2 b.2.1) (L.b (L.g b.1.l b.d2) λd=>L.z b.d8 [d.1] λzz=>SZ (IZ ((b.s2 (L.a .i64 b.d2 1)).s8 zz))) (L.w ([b.d3]:List Y1) b.d4.l (L.b (c5 (⟨L.d false (L.i b.d4.l),L.app ([b.d3]:List Y1) b.d4.l⟩,())) λe=>L.b (L.r e.1 (L.b (c5 (b.d8,())) λg=>SZ g.1)) λh=>L.c h (SZ (JZ (241,()))) (SZ (JZ (0,())))))
def Hs(L:Lf)(c0:Ac)(c1:j4)(c2:fo->OZ Y8)(c3:((Sl Y5)×Unit)->OZ Y8)(c4:GQ)(c5:fo->OZ Y8)(x:sq×Unit):OZ Y9:=L.b (c1 (x.1.1,())) λb=>L.b (L.r (L.t b.1) (SZ (L.l 60 (L.n x.1.2.1.l)))) λd=>L.b (L.r d (SZ (L.l 200 (L.n x.1.2.2.2.2.l)))) λe=>L.b (L.r e (L.b (c2 (x.1.2.1,())) λg=>SZ g.1)) λh=>L.b (L.r h (L.b (c3 (x.1.2.2.2.2,())) λi=>SZ i.1)) λj=>L.c j (SZ (240,())) (L.b (c4 (x.1.d3,())) λk=>L.b (L.y (L.t (L.e k.1 0)) (SZ (L.t (L.e k.1 102)))) λm=>L.b (L.r m (L.b (c0 (x.1.d2,())) λn=>SZ (L.t (L.e n.1 0)))) λo=>L.c o (SZ (240,())) (L.o (YB L c5) (x.1.2.2.2.2,L.n x.1.2.2.2.2.l,0,x.1.1,x.1.2.1,x.1.d2,x.1.d3,x.1.2.2.2.2,⟨true,([]:List Y1)⟩,())))
def oZ:=Hs lf iZ oX qK qN qP qQ
def o3(x:oL):OZ oL:=SZ (true,x.2.1,())
def DE(L:Lf)(c0:oL->OZ oL)(x:Y1×Bool×(Sl Int)×Unit):OZ xK:=L.b (c0 (x.2.1,x.d2,())) λb=>L.w b.2.1.l x.1 (SZ (L.n x.1,b.1,⟨L.d b.2.1.nil (L.i x.1),L.app b.2.1.l x.1⟩,()))
def gX:=DE lf o3
def DF(L:Lf)(x:rL):OZ rL:=L.c x.1.nil (SZ (⟨true,([]:List Y6)⟩,())) (L.w ([]:List Y6) x.1.l (SZ (⟨L.d false (L.i x.1.l),L.app ([]:List Y6) x.1.l⟩,())))
def nC:=DF lf
def DG(L:Lf)(x:Y6×Y6×Unit):OZ Y8:=SZ (L.h x.1.1 x.2.1.1,())
def nD:=DG lf
def YC(L:Lf)(c0:(Y6×Y6×Unit)->OZ Y8)(b:(Y3×Y6×Int×Int×Unit)):OZ ((Y3×Y6×Int×Int×Unit)⊕Y9):=L.c (L.l b.d3 b.d2) (L.b (L.g b.1.l b.d3) λd=>L.b (c0 (d,b.2.1,())) λe=>L.c e.1 (SZ (JZ (b.d3,()))) (SZ (IZ (b.s3 (L.a .i64 b.d3 1))))) (SZ (JZ ((-1),())))
def Ht(L:Lf)(c0:(Y6×Y6×Unit)->OZ Y8)(x:Y3×Y6×Unit):OZ Y9:=L.o (YC L c0) (x.1,x.2.1,L.n x.1.l,0,())
def wP:=Ht lf nD
def YD(L:Lf)(c0:(Y6×Y6×Unit)->OZ Y8)(b:(Y6×Int×Int×Y3×Unit)):OZ ((Y6×Int×Int×Y3×Unit)⊕rL):=L.c (L.l b.d2 (L.n b.d3.l)) (L.b (L.cD b.d3.l b.d2) λd=>L.b (L.nth b.d3.l d) λe=>L.b (c0 ((e.1,e.2.1,e.2.2),b.1,())) λg=>L.b (L.c (L.t g.1) (L.b (L.cD b.d3.l b.2.1) λh=>L.b (L.b (L.nth b.d3.l h) λ_=>SZ (e.1,e.2.1,e.2.2)) λi=>SZ (b.1,L.a .i64 b.2.1 1,b.d2,⟨b.d3.nil,L.jY b.d3.l h i⟩,())) (SZ b)) λj=>SZ (IZ (j.s2 (L.a .i64 j.d2 1)))) (L.b (L.df (L.n b.d3.l) b.2.1) λ_=>L.b (L.df (L.n (L.fF b.d3.l b.2.1 (([]:Y1),0,0))) b.2.1) λk=>SZ (JZ (⟨b.d3.nil,L.aH (L.fF b.d3.l b.2.1 (([]:Y1),0,0)) k⟩,())))
def Hu(L:Lf)(c0:(Y6×Y6×Unit)->OZ Y8)(c1:(Y3×Y6×Unit)->OZ Y9)(x:Y6×Y3×Unit):OZ rL:=L.b (c1 (x.2.1,x.1,())) λb=>L.c (L.e b.1 (-1)) (SZ (x.2.1,())) (L.o (YD L c0) (x.1,b.1,L.a .i64 b.1 1,x.2.1,()))
def sU:=Hu lf nD wP
def Ax(x:rL):OZ rL:=bif x.1.l.all y0&&KM x.1.l&&decide (x.1.l.length<4611686018427387904) then SZ ((⟨x.1.nil,x.1.l.mergeSort fun a b=>!fT b a⟩:Sl ak),()) else none
def DH(L:Lf)(c0:Ac)(c1:Ae)(c2:(Y6×Unit)->OZ Y8)(c3:(Y6×Y3×Unit)->OZ rL)(c4:Ae)(x:Y3×Y6×Unit):OZ xL:=L.b (c0 (x.1,())) λb=>L.c (L.t (L.e b.1 0)) (SZ (⟨true,([]:List Y6)⟩,b.1,())) (L.b (c1 (x.1,())) λd=>L.b (c3 ((x.2.1.1,x.2.1.2.1,x.2.1.2.2),d.1,())) λe=>L.b (c2 ((x.2.1.1,x.2.1.2.1,x.2.1.2.2),())) λg=>L.b (L.r (L.t g.1) (SZ (L.e (L.n e.1.l) 400))) λh=>L.c h (SZ (⟨true,([]:List Y6)⟩,40,())) (L.z e.1 [(x.2.1.1,x.2.1.2.1,x.2.1.2.2)] λzz=>L.b (c4 (zz,())) λi=>SZ (i.1,0,())))
def o4:=DH lf iZ nC nz sU Ax
def YE(L:Lf)(c0:oN)(b:XX):OZ (XX⊕pI):=L.c (L.l (L.n b.d3.l) b.d2) (L.z b.d3 [b.2.1] λzz=>L.b (c0 (b.1,b.2.1,())) λd=>SZ (IZ (b.1,d.1,b.d2,zz,()))) (SZ (JZ (b.d3,())))
def Hv(L:Lf)(c0:oN)(x:jP):OZ pI:=L.b (c0 (x.1,x.2.1,())) λb=>L.c (L.l b.1 0) (SZ (⟨true,([]:Y1)⟩,())) (L.b (L.g x.1.l x.2.1) λd=>L.o (YE L c0) (x.1,L.a .i64 x.2.1 1,d.2.2.2,⟨true,([]:Y1)⟩,()))
def fM:=Hv lf kG
def YF(L:Lf)(c0:oS)(b:((Sl Y0)×Bool×(Sl Int)×Y1×(Sl Int)×Int×Int×Unit)):OZ (((Sl Y0)×Bool×(Sl Int)×Y1×(Sl Int)×Int×Int×Unit)⊕ch):=L.c (L.l b.d6 b.d5) (L.b (L.g b.d4.l b.d6) λd=>L.b (c0 (b.1,d,true,false,())) λe=>L.w ([32]:Y1) e.1 (L.w b.d3 (L.q ([32]:Y1) e.1) (SZ (IZ ((b.s3 (L.q b.d3 (L.q ([32]:Y1) e.1))).s6 (L.a .i64 b.d6 1)))))) (L.b (L.y b.2.1 (SZ (L.l 0 (L.n b.d2.l)))) λg=>L.c g (L.w ([40]:Y1) b.d3 (L.w (L.q ([40]:Y1) b.d3) ([41]:Y1) (SZ (JZ (L.q (L.q ([40]:Y1) b.d3) ([41]:Y1),()))))) (SZ (JZ (b.d3,()))))
def Hw(L:Lf)(c0:oS)(c1:sy)(x:Y79):OZ ch:=L.b (L.g x.1.l x.2.1) λb=>L.c (L.e b.1 31) (SZ (([L.dV .u8 (L.a .i64 97 b.d2)]:Y1),())) (L.b (c1 (x.1,x.2.1,())) λd=>L.c (L.h b.2.1 ([45,62]:Y1)) (L.b (L.g d.1.l 0) λe=>L.b (c0 (x.1,e,false,true,())) λg=>L.w g.1 ([32,45,62,32]:Y1) (L.b (L.g d.1.l 1) λh=>L.b (c0 (x.1,h,false,false,())) λi=>L.w (L.q g.1 ([32,45,62,32]:Y1)) i.1 (L.b (L.r x.d2 (SZ x.d3)) λj=>L.c j (L.w ([40]:Y1) (L.q (L.q g.1 ([32,45,62,32]:Y1)) i.1) (L.w (L.q ([40]:Y1) (L.q (L.q g.1 ([32,45,62,32]:Y1)) i.1)) ([41]:Y1) (SZ (L.q (L.q ([40]:Y1) (L.q (L.q g.1 ([32,45,62,32]:Y1)) i.1)) ([41]:Y1),())))) (SZ (L.q (L.q g.1 ([32,45,62,32]:Y1)) i.1,()))))) (L.o (YF L c0) (x.1,x.d2,d.1,b.2.1,d.1,L.n d.1.l,0,())))
def wQ(self:oS)(x:Y79):OZ ch:=Hw lf self fM x
def sV:=eN wQ
def YG(L:Lf)(c0:oS)(b:(Y1×fL×Int×Int×eK×Int×Int×Unit)):OZ ((Y1×fL×Int×Int×eK×Int×Int×Unit)⊕(((Y1×fL×Int×Int×Unit)⊕(Rf⊕ch)))):=L.c (L.l b.d6 b.d5) (L.b (L.g b.d4.l b.d6) λd=>L.b (c0 (d,0,true,false,())) λe=>L.w ([32]:Y1) e.1 (L.w b.1 (L.q ([32]:Y1) e.1) (SZ (IZ (L.q b.1 (L.q ([32]:Y1) e.1),b.2.1,b.d2,b.d3,b.d4,b.d5,L.a .i64 b.d6 1,()))))) (SZ (JZ (IZ (b.1,b.2.1,b.d2,L.a .i64 b.d3 1,()))))
def YH(L:Lf)(k0:((Y1×fL×Int×Int×eK×Int×Int×Unit))->OZ ((Y1×fL×Int×Int×eK×Int×Int×Unit)⊕(((Y1×fL×Int×Int×Unit)⊕(Rf⊕ch)))))(b:(Y1×fL×Int×Int×Unit)):OZ ((Y1×fL×Int×Int×Unit)⊕((Rf⊕ch))):=L.c (L.l b.d3 b.d2) (L.b (L.g b.2.1.l b.d3) λd=>L.b (L.c (L.e b.d3 0) (L.w ([32,61,32]:Y1) d.1 (L.w b.1 (L.q ([32,61,32]:Y1) d.1) (SZ (L.q b.1 (L.q ([32,61,32]:Y1) d.1),b.2.1,b.d2,b.d3,d.1,d.2,())))) (L.w ([32,124,32]:Y1) d.1 (L.w b.1 (L.q ([32,124,32]:Y1) d.1) (SZ (L.q b.1 (L.q ([32,124,32]:Y1) d.1),b.2.1,b.d2,b.d3,d.1,d.2,()))))) λe=>L.b (L.c (L.l 0 (L.n e.d5.l)) (L.w e.1 ([32,111,102]:Y1) (SZ (e.s0 (L.q e.1 ([32,111,102]:Y1))))) (SZ e)) λg=>L.o k0 (g.1,g.2.1,g.d2,g.d3,g.d5,L.n g.d5.l,0,())) (SZ (JZ (JZ (b.1,()))))
def YI(L:Lf)(k0:((Y1×fL×Int×Int×Unit))->OZ ((Y1×fL×Int×Int×Unit)⊕((Rf⊕ch))))(b:Rf):OZ (Rf⊕ch):=L.c (L.l b.d2 b.2.1) (L.w ([32]:Y1) ([L.dV .u8 (L.a .i64 97 b.d2)]:Y1) (L.w b.1 (L.q ([32]:Y1) ([L.dV .u8 (L.a .i64 97 b.d2)]:Y1)) (SZ (IZ ((b.s0 (L.q b.1 (L.q ([32]:Y1) ([L.dV .u8 (L.a .i64 97 b.d2)]:Y1)))).s2 (L.a .i64 b.d2 1)))))) (L.o k0 (b.1,b.d5,L.n b.d5.l,0,()))
def Hx(L:Lf)(c0:oS)(x:Y2×Unit):OZ ch:=L.w ([116,121,112,101,32]:Y1) x.1.1 (L.o (YI L (YH L (YG L c0))) (L.q ([116,121,112,101,32]:Y1) x.1.1,x.1.2.1,0,x.1.1,x.1.2.1,x.1.2.2,()))
def qR:=Hx lf sV
def Tb(L:Lf)(c0:sy)(c1:iI)(x:Int×Int×(Sl Y0)×Y3×Unit):OZ ((Sl Y0)×Int×(Sl Y0)×Y3×Unit):=L.b (c0 (x.d2,x.2.1,())) λb=>L.b (L.g b.1.l x.1) λd=>L.b (c1 (d,x.d2,x.d3,())) λe=>SZ (e.1,x.2.1,e.2.1,e.d2,())
def K5(self:iI)(x:Int×Int×(Sl Y0)×Y3×Unit):OZ ((Sl Y0)×Int×(Sl Y0)×Y3×Unit):=Tb lf fM self x
def YJ(L:Lf)(b:(eK×Int×Int×(Sl Y0)×Unit)):OZ ((eK×Int×Int×(Sl Y0)×Unit)⊕dA):=L.c (L.l b.d2 b.2.1) (L.b (L.g b.1.l b.d2) λd=>L.w b.d3.l d.l (SZ (IZ (b.1,b.2.1,L.a .i64 b.d2 1,⟨L.d b.d3.nil (L.i d.l),L.app b.d3.l d.l⟩,())))) (SZ (JZ (b.d3,())))
def Hy(L:Lf)(x:Y67):OZ dA:=L.o (YJ L) (x.2.1,L.n x.2.1.l,0,⟨false,([(x.1.1,x.1.2.1,x.1.d2,L.n x.2.1.l)]:List Y0)⟩,())
def jf:=Hy lf
def DI(L:Lf)(c0:Ad)(x:ch):OZ dA:=L.b (c0 ((41,x.1,0,0),⟨true,([]:List (Sl Y0))⟩,())) λb=>SZ (b.1,())
def Ay:=DI lf jf
def DJ(L:Lf)(c0:qB)(x:ch):OZ dA:=L.b (c0 (x.1,())) λb=>SZ (b.1,())
def gY:=DJ lf Ay
def DK(x:Y1×Y1×Y1×Int×Unit):OZ ch:=bif (x.2.1==[45])&&((x.2.2.1==[126])&&(decide (x.2.2.2.1=1)&&decide (x.1.length<=1000))) then SZ (jN x.1,()) else none
def DL(x:y8):OZ ch:=bif decide (x.2.1=10)&&(decide (-9223372036854775808<=x.1)&&decide (x.1<=9223372036854775807)) then SZ (sn x.1,()) else none
def DM(L:Lf)(c0:lI)(c1:(Y1×Y1×Y1×Int×Unit)->OZ ch)(c2:y8->OZ ch)(x:Y9):OZ ch:=L.b (c0 (x.1,())) λb=>L.b (c2 (b.1,10,())) λd=>L.b (c1 (d.1,([45]:Y1),([126]:Y1),1,())) λe=>SZ (e.1,())
def mG:=DM lf oW DK DL
def qS(x:oL):OZ ch:=SZ (x.2.1.l,())
def wR(L:Lf)(c0:oL->OZ oL)(x:xK):OZ oL:=L.b (c0 (x.2.1,x.d2,())) λb=>L.z b.2.1 [x.1] λzz=>SZ (b.1,zz,())
def wS:=wR lf o3
def YK(L:Lf)(c0:(Y1×Bool×(Sl Int)×Unit)->OZ xK)(c1:oL->OZ ch)(c2:xK->OZ oL)(b:(Y1×Int×Int×Bool×(Sl Int)×Unit)):OZ ((Y1×Int×Int×Bool×(Sl Int)×Unit)⊕ch):=L.c (L.l b.d2 b.2.1) (L.b (L.g b.1 b.d2) λd=>L.b (L.c (L.e d 34) (SZ (b.1,b.d2,d,b.2.1,b.d2,L.e d 34,b.d3,b.d4,())) (SZ (b.1,b.d2,d,b.2.1,b.d2,L.e d 92,b.d3,b.d4,()))) λe=>L.b (L.c e.d5 (L.b (L.cI e.1 e.2.1 (L.a .i64 e.2.1 1)) λg=>L.w ([92]:Y1) g (L.b (c0 (L.q ([92]:Y1) g,e.d6,e.d7,())) λh=>SZ (e.1,e.d3,e.d4,h.2.1,h.d2,()))) (L.b (L.c (L.e e.d2 10) (L.b (c0 (([92,110]:Y1),e.d6,e.d7,())) λi=>SZ (e.1,e.d3,e.d4,i.2.1,i.d2,())) (L.b (L.r (L.l e.d2 32) (SZ (L.l 126 e.d2))) λj=>L.b (L.c j (L.b (L.la .u8 e.d2 4) λk=>L.b (L.la .u8 e.d2 4) λm=>L.b (L.cI ([48,49,50,51,52,53,54,55,56,57,97,98,99,100,101,102]:Y1) k (L.a .u8 m 1)) λn=>L.w ([92,120]:Y1) n (L.b (L.cI ([48,49,50,51,52,53,54,55,56,57,97,98,99,100,101,102]:Y1) (L.l9 .u8 e.d2 15) (L.a .u8 (L.l9 .u8 e.d2 15) 1)) λo=>L.w (L.q ([92,120]:Y1) n) o (L.b (c0 (L.q (L.q ([92,120]:Y1) n) o,e.d6,e.d7,())) λp=>SZ (e.1,e.d3,e.d4,p.2.1,p.d2,())))) (L.b (c2 (e.d2,e.d6,e.d7,())) λq=>SZ (e.1,e.d3,e.d4,q.1,q.2.1,()))) λr=>SZ r)) λs=>SZ s)) λt=>SZ (IZ (t.s2 (L.a .i64 t.d2 1)))) (L.b (c2 (34,b.d3,b.d4,())) λu=>L.b (c1 (u.1,u.2.1,())) λv=>SZ (JZ (v.1,())))
def Hz(L:Lf)(c0:(Y1×Bool×(Sl Int)×Unit)->OZ xK)(c1:oL->OZ ch)(c2:xK->OZ oL)(x:ch):OZ ch:=L.b (c2 (34,false,⟨true,([]:Y1)⟩,())) λb=>L.o (YK L c0 c1 c2) (x.1,L.n x.1,0,b.1,b.2.1,())
def wT:=Hz lf gX qS wS
def DN(L:Lf)(c0:oM)(x:ch):OZ ch:=L.b (c0 ((5,x.1,0,0),())) λb=>L.c b.1 (L.w ([40]:Y1) x.1 (L.w (L.q ([40]:Y1) x.1) ([41]:Y1) (SZ (L.q (L.q ([40]:Y1) x.1) ([41]:Y1),())))) (SZ (x.1,()))
def mH:=DN lf j5
def DO(L:Lf)(c0:Ad)(x:dA):OZ dA:=L.b (c0 ((44,([]:Y1),0,0),⟨false,([x.1]:List (Sl Y0))⟩,())) λb=>SZ (b.1,())
def Az:=DO lf jf
def DP(L:Lf)(c0:Ad)(x:KY):OZ dA:=L.b (c0 ((45,([]:Y1),0,0),x.1,())) λb=>SZ (b.1,())
def o5:=DP lf jf
def DQ(L:Lf)(c0:oB)(x:KY):OZ dA:=L.c (L.e (L.n x.1.l) 1) (L.b (L.g x.1.l 0) λb=>SZ (b,())) (L.b (c0 (x.1,())) λd=>SZ (d.1,()))
def sW:=DQ lf o5
def DR(L:Lf)(c0:Aj)(c1:oB)(x:KY):OZ dA:=L.b (c1 (x.1,())) λb=>L.b (c0 (b.1,())) λd=>SZ (d.1,())
def jR:=DR lf Az sW
def DS(L:Lf)(c0:Ad)(_x:Unit):OZ dA:=L.b (c0 ((42,([]:Y1),0,0),⟨true,([]:List (Sl Y0))⟩,())) λb=>SZ (b.1,())
def gZ:=DS lf jf
def DT(L:Lf)(c0:Ad)(x:Int×(Sl Y0)×Unit):OZ dA:=L.b (c0 ((43,([]:Y1),x.1,0),⟨false,([x.2.1]:List (Sl Y0))⟩,())) λb=>SZ (b.1,())
def AA:=DT lf jf
def DU(L:Lf)(c0:oB)(c1:(Int×(Sl Y0)×Unit)->OZ dA)(x:KY):OZ dA:=L.b (c0 (x.1,())) λb=>L.b (c1 (2,b.1,())) λd=>SZ (d.1,())
def j6:=DU lf sW AA
def DV(L:Lf)(c0:nv)(c1:oB)(x:dA):OZ dA:=L.b (c0 ()) λb=>L.b (c1 (⟨false,([b.1,x.1]:List (Sl Y0))⟩,())) λd=>SZ (d.1,())
def mI:=DV lf gZ j6
def YL(L:Lf)(c3:oT)(b:((Sl Y0)×Bool×Y1×(Sl Int)×Int×Int×Int×Y1×Int×Int×Unit)):OZ (((Sl Y0)×Bool×Y1×(Sl Int)×Int×Int×Int×Y1×Int×Int×Unit)⊕ch):=L.c (L.l b.d5 b.d4) (L.b (L.g b.d3.l b.d5) λd=>L.b (c3 (b.1,d,true,())) λe=>L.w ([32]:Y1) e.1 (L.w b.d2 (L.q ([32]:Y1) e.1) (SZ (IZ ((b.s2 (L.q b.d2 (L.q ([32]:Y1) e.1))).s5 (L.a .i64 b.d5 1)))))) (L.b (L.y b.2.1 (SZ (L.l 0 b.d9))) λg=>L.c g (L.w ([40]:Y1) b.d2 (L.w (L.q ([40]:Y1) b.d2) ([41]:Y1) (SZ (JZ (L.q (L.q ([40]:Y1) b.d2) ([41]:Y1),()))))) (SZ (JZ (b.d2,()))))
def HA(L:Lf)(c0:sy)(c1:qC)(c2:oP)(c3:oT)(x:KR):OZ ch:=L.b (L.g x.1.l x.2.1) λb=>L.c (L.e b.1 21) (SZ (([95]:Y1),())) (L.c (L.e b.1 22) (L.b (c2 (b.2.1,())) λd=>SZ (d.1,())) (L.c (L.e b.1 23) (L.b (c1 (b.d2,())) λe=>SZ (e.1,())) (L.b (c0 (x.1,x.2.1,())) λg=>L.o (YL L c3) (x.1,x.d2,b.2.1,g.1,L.n g.1.l,0,b.1,b.2.1,b.d2,b.2.2.2,()))))
def wU(self:oT)(x:KR):OZ ch:=HA lf fM mG mH self x
def AB:=eN wU
def YM(L:Lf)(c1:iI)(c2:qB)(c3:oB)(c4:Aj)(c5:nv)(c6:oB)(c7:oT)(b:((Sl Int)×Int×(Sl Y0)×Y3×eK×Unit)):OZ (((Sl Int)×Int×(Sl Y0)×Y3×eK×Unit)⊕oK):=L.c (L.l b.2.1 (L.n b.1.l)) (L.b (L.g b.1.l b.2.1) λd=>L.b (c7 (b.d2,d,false,())) λe=>L.w e.1 ([32,45,62]:Y1) (L.b (L.g b.1.l (L.a .i64 b.2.1 1)) λg=>L.b (c1 (g,b.d2,b.d3,())) λh=>L.b (c4 (h.1,())) λi=>L.b (L.c (L.e b.2.1 1) (L.b (c5 ()) λj=>L.b (c2 (L.q e.1 ([32,45,62]:Y1),())) λk=>L.b (c6 (⟨false,([j.1,k.1,i.1]:List (Sl Y0))⟩,())) λm=>L.z b.d4 [m.1] λzz=>SZ (b.1,b.2.1,h.2.1,h.d2,zz,())) (L.b (c5 ()) λn=>L.w ([124,32]:Y1) (L.q e.1 ([32,45,62]:Y1)) (L.b (c2 (L.q ([124,32]:Y1) (L.q e.1 ([32,45,62]:Y1)),())) λo=>L.z b.d4 [n.1,o.1,i.1] λzy=>SZ (b.1,b.2.1,h.2.1,h.d2,zy,())))) λp=>SZ (IZ (p.s1 (L.a .i64 p.2.1 2))))) (L.b (c5 ()) λq=>L.b (c2 (([101,110,100]:Y1),())) λr=>L.z b.d4 [q.1,r.1] λzx=>L.b (c3 (zx,())) λs=>SZ (JZ (s.1,b.d2,b.d3,())))
def YN(L:Lf)(c0:sy)(c1:iI)(c2:qB)(c3:oB)(c4:Aj)(c5:nv)(c6:oB)(c7:oT)(x:GI):OZ oK:=L.b (c0 (x.2.1,x.1,())) λb=>L.b (c2 (([109,97,116,99,104]:Y1),())) λd=>L.b (L.g b.1.l 0) λe=>L.b (c1 (e,x.2.1,x.d2,())) λg=>L.b (c4 (g.1,())) λh=>L.b (c5 ()) λi=>L.b (c2 (([119,105,116,104]:Y1),())) λj=>L.o (YM L c1 c2 c3 c4 c5 c6 c7) (b.1,1,g.2.1,g.d2,⟨false,([d.1,h.1,i.1,j.1]:List (Sl Y0))⟩,())
def Mo(self:iI)(x:GI):OZ oK:=YN lf fM self gY jR mI gZ j6 AB x
def DW(L:Lf)(c0:(Y3×Y1×Unit)->OZ rN)(x:FP):OZ rN:=L.b (L.g x.1.1.l x.2.1) λb=>L.b (L.r (L.t (L.e b.1 6)) (L.b (L.g x.1.1.l (L.a .i64 x.2.1 1)) λd=>SZ (L.t (L.e d.1 6)))) λe=>L.b (L.r e (L.b (L.g x.1.1.l (L.a .i64 x.2.1 2)) λg=>SZ (L.t (L.e g.1 3)))) λh=>L.c h (SZ ((([]:Y1),0,0),false,())) (L.b (L.g x.1.1.l (L.a .i64 x.2.1 2)) λi=>L.b (c0 (x.1.2,i.2.1,())) λj=>SZ ((j.1.1,j.1.2.1,j.1.2.2),j.2.1,()))
def o6:=DW lf nA
def DY(L:Lf)(c0:FP->OZ rN)(x:FP):OZ Y9:=L.b (L.g x.1.1.l x.2.1) λb=>L.c (L.e b.1 6) (L.b (c0 (x.1,x.2.1,())) λd=>L.c d.2.1 (SZ (2,())) (SZ (1,()))) (L.b (L.c (L.e b.1 5) (SZ (L.e b.1 5,())) (L.b (L.c (L.e b.1 7) (SZ (L.e b.1 7,())) (L.b (L.c (L.e b.1 8) (SZ (L.e b.1 8,())) (L.b (L.c (L.e b.1 9) (SZ (L.e b.1 9,())) (L.b (L.c (L.e b.1 11) (SZ (L.e b.1 11,())) (SZ (L.e b.1 12,()))) λe=>SZ (e.1,()))) λg=>SZ (g.1,()))) λh=>SZ (h.1,()))) λi=>SZ (i.1,()))) λj=>L.c j.1 (SZ (3,())) (SZ (0,())))
def kH:=DY lf o6
def Tc(L:Lf)(c0:iI)(c1:qB)(c2:oB)(x:Int×Bool×(Sl Y0)×Y3×Unit):OZ oK:=L.b (c0 (x.1,x.d2,x.d3,())) λb=>L.c x.2.1 (L.b (c1 (([40]:Y1),())) λd=>L.b (c1 (([41]:Y1),())) λe=>L.b (c2 (⟨false,([d.1,b.1,e.1]:List (Sl Y0))⟩,())) λg=>SZ (b.s0 g.1)) (SZ b)
def BG(self:iI)(x:Int×Bool×(Sl Y0)×Y3×Unit):OZ oK:=Tc lf self gY o5 x
def DZ(L:Lf)(c0:FP->OZ rN)(x:((Sl Y0)×Sl Y6)×Int×Y6×Int×Unit):OZ Y8:=L.b (c0 (x.1,x.2.1,())) λb=>L.b (L.y b.2.1 (L.r (L.l b.1.2.1 x.d2.2.1) (L.y (L.e b.1.2.1 x.d2.2.1) (L.r (L.t (L.e b.1.2.2 x.d3)) (SZ (L.t (L.e x.d2.2.2 x.d3))))))) λd=>SZ (d,())
def wV:=DZ lf o6
def Td(L:Lf)(c0:FP->OZ Y9)(c1:(Int×Bool×(Sl Y0)×Y3×Unit)->OZ oK)(c2:(((Sl Y0)×Sl Y6)×Int×Y6×Int×Unit)->OZ Y8)(x:Int×Y6×Int×(Sl Y0)×Y3×Unit):OZ oK:=L.b (c0 ((x.d3,x.d4),x.1,())) λb=>L.c (L.e b.1 3) (L.b (c1 (x.1,true,x.d3,x.d4,())) λd=>SZ d) (L.b (c2 ((x.d3,x.d4),x.1,(x.2.1.1,x.2.1.2.1,x.2.1.2.2),x.d2,())) λe=>L.b (c1 (x.1,e.1,x.d3,x.d4,())) λg=>SZ g)
def K6(self:iI)(x:Int×Y6×Int×(Sl Y0)×Y3×Unit):OZ oK:=Td lf kH (BG self) wV x
def Te(L:Lf)(c0:sy)(c1:qB)(c2:oB)(c3:nv)(c4:oB)(c5:FP->OZ rN)(c6:(Int×Y6×Int×(Sl Y0)×Y3×Unit)->OZ oK)(x:GI):OZ oK:=L.b (c5 ((x.2.1,x.d2),x.1,())) λb=>L.b (c0 (x.2.1,x.1,())) λd=>L.b (L.g d.1.l 0) λe=>L.b (c0 (x.2.1,e,())) λg=>L.b (L.g g.1.l 1) λh=>L.b (c6 (h,(b.1.1,b.1.2.1,b.1.2.2),(-1),x.2.1,x.d2,())) λi=>L.b (c3 ()) λj=>L.w b.1.1 ([32]:Y1) (L.b (c1 (L.q b.1.1 ([32]:Y1),())) λk=>L.b (L.g d.1.l 1) λm=>L.b (c6 (m,(b.1.1,b.1.2.1,b.1.2.2),1,i.2.1,i.d2,())) λn=>L.b (c4 (⟨false,([j.1,k.1,n.1]:List (Sl Y0))⟩,())) λo=>L.b (c2 (⟨false,([i.1,o.1]:List (Sl Y0))⟩,())) λp=>SZ (n.s0 p.1))
def K7(self:iI)(x:GI):OZ oK:=Te lf fM gY jR gZ j6 o6 (K6 self) x
def YO(L:Lf)(c1:oB)(c2:nv)(c3:FP->OZ Y9)(c4:oB)(c5:(Int×Bool×(Sl Y0)×Y3×Unit)->OZ oK)(b:(Int×Int×Int×(Sl Y0)×Y3×(Sl Int)×eK×Unit)):OZ ((Int×Int×Int×(Sl Y0)×Y3×(Sl Int)×eK×Unit)⊕(((Int×(Sl Y0)×Y3×(Sl Int)×Unit)⊕oK))):=L.c (L.m 0 b.d2) (L.b (c2 ()) λd=>L.b (L.cD b.d5.l b.d2) λe=>L.b (L.nth b.d5.l e) λg=>L.b (L.cD b.d5.l b.d2) λh=>L.b (L.nth b.d5.l h) λi=>L.b (c3 ((b.d3,b.d4),i,())) λj=>L.b (c5 (g,L.t (L.e j.1 0),b.d3,b.d4,())) λk=>L.z b.d6 [d.1,k.1] λzz=>SZ (IZ (b.1,b.2.1,L.u .i64 b.d2 1,k.2.1,k.d2,b.d5,zz,()))) (L.b (L.r (L.e b.2.1 2) (SZ (L.e b.2.1 3))) λm=>L.b (c5 (b.1,m,b.d3,b.d4,())) λn=>L.b (c4 (b.d6,())) λo=>L.b (c1 (⟨false,([n.1,o.1]:List (Sl Y0))⟩,())) λp=>SZ (JZ (JZ (n.s0 p.1))))
def YP(L:Lf)(c0:sy)(c3:FP->OZ Y9)(k0:((Int×Int×Int×(Sl Y0)×Y3×(Sl Int)×eK×Unit))->OZ ((Int×Int×Int×(Sl Y0)×Y3×(Sl Int)×eK×Unit)⊕(((Int×(Sl Y0)×Y3×(Sl Int)×Unit)⊕oK))))(b:(Int×(Sl Y0)×Y3×(Sl Int)×Unit)):OZ ((Int×(Sl Y0)×Y3×(Sl Int)×Unit)⊕oK):=L.b (c3 ((b.2.1,b.d2),b.1,())) λd=>L.c (L.e d.1 1) (L.b (c0 (b.2.1,b.1,())) λe=>L.b (L.g e.1.l 1) λg=>L.z b.d3 [g] λzz=>L.b (L.g e.1.l 0) λh=>SZ (IZ (h,b.2.1,b.d2,zz,()))) (L.b (c3 ((b.2.1,b.d2),b.1,())) λi=>L.o k0 (b.1,i.1,L.u .i64 (L.n b.d3.l) 1,b.2.1,b.d2,b.d3,⟨true,([]:List (Sl Y0))⟩,()))
def YQ(L:Lf)(c0:sy)(c1:oB)(c2:nv)(c3:FP->OZ Y9)(c4:oB)(c5:(Int×Bool×(Sl Y0)×Y3×Unit)->OZ oK)(x:GI):OZ oK:=L.o (YP L c0 c3 (YO L c1 c2 c3 c4 c5)) (x.1,x.2.1,x.d2,⟨true,([]:Y1)⟩,())
def Mp(self:iI)(x:GI):OZ oK:=YQ lf fM jR gZ kH j6 (BG self) x
def D0(L:Lf)(c0:(Int×Int×(Sl Y0)×Y3×Unit)->OZ ((Sl Y0)×Int×(Sl Y0)×Y3×Unit))(c1:qB)(c2:qC)(c3:oP)(c4:oP)(c5:oB)(c6:Aj)(c7:nv)(c8:iI)(c9:FP->OZ Y9)(oC:iI)(HE:iI)(x:GI):OZ oK:=L.b (L.g x.2.1.l x.1) λb=>L.c (L.e b.1 1) (L.b (c2 (b.d2,())) λd=>L.b (c1 (d.1,())) λe=>SZ (e.1,x.2.1,x.d2,())) (L.c (L.e b.1 2) (L.b (c3 (b.2.1,())) λg=>L.b (c1 (g.1,())) λh=>SZ (h.1,x.2.1,x.d2,())) (L.c (L.e b.1 3) (L.b (c4 (b.2.1,())) λi=>L.b (c1 (i.1,())) λj=>SZ (j.1,x.2.1,x.d2,())) (L.c (L.e b.1 5) (L.b (c4 (b.2.1,())) λk=>L.w ([102,117,110,32]:Y1) k.1 (L.w (L.q ([102,117,110,32]:Y1) k.1) ([32,45,62]:Y1) (L.b (c1 (L.q (L.q ([102,117,110,32]:Y1) k.1) ([32,45,62]:Y1),())) λm=>L.b (c0 (0,x.1,x.2.1,x.d2,())) λn=>L.b (c6 (n.1,())) λo=>L.b (c5 (⟨false,([m.1,o.1]:List (Sl Y0))⟩,())) λp=>SZ (p.1,n.d2,n.d3,())))) (L.c (L.e b.1 7) (L.b (c4 (b.2.1,())) λq=>L.w ([108,101,116,32]:Y1) q.1 (L.w (L.q ([108,101,116,32]:Y1) q.1) ([32,61]:Y1) (L.b (c1 (L.q (L.q ([108,101,116,32]:Y1) q.1) ([32,61]:Y1),())) λr=>L.b (c0 (0,x.1,x.2.1,x.d2,())) λs=>L.b (c6 (s.1,())) λt=>L.b (c7 ()) λu=>L.b (c1 (([105,110]:Y1),())) λv=>L.b (c7 ()) λw=>L.b (c0 (1,s.2.1,s.d2,s.d3,())) λy=>L.b (c5 (⟨false,([r.1,t.1,u.1,v.1,w.1,y.1]:List (Sl Y0))⟩,())) λz=>SZ (z.1,y.d2,y.d3,())))) (L.c (L.e b.1 8) (L.b (c4 (b.2.1,())) λbb=>L.w ([108,101,116,32,114,101,99,32]:Y1) bb.1 (L.w (L.q ([108,101,116,32,114,101,99,32]:Y1) bb.1) ([32,61]:Y1) (L.b (c1 (L.q (L.q ([108,101,116,32,114,101,99,32]:Y1) bb.1) ([32,61]:Y1),())) λbd=>L.b (c0 (0,x.1,x.2.1,x.d2,())) λbe=>L.b (c6 (be.1,())) λbg=>L.b (c7 ()) λbh=>L.b (c1 (([105,110]:Y1),())) λbi=>L.b (c7 ()) λbj=>L.b (c0 (1,be.2.1,be.d2,be.d3,())) λbk=>L.b (c5 (⟨false,([bd.1,bg.1,bh.1,bi.1,bj.1,bk.1]:List (Sl Y0))⟩,())) λbm=>SZ (bm.1,bk.d2,bk.d3,())))) (L.c (L.e b.1 9) (L.b (c1 (([105,102]:Y1),())) λbn=>L.b (c0 (0,x.1,x.2.1,x.d2,())) λbo=>L.b (c6 (bo.1,())) λbp=>L.b (c7 ()) λbq=>L.b (c1 (([116,104,101,110]:Y1),())) λbr=>L.b (c0 (1,bo.2.1,bo.d2,bo.d3,())) λbs=>L.b (c6 (bs.1,())) λbt=>L.b (c7 ()) λbu=>L.b (c1 (([101,108,115,101]:Y1),())) λbv=>L.b (c0 (2,bs.2.1,bs.d2,bs.d3,())) λbw=>L.b (c6 (bw.1,())) λbz=>L.b (c5 (⟨false,([bn.1,bp.1,bq.1,br.1,bt.1,bu.1,bv.1,bz.1]:List (Sl Y0))⟩,())) λdb=>SZ (db.1,bw.d2,bw.d3,())) (L.c (L.e b.1 11) (L.b (c1 (([114,97,105,115,101]:Y1),())) λdd=>L.b (c0 (0,x.1,x.2.1,x.d2,())) λde=>L.b (c6 (de.1,())) λdg=>L.b (c5 (⟨false,([dd.1,dg.1]:List (Sl Y0))⟩,())) λdh=>SZ (dh.1,de.d2,de.d3,())) (L.c (L.e b.1 12) (L.b (c1 (([116,114,121]:Y1),())) λdi=>L.b (c0 (0,x.1,x.2.1,x.d2,())) λdj=>L.b (c6 (dj.1,())) λdk=>L.b (c7 ()) λdm=>L.b (c4 (b.2.1,())) λdn=>L.w ([119,105,116,104,32]:Y1) dn.1 (L.w (L.q ([119,105,116,104,32]:Y1) dn.1) ([32,45,62]:Y1) (L.b (c1 (L.q (L.q ([119,105,116,104,32]:Y1) dn.1) ([32,45,62]:Y1),())) λdp=>L.b (c0 (1,dj.2.1,dj.d2,dj.d3,())) λdq=>L.b (c6 (dq.1,())) λdr=>L.b (c5 (⟨false,([di.1,dk.1,dm.1,dp.1,dr.1]:List (Sl Y0))⟩,())) λds=>SZ (ds.1,dq.d2,dq.d3,())))) (L.c (L.e b.1 10) (L.b (c8 (x.1,x.2.1,x.d2,())) λdt=>SZ dt) (L.c (L.e b.1 6) (L.b (c9 ((x.2.1,x.d2),x.1,())) λdu=>L.c (L.e du.1 2) (L.b (oC (x.1,x.2.1,x.d2,())) λdv=>SZ dv) (L.b (HE (x.1,x.2.1,x.d2,())) λdw=>SZ dw)) (L.b (c1 (b.2.1,())) λdy=>SZ (dy.1,x.2.1,x.d2,()))))))))))))
def qT(self:iI)(x:GI):OZ oK:=D0 lf (K5 self) gY mG wT mH jR mI gZ (Mo self) kH (K7 self) (Mp self) x
def D1:=eN qT
def D2(L:Lf)(c0:Ac)(c1:oO)(c2:iI)(x:(Sl Y0)×Y3×Unit):OZ jP:=L.b (c1 (x.1,())) λb=>L.c (L.t (L.e b.1 0)) (SZ (⟨true,([]:List Y0)⟩,b.1,())) (L.b (c0 (x.2.1,())) λd=>L.c (L.t (L.e d.1 0)) (SZ (⟨true,([]:List Y0)⟩,d.1,())) (L.b (c2 (0,x.1,x.2.1,())) λe=>SZ (e.1,0,())))
def qU:=D2 lf iZ jc D1
def HF(x:qA):OZ ch:=SZ (x.2.2.2.1.l,())
def D3(L:Lf)(x:Y9):OZ Y8:=L.b (L.r (L.l x.1 32) (SZ (L.l 126 x.1))) λb=>SZ (b,())
def wW:=D3 lf
def YR(L:Lf)(c0:kx)(b:(Bool×Y1×Int×Unit)):OZ ((Bool×Y1×Int×Unit)⊕Y9):=L.c (L.l b.d2 (L.n b.2.1)) (L.b (L.c (L.l b.d2 (L.n b.2.1)) (SZ b.d2) none) λd=>L.b (L.c (L.l b.d2 (L.n b.2.1)) (SZ (L.fN b.2.1 b.d2)) none) λe=>L.b (c0 (e,())) λg=>L.c (L.fA g.1 b.1) (SZ (JZ (d,()))) (SZ (IZ (b.s2 (L.gO b.2.1 b.d2))))) (SZ (JZ ((-1),())))
def HG(L:Lf)(c0:kx)(x:Y1×Bool×Unit):OZ Y9:=L.o (YR L c0) (x.2.1,x.1,0,())
def D4:=HG lf wW
def D5(L:Lf)(c0:(Y1×Bool×Unit)->OZ Y9)(x:ch):OZ Y9:=L.b (c0 (x.1,true,())) λb=>SZ (b.1,())
def AD:=D5 lf D4
def D6(L:Lf)(c0:Ag)(x:ch):OZ Y8:=L.b (c0 (x.1,())) λb=>SZ (L.m 0 b.1,())
def sX:=D6 lf AD
def D7(L:Lf)(c0:j4)(x:KZ):OZ Y8:=L.b (L.c (L.e x.1.1 41) (SZ (IZ (0,true,L.e x.1.d2 0,x.1.1,x.1.2.1,x.1.d2,x.1.2.2.2,()))) (L.b (L.c (L.e x.1.1 42) (SZ (IZ (0,false,L.e x.1.d2 0,x.1.1,x.1.2.1,x.1.d2,x.1.2.2.2,()))) (L.b (L.c (L.e x.1.1 43) (L.c (L.m 0 x.1.d2) (SZ (IZ (1,false,L.m x.1.d2 40,x.1.1,x.1.2.1,x.1.d2,x.1.2.2.2,()))) (SZ (IZ (1,false,false,x.1.1,x.1.2.1,x.1.d2,x.1.2.2.2,())))) (L.b (L.c (L.e x.1.1 44) (SZ (IZ (1,false,L.e x.1.d2 0,x.1.1,x.1.2.1,x.1.d2,x.1.2.2.2,()))) (L.c (L.e x.1.1 45) (SZ (IZ (x.1.2.2.2,false,L.e x.1.d2 0,x.1.1,x.1.2.1,x.1.d2,x.1.2.2.2,()))) (SZ (JZ (JZ (JZ (JZ (false,())))))))) (L.cH λb=>SZ (IZ b)))) (L.cH λd=>SZ (IZ d)))) (L.cH λe=>SZ (IZ e)))) (L.cH λg=>L.b (c0 (g.d4,())) λh=>L.b (L.y (L.e g.d6 g.1) (SZ g.d2)) λi=>L.b (L.y i (SZ (L.t h.1))) λj=>L.b (L.y j (L.r g.2.1 (SZ (L.h g.d4 ([]:Y1))))) λk=>SZ (k,()))
def qV:=D7 lf sX
def YS(L:Lf)(c1:oM)(b:sv):OZ (sv⊕Y9):=L.c (L.l b.d2 b.2.1) (L.b (L.g b.1.l b.d2) λd=>L.b (c1 ((d.1,d.2.1,d.d2,d.2.2.2),())) λe=>L.c (L.t e.1) (SZ (JZ (50,()))) (SZ (IZ (b.s2 (L.a .i64 b.d2 1))))) (SZ (JZ (0,())))
def HH(L:Lf)(c0:nu)(c1:oM)(x:dA):OZ Y9:=L.b (L.r (L.l 4000 (L.n x.1.l)) (L.b (c0 (x.1,())) λb=>SZ (L.t b.1))) λd=>L.c d (SZ (50,())) (L.o (YS L c1) (x.1,L.n x.1.l,0,()))
def AE:=HH lf lJ qV
def YT(L:Lf)(c0:nw)(x:Int×Bool×Int×Int×Y1×Int×Int×(Sl Y0)×Bool×vZ×Int×(Sl Int)×Unit):OZ XW:=L.o (fun(b:Y99)=>L.c (L.l b.d4 b.d3) (L.b (c0 (b.d10,b.d2,b.1,b.2.1,b.d11,b.d12,b.d13,b.d14,())) λd=>SZ (IZ (b.1,b.2.1,d.1,b.d3,L.a .i64 b.d4 1,b.d5,b.d6,b.d7,b.d8,b.d9,b.d10,d.2.1,d.d2,d.d3,d.d4,()))) (SZ (JZ (b.d2,b.d5,b.d6,b.d7,b.d8,b.d9,b.d10,b.d11,b.d12,b.d13,b.d14,())))) (x.1,x.2.1,L.a .i64 x.d2 1,x.d6,0,x.d2,x.d3,x.d4,x.d5,x.d6,x.d7,x.d8,x.d9,x.d10,x.d11,())
def Ri(self:nw)(x:Int×Bool×Int×Int×Y1×Int×Int×(Sl Y0)×Bool×vZ×Int×(Sl Int)×Unit):OZ XW:=YT lf self x
def qW(x:qA):OZ qA:=SZ (true,x.2.1,x.2.2.1,x.2.2.2.1,())
def D8(L:Lf)(c0:qA->OZ qA)(x:Y1×Bool×vZ×Int×(Sl Int)×Unit):OZ Ck:=L.b (c0 (x.2.1,x.d2,x.d3,x.d4,())) λb=>L.w b.d3.l x.1 (SZ (L.n x.1,b.1,b.2.1,b.d2,⟨L.d b.d3.nil (L.i x.1),L.app b.d3.l x.1⟩,()))
def AF:=D8 lf qW
def D9(L:Lf)(c0:(Y1×Bool×vZ×Int×(Sl Int)×Unit)->OZ Ck)(x:Y1×Bool×vZ×Int×(Sl Int)×Unit):OZ qA:=L.b (c0 (x.1,x.2.1,x.d2,x.d3,x.d4,())) λb=>L.b (L.b (L.jL b.d2.1 (L.cT (L.n x.1))) λd=>L.b (L.jL b.d2.2 0) λe=>SZ (d,e)) λg=>SZ (b.2.1,g,b.d3,b.d4,())
def qX:=D9 lf AF
def wX(L:Lf)(c0:qA->OZ qA)(x:Ck):OZ qA:=L.b (c0 (x.2.1,x.d2,x.d3,x.d4,())) λb=>L.z b.d3 [x.1] λzz=>SZ (b.s3 zz)
def HI:=wX lf qW
def Ea(x:eT):OZ ch:=bif (x.1==[32])&&(decide (0<=x.2.1)&&decide (x.2.1<=1000000)) then SZ (List.replicate x.2.1.toNat (32:Int),()) else none
def Eb(L:Lf)(c0:(Y1×Bool×vZ×Int×(Sl Int)×Unit)->OZ qA)(c1:Ck->OZ qA)(c2:eT->OZ ch)(x:Ck):OZ qA:=L.b (c1 (10,x.2.1,x.d2,x.d3,x.d4,())) λb=>L.b (L.jL b.2.1.2 4607182418800017408) λd=>L.b (c2 (([32]:Y1),x.1,())) λe=>L.b (c0 (e.1,b.1,(0,d),b.d2,b.d3,())) λg=>SZ g
def sY:=Eb lf qX HI Ea
def Ec(L:Lf)(x:Ck):OZ (Bool×Bool×vZ×Int×(Sl Int)×Unit):=L.b (L.jL x.d2.1 (L.cT x.1)) λb=>SZ (L.Ko b (L.cT x.d3),x.2.1,x.d2,x.d3,x.d4,())
def sZ:=Ec lf
def YU(L:Lf)(b:(Int×(Sl Y0)×Int×Int×Unit)):OZ ((Int×(Sl Y0)×Int×Int×Unit)⊕Y9):=L.c (L.l b.d3 b.d2) (L.b (L.g b.2.1.l b.d3) λd=>L.b (L.c (L.e d.1 42) (SZ (b.s0 (L.a .i64 (L.a .i64 b.1 (L.n d.2.1)) 1))) (SZ (b.s0 (L.a .i64 b.1 (L.n d.2.1))))) λe=>SZ (IZ (e.s3 (L.a .i64 e.d3 1)))) (SZ (JZ (b.1,())))
def HK(L:Lf)(x:dA):OZ Y9:=L.o (YU L) (0,x.1,L.n x.1.l,0,())
def wY:=HK lf
def Ed(L:Lf)(c0:oN)(c1:(Int×Bool×Int×Int×Y1×Int×Int×(Sl Y0)×Bool×vZ×Int×(Sl Int)×Unit)->OZ XW)(c2:(Y1×Bool×vZ×Int×(Sl Int)×Unit)->OZ qA)(c3:Ck->OZ qA)(c4:Ck->OZ (Bool×Bool×vZ×Int×(Sl Int)×Unit))(c5:oO)(x:Y37):OZ Ck:=L.b (L.g x.1.l x.2.1) λb=>L.b (L.c (L.e b.1 41) (L.b (c2 (b.2.1,x.d4,x.d5,x.d6,x.d7,())) λd=>SZ (IZ (x.d2,x.d3,d.1,d.2.1,d.d2,x.2.1,b.1,b.2.1,b.d2,b.2.2.2,x.1,d.d3,()))) (L.b (L.c (L.e b.1 42) (L.b (L.c x.d3 (L.b (c2 (([32]:Y1),x.d4,x.d5,x.d6,x.d7,())) λe=>SZ (x.d2,x.d3,e.1,e.2.1,e.d2,x.2.1,b.1,b.2.1,b.d2,b.2.2.2,x.1,e.d3,())) (L.b (c3 (x.d2,x.d4,x.d5,x.d6,x.d7,())) λg=>SZ (x.d2,x.d3,g.1,g.2.1,g.d2,x.2.1,b.1,b.2.1,b.d2,b.2.2.2,x.1,g.d3,()))) λh=>SZ (IZ h)) (L.c (L.e b.1 43) (L.b (c1 (L.a .i64 x.d2 b.d2,x.d3,x.2.1,b.1,b.2.1,b.d2,b.2.2.2,x.1,x.d4,x.d5,x.d6,x.d7,())) λi=>SZ (JZ (JZ (i.1,i.d7,i.d8,i.d9,i.d10,())))) (L.c (L.e b.1 44) (L.c x.d3 (L.b (c1 (x.d2,true,x.2.1,b.1,b.2.1,b.d2,b.2.2.2,x.1,x.d4,x.d5,x.d6,x.d7,())) λj=>SZ (JZ (JZ (j.1,j.d7,j.d8,j.d9,j.d10,())))) (L.b (c0 (x.1,x.2.1,())) λk=>L.b (L.cI x.1.l x.2.1 k.1) λm=>L.b (c5 (⟨x.1.nil,m⟩,())) λn=>L.b (c4 (n.1,x.d4,x.d5,x.d6,x.d7,())) λo=>L.b (c1 (x.d2,o.1,x.2.1,b.1,b.2.1,b.d2,b.2.2.2,x.1,o.2.1,o.d2,o.d3,o.d4,())) λp=>SZ (JZ (JZ (p.1,p.d7,p.d8,p.d9,p.d10,()))))) (SZ (IZ (x.d2,x.d3,x.d4,x.d5,x.d6,x.2.1,b.1,b.2.1,b.d2,b.2.2.2,x.1,x.d7,())))))) (L.cH λq=>SZ (IZ q)))) (L.cH λr=>L.b (c1 (r.1,r.2.1,r.d5,r.d6,r.d7,r.d8,r.d9,r.d10,r.d2,r.d3,r.d4,r.d11,())) λs=>SZ (s.1,s.d7,s.d8,s.d9,s.d10,()))
def ti(self:nw)(x:Y37):OZ Ck:=Ed lf kG (Ri self) qX sY sZ wY x
def Ee:=eN ti
def Ef(L:Lf)(c0:qA->OZ ch)(c1:oO)(c2:nw)(x:dA):OZ eT:=L.b (c1 (x.1,())) λb=>L.c (L.t (L.e b.1 0)) (SZ (([]:Y1),b.1,())) (L.b (c2 (x.1,0,0,true,false,(0,0),0,⟨true,([]:Y1)⟩,())) λd=>L.b (c0 (d.2.1,d.d2,d.d3,d.d4,())) λe=>SZ (e.1,0,()))
def wZ:=Ef lf HF AE Ee
def Eg(L:Lf)(c0:((Sl Y0)×Y3×Unit)->OZ jP)(c1:dA->OZ eT)(x:(Sl Y0)×Y3×Unit):OZ eT:=L.b (c0 (x.1,x.2.1,())) λb=>L.c (L.t (L.e b.2.1 0)) (SZ (([]:Y1),b.2.1,())) (L.b (c1 (b.1,())) λd=>SZ (d.1,d.2.1,()))
def o7:=Eg lf qU wZ
def Eh(L:Lf)(c0:oM)(x:ch):OZ ch:=L.b (c0 ((5,x.1,0,0),())) λb=>L.c b.1 (L.w ([40]:Y1) x.1 (L.w (L.q ([40]:Y1) x.1) ([41]:Y1) (SZ (L.q (L.q ([40]:Y1) x.1) ([41]:Y1),())))) (SZ (x.1,()))
def tj:=Eh lf j5
def HM(L:Lf)(x:oL):OZ xK:=SZ (L.n x.2.1.l,x.1,x.2.1,())
def AG:=HM lf
def YV(L:Lf)(c2:(Y1×Bool×(Sl Int)×Unit)->OZ xK)(c6:((Sl Y0)×Y3×Unit)->OZ eT)(c7:oP)(c8:oL->OZ xK)(c9:oL->OZ ch)(b:(Y3×(Sl Y5)×Int×Int×Bool×(Sl Int)×Unit)):OZ ((Y3×(Sl Y5)×Int×Int×Bool×(Sl Int)×Unit)⊕((Re⊕(KU⊕(KQ⊕eT))))):=L.c (L.l b.d3 b.d2) (L.b (L.g b.2.1.l b.d3) λd=>L.b (c6 (d.2.2,b.1,())) λe=>L.c (L.t (L.e e.2.1 0)) (SZ (JZ (JZ (JZ (JZ (([]:Y1),e.2.1,())))))) (L.b (L.c d.2.1 (SZ (b.1,e.1,([108,101,116,32,114,101,99,32]:Y1),b.2.1,b.d2,b.d3,b.d4,d.1,d.2.1,d.2.2,b.d5,())) (SZ (b.1,e.1,([108,101,116,32]:Y1),b.2.1,b.d2,b.d3,b.d4,d.1,d.2.1,d.2.2,b.d5,()))) λg=>L.b (c7 (g.d7,())) λh=>L.w g.d2 h.1 (L.w (L.q g.d2 h.1) ([32,61,32]:Y1) (L.w (L.q (L.q g.d2 h.1) ([32,61,32]:Y1)) g.2.1 (L.w (L.q (L.q (L.q g.d2 h.1) ([32,61,32]:Y1)) g.2.1) ([59,59,10]:Y1) (L.b (c2 (L.q (L.q (L.q (L.q g.d2 h.1) ([32,61,32]:Y1)) g.2.1) ([59,59,10]:Y1),g.d6,g.d10,())) λi=>SZ (IZ (g.1,g.d3,g.d4,L.a .i64 g.d5 1,i.2.1,i.d2,())))))))) (L.b (c8 (b.d4,b.d5,())) λj=>L.c (L.l 262144 j.1) (SZ (JZ (JZ (JZ (JZ (([]:Y1),240,())))))) (L.b (c9 (j.2.1,j.d2,())) λk=>SZ (JZ (JZ (JZ (JZ (k.1,0,())))))))
def YW(L:Lf)(c2:(Y1×Bool×(Sl Int)×Unit)->OZ xK)(c5:(Y2×Unit)->OZ ch)(k0:((Y3×(Sl Y5)×Int×Int×Bool×(Sl Int)×Unit))->OZ ((Y3×(Sl Y5)×Int×Int×Bool×(Sl Int)×Unit)⊕((Re⊕(KU⊕(KQ⊕eT))))))(b:Re):OZ (Re⊕((KU⊕(KQ⊕eT)))):=L.c (L.l b.d3 b.d2) (L.b (L.g b.2.1.l b.d3) λd=>L.b (c5 ((d.1,d.2.1,d.2.2),())) λe=>L.w e.1 ([59,59,10]:Y1) (L.b (c2 (L.q e.1 ([59,59,10]:Y1),b.d9,b.d10,())) λg=>SZ (IZ (b.1,b.2.1,b.d2,L.a .i64 b.d3 1,b.d4,b.d5,b.d6,b.d7,b.d8,g.2.1,g.d2,())))) (L.o k0 (b.1,b.d8,L.n b.d8.l,0,b.d9,b.d10,()))
def YX(L:Lf)(c2:(Y1×Bool×(Sl Int)×Unit)->OZ xK)(c4:(Y3×Y6×Unit)->OZ xL)(k0:(Re)->OZ (Re⊕((KU⊕(KQ⊕eT)))))(b:KU):OZ (KU⊕((KQ⊕eT))):=L.c (L.l b.d3 b.d2) (L.b (L.g b.2.1.l b.d3) λd=>L.b (L.g ([([105,110,102,105,120,108]:Y1),([105,110,102,105,120]:Y1),([105,110,102,105,120,114]:Y1)]:List Y1) (L.a .i64 d.2.2 1)) λe=>L.w e ([32]:Y1) (L.w (L.q e ([32]:Y1)) ([L.dV .u8 (L.a .i64 48 d.2.1)]:Y1) (L.w (L.q (L.q e ([32]:Y1)) ([L.dV .u8 (L.a .i64 48 d.2.1)]:Y1)) ([32]:Y1) (L.w (L.q (L.q (L.q e ([32]:Y1)) ([L.dV .u8 (L.a .i64 48 d.2.1)]:Y1)) ([32]:Y1)) d.1 (L.w (L.q (L.q (L.q (L.q e ([32]:Y1)) ([L.dV .u8 (L.a .i64 48 d.2.1)]:Y1)) ([32]:Y1)) d.1) ([59,59,10]:Y1) (L.b (c2 (L.q (L.q (L.q (L.q (L.q e ([32]:Y1)) ([L.dV .u8 (L.a .i64 48 d.2.1)]:Y1)) ([32]:Y1)) d.1) ([59,59,10]:Y1),b.d9,b.d10,())) λg=>L.b (c4 (b.1,(d.1,d.2.1,d.2.2),())) λh=>SZ (IZ (h.1,b.2.1,b.d2,L.a .i64 b.d3 1,b.d4,b.d5,b.d6,b.d7,b.d8,g.2.1,g.d2,())))))))) (L.o k0 (b.1,b.d7,L.n b.d7.l,0,b.d4,b.d5,b.d6,b.d7,b.d8,b.d9,b.d10,()))
def YY(L:Lf)(c2:(Y1×Bool×(Sl Int)×Unit)->OZ xK)(c3:Ae)(k0:(KU)->OZ (KU⊕((KQ⊕eT))))(b:KQ):OZ (KQ⊕eT):=L.c (L.l b.d3 b.d2) (L.b (L.g b.2.1.l b.d3) λd=>L.w ([111,112,101,110,32]:Y1) d (L.w (L.q ([111,112,101,110,32]:Y1) d) ([59,59,10]:Y1) (L.b (c2 (L.q (L.q ([111,112,101,110,32]:Y1) d) ([59,59,10]:Y1),b.d9,b.d10,())) λe=>SZ (IZ (b.1,b.2.1,b.d2,L.a .i64 b.d3 1,b.d4,b.d5,b.d6,b.d7,b.d8,e.2.1,e.d2,()))))) (L.b (c3 (b.1,())) λg=>L.o k0 (g.1,b.d6,L.n b.d6.l,0,b.d4,b.d5,b.d6,b.d7,b.d8,b.d9,b.d10,()))
def HO(L:Lf)(c0:(sq×Unit)->OZ Y9)(c1:Ac)(c2:(Y1×Bool×(Sl Int)×Unit)->OZ xK)(c3:Ae)(c4:(Y3×Y6×Unit)->OZ xL)(c5:(Y2×Unit)->OZ ch)(c6:((Sl Y0)×Y3×Unit)->OZ eT)(c7:oP)(c8:oL->OZ xK)(c9:oL->OZ ch)(x:sq×Y3×Unit):OZ eT:=L.b (c0 ((x.1.1,x.1.2.1,x.1.d2,x.1.d3,x.1.2.2.2.2),())) λb=>L.c (L.t (L.e b.1 0)) (SZ (([]:Y1),b.1,())) (L.b (c1 (x.2.1,())) λd=>L.c (L.t (L.e d.1 0)) (SZ (([]:Y1),d.1,())) (L.o (YY L c2 c3 (YX L c2 c4 (YW L c2 c5 (YV L c2 c6 c7 c8 c9)))) (x.2.1,x.1.2.1,L.n x.1.2.1.l,0,x.1.1,x.1.2.1,x.1.d2,x.1.d3,x.1.2.2.2.2,false,⟨true,([]:Y1)⟩,())))
def w7:=HO lf oZ iZ gX nC o4 qR o7 tj AG qS
def HP(L:Lf)(x:Y9):OZ Y8:=SZ (L.t (L.e x.1 10),())
def HQ:=HP lf
def qeq(L:Lf)(c0:kx)(b:eT):OZ (eT⊕Y9):=L.b (L.y (L.l b.2.1 (L.n b.1)) (L.b (L.g b.1 b.2.1) λd=>L.b (c0 (d,())) λe=>SZ e.1)) λg=>L.c g (SZ (IZ (b.1,L.a .i64 b.2.1 1,()))) (SZ (JZ (b.2.1,())))
def HS(L:Lf)(c0:kx)(x:ch):OZ Y9:=L.o (qeq L c0) (x.1,0,())
def HT:=HS lf HQ
def qmd(L:Lf)(c0:kx)(b:eT):OZ (eT⊕Y9):=L.b (L.y (L.l b.2.1 (L.n b.1)) (L.b (L.g b.1 b.2.1) λd=>L.b (c0 (d,())) λe=>SZ e.1)) λg=>L.c g (SZ (IZ (b.1,L.a .i64 b.2.1 1,()))) (SZ (JZ (b.2.1,())))
def HU(L:Lf)(c0:kx)(x:ch):OZ Y9:=L.o (qmd L c0) (x.1,0,())
def HV:=HU lf qJ
def qer(L:Lf)(c0:kx)(b:eT):OZ (eT⊕Y9):=L.b (L.y (L.l b.2.1 (L.n b.1)) (L.b (L.g b.1 b.2.1) λd=>L.b (c0 (d,())) λe=>SZ e.1)) λg=>L.c g (SZ (IZ (b.1,L.a .i64 b.2.1 1,()))) (SZ (JZ (b.2.1,())))
def HX(L:Lf)(c0:kx)(x:ch):OZ Y9:=L.o (qer L c0) (x.1,0,())
def HY:=HX lf oV
def qes(L:Lf)(c0:kx)(b:eT):OZ (eT⊕Y9):=L.b (L.y (L.l b.2.1 (L.n b.1)) (L.b (L.g b.1 b.2.1) λd=>L.b (c0 (d,())) λe=>SZ e.1)) λg=>L.c g (SZ (IZ (b.1,L.a .i64 b.2.1 1,()))) (SZ (JZ (b.2.1,())))
def HZ(L:Lf)(c0:kx)(x:ch):OZ Y9:=L.o (qes L c0) (x.1,0,())
def H0:=HZ lf qI
def H2(L:Lf)(c0:j4)(x:Int×Int×Y1×Unit):OZ (Y0×Int×Int×Unit):=L.b (L.cI x.d2 0 x.1) λb=>L.b (c0 (b,())) λd=>L.b (L.c d.1 (SZ (x.1,(6:Int),x.d2,(0:Int),([]:Y1),(0:Int),(0:Int),())) (SZ (x.1,x.2.1,x.d2,0,([]:Y1),0,0,()))) λe=>L.b (L.cI e.d2 0 e.1) λg=>SZ ((e.2.1,g,0,0),e.1,0,())
def H5:=H2 lf oU
def H6(L:Lf)(x:Y1×Y1×Unit):OZ Y8:=L.b (L.y (L.m (L.n x.2.1) (L.n x.1)) (L.b (L.cI x.1 0 (L.n x.2.1)) λb=>SZ (L.h b x.2.1))) λd=>SZ (d,())
def Ei:=H6 lf
def H7(L:Lf)(c0:(Y1×Y1×Unit)->OZ Y8)(x:Y1×Y1×Unit):OZ Y8:=L.b (c0 (x.1,x.2.1,())) λb=>SZ (b.1,())
def H8:=H7 lf Ei
def H9(L:Lf)(c0:(Y1×Y1×Unit)->OZ Y8)(x:Y1×Y1×Unit):OZ (Y1×Bool×Unit):=L.b (c0 (x.1,x.2.1,())) λb=>L.c (L.t b.1) (SZ (x.1,false,())) (L.b (L.cI x.1 (L.n x.2.1) (L.n x.1)) λd=>SZ (d,true,()))
def Ia:=H9 lf Ei
def Ib(L:Lf)(c0:(Y1×Y1×Unit)->OZ (Y1×Bool×Unit))(x:Y1×Y1×Unit):OZ (Y1×Bool×Unit):=L.b (c0 (x.1,x.2.1,())) λb=>SZ (b.1,b.2.1,())
def Ic:=Ib lf Ia
def qja(L:Lf)(c0:qC)(b:(Y1×Bool×Int×Y1×Int×Unit)):OZ ((Y1×Bool×Int×Y1×Int×Unit)⊕y8):=L.c (L.l b.d4 (L.n b.d3)) (L.b (L.c (L.l b.d4 (L.n b.d3)) (SZ (L.fN b.d3 b.d4)) none) λd=>L.b (L.r (L.l d 48) (SZ (L.l 57 d))) λe=>L.b (L.r e (SZ (L.l b.d2 (-461168601842738790)))) λg=>L.c g (SZ (JZ (0,11,()))) (SZ (IZ ((b.s2 (L.u .i64 (L.yF .i64 10 b.d2) (L.dV .i64 (L.u .i32 d 48)))).s4 (L.gO b.d3 b.d4))))) (L.b (L.c (L.t b.2.1) (SZ (b.1,L.u .i64 0 b.d2,())) (SZ (b.1,b.d2,()))) λh=>L.b (L.r (L.l 4611686018427387903 h.2.1) (SZ (L.l h.2.1 (-4611686018427387904)))) λi=>L.b (L.r i (L.b (c0 (h.2.1,())) λj=>SZ (L.t (L.h j.1 h.1)))) λk=>L.c k (SZ (JZ (0,11,()))) (SZ (JZ (h.2.1,0,()))))
def Ie(L:Lf)(c0:qC)(c1:(Y1×Y1×Unit)->OZ (Y1×Bool×Unit))(x:ch):OZ y8:=L.b (c1 (x.1,([126]:Y1),())) λb=>L.o (qja L c0) (x.1,b.2.1,0,b.1,0,())
def Ej:=Ie lf mG Ic
def qh4(L:Lf)(c0:eT->OZ Y9)(b:(Y1×Int×(Sl Int)×Unit)):OZ ((Y1×Int×(Sl Int)×Unit)⊕((Unit⊕eT))):=L.c (L.l b.2.1 (L.n b.1)) (L.b (L.b (L.g b.1 b.2.1) λd=>L.c (L.e d 34) (SZ (JZ (JZ (JZ (b.d2.l,L.a .i64 b.2.1 1,()))))) (L.b (L.r (L.l d 32) (SZ (L.l 126 d))) λe=>L.c e (SZ (JZ (JZ (JZ (([]:Y1),0,()))))) (L.c (L.t (L.e d 92)) (L.z b.d2 [d] λzz=>SZ (IZ (b.s2 zz))) (L.c (L.e (L.a .i64 b.2.1 1) (L.n b.1)) (SZ (JZ (JZ (IZ ())))) (L.b (L.g b.1 (L.a .i64 b.2.1 1)) λg=>L.b (L.c (L.e g 34) (SZ (b.1,L.a .i64 b.2.1 1,g,L.e g 34,b.d2,())) (SZ (b.1,L.a .i64 b.2.1 1,g,L.e g 92,b.d2,()))) λh=>L.b (L.c h.d3 (L.b (L.g h.1 h.2.1) λi=>L.z h.d4 [i] λzy=>SZ (IZ (h.1,h.2.1,zy,()))) (L.b (L.c (L.e h.d2 110) (L.z h.d4 [10] λzx=>SZ (IZ (h.1,h.2.1,zx,()))) (L.c (L.e h.d2 120) (L.c (L.m (L.n h.1) (L.a .i64 h.2.1 2)) (SZ (JZ (JZ (JZ (JZ (JZ (([]:Y1),0,()))))))) (L.b (L.g h.1 (L.a .i64 h.2.1 1)) λj=>L.b (c0 (([48,49,50,51,52,53,54,55,56,57,97,98,99,100,101,102]:Y1),j,())) λk=>L.b (L.g h.1 (L.a .i64 h.2.1 2)) λm=>L.b (c0 (([48,49,50,51,52,53,54,55,56,57,97,98,99,100,101,102]:Y1),m,())) λn=>L.b (L.r (L.l k.1 0) (SZ (L.l n.1 0))) λo=>L.c o (SZ (JZ (JZ (JZ (JZ (JZ (([]:Y1),0,()))))))) (L.b (L.qj .i64 k.1 4) λp=>L.z h.d4 [L.dV .u8 (L.Ly .i64 p n.1)] λzw=>SZ (IZ (h.1,L.a .i64 h.2.1 2,zw,()))))) (SZ (JZ (JZ (JZ (JZ (JZ (([]:Y1),0,()))))))))) (L.cH λq=>SZ (IZ (q.1,q.2.1,q.d2,()))))) (L.cH λr=>SZ (IZ (r.1,r.2.1,r.d2,())))))))) (L.cH λs=>SZ (IZ (s.s1 (L.a .i64 s.2.1 1))))) (SZ (JZ (IZ ())))
def Ig(L:Lf)(c0:eT->OZ Y9)(x:ch):OZ eT:=L.b (L.o (qh4 L c0) (x.1,1,⟨true,([]:Y1)⟩,())) (L.cH λ_=>SZ (([]:Y1),0,()))
def Ih:=Ig lf Al
def Ii(L:Lf)(c0:Ag)(c1:Ag)(c2:Ag)(c3:kx)(c4:kx)(c5:kx)(c6:(Int×Int×Y1×Unit)->OZ (Y0×Int×Int×Unit))(c7:(Y1×Y1×Unit)->OZ Y8)(c8:kx)(c9:ch->OZ y8)(oC:ch->OZ eT)(x:ch):OZ (Y0×Int×Int×Unit):=L.b (L.g x.1 0) λb=>L.b (c3 (b,())) λd=>L.c d.1 (L.b (c0 (x.1,())) λe=>L.b (c6 (e.1,1,x.1,())) λg=>SZ (g.s0 (g.1.1,g.1.2.1,g.1.d2,g.1.2.2.2))) (L.b (c4 (b,())) λh=>L.c h.1 (L.b (c0 (x.1,())) λi=>L.b (c6 (i.1,2,x.1,())) λj=>SZ (j.s0 (j.1.1,j.1.2.1,j.1.d2,j.1.2.2.2))) (L.b (c5 (b,())) λk=>L.c k.1 (L.b (c1 (x.1,())) λm=>L.b (c6 (m.1,5,x.1,())) λn=>SZ (n.s0 (n.1.1,n.1.2.1,n.1.d2,n.1.2.2.2))) (L.b (L.r (L.e b 40) (SZ (L.e b 41))) λo=>L.b (L.r o (SZ (L.e b 95))) λp=>L.c p (L.b (c6 (1,6,x.1,())) λq=>SZ (q.s0 (q.1.1,q.1.2.1,q.1.d2,q.1.2.2.2))) (L.b (c7 (x.1,([59,59]:Y1),())) λr=>L.c r.1 (L.b (c6 (2,6,x.1,())) λs=>SZ (s.s0 (s.1.1,s.1.2.1,s.1.d2,s.1.2.2.2))) (L.b (c8 (b,())) λt=>L.b (L.r t.1 (SZ (L.e b 126))) λu=>L.c u (L.b (L.cI x.1 1 (L.n x.1)) λv=>L.b (c2 (v,())) λw=>L.b (L.cI x.1 0 (L.a .i64 1 w.1)) λy=>L.b (c9 (y,())) λz=>L.c (L.t (L.e z.2.1 0)) (SZ ((0,([]:Y1),0,0),0,31,())) (SZ ((3,([]:Y1),z.1,0),L.a .i64 1 w.1,0,()))) (L.c (L.e b 34) (L.b (oC (x.1,())) λbb=>L.b (L.r (L.e bb.2.1 0) (SZ (L.l 200 (L.n bb.1)))) λbd=>L.c bd (SZ ((0,([]:Y1),0,0),0,32,())) (SZ ((4,bb.1,0,0),bb.2.1,0,()))) (SZ ((0,([]:Y1),0,0),0,30,()))))))))
def Ij:=Ii lf HV HY H0 qG qH oV H5 H8 qI Ej Ih
def qox(L:Lf)(c0:Ag)(c1:ch->OZ (Y0×Int×Int×Unit))(b:sw):OZ (sw⊕((sw⊕sv))):=L.b (L.y (L.l b.2.1 (L.n b.1)) (L.b (L.g b.1 b.2.1) λd=>L.r (L.e d 32) (L.b (L.g b.1 b.2.1) λe=>SZ (L.e e 10)))) λg=>L.c g (SZ (IZ (b.s1 (L.a .i64 b.2.1 1)))) (L.b (L.y (L.l b.2.1 (L.n b.1)) (L.b (L.g b.1 b.2.1) λh=>SZ (L.e h 35))) λi=>L.c i (L.b (L.cI b.1 b.2.1 (L.n b.1)) λj=>L.b (c0 (j,())) λk=>SZ (JZ (IZ (b.s1 (L.a .i64 b.2.1 k.1))))) (L.c (L.e b.2.1 (L.n b.1)) (SZ (JZ (JZ (b.d2,0,0,())))) (L.b (L.cI b.1 b.2.1 (L.n b.1)) λm=>L.b (c1 (m,())) λn=>L.b (L.y (L.e n.d2 0) (SZ (L.e (L.n b.d2.l) 4000))) λo=>L.b (L.c o (SZ (b.1,b.2.1,n.2.1,33,b.d2,n.1.1,n.1.2.1,n.1.d2,n.1.2.2.2,())) (SZ (b.1,b.2.1,n.2.1,n.d2,b.d2,n.1.1,n.1.2.1,n.1.d2,n.1.2.2.2,()))) λp=>L.c (L.t (L.e p.d3 0)) (SZ (JZ (JZ (⟨true,([]:List Y0)⟩,p.2.1,p.d3,())))) (L.z p.d4 [(p.d5,p.d6,p.d7,p.2.1)] λzz=>SZ (JZ (IZ (p.1,L.a .i64 p.2.1 p.d2,zz,())))))))
def qoy(L:Lf)(k0:(sw)->OZ (sw⊕((sw⊕sv))))(b:sw):OZ (sw⊕sv):=L.o k0 b
def Ik(L:Lf)(c0:Ag)(c1:ch->OZ (Y0×Int×Int×Unit))(x:ch):OZ sv:=L.o (qoy L (qox L c0 c1)) (x.1,0,⟨true,([]:List Y0)⟩,())
def Ek:=Ik lf HT Ij
def Il(L:Lf)(x:Bool×(Sl Y0)×(Sl Y0)×Int×Bool×(Sl Y1)×Unit):OZ (Int×Int×(Sl Y0)×(Sl Y0)×Int×Bool×(Sl Y1)×Unit):=L.c x.d4 (L.c true (L.b (L.g x.2.1.l 0) λb=>SZ (b.2.2.2,240,x.2.1,x.d2,x.d3,x.d4,x.d5,())) (SZ (0,0,x.2.1,x.d2,x.d3,x.d4,x.d5,()))) (L.c (L.l x.d3 (L.n x.2.1.l)) (L.c true (L.b (L.g x.2.1.l 0) λd=>SZ (d.2.2.2,240,x.2.1,x.d2,x.d3,x.d4,x.d5,())) (SZ (0,0,x.2.1,x.d2,x.d3,x.d4,x.d5,()))) (L.c x.1 (L.b (L.g x.2.1.l 0) λe=>SZ (e.2.2.2,240,x.2.1,x.d2,x.d3,x.d4,x.d5,())) (SZ (0,0,x.2.1,x.d2,x.d3,x.d4,x.d5,()))))
def Im:=Il lf
def Io(L:Lf)(x:XV):OZ S5:=L.c (L.t x.d4) (L.c (L.l x.d3 (L.n x.d2.l)) (L.b (L.g x.d2.l x.d3) λb=>L.c (L.e b.1 x.1) (L.c (L.h x.2.1 ([]:Y1)) (SZ (true,x.d2,x.d3,x.d4,x.d5,())) (L.b (L.g x.d2.l x.d3) λd=>SZ (L.h d.2.1 x.2.1,x.d2,x.d3,x.d4,x.d5,()))) (SZ (false,x.d2,x.d3,x.d4,x.d5,()))) (SZ (false,x.d2,x.d3,x.d4,x.d5,()))) (SZ (false,x.d2,x.d3,x.d4,x.d5,()))
def lK:=Io lf
def Ip(L:Lf)(c0:oQ)(x:XV):OZ Y45:=L.c x.d4 (L.c true (SZ ((0,([]:Y1),0,0),x.d2,x.d3,true,x.d5,())) (L.b (L.g x.d2.l (L.u .i64 (L.a .i64 x.d3 1) 1)) λb=>SZ ((b.1,b.2.1,b.d2,b.2.2.2),x.d2,L.a .i64 x.d3 1,x.d4,x.d5,()))) (L.b (c0 (x.1,x.2.1,x.d2,x.d3,x.d4,x.d5,())) λd=>L.c (L.t d.1) (SZ ((0,([]:Y1),0,0),d.2.1,d.d2,true,d.d4,())) (L.b (L.g d.2.1.l (L.u .i64 (L.a .i64 d.d2 1) 1)) λe=>SZ ((e.1,e.2.1,e.d2,e.2.2.2),d.2.1,L.a .i64 d.d2 1,d.d3,d.d4,())))
def mK:=Ip lf lK
def Iq(L:Lf)(c0:qD)(x:oz):OZ (Y6×(Sl Y0)×Int×Bool×(Sl Y1)×Unit):=L.b (L.g x.1.l 0) λb=>L.b (L.c (L.h b.2.1 ([105,110,102,105,120,108]:Y1)) (SZ ((-1),x.1,x.2.1,x.d2,x.d3,([]:Y1),(0:Int),(0:Int),())) (L.b (L.c (L.h b.2.1 ([105,110,102,105,120,114]:Y1)) (SZ (1,x.1,x.2.1,x.d2,x.d3,([]:Y1),(0:Int),(0:Int),())) (SZ (0,x.1,x.2.1,x.d2,x.d3,([]:Y1),(0:Int),(0:Int),()))) λd=>SZ d)) λe=>L.b (c0 (3,([]:Y1),e.2.1,L.a .i64 e.d2 1,e.d3,e.d4,())) λg=>L.b (L.r (L.l g.1.d2 0) (SZ (L.l 9 g.1.d2))) λh=>L.b (L.c h (SZ (e.1,0,g.2.1,g.d2,true,g.d4,e.d5,e.d6,e.d7,())) (SZ (e.1,g.1.d2,g.2.1,g.d2,g.d3,g.d4,e.d5,e.d6,e.d7,()))) λi=>L.b (c0 (5,([]:Y1),i.d2,i.d3,i.d4,i.d5,())) λj=>SZ ((j.1.2.1,i.2.1,i.1),j.2.1,j.d2,j.d3,j.d4,())
def Ir:=Iq lf mK
def Is(L:Lf)(c0:Rg->OZ Y9)(x:GO):OZ Mk:=L.b (c0 (x.d4,x.1,())) λb=>L.c (L.m 0 b.1) (SZ (⟨false,([(31,([]:Y1),b.1,0)]:List Y0)⟩,x.2.1,x.d2,x.d3,x.d4,())) (L.b (L.y (L.t (L.h x.1 ([105,110,116]:Y1))) (SZ (L.t (L.h x.1 ([116,101,120,116]:Y1))))) λd=>L.b (L.c d (SZ (x.1,x.2.1,x.d2,true,x.d4,())) (SZ (x.1,x.2.1,x.d2,x.d3,x.d4,()))) λe=>SZ (⟨false,([(32,e.1,0,0)]:List Y0)⟩,e.2.1,e.d2,e.d3,e.d4,()))
def El:=Is lf Ak
def It(L:Lf)(c0:qD)(c1:oQ)(c2:GO->OZ Mk)(c3:mE)(x:oz):OZ Mk:=L.c x.d2 (SZ (⟨true,([]:List Y0)⟩,x.1,x.2.1,x.d2,x.d3,())) (L.b (c1 (1,([]:Y1),x.1,x.2.1,x.d2,x.d3,())) λb=>L.c b.1 (L.b (c0 (1,([]:Y1),b.2.1,b.d2,b.d3,b.d4,())) λd=>L.b (c2 (d.1.2.1,d.2.1,d.d2,d.d3,d.d4,())) λe=>SZ e) (L.b (c1 (2,([]:Y1),b.2.1,b.d2,b.d3,b.d4,())) λg=>L.c g.1 (L.b (c0 (2,([]:Y1),g.2.1,g.d2,g.d3,g.d4,())) λh=>SZ (⟨false,([(32,h.1.2.1,0,0)]:List Y0)⟩,h.2.1,h.d2,h.d3,h.d4,())) (L.b (c0 (6,([40]:Y1),g.2.1,g.d2,g.d3,g.d4,())) λi=>L.b (c3 (i.2.1,i.d2,i.d3,i.d4,())) λj=>L.b (c0 (6,([41]:Y1),j.2.1,j.d2,j.d3,j.d4,())) λk=>SZ (j.1,k.2.1,k.d2,k.d3,k.d4,()))))
def tm(self:mE)(x:oz):OZ Mk:=It lf mK lK El self x
def Iu(L:Lf)(c0:oQ)(x:oz):OZ S5:=L.b (c0 (1,([]:Y1),x.1,x.2.1,x.d2,x.d3,())) λb=>L.c b.1 (L.c true (SZ (b.s0 true)) (L.b (c0 (6,([40]:Y1),b.2.1,b.d2,b.d3,b.d4,())) λd=>SZ d)) (L.b (c0 (2,([]:Y1),b.2.1,b.d2,b.d3,b.d4,())) λe=>L.c e.1 (SZ (e.s0 true)) (L.b (c0 (6,([40]:Y1),e.2.1,e.d2,e.d3,e.d4,())) λg=>SZ g))
def Em:=Iu lf lK
def q71(L:Lf)(c0:mE)(c1:oz->OZ S5)(b:((Sl Y0)×Int×Bool×(Sl Y1)×eK×Unit)):OZ (((Sl Y0)×Int×Bool×(Sl Y1)×eK×Unit)⊕S6):=L.c (L.t b.d2) (L.b (c1 (b.1,b.2.1,b.d2,b.d3,())) λd=>L.c d.1 (L.b (c0 (d.2.1,d.d2,d.d3,d.d4,())) λe=>L.z b.d4 [e.1] λzz=>SZ (IZ (e.2.1,e.d2,e.d3,e.d4,zz,()))) (SZ (JZ (b.d4,d.2.1,d.d2,d.d3,d.d4,())))) (L.c false (L.b (c0 (b.1,b.2.1,b.d2,b.d3,())) λg=>L.z b.d4 [g.1] λzy=>SZ (IZ (g.2.1,g.d2,g.d3,g.d4,zy,()))) (SZ (JZ (b.d4,b.1,b.2.1,b.d2,b.d3,()))))
def Iv(L:Lf)(c0:mE)(c1:oz->OZ S5)(x:oz):OZ S6:=L.o (q71 L c0 c1) (x.1,x.2.1,x.d2,x.d3,⟨true,([]:List (Sl Y0))⟩,())
def AH(self:mE)(x:oz):OZ S6:=Iv lf (tm self) Em x
def qh5(L:Lf)(b:((Sl Y0)×eK×Int×Int×(Sl Y0)×Unit)):OZ (((Sl Y0)×eK×Int×Int×(Sl Y0)×Unit)⊕dA):=L.c (L.l b.d3 b.d2) (L.b (L.g b.2.1.l b.d3) λd=>L.w b.d4.l ([(32,([45,62]:Y1),0,2)]:List Y0) (L.w (L.app b.d4.l ([(32,([45,62]:Y1),0,2)]:List Y0)) d.l (SZ (IZ ((b.s3 (L.a .i64 b.d3 1)).s4 ⟨L.d (L.d b.d4.nil (L.i ([(32,([45,62]:Y1),0,2)]:List Y0))) (L.i d.l),L.app (L.app b.d4.l ([(32,([45,62]:Y1),0,2)]:List Y0)) d.l⟩))))) (L.w b.d4.l b.1.l (SZ (JZ (⟨L.d b.d4.nil (L.i b.1.l),L.app b.d4.l b.1.l⟩,()))))
def Iw(L:Lf)(x:eK×(Sl Y0)×Unit):OZ dA:=L.o (qh5 L) (x.2.1,x.1,L.n x.1.l,0,⟨true,([]:List Y0)⟩,())
def Eo:=Iw lf
def Ix(L:Lf)(c0:qD)(c1:oQ)(c2:mE)(c3:oz->OZ S6)(c4:Ad)(c5:mE)(c6:(eK×(Sl Y0)×Unit)->OZ dA)(x:oz):OZ Mk:=L.c x.d2 (SZ (⟨true,([]:List Y0)⟩,x.1,x.2.1,x.d2,x.d3,())) (L.b (c1 (1,([114,101,102]:Y1),x.1,x.2.1,x.d2,x.d3,())) λb=>L.b (L.c b.1 (L.b (c0 (1,([114,101,102]:Y1),b.2.1,b.d2,b.d3,b.d4,())) λd=>L.b (c2 (d.2.1,d.d2,d.d3,d.d4,())) λe=>L.b (c4 ((32,([114,101,102]:Y1),0,0),⟨false,([e.1]:List (Sl Y0))⟩,())) λg=>SZ (e.s0 g.1)) (L.b (c1 (2,([]:Y1),b.2.1,b.d2,b.d3,b.d4,())) λh=>L.b (L.c h.1 (L.b (c0 (2,([]:Y1),h.2.1,h.d2,h.d3,h.d4,())) λi=>L.b (c3 (i.2.1,i.d2,i.d3,i.d4,())) λj=>L.b (c4 ((32,i.1.2.1,0,0),j.1,())) λk=>SZ (k.1,j.2.1,j.d2,j.d3,j.d4,())) (L.b (c2 (h.2.1,h.d2,h.d3,h.d4,())) λm=>SZ m)) λn=>SZ n)) λo=>L.b (c1 (6,([45,62]:Y1),o.2.1,o.d2,o.d3,o.d4,())) λp=>L.c p.1 (L.b (c0 (6,([45,62]:Y1),p.2.1,p.d2,p.d3,p.d4,())) λq=>L.b (c5 (q.2.1,q.d2,q.d3,q.d4,())) λr=>L.b (c6 (⟨false,([o.1]:List (Sl Y0))⟩,r.1,())) λs=>SZ (r.s0 s.1)) (SZ (o.1,p.2.1,p.d2,p.d3,p.d4,())))
def Mq(self:mE)(x:oz):OZ Mk:=Ix lf mK lK (tm self) (AH self) jf self Eo x
def AI:=eN Mq
def Mr:=tm AI
def Ms:=AH AI
def Iy(L:Lf)(c0:qD)(c1:oQ)(c2:mE)(c3:oz->OZ S6)(x:oz):OZ (GG×(Sl Y0)×Int×Bool×(Sl Y1)×Unit):=L.b (c0 (2,([]:Y1),x.1,x.2.1,x.d2,x.d3,())) λb=>L.b (c1 (6,([111,102]:Y1),b.2.1,b.d2,b.d3,b.d4,())) λd=>L.b (L.c d.1 (L.b (c0 (6,([111,102]:Y1),d.2.1,d.d2,d.d3,d.d4,())) λe=>L.b (c2 (e.2.1,e.d2,e.d3,e.d4,())) λg=>L.b (c3 (g.2.1,g.d2,g.d3,g.d4,())) λh=>L.w ([g.1]:List (Sl Y0)) h.1.l (SZ (h.2.1,h.d2,h.d3,h.d4,([]:Y1),b.1.2.1,(⟨true,[]⟩:Sl (Sl Y0)),(⟨L.d false (L.i h.1.l),L.app [g.1] h.1.l⟩:Sl (Sl Y0)),()))) (SZ (d.2.1,d.d2,d.d3,d.d4,([]:Y1),b.1.2.1,(⟨true,[]⟩:Sl (Sl Y0)),(⟨true,[]⟩:Sl (Sl Y0)),()))) λi=>SZ ((i.d5,i.d7),i.1,i.2.1,i.d2,i.d3,())
def Iz:=Iy lf mK lK Mr Ms
def q72(L:Lf)(c1:qD)(c2:oQ)(c3:oz->OZ (GG×(Sl Y0)×Int×Bool×(Sl Y1)×Unit))(b:KS):OZ (KS⊕((KS⊕S7))):=L.b (c2 (6,([124]:Y1),b.1,b.2.1,b.d2,b.d7,())) λd=>L.c d.1 (L.b (c1 (6,([124]:Y1),d.2.1,d.d2,d.d3,d.d4,())) λe=>L.b (c3 (e.2.1,e.d2,e.d3,e.d4,())) λg=>L.z b.d9 [g.1] λzz=>SZ (IZ (g.2.1,g.d2,g.d3,b.d3,b.d4,b.d5,b.d6,g.d4,b.d8,zz,()))) (SZ (JZ (JZ ((b.d5,b.d6,b.d9),d.2.1,d.d2,d.d3,d.d4,()))))
def q73(L:Lf)(c0:sD)(c1:qD)(c2:oQ)(c3:oz->OZ (GG×(Sl Y0)×Int×Bool×(Sl Y1)×Unit))(k0:(KS)->OZ (KS⊕((KS⊕S7))))(b:KS):OZ (KS⊕S7):=L.b (c2 (1,([]:Y1),b.1,b.2.1,b.d2,b.d7,())) λd=>L.c d.1 (L.b (c1 (1,([]:Y1),d.2.1,d.d2,d.d3,d.d4,())) λe=>L.w ([([105,110,116]:Y1),([116,101,120,116]:Y1),([114,101,102]:Y1)]:List Y1) e.d4.l (L.b (c0 (⟨L.d false (L.i e.d4.l),L.app ([([105,110,116]:Y1),([116,101,120,116]:Y1),([114,101,102]:Y1)]:List Y1) e.d4.l⟩,e.1.2.1,())) λg=>L.b (L.c g.1 (SZ (e.1.2.1,e.2.1,e.d2,true,b.d3,b.d4,b.d5,b.d6,e.d4,b.d8,b.d9,())) (SZ (e.1.2.1,e.2.1,e.d2,e.d3,b.d3,b.d4,b.d5,b.d6,e.d4,b.d8,b.d9,()))) λh=>L.z h.d8 [h.1] λzz=>SZ (IZ (h.2.1,h.d2,h.d3,h.d4,h.d5,h.d6,h.d7,zz,h.d9,h.d10,())))) (L.b (c1 (6,([61]:Y1),d.2.1,d.d2,d.d3,d.d4,())) λi=>L.b (c3 (i.2.1,i.d2,i.d3,i.d4,())) λj=>L.o k0 (j.2.1,j.d2,j.d3,b.d3,b.d4,b.d5,L.n d.d4.l,j.d4,b.d8,⟨false,([j.1]:List GG)⟩,()))
def IA(L:Lf)(c0:sD)(c1:qD)(c2:oQ)(c3:oz->OZ (GG×(Sl Y0)×Int×Bool×(Sl Y1)×Unit))(x:oz):OZ S7:=L.b (c1 (6,([116,121,112,101]:Y1),x.1,x.2.1,x.d2,x.d3,())) λb=>L.b (c1 (2,([]:Y1),b.2.1,b.d2,b.d3,b.d4,())) λd=>L.o (q73 L c0 c1 c2 c3 (q72 L c1 c2 c3)) (d.2.1,d.d2,d.d3,([]:Y1),0,d.1.2.1,0,d.d4,⟨true,([]:List GG)⟩,⟨true,([]:List GG)⟩,())
def IB:=IA lf nx mK lK Iz
def IC(L:Lf)(c0:qD)(c1:oQ)(x:oz):OZ GO:=L.b (c1 (6,([40]:Y1),x.1,x.2.1,x.d2,x.d3,())) λb=>L.c (L.t b.1) (L.b (c0 (1,([]:Y1),b.2.1,b.d2,b.d3,b.d4,())) λd=>SZ (d.1.2.1,d.2.1,d.d2,d.d3,d.d4,())) (L.b (c0 (6,([40]:Y1),b.2.1,b.d2,b.d3,b.d4,())) λe=>L.b (c0 (5,([]:Y1),e.2.1,e.d2,e.d3,e.d4,())) λg=>L.b (c0 (6,([41]:Y1),g.2.1,g.d2,g.d3,g.d4,())) λh=>SZ (g.1.2.1,h.2.1,h.d2,h.d3,h.d4,()))
def ID:=IC lf mK lK
def IE(L:Lf)(x:Y40):OZ Y4:=L.b (L.c (L.e x.d8 0) (SZ (x.d2,x.d3,x.d4,x.d5,x.d6,x.1,x.2.1,())) (SZ (x.d2,x.d3,x.d4,x.d5,x.d6,x.d7,x.d8,()))) λb=>SZ (⟨true,([]:List Y0)⟩,b.1,b.2.1,b.d2,b.d3,b.d4,b.d5,b.d6,())
def kI:=IE lf
def IF(L:Lf)(x:KP):OZ KP:=L.c (L.l x.1 (L.n x.2.1.l)) (L.b (L.g x.2.1.l x.1) λb=>SZ (b.2.2.2,x.2.1,x.d2,x.d3,x.d4,x.d5,x.d6,x.d7,())) (SZ (x.d2,x.2.1,x.d2,x.d3,x.d4,x.d5,x.d6,x.d7,()))
def kJ:=IF lf
def IG(L:Lf)(c0:sD)(x:Y28):OZ GH:=L.b (L.y (L.e x.d9 0) (SZ (L.l (L.a .i64 x.d6 x.1) (L.n x.d3.l)))) λb=>L.b (L.y b (L.b (L.g x.d3.l (L.a .i64 x.d6 x.1)) λd=>SZ (L.e d.1 x.2.1))) λe=>L.b (L.y e (L.r (L.e (L.n x.d2.l) 0) (L.b (L.g x.d3.l (L.a .i64 x.d6 x.1)) λg=>L.b (c0 (x.d2,g.2.1,())) λh=>SZ h.1))) λi=>SZ (i,x.d3,x.d4,x.d5,x.d6,x.d7,x.d8,x.d9,())
def ia:=IG lf nx
def IH(L:Lf)(c0:(Y3×Y1×Unit)->OZ rN)(x:y6):OZ GH:=L.b (c0 (x.d3,x.1,())) λb=>SZ (L.t b.2.1,x.2.1,x.d2,x.d3,x.d4,x.d5,x.d6,x.d7,())
def II:=IH lf nA
def q85(L:Lf)(c0:y6->OZ GH)(b:((Sl Y1)×Int×Int×(Sl Y0)×Int×Y3×Int×Int×Int×Int×Unit)):OZ (((Sl Y1)×Int×Int×(Sl Y0)×Int×Y3×Int×Int×Int×Int×Unit)⊕KP):=L.c (L.l b.d2 b.2.1) (L.b (L.g b.1.l b.d2) λd=>L.b (c0 (d,b.d3,b.d4,b.d5,b.d6,b.d7,b.d8,b.d9,())) λe=>L.c e.1 (SZ (JZ (b.d2,e.2.1,e.d2,e.d3,e.d4,e.d5,e.d6,e.d7,()))) (SZ (IZ (b.1,b.2.1,L.a .i64 b.d2 1,e.2.1,e.d2,e.d3,e.d4,e.d5,e.d6,e.d7,())))) (SZ (JZ ((-1),b.d3,b.d4,b.d5,b.d6,b.d7,b.d8,b.d9,())))
def IJ(L:Lf)(c0:y6->OZ GH)(x:(Sl Y1)×(Sl Y0)×Int×Y3×Int×Int×Int×Int×Unit):OZ KP:=L.o (q85 L c0) (x.1,L.n x.1.l,0,x.2.1,x.d2,x.d3,x.d4,x.d5,x.d6,x.d7,())
def Ep:=IJ lf II
def IK(L:Lf)(x:Y7):OZ Y43:=L.b (L.g x.1.l (L.u .i64 (L.a .i64 x.d3 1) 1)) λb=>SZ ((b.1,b.2.1,b.d2,b.2.2.2),x.1,x.2.1,x.d2,L.a .i64 x.d3 1,x.d4,x.d5,x.d6,())
def kK:=IK lf
def IL(L:Lf)(c0:Ad)(x:Y85):OZ dA:=L.b (c0 ((x.1,x.2.1,0,0),x.d2,())) λb=>SZ (b.1,())
def jl:=IL lf jf
def IM(L:Lf)(c0:sB)(c1:sC)(c2:mF)(x:y6):OZ Y7:=L.b (c2 (0,6,⟨false,([x.1]:List Y1)⟩,x.2.1,x.d2,x.d3,x.d4,x.d5,x.d6,x.d7,())) λb=>L.b (L.c (L.t b.1) (L.b (c1 (b.d4,b.2.1,b.d2,b.d3,b.d4,b.d5,b.d6,b.d7,())) λd=>L.b (c0 (d.1,70,d.2.1,d.d2,d.d3,d.d4,d.d5,d.d6,d.d7,())) λe=>SZ (e.2.1,e.d2,e.d3,e.d4,e.d5,e.d6,e.d7,())) (SZ (b.2.1,b.d2,b.d3,b.d4,b.d5,b.d6,b.d7,()))) λg=>SZ (g.s3 (L.a .i64 g.d3 1))
def kM:=IM lf kI kJ ia
def IN(L:Lf)(c0:mF)(x:Y7):OZ GH:=L.b (c0 (0,3,⟨true,([]:List Y1)⟩,x.1,x.2.1,x.d2,x.d3,x.d4,x.d5,x.d6,())) λb=>L.c b.1 (L.c true (L.c true (L.c true (SZ (b.s0 true)) (L.b (c0 (0,6,⟨false,([([40]:Y1),([109,97,116,99,104]:Y1)]:List Y1)⟩,b.2.1,b.d2,b.d3,b.d4,b.d5,b.d6,b.d7,())) λd=>SZ d)) (L.b (c0 (0,2,⟨true,([]:List Y1)⟩,b.2.1,b.d2,b.d3,b.d4,b.d5,b.d6,b.d7,())) λe=>L.c e.1 (SZ (e.s0 true)) (L.b (c0 (0,6,⟨false,([([40]:Y1),([109,97,116,99,104]:Y1)]:List Y1)⟩,e.2.1,e.d2,e.d3,e.d4,e.d5,e.d6,e.d7,())) λg=>SZ g))) (L.b (c0 (0,1,⟨true,([]:List Y1)⟩,b.2.1,b.d2,b.d3,b.d4,b.d5,b.d6,b.d7,())) λh=>L.c h.1 (L.c true (SZ (h.s0 true)) (L.b (c0 (0,6,⟨false,([([40]:Y1),([109,97,116,99,104]:Y1)]:List Y1)⟩,h.2.1,h.d2,h.d3,h.d4,h.d5,h.d6,h.d7,())) λi=>SZ i)) (L.b (c0 (0,2,⟨true,([]:List Y1)⟩,h.2.1,h.d2,h.d3,h.d4,h.d5,h.d6,h.d7,())) λj=>L.c j.1 (SZ (j.s0 true)) (L.b (c0 (0,6,⟨false,([([40]:Y1),([109,97,116,99,104]:Y1)]:List Y1)⟩,j.2.1,j.d2,j.d3,j.d4,j.d5,j.d6,j.d7,())) λk=>SZ k)))) (L.b (c0 (0,4,⟨true,([]:List Y1)⟩,b.2.1,b.d2,b.d3,b.d4,b.d5,b.d6,b.d7,())) λm=>L.c m.1 (L.c true (L.c true (SZ (m.s0 true)) (L.b (c0 (0,6,⟨false,([([40]:Y1),([109,97,116,99,104]:Y1)]:List Y1)⟩,m.2.1,m.d2,m.d3,m.d4,m.d5,m.d6,m.d7,())) λn=>SZ n)) (L.b (c0 (0,2,⟨true,([]:List Y1)⟩,m.2.1,m.d2,m.d3,m.d4,m.d5,m.d6,m.d7,())) λo=>L.c o.1 (SZ (o.s0 true)) (L.b (c0 (0,6,⟨false,([([40]:Y1),([109,97,116,99,104]:Y1)]:List Y1)⟩,o.2.1,o.d2,o.d3,o.d4,o.d5,o.d6,o.d7,())) λp=>SZ p))) (L.b (c0 (0,1,⟨true,([]:List Y1)⟩,m.2.1,m.d2,m.d3,m.d4,m.d5,m.d6,m.d7,())) λq=>L.c q.1 (L.c true (SZ (q.s0 true)) (L.b (c0 (0,6,⟨false,([([40]:Y1),([109,97,116,99,104]:Y1)]:List Y1)⟩,q.2.1,q.d2,q.d3,q.d4,q.d5,q.d6,q.d7,())) λr=>SZ r)) (L.b (c0 (0,2,⟨true,([]:List Y1)⟩,q.2.1,q.d2,q.d3,q.d4,q.d5,q.d6,q.d7,())) λs=>L.c s.1 (SZ (s.s0 true)) (L.b (c0 (0,6,⟨false,([([40]:Y1),([109,97,116,99,104]:Y1)]:List Y1)⟩,s.2.1,s.d2,s.d3,s.d4,s.d5,s.d6,s.d7,())) λt=>SZ t))))
def w8:=IN lf ia
def IP(L:Lf)(c0:sB)(c1:sC)(c2:mF)(c3:wa)(c4:Af)(x:Y7):OZ y6:=L.b (c2 (0,1,⟨true,([]:List Y1)⟩,x.1,x.2.1,x.d2,x.d3,x.d4,x.d5,x.d6,())) λb=>L.c b.1 (L.b (c3 (b.2.1,b.d2,b.d3,b.d4,b.d5,b.d6,b.d7,())) λd=>SZ (d.1.2.1,d.2.1,d.d2,d.d3,d.d4,d.d5,d.d6,d.d7,())) (L.b (c2 (0,6,⟨false,([([40]:Y1)]:List Y1)⟩,b.2.1,b.d2,b.d3,b.d4,b.d5,b.d6,b.d7,())) λe=>L.c e.1 (L.b (c2 (1,5,⟨true,([]:List Y1)⟩,e.2.1,e.d2,e.d3,e.d4,e.d5,e.d6,e.d7,())) λg=>L.c g.1 (L.b (c3 (g.2.1,g.d2,g.d3,L.a .i64 g.d4 1,g.d5,g.d6,g.d7,())) λh=>L.b (c4 (([41]:Y1),h.2.1,h.d2,h.d3,h.d4,h.d5,h.d6,h.d7,())) λi=>SZ (h.1.2.1,i.1,i.2.1,i.d2,i.d3,i.d4,i.d5,i.d6,())) (L.b (c2 (0,6,⟨false,([([40]:Y1)]:List Y1)⟩,g.2.1,g.d2,g.d3,g.d4,g.d5,g.d6,g.d7,())) λj=>L.b (L.c j.1 (SZ (j.2.1,j.d2,j.d3,L.a .i64 j.d4 1,j.d5,j.d6,j.d7,())) (SZ (j.2.1,j.d2,j.d3,j.d4,j.d5,j.d6,j.d7,()))) λk=>L.b (c1 (k.d3,k.1,k.2.1,k.d2,k.d3,k.d4,k.d5,k.d6,())) λm=>L.b (c0 (m.1,70,m.2.1,m.d2,m.d3,m.d4,m.d5,m.d6,m.d7,())) λn=>SZ (([]:Y1),n.2.1,n.d2,n.d3,n.d4,n.d5,n.d6,n.d7,()))) (L.c false (L.b (c3 (e.2.1,e.d2,e.d3,L.a .i64 e.d4 1,e.d5,e.d6,e.d7,())) λo=>L.b (c4 (([41]:Y1),o.2.1,o.d2,o.d3,o.d4,o.d5,o.d6,o.d7,())) λp=>SZ (o.1.2.1,p.1,p.2.1,p.d2,p.d3,p.d4,p.d5,p.d6,())) (L.b (c2 (0,6,⟨false,([([40]:Y1)]:List Y1)⟩,e.2.1,e.d2,e.d3,e.d4,e.d5,e.d6,e.d7,())) λq=>L.b (L.c q.1 (SZ (q.2.1,q.d2,q.d3,L.a .i64 q.d4 1,q.d5,q.d6,q.d7,())) (SZ (q.2.1,q.d2,q.d3,q.d4,q.d5,q.d6,q.d7,()))) λr=>L.b (c1 (r.d3,r.1,r.2.1,r.d2,r.d3,r.d4,r.d5,r.d6,())) λs=>L.b (c0 (s.1,70,s.2.1,s.d2,s.d3,s.d4,s.d5,s.d6,s.d7,())) λt=>SZ (([]:Y1),t.2.1,t.d2,t.d3,t.d4,t.d5,t.d6,t.d7,()))))
def w9:=IP lf kI kJ ia kK kM
def YZ(L:Lf)(c0:fC)(c1:Ad)(c2:mF)(c3:wa)(c4:Y7->OZ y6)(c5:qE)(c6:Af)(x:Y7):OZ Y4:=L.b (c2 (0,6,⟨false,([([95]:Y1)]:List Y1)⟩,x.1,x.2.1,x.d2,x.d3,x.d4,x.d5,x.d6,())) λb=>L.c b.1 (L.b (c5 (21,([]:Y1),⟨true,([]:List (Sl Y0))⟩,())) λd=>SZ (d.1,b.2.1,b.d2,b.d3,L.a .i64 b.d4 1,b.d5,b.d6,b.d7,())) (L.b (c2 (0,3,⟨true,([]:List Y1)⟩,b.2.1,b.d2,b.d3,b.d4,b.d5,b.d6,b.d7,())) λe=>L.c e.1 (L.b (c3 (e.2.1,e.d2,e.d3,e.d4,e.d5,e.d6,e.d7,())) λg=>L.b (c1 ((23,([]:Y1),g.1.d2,0),⟨true,([]:List (Sl Y0))⟩,())) λh=>SZ (h.1,g.2.1,g.d2,g.d3,g.d4,g.d5,g.d6,g.d7,())) (L.b (c2 (0,2,⟨true,([]:List Y1)⟩,e.2.1,e.d2,e.d3,e.d4,e.d5,e.d6,e.d7,())) λi=>L.c i.1 (L.b (c3 (i.2.1,i.d2,i.d3,i.d4,i.d5,i.d6,i.d7,())) λj=>L.b (c5 (24,j.1.2.1,⟨true,([]:List (Sl Y0))⟩,())) λk=>SZ (k.1,j.2.1,j.d2,j.d3,j.d4,j.d5,j.d6,j.d7,())) (L.b (c2 (0,6,⟨false,([([40]:Y1)]:List Y1)⟩,i.2.1,i.d2,i.d3,i.d4,i.d5,i.d6,i.d7,())) λm=>L.c m.1 (L.b (c2 (1,5,⟨true,([]:List Y1)⟩,m.2.1,m.d2,m.d3,m.d4,m.d5,m.d6,m.d7,())) λn=>L.c (L.t n.1) (L.b (c0 (n.2.1,n.d2,n.d3,L.a .i64 n.d4 1,n.d5,n.d6,n.d7,())) λo=>L.b (c6 (([41]:Y1),o.2.1,o.d2,o.d3,o.d4,o.d5,o.d6,o.d7,())) λp=>SZ (o.1,p.1,p.2.1,p.d2,p.d3,p.d4,p.d5,p.d6,())) (L.b (c4 (n.2.1,n.d2,n.d3,n.d4,n.d5,n.d6,n.d7,())) λq=>L.b (c5 (22,q.1,⟨true,([]:List (Sl Y0))⟩,())) λr=>SZ (r.1,q.2.1,q.d2,q.d3,q.d4,q.d5,q.d6,q.d7,()))) (L.c false (L.b (c0 (m.2.1,m.d2,m.d3,L.a .i64 m.d4 1,m.d5,m.d6,m.d7,())) λs=>L.b (c6 (([41]:Y1),s.2.1,s.d2,s.d3,s.d4,s.d5,s.d6,s.d7,())) λt=>SZ (s.1,t.1,t.2.1,t.d2,t.d3,t.d4,t.d5,t.d6,())) (L.b (c4 (m.2.1,m.d2,m.d3,m.d4,m.d5,m.d6,m.d7,())) λu=>L.b (c5 (22,u.1,⟨true,([]:List (Sl Y0))⟩,())) λv=>SZ (v.1,u.2.1,u.d2,u.d3,u.d4,u.d5,u.d6,u.d7,()))))))
def Tf(self:fC)(x:Y7):OZ Y4:=YZ lf self jf ia kK w9 jl kM x
def q86(L:Lf)(c0:mF)(c2:qE)(c3:fC)(b:(Y1×(Sl Y0)×Int×Y3×Int×Int×Int×Int×eK×Unit)):OZ ((Y1×(Sl Y0)×Int×Y3×Int×Int×Int×Int×eK×Unit)⊕Y4):=L.b (c0 (0,3,⟨true,([]:List Y1)⟩,b.2.1,b.d2,b.d3,b.d4,b.d5,b.d6,b.d7,())) λd=>L.c d.1 (L.c true (L.c true (L.c true (L.b (c3 (d.2.1,d.d2,d.d3,d.d4,d.d5,d.d6,d.d7,())) λe=>L.z b.d8 [e.1] λzz=>SZ (IZ (b.1,e.2.1,e.d2,e.d3,e.d4,e.d5,e.d6,e.d7,zz,()))) (L.b (c2 (24,b.1,b.d8,())) λg=>SZ (JZ (g.1,d.2.1,d.d2,d.d3,d.d4,d.d5,d.d6,d.d7,())))) (L.b (c0 (0,6,⟨false,([([95]:Y1),([40]:Y1)]:List Y1)⟩,d.2.1,d.d2,d.d3,d.d4,d.d5,d.d6,d.d7,())) λh=>L.c h.1 (L.b (c3 (h.2.1,h.d2,h.d3,h.d4,h.d5,h.d6,h.d7,())) λi=>L.z b.d8 [i.1] λzy=>SZ (IZ (b.1,i.2.1,i.d2,i.d3,i.d4,i.d5,i.d6,i.d7,zy,()))) (L.b (c2 (24,b.1,b.d8,())) λj=>SZ (JZ (j.1,h.2.1,h.d2,h.d3,h.d4,h.d5,h.d6,h.d7,()))))) (L.b (c0 (0,1,⟨true,([]:List Y1)⟩,d.2.1,d.d2,d.d3,d.d4,d.d5,d.d6,d.d7,())) λk=>L.c k.1 (L.c true (L.b (c3 (k.2.1,k.d2,k.d3,k.d4,k.d5,k.d6,k.d7,())) λm=>L.z b.d8 [m.1] λzx=>SZ (IZ (b.1,m.2.1,m.d2,m.d3,m.d4,m.d5,m.d6,m.d7,zx,()))) (L.b (c2 (24,b.1,b.d8,())) λn=>SZ (JZ (n.1,k.2.1,k.d2,k.d3,k.d4,k.d5,k.d6,k.d7,())))) (L.b (c0 (0,6,⟨false,([([95]:Y1),([40]:Y1)]:List Y1)⟩,k.2.1,k.d2,k.d3,k.d4,k.d5,k.d6,k.d7,())) λo=>L.c o.1 (L.b (c3 (o.2.1,o.d2,o.d3,o.d4,o.d5,o.d6,o.d7,())) λp=>L.z b.d8 [p.1] λzw=>SZ (IZ (b.1,p.2.1,p.d2,p.d3,p.d4,p.d5,p.d6,p.d7,zw,()))) (L.b (c2 (24,b.1,b.d8,())) λq=>SZ (JZ (q.1,o.2.1,o.d2,o.d3,o.d4,o.d5,o.d6,o.d7,())))))) (L.b (c0 (0,2,⟨true,([]:List Y1)⟩,d.2.1,d.d2,d.d3,d.d4,d.d5,d.d6,d.d7,())) λr=>L.c r.1 (L.c true (L.c true (L.b (c3 (r.2.1,r.d2,r.d3,r.d4,r.d5,r.d6,r.d7,())) λs=>L.z b.d8 [s.1] λzv=>SZ (IZ (b.1,s.2.1,s.d2,s.d3,s.d4,s.d5,s.d6,s.d7,zv,()))) (L.b (c2 (24,b.1,b.d8,())) λt=>SZ (JZ (t.1,r.2.1,r.d2,r.d3,r.d4,r.d5,r.d6,r.d7,())))) (L.b (c0 (0,6,⟨false,([([95]:Y1),([40]:Y1)]:List Y1)⟩,r.2.1,r.d2,r.d3,r.d4,r.d5,r.d6,r.d7,())) λu=>L.c u.1 (L.b (c3 (u.2.1,u.d2,u.d3,u.d4,u.d5,u.d6,u.d7,())) λv=>L.z b.d8 [v.1] λzu=>SZ (IZ (b.1,v.2.1,v.d2,v.d3,v.d4,v.d5,v.d6,v.d7,zu,()))) (L.b (c2 (24,b.1,b.d8,())) λw=>SZ (JZ (w.1,u.2.1,u.d2,u.d3,u.d4,u.d5,u.d6,u.d7,()))))) (L.b (c0 (0,1,⟨true,([]:List Y1)⟩,r.2.1,r.d2,r.d3,r.d4,r.d5,r.d6,r.d7,())) λy=>L.c y.1 (L.c true (L.b (c3 (y.2.1,y.d2,y.d3,y.d4,y.d5,y.d6,y.d7,())) λz=>L.z b.d8 [z.1] λzt=>SZ (IZ (b.1,z.2.1,z.d2,z.d3,z.d4,z.d5,z.d6,z.d7,zt,()))) (L.b (c2 (24,b.1,b.d8,())) λbb=>SZ (JZ (bb.1,y.2.1,y.d2,y.d3,y.d4,y.d5,y.d6,y.d7,())))) (L.b (c0 (0,6,⟨false,([([95]:Y1),([40]:Y1)]:List Y1)⟩,y.2.1,y.d2,y.d3,y.d4,y.d5,y.d6,y.d7,())) λbd=>L.c bd.1 (L.b (c3 (bd.2.1,bd.d2,bd.d3,bd.d4,bd.d5,bd.d6,bd.d7,())) λbe=>L.z b.d8 [be.1] λzs=>SZ (IZ (b.1,be.2.1,be.d2,be.d3,be.d4,be.d5,be.d6,be.d7,zs,()))) (L.b (c2 (24,b.1,b.d8,())) λbg=>SZ (JZ (bg.1,bd.2.1,bd.d2,bd.d3,bd.d4,bd.d5,bd.d6,bd.d7,()))))))
def Za(L:Lf)(c0:mF)(c1:wa)(c2:qE)(c3:fC)(x:Y7):OZ Y4:=L.b (c0 (0,2,⟨true,([]:List Y1)⟩,x.1,x.2.1,x.d2,x.d3,x.d4,x.d5,x.d6,())) λb=>L.c (L.t b.1) (L.b (c3 (b.2.1,b.d2,b.d3,b.d4,b.d5,b.d6,b.d7,())) λd=>SZ d) (L.b (c1 (b.2.1,b.d2,b.d3,b.d4,b.d5,b.d6,b.d7,())) λe=>L.o (q86 L c0 c2 c3) (e.1.2.1,e.2.1,e.d2,e.d3,e.d4,e.d5,e.d6,e.d7,⟨true,([]:List (Sl Y0))⟩,()))
def Tg(self:fC)(x:Y7):OZ Y4:=Za lf ia kK jl (Tf self) x
def IQ(L:Lf)(c0:sB)(c1:sC)(c2:fC)(x:Y7):OZ Y4:=L.c (L.t (L.e x.d6 0)) (SZ (⟨true,([]:List Y0)⟩,x.1,x.2.1,x.d2,x.d3,x.d4,x.d5,x.d6,())) (L.c (L.e x.d4 100) (L.b (c1 (x.d3,x.1,x.2.1,x.d2,x.d3,x.d4,x.d5,x.d6,())) λb=>L.b (c0 (b.1,73,b.2.1,b.d2,b.d3,b.d4,b.d5,b.d6,b.d7,())) λd=>SZ d) (L.b (c2 (x.1,x.2.1,x.d2,x.d3,L.a .i64 x.d4 1,x.d5,x.d6,())) λe=>SZ (e.s5 (L.u .i64 e.d5 1))))
def Mt(self:fC)(x:Y7):OZ Y4:=IQ lf kI kJ (Tg self) x
def IS:=eN Mt
def Zb(L:Lf)(c0:fC)(c1:Af)(x:y6):OZ Y4:=L.b (c1 (x.1,x.2.1,x.d2,x.d3,x.d4,x.d5,x.d6,x.d7,())) λb=>L.b (c0 b) λd=>SZ d
def Mu(self:fC)(x:y6):OZ Y4:=Zb lf self kM x
def q74(L:Lf)(c1:fC)(c2:mF)(c4:y6->OZ Y4)(b:Y94):OZ (Y94⊕((Y94⊕Y4))):=L.c (L.e b.d6 0) (L.b (c1 (b.1,b.2.1,b.d2,b.d3,b.d4,b.d5,b.d6,())) λd=>L.b (c4 (([45,62]:Y1),d.2.1,d.d2,d.d3,d.d4,d.d5,d.d6,d.d7,())) λe=>L.z b.d7 [d.1,e.1] λzz=>L.b (c2 (0,6,⟨false,([([124]:Y1)]:List Y1)⟩,e.2.1,e.d2,e.d3,e.d4,e.d5,e.d6,e.d7,())) λg=>L.c (L.t g.1) (SZ (JZ (IZ (g.2.1,g.d2,g.d3,g.d4,g.d5,g.d6,g.d7,zz,())))) (SZ (IZ (g.2.1,g.d2,g.d3,L.a .i64 g.d4 1,g.d5,g.d6,g.d7,zz,())))) (SZ (JZ (IZ (b.1,b.2.1,b.d2,b.d3,b.d4,b.d5,b.d6,b.d7,()))))
def Zc(L:Lf)(c0:fC)(c1:fC)(c2:mF)(c3:qE)(c4:y6->OZ Y4)(c5:Af)(x:Y7):OZ Y4:=L.b (c0 (x.1,x.2.1,x.d2,x.d3,x.d4,x.d5,x.d6,())) λb=>L.b (c5 (([119,105,116,104]:Y1),b.2.1,b.d2,b.d3,b.d4,b.d5,b.d6,b.d7,())) λd=>L.b (L.o (q74 L c1 c2 c4) (d.1,d.2.1,d.d2,d.d3,d.d4,d.d5,d.d6,⟨false,([b.1]:List (Sl Y0))⟩,())) (L.cH λe=>L.b (c5 (([101,110,100]:Y1),e.1,e.2.1,e.d2,e.d3,e.d4,e.d5,e.d6,())) λg=>L.b (c3 (10,([]:Y1),e.d7,())) λh=>SZ (h.1,g.1,g.2.1,g.d2,g.d3,g.d4,g.d5,g.d6,()))
def Th(self:fC)(x:Y7):OZ Y4:=Zc lf self IS ia jl (Mu self) kM x
def Zd(L:Lf)(c0:fC)(c1:sB)(c2:sC)(c3:Ad)(c4:mF)(c5:wa)(c6:qE)(c7:Af)(c8:Y7->OZ GH)(c9:fC)(x:Y7):OZ Y4:=L.b (c8 (x.1,x.2.1,x.d2,x.d3,x.d4,x.d5,x.d6,())) λb=>L.c (L.t b.1) (L.b (c2 (b.d4,b.2.1,b.d2,b.d3,b.d4,b.d5,b.d6,b.d7,())) λd=>L.b (c1 (d.1,70,d.2.1,d.d2,d.d3,d.d4,d.d5,d.d6,d.d7,())) λe=>SZ e) (L.b (c5 (b.2.1,b.d2,b.d3,b.d4,b.d5,b.d6,b.d7,())) λg=>L.c (L.e g.1.1 3) (L.b (c3 ((1,([]:Y1),g.1.d2,0),⟨true,([]:List (Sl Y0))⟩,())) λh=>SZ (h.1,g.2.1,g.d2,g.d3,g.d4,g.d5,g.d6,g.d7,())) (L.c (L.e g.1.1 4) (L.b (c6 (2,g.1.2.1,⟨true,([]:List (Sl Y0))⟩,())) λi=>SZ (i.1,g.2.1,g.d2,g.d3,g.d4,g.d5,g.d6,g.d7,())) (L.c (L.e g.1.1 1) (L.b (c6 (3,g.1.2.1,⟨true,([]:List (Sl Y0))⟩,())) λj=>SZ (j.1,g.2.1,g.d2,g.d3,g.d4,g.d5,g.d6,g.d7,())) (L.c (L.e g.1.1 2) (L.b (c6 (4,g.1.2.1,⟨true,([]:List (Sl Y0))⟩,())) λk=>SZ (k.1,g.2.1,g.d2,g.d3,g.d4,g.d5,g.d6,g.d7,())) (L.c (L.h g.1.2.1 ([109,97,116,99,104]:Y1)) (L.b (c9 (g.2.1,g.d2,g.d3,g.d4,g.d5,g.d6,g.d7,())) λm=>SZ m) (L.b (c4 (0,5,⟨true,([]:List Y1)⟩,g.2.1,g.d2,g.d3,g.d4,g.d5,g.d6,g.d7,())) λn=>L.c n.1 (L.b (c5 (n.2.1,n.d2,n.d3,n.d4,n.d5,n.d6,n.d7,())) λo=>L.b (c6 (3,o.1.2.1,⟨true,([]:List (Sl Y0))⟩,())) λp=>L.b (c7 (([41]:Y1),o.2.1,o.d2,o.d3,o.d4,o.d5,o.d6,o.d7,())) λq=>SZ (p.1,q.1,q.2.1,q.d2,q.d3,q.d4,q.d5,q.d6,())) (L.b (c0 (n.2.1,n.d2,n.d3,n.d4,n.d5,n.d6,n.d7,())) λr=>L.b (c7 (([41]:Y1),r.2.1,r.d2,r.d3,r.d4,r.d5,r.d6,r.d7,())) λs=>SZ (r.1,s.1,s.2.1,s.d2,s.d3,s.d4,s.d5,s.d6,()))))))))
def Ti(self:fC)(x:Y7):OZ Y4:=Zd lf self kI kJ jf ia kK jl kM w8 (Th self) x
def q87(L:Lf)(c0:qE)(c1:fC)(c2:Y7->OZ GH)(b:Y4):OZ (Y4⊕Y4):=L.b (c2 (b.2.1,b.d2,b.d3,b.d4,b.d5,b.d6,b.d7,())) λd=>L.c d.1 (L.b (c1 (d.2.1,d.d2,d.d3,d.d4,d.d5,d.d6,d.d7,())) λe=>L.b (c0 (6,([]:Y1),⟨false,([b.1,e.1]:List (Sl Y0))⟩,())) λg=>SZ (IZ (e.s0 g.1))) (SZ (JZ (b.1,d.2.1,d.d2,d.d3,d.d4,d.d5,d.d6,d.d7,())))
def Ze(L:Lf)(c0:qE)(c1:fC)(c2:Y7->OZ GH)(x:Y7):OZ Y4:=L.b (c1 (x.1,x.2.1,x.d2,x.d3,x.d4,x.d5,x.d6,())) λb=>L.o (q87 L c0 c1 c2) b
def Tj(self:fC)(x:Y7):OZ Y4:=Ze lf jl (Ti self) w8 x
def IT(x:v8):OZ pI:=bif x.1.nil&&x.1.l.isEmpty&&decide (0<=x.2.1)&&decide (x.2.1<=1000000) then SZ ((⟨decide (x.2.1=0),([]:Y1)⟩:Sl Int),()) else none
def qc3(L:Lf)(b:(oA×Int×Int×(Sl Int)×Unit)):OZ ((oA×Int×Int×(Sl Int)×Unit)⊕(((oA×Int×oA×Int×Int×Unit)⊕pI))):=L.c (L.l b.d2 b.2.1) (L.b (L.g b.1.l b.d2) λd=>L.w b.d3.l d.l (SZ (IZ (b.1,b.2.1,L.a .i64 b.d2 1,⟨L.d b.d3.nil (L.i d.l),L.app b.d3.l d.l⟩,())))) (SZ (JZ (JZ (b.d3,()))))
def qc4(L:Lf)(c0:v8->OZ pI)(k0:((oA×Int×Int×(Sl Int)×Unit))->OZ ((oA×Int×Int×(Sl Int)×Unit)⊕(((oA×Int×oA×Int×Int×Unit)⊕pI))))(b:(oA×Int×oA×Int×Int×Unit)):OZ ((oA×Int×oA×Int×Int×Unit)⊕pI):=L.c (L.l b.d4 b.d3) (L.b (L.g b.d2.l b.d4) λd=>L.b (L.c (L.l (L.a .i64 b.2.1 (L.n d.l)) 0) none (SZ (b.s1 (L.a .i64 b.2.1 (L.n d.l))))) λe=>SZ (IZ (e.s4 (L.a .i64 e.d4 1)))) (L.b (c0 (⟨true,([]:Y1)⟩,b.2.1,())) λg=>L.o k0 (b.1,L.n b.1.l,0,g.1,()))
def IU(L:Lf)(c0:v8->OZ pI)(x:oA×Unit):OZ pI:=L.o (qc4 L c0 (qc3 L)) (x.1,0,x.1,L.n x.1.l,0,())
def IV:=IU lf IT
def IW(L:Lf)(c0:(oA×Unit)->OZ pI)(x:mD):OZ mD:=L.b (L.cD x.1.l (L.u .i64 (L.n x.1.l) 1)) λb=>L.b (L.nth x.1.l b) λd=>L.b (L.cD x.2.1.l (L.u .i64 (L.n x.2.1.l) 2)) λe=>L.b (L.nth x.2.1.l e) λg=>L.b (L.cD x.2.1.l (L.u .i64 (L.n x.2.1.l) 1)) λh=>L.b (L.nth x.2.1.l h) λi=>L.b (c0 (⟨false,([⟨false,([d]:Y1)⟩,g,i]:List (Sl Int))⟩,())) λj=>L.b (L.df (L.n x.1.l) (L.u .i64 (L.n x.1.l) 1)) λk=>L.b (L.b (L.df (L.n x.2.1.l) (L.u .i64 (L.n x.2.1.l) 2)) λm=>L.c (L.e (L.u .i64 (L.n x.2.1.l) 2) (L.u .i64 (L.n x.2.1.l) 2)) (SZ m) none) λn=>L.b (L.w (L.aH x.2.1.l n) ([j.1]:List (Sl Int)) (L.c (L.i ([j.1]:List (Sl Int))) none (SZ ()))) λ_=>SZ (⟨x.1.nil,L.aH x.1.l k⟩,⟨false,L.app (L.aH x.2.1.l n) ([j.1]:List (Sl Int))⟩,())
def IX:=IW lf IV
def qjb(L:Lf)(c2:mD->OZ mD)(b:mD):OZ (mD⊕((K1⊕Ml))):=L.c (L.l 0 (L.n b.1.l)) (L.b (c2 (b.1,b.2.1,())) λd=>SZ (IZ (d.1,d.2.1,()))) (L.b (L.cD b.2.1.l 0) λe=>L.b (L.nth b.2.1.l e) λg=>SZ (JZ (JZ (JZ (g,0,())))))
def qjc(L:Lf)(c2:mD->OZ mD)(b:(Int×Int×Int×Y3×Y1×Int×Int×(Sl Int)×oA×Unit)):OZ ((Int×Int×Int×Y3×Y1×Int×Int×(Sl Int)×oA×Unit)⊕(((Int×Int×Int×Y3×(Sl Int)×oA×Unit)⊕(K1⊕Ml)))):=L.c (L.l 0 (L.n b.d7.l)) (L.b (L.cD b.d7.l (L.u .i64 (L.n b.d7.l) 1)) λd=>L.b (L.nth b.d7.l d) λe=>L.b (L.cD b.d3.l e) λg=>L.b (L.nth b.d3.l g) λh=>L.c (L.l h.2.1 b.d5) (SZ (JZ (IZ (b.1,b.2.1,b.d2,b.d3,b.d7,b.d8,())))) (L.b (L.c (L.l b.d5 h.2.1) (SZ (IZ (b.1,b.2.1,b.d2,b.d3,b.d4,b.d5,b.d6,b.d7,b.d8,()))) (L.b (L.r (L.t (L.e h.2.2 b.d6)) (SZ (L.e b.d6 0))) λi=>L.c i (SZ (JZ (JZ (JZ (JZ (JZ (⟨true,([]:Y1)⟩,43,()))))))) (L.c (L.l 0 b.d6) (SZ (JZ (JZ (IZ (b.1,b.2.1,b.d2,b.d3,b.d7,b.d8,()))))) (SZ (IZ (b.1,b.2.1,b.d2,b.d3,b.d4,b.d5,b.d6,b.d7,b.d8,())))))) (L.cH λj=>L.b (c2 (j.d7,j.d8,())) λk=>SZ (IZ (j.1,j.2.1,j.d2,j.d3,j.d4,j.d5,j.d6,k.1,k.2.1,()))))) (SZ (JZ (IZ (b.1,b.2.1,b.d2,b.d3,b.d7,b.d8,()))))
def qjd(L:Lf)(k0:((Int×Int×Int×Y3×Y1×Int×Int×(Sl Int)×oA×Unit))->OZ ((Int×Int×Int×Y3×Y1×Int×Int×(Sl Int)×oA×Unit)⊕(((Int×Int×Int×Y3×(Sl Int)×oA×Unit)⊕(K1⊕Ml)))))(k1:(mD)->OZ (mD⊕((K1⊕Ml))))(b:K1):OZ (K1⊕(Ml)):=L.c (L.l b.2.1 b.1) (L.b (L.cD b.d2.l b.2.1) λd=>L.b (L.nth b.d2.l d) λe=>L.b (L.o k0 (b.2.1,b.1,b.2.1,b.d2,e.1,e.2.1,e.2.2,b.d3,b.d4,())) (L.cH λg=>L.z g.d4 [g.1] λzz=>L.z g.d5 [⟨false,([L.u .i64 (-2) g.1]:Y1)⟩] λzy=>SZ (IZ (g.2.1,L.a .i64 g.d2 1,g.d3,zz,zy,())))) (L.o k1 (b.d3,b.d4,()))
def qje(L:Lf)(c1:(Y3×Y1×Unit)->OZ rN)(k0:(K1)->OZ (K1⊕(Ml)))(b:(Y3×(Sl Y1)×Int×Int×Y3×Unit)):OZ Ml:=L.c (L.l b.d3 b.d2) (L.b (L.g b.2.1.l b.d3) λd=>L.b (c1 (b.1,d,())) λe=>L.c (L.t e.2.1) (SZ (JZ (⟨true,([]:Y1)⟩,42,()))) (L.b (L.cD b.d4.l b.d3) λg=>L.b (L.b (L.nth b.d4.l g) λ_=>SZ (e.1.1,e.1.2.1,e.1.2.2)) λh=>SZ (IZ ((b.s3 (L.a .i64 b.d3 1)).s4 ⟨b.d4.nil,L.jY b.d4.l g h⟩)))) (L.o k0 (L.n b.d4.l,0,b.d4,⟨true,([]:Y1)⟩,⟨false,([⟨false,([(-1)]:Y1)⟩]:List (Sl Int))⟩,()))
def IY(L:Lf)(c0:Ac)(c1:(Y3×Y1×Unit)->OZ rN)(c2:mD->OZ mD)(x:Y3×(Sl Y1)×Unit):OZ v8:=L.b (c0 (x.1,())) λb=>L.c (L.t (L.e b.1 0)) (SZ (⟨true,([]:Y1)⟩,b.1,())) (L.c (L.l 400 (L.n x.2.1.l)) (SZ (⟨true,([]:Y1)⟩,40,())) (L.b (L.BR (L.n x.2.1.l) (L.n x.2.1.l)) λd=>L.o (qje L c1 (qjd L (qjc L c2) (qjb L c2))) (x.1,x.2.1,L.n x.2.1.l,0,⟨false,L.rep d (([]:Y1),0,0)⟩,())))
def Er:=IY lf iZ nA IX
def I0(L:Lf)(c0:qE)(c1:Cl)(x:Y91):OZ Y57:=L.b (L.g x.1.l x.2.1) λb=>L.c (L.l b 0) (L.b (L.g x.d2.l (L.u .i64 (-1) b)) λd=>SZ (d,x.1,L.a .i64 x.2.1 1,x.d2,x.d3,())) (L.b (L.g x.d3.l b) λe=>L.b (c0 (3,e,⟨true,([]:List (Sl Y0))⟩,())) λg=>L.b (c1 (x.1,L.a .i64 x.2.1 1,x.d2,x.d3,())) λh=>L.b (c0 (6,([]:Y1),⟨false,([g.1,h.1]:List (Sl Y0))⟩,())) λi=>L.b (c1 (h.2.1,h.d2,h.d3,h.d4,())) λj=>L.b (c0 (6,([]:Y1),⟨false,([i.1,j.1]:List (Sl Y0))⟩,())) λk=>SZ (j.s0 k.1))
def Mv(self:Cl)(x:Y91):OZ Y57:=I0 lf jl self x
def I1:=eN Mv
def q88(L:Lf)(c0:((Sl Y1)×(Sl Y0)×Int×Y3×Int×Int×Int×Int×Unit)->OZ KP)(c1:sB)(c2:sC)(c3:mF)(c4:wa)(c5:fC)(c6:(Y3×(Sl Y1)×Unit)->OZ v8)(c7:Cl)(b:S9):OZ (S9⊕Y4):=L.b (c3 (0,5,⟨true,([]:List Y1)⟩,b.2.1,b.d2,b.d3,b.d4,b.d5,b.d6,b.d7,())) λd=>L.c d.1 (L.b (c2 (d.d4,d.2.1,d.d2,d.d3,d.d4,d.d5,d.d6,d.d7,())) λe=>L.z b.d8 [e.1] λzz=>L.b (c4 (e.2.1,e.d2,e.d3,e.d4,e.d5,e.d6,e.d7,())) λg=>L.z b.d10 [g.1.2.1] λzy=>L.b (c5 (g.2.1,g.d2,g.d3,g.d4,g.d5,g.d6,g.d7,())) λh=>L.z b.d9 [h.1] λzx=>SZ (IZ (b.1,h.2.1,h.d2,h.d3,h.d4,h.d5,h.d6,h.d7,zz,zx,zy,()))) (L.b (L.r (L.t (L.e d.d7 0)) (SZ (L.e (L.n b.d10.l) 0))) λi=>L.c i (L.b (L.cD b.d9.l 0) λj=>L.b (L.nth b.d9.l j) λk=>SZ (JZ (k,d.2.1,d.d2,d.d3,d.d4,d.d5,d.d6,d.d7,()))) (L.b (c0 (b.d10,d.2.1,d.d2,d.d3,d.d4,d.d5,d.d6,d.d7,())) λm=>L.c (L.m 0 m.1) (L.b (L.cD b.d8.l m.1) λn=>L.b (L.nth b.d8.l n) λo=>L.b (c1 (o,71,m.2.1,m.d2,m.d3,m.d4,m.d5,m.d6,m.d7,())) λp=>SZ (JZ p)) (L.b (c6 (m.d3,b.d10,())) λq=>L.c (L.t (L.e q.2.1 0)) (L.b (c1 (b.1,72,m.2.1,m.d2,m.d3,m.d4,m.d5,m.d6,m.d7,())) λr=>SZ (JZ r)) (L.b (c7 (q.1,0,b.d9,b.d10,())) λs=>SZ (JZ (s.1,m.2.1,m.d2,m.d3,m.d4,m.d5,m.d6,m.d7,()))))))
def Zf(L:Lf)(c0:((Sl Y1)×(Sl Y0)×Int×Y3×Int×Int×Int×Int×Unit)->OZ KP)(c1:sB)(c2:sC)(c3:mF)(c4:wa)(c5:fC)(c6:(Y3×(Sl Y1)×Unit)->OZ v8)(c7:Cl)(x:Y7):OZ Y4:=L.b (c2 (x.d3,x.1,x.2.1,x.d2,x.d3,x.d4,x.d5,x.d6,())) λb=>L.b (c5 (b.2.1,b.d2,b.d3,b.d4,b.d5,b.d6,b.d7,())) λd=>L.o (q88 L c0 c1 c2 c3 c4 c5 c6 c7) (b.1,d.2.1,d.d2,d.d3,d.d4,d.d5,d.d6,d.d7,⟨true,([]:Y1)⟩,⟨false,([d.1]:List (Sl Y0))⟩,⟨true,([]:List Y1)⟩,())
def Tl(self:fC)(x:Y7):OZ Y4:=Zf lf Ep kI kJ ia kK (Tj self) Er I1 x
def Zg(L:Lf)(c0:fC)(c1:mF)(c2:fC)(c3:wa)(c4:Y7->OZ y6)(c5:qE)(c6:y6->OZ Y4)(c7:Af)(x:Y7):OZ Y4:=L.b (c1 (0,6,⟨false,([([102,117,110]:Y1),([108,101,116]:Y1),([105,102]:Y1),([114,97,105,115,101]:Y1),([116,114,121]:Y1)]:List Y1)⟩,x.1,x.2.1,x.d2,x.d3,x.d4,x.d5,x.d6,())) λb=>L.c (L.t b.1) (L.b (c2 (b.2.1,b.d2,b.d3,b.d4,b.d5,b.d6,b.d7,())) λd=>SZ d) (L.b (c3 (b.2.1,b.d2,b.d3,b.d4,b.d5,b.d6,b.d7,())) λe=>L.c (L.h e.1.2.1 ([102,117,110]:Y1)) (L.b (c4 (e.2.1,e.d2,e.d3,e.d4,e.d5,e.d6,e.d7,())) λg=>L.b (c6 (g.s0 ([45,62]:Y1))) λh=>L.b (c5 (5,g.1,⟨false,([h.1]:List (Sl Y0))⟩,())) λi=>SZ (h.s0 i.1)) (L.c (L.h e.1.2.1 ([108,101,116]:Y1)) (L.b (c1 (0,6,⟨false,([([114,101,99]:Y1)]:List Y1)⟩,e.2.1,e.d2,e.d3,e.d4,e.d5,e.d6,e.d7,())) λj=>L.b (L.c j.1 (SZ (8,j.2.1,j.d2,j.d3,L.a .i64 j.d4 1,j.d5,j.d6,j.d7,())) (SZ (7,j.2.1,j.d2,j.d3,j.d4,j.d5,j.d6,j.d7,()))) λk=>L.b (c4 (k.2.1,k.d2,k.d3,k.d4,k.d5,k.d6,k.d7,())) λm=>L.b (c6 (m.s0 ([61]:Y1))) λn=>L.b (c6 (([105,110]:Y1),n.2.1,n.d2,n.d3,n.d4,n.d5,n.d6,n.d7,())) λo=>L.b (c5 (k.1,m.1,⟨false,([n.1,o.1]:List (Sl Y0))⟩,())) λp=>SZ (o.s0 p.1)) (L.c (L.h e.1.2.1 ([105,102]:Y1)) (L.b (c0 (e.2.1,e.d2,e.d3,e.d4,e.d5,e.d6,e.d7,())) λq=>L.b (c6 (([116,104,101,110]:Y1),q.2.1,q.d2,q.d3,q.d4,q.d5,q.d6,q.d7,())) λr=>L.b (c6 (([101,108,115,101]:Y1),r.2.1,r.d2,r.d3,r.d4,r.d5,r.d6,r.d7,())) λs=>L.b (c5 (9,([]:Y1),⟨false,([q.1,r.1,s.1]:List (Sl Y0))⟩,())) λt=>SZ (s.s0 t.1)) (L.c (L.h e.1.2.1 ([114,97,105,115,101]:Y1)) (L.b (c0 (e.2.1,e.d2,e.d3,e.d4,e.d5,e.d6,e.d7,())) λu=>L.b (c5 (11,([]:Y1),⟨false,([u.1]:List (Sl Y0))⟩,())) λv=>SZ (u.s0 v.1)) (L.b (c0 (e.2.1,e.d2,e.d3,e.d4,e.d5,e.d6,e.d7,())) λw=>L.b (c7 (([119,105,116,104]:Y1),w.2.1,w.d2,w.d3,w.d4,w.d5,w.d6,w.d7,())) λy=>L.b (c4 y) λz=>L.b (c6 (z.s0 ([45,62]:Y1))) λbb=>L.b (c5 (12,z.1,⟨false,([w.1,bb.1]:List (Sl Y0))⟩,())) λbd=>SZ (bb.s0 bd.1))))))
def Tm(self:fC)(x:Y7):OZ Y4:=Zg lf self ia (Tl self) kK w9 jl (Mu self) kM x
def Zh(L:Lf)(c0:sB)(c1:sC)(c2:fC)(x:Y7):OZ Y4:=L.c (L.t (L.e x.d6 0)) (SZ (⟨true,([]:List Y0)⟩,x.1,x.2.1,x.d2,x.d3,x.d4,x.d5,x.d6,())) (L.c (L.e x.d4 100) (L.b (c1 (x.d3,x.1,x.2.1,x.d2,x.d3,x.d4,x.d5,x.d6,())) λb=>L.b (c0 (b.1,73,b.2.1,b.d2,b.d3,b.d4,b.d5,b.d6,b.d7,())) λd=>SZ d) (L.b (c2 (x.1,x.2.1,x.d2,x.d3,L.a .i64 x.d4 1,x.d5,x.d6,())) λe=>SZ (e.s5 (L.u .i64 e.d5 1))))
def Tn(self:fC)(x:Y7):OZ Y4:=Zh lf kI kJ (Tm self) x
def I2(L:Lf)(c0:fC)(x:Y7):OZ Y4:=L.b (c0 (x.1,x.2.1,x.d2,x.d3,x.d4,x.d5,x.d6,())) λb=>SZ b
def Mw(self:fC)(x:Y7):OZ Y4:=I2 lf (Tn self) x
def Mx:=eN Mw
def I3(L:Lf)(c0:Ac)(c1:oO)(c2:fC)(c3:sB)(c4:sC)(x:su):OZ sv:=L.b (c0 (x.d2,())) λb=>L.c (L.t (L.e b.1 0)) (SZ (⟨true,([]:List Y0)⟩,0,b.1,())) (L.b (c2 (x.1,x.2.1,x.d2,0,0,0,0,())) λd=>L.b (L.y (L.e d.d7 0) (SZ (L.l d.d4 (L.n x.1.l)))) λe=>L.b (L.c e (L.b (c4 (d.d4,d.2.1,d.d2,d.d3,d.d4,d.d5,d.d6,d.d7,())) λg=>L.b (c3 (g.1,70,g.2.1,g.d2,g.d3,g.d4,g.d5,g.d6,g.d7,())) λh=>SZ (h.s0 d.1)) (SZ (d.1,d.2.1,d.d2,d.d3,d.d4,d.d5,d.d6,d.d7,()))) λi=>L.c (L.t (L.e i.d7 0)) (SZ (⟨true,([]:List Y0)⟩,i.d6,i.d7,())) (L.b (c1 (i.1,())) λj=>L.c (L.t (L.e j.1 0)) (SZ (⟨true,([]:List Y0)⟩,0,74,())) (SZ (i.1,0,0,()))))
def I4:=I3 lf iZ jc Mx kI kJ
def I5(L:Lf)(c0:Ac)(c1:(Y3×Y6×Unit)->OZ xL)(c2:j4)(c3:(Y5×Unit)->OZ Y8)(c4:GQ)(c5:(Bool×(Sl Y0)×(Sl Y0)×Int×Bool×(Sl Y1)×Unit)->OZ (Int×Int×(Sl Y0)×(Sl Y0)×Int×Bool×(Sl Y1)×Unit))(c6:qD)(c7:oz->OZ (Y6×(Sl Y0)×Int×Bool×(Sl Y1)×Unit))(c8:oz->OZ S7)(c9:oQ)(oC:oz->OZ GO)(HE:su->OZ sv)(x:(Sl Y0)×Int×Y1×Y3×(Sl Y1)×Y3×(Sl Y2)×(Sl Y5)×Unit):OZ (Int×Int×Y1×Y3×(Sl Y1)×Y3×(Sl Y2)×(Sl Y5)×Unit):=L.c (L.e (L.n x.1.l) 0) (SZ (x.2.1,240,x.d2,x.d3,x.d4,x.d5,x.d6,x.d7,())) (L.b (L.g x.1.l 0) λb=>L.c (L.t (L.e b.1 6)) (L.b (L.g x.1.l 0) λd=>SZ (d.2.2.2,240,x.d2,x.d3,x.d4,x.d5,x.d6,x.d7,())) (L.b (L.g x.1.l 0) λe=>L.b (L.b (L.b (L.c (L.h e.2.1 ([111,112,101,110]:Y1)) (L.b (c6 (2,([]:Y1),x.1,L.a .i64 0 1,false,(⟨true,[]⟩:Sl Y1),())) λg=>L.z x.d4 [g.1.2.1] λzz=>L.b (c2 (g.1.2.1,())) λh=>L.b (c5 (L.t h.1,x.1,g.2.1,g.d2,g.d3,g.d4,())) λi=>SZ (JZ (JZ (JZ (i.1,i.2.1,x.d2,x.d3,zz,x.d5,x.d6,x.d7,()))))) (L.c (L.h e.2.1 ([105,110,102,105,120,108]:Y1)) (SZ (IZ (x.d2,x.d3,x.1,x.d4,x.d5,x.d6,x.d7,x.1,0,false,(⟨true,[]⟩:Sl Y1),()))) (L.c (L.h e.2.1 ([105,110,102,105,120,114]:Y1)) (SZ (IZ (x.d2,x.d3,x.1,x.d4,x.d5,x.d6,x.d7,x.1,0,false,(⟨true,[]⟩:Sl Y1),()))) (L.c (L.h e.2.1 ([105,110,102,105,120]:Y1)) (SZ (JZ (IZ (x.d2,x.d3,x.1,x.d4,x.d5,x.d6,x.d7,x.1,0,false,(⟨true,[]⟩:Sl Y1),())))) (L.c (L.h e.2.1 ([116,121,112,101]:Y1)) (L.b (c8 (x.1,0,false,(⟨true,[]⟩:Sl Y1),())) λj=>L.z x.d6 [j.1] λzy=>L.b (c4 (zy,())) λk=>L.b (L.y (L.t (L.e k.1 0)) (SZ (L.t (L.e k.1 102)))) λm=>L.b (c5 (m,x.1,j.2.1,j.d2,j.d3,j.d4,())) λn=>SZ (JZ (JZ (JZ (n.1,n.2.1,x.d2,x.d3,x.d4,x.d5,zy,x.d7,()))))) (L.c (L.h e.2.1 ([108,101,116]:Y1)) (L.b (c9 (6,([114,101,99]:Y1),x.1,L.a .i64 0 1,false,(⟨true,[]⟩:Sl Y1),())) λo=>L.b (L.c o.1 (SZ (x.2.1,x.d2,x.d3,x.1,([]:Y1),o.1,x.d4,x.d5,x.d6,x.d7,o.2.1,L.a .i64 o.d2 1,o.d3,(⟨true,[]⟩:Sl Y0),o.d4,())) (SZ (x.2.1,x.d2,x.d3,x.1,([]:Y1),o.1,x.d4,x.d5,x.d6,x.d7,o.2.1,o.d2,o.d3,(⟨true,[]⟩:Sl Y0),o.d4,()))) λp=>L.b (oC (p.d10,p.d11,p.d12,p.d14,())) λq=>L.b (c6 (6,([61]:Y1),q.2.1,q.d2,q.d3,q.d4,())) λr=>L.c r.d3 (L.b (L.g p.d3.l 0) λs=>SZ (JZ (JZ (JZ (s.2.2.2,240,p.2.1,p.d2,p.d6,p.d7,p.d8,p.d9,()))))) (L.b (L.cI p.d3.l r.d2 (L.n p.d3.l)) λt=>L.b (HE (⟨p.d3.nil,t⟩,p.1,p.d2,())) λu=>L.c (L.t (L.e u.d2 0)) (SZ (JZ (JZ (JZ (u.2.1,u.d2,p.2.1,p.d2,p.d6,p.d7,p.d8,p.d9,()))))) (L.z p.d9 [(q.1,p.d5,u.1)] λzx=>L.b (c3 ((q.1,p.d5,u.1),())) λv=>L.b (c5 (L.t v.1,p.d3,r.2.1,L.n p.d3.l,r.d3,r.d4,())) λw=>SZ (JZ (JZ (JZ (w.1,w.2.1,p.2.1,p.d2,p.d6,p.d7,p.d8,zx,()))))))) (SZ (JZ (JZ (IZ (x.d2,x.d3,x.1,x.d4,x.d5,x.d6,x.d7,()))))))))))) (L.cH λy=>SZ (IZ y))) (L.cH λz=>L.b (c7 (z.d7,z.d8,z.d9,z.d10,())) λbb=>L.z z.d4 [(bb.1.1,bb.1.2.1,bb.1.2.2)] λzw=>L.b (c1 (z.2.1,(bb.1.1,bb.1.2.1,bb.1.2.2),())) λbd=>L.b (L.r (L.t (L.e bd.2.1 0)) (L.b (c0 (zw,())) λbe=>SZ (L.t (L.e be.1 0)))) λbg=>L.b (c5 (bg,z.d2,bb.2.1,bb.d2,bb.d3,bb.d4,())) λbh=>SZ (JZ (bh.1,bh.2.1,z.1,bd.1,z.d3,zw,z.d5,z.d6,())))) (L.cH λbi=>L.b (L.g bi.d2.l 0) λbj=>SZ (bj.2.2.2,240,bi.1,bi.2.1,bi.d3,bi.d4,bi.d5,bi.d6,()))))
def I6:=I5 lf iZ o4 oX sK qP Im mK Ir IB lK ID I4
def qet(L:Lf)(c0:(sq×Unit)->OZ Y9)(c4:((Sl Y0)×Int×Y1×Y3×(Sl Y1)×Y3×(Sl Y2)×(Sl Y5)×Unit)->OZ (Int×Int×Y1×Y3×(Sl Y1)×Y3×(Sl Y2)×(Sl Y5)×Unit))(b:Y80):OZ (Y80⊕Mm):=L.c (L.l b.d5 b.d4) (L.b (L.b (L.g b.d3.l b.d5) λd=>L.b (L.r (L.t (L.e d.1 6)) (SZ (L.t (L.h d.2.1 ([59,59]:Y1))))) λe=>L.c e (SZ (IZ b)) (L.b (L.cI b.2.1.l b.d2 b.d5) λg=>L.b (c4 (⟨b.2.1.nil,g⟩,d.2.2.2,b.d7,b.d8,b.d13,b.d14,b.d15,b.d16,())) λh=>L.c (L.t (L.e h.2.1 0)) (SZ (JZ (JZ ((([]:Y1),⟨true,([]:List Y1)⟩,⟨true,([]:List Y6)⟩,⟨true,([]:List Y2)⟩,⟨true,([]:List Y5)⟩),h.1,h.2.1,())))) (SZ (IZ (b.1,b.2.1,L.a .i64 b.d5 1,b.d3,b.d4,b.d5,b.d6,h.d2,h.d3,b.d9,b.d10,b.d11,b.d12,h.d4,h.d5,h.d6,h.d7,()))))) (L.cH λi=>SZ (IZ (i.s5 (L.a .i64 i.d5 1))))) (L.c (L.l b.d2 (L.n b.2.1.l)) (SZ (JZ ((([]:Y1),⟨true,([]:List Y1)⟩,⟨true,([]:List Y6)⟩,⟨true,([]:List Y2)⟩,⟨true,([]:List Y5)⟩),L.n b.1,240,()))) (L.b (c0 ((b.d7,b.d13,b.d14,b.d15,b.d16),())) λj=>L.c (L.t (L.e j.1 0)) (SZ (JZ ((([]:Y1),⟨true,([]:List Y1)⟩,⟨true,([]:List Y6)⟩,⟨true,([]:List Y2)⟩,⟨true,([]:List Y5)⟩),0,j.1,()))) (SZ (JZ ((b.d7,b.d13,b.d14,b.d15,b.d16),0,0,())))))
def I7(L:Lf)(c0:(sq×Unit)->OZ Y9)(c1:Ac)(c2:Ae)(c3:ch->OZ sv)(c4:((Sl Y0)×Int×Y1×Y3×(Sl Y1)×Y3×(Sl Y2)×(Sl Y5)×Unit)->OZ (Int×Int×Y1×Y3×(Sl Y1)×Y3×(Sl Y2)×(Sl Y5)×Unit))(x:Y1×Y1×Y3×Unit):OZ Mm:=L.b (c1 (x.d2,())) λb=>L.c (L.t (L.e b.1 0)) (SZ ((([]:Y1),⟨true,([]:List Y1)⟩,⟨true,([]:List Y6)⟩,⟨true,([]:List Y2)⟩,⟨true,([]:List Y5)⟩),0,b.1,())) (L.c (L.l 262144 (L.n x.2.1)) (SZ ((([]:Y1),⟨true,([]:List Y1)⟩,⟨true,([]:List Y6)⟩,⟨true,([]:List Y2)⟩,⟨true,([]:List Y5)⟩),0,240,())) (L.b (c3 (x.2.1,())) λd=>L.c (L.t (L.e d.d2 0)) (SZ ((([]:Y1),⟨true,([]:List Y1)⟩,⟨true,([]:List Y6)⟩,⟨true,([]:List Y2)⟩,⟨true,([]:List Y5)⟩),d.2.1,d.d2,())) (L.b (c2 (x.d2,())) λe=>L.o (qet L c0 c4) (x.2.1,d.1,0,d.1,L.n d.1.l,0,([]:Y1),x.1,e.1,⟨true,([]:List Y1)⟩,⟨true,([]:List Y6)⟩,⟨true,([]:List Y2)⟩,⟨true,([]:List Y5)⟩,⟨true,([]:List Y1)⟩,⟨true,([]:List Y6)⟩,⟨true,([]:List Y2)⟩,⟨true,([]:List Y5)⟩,()))))
def I8:=I7 lf oZ iZ nC Ek I6
def qdv(L:Lf)(b:((Sl Y0)×Bool×(Sl Y0)×Int×Int×(Sl Y1)×Unit)):OZ (((Sl Y0)×Bool×(Sl Y0)×Int×Int×(Sl Y1)×Unit)⊕fo):=L.c (L.l b.d4 b.d3) (L.b (L.g b.d2.l b.d4) λd=>L.b (L.y b.2.1 (SZ (L.e d.1 6))) λe=>L.b (L.y e (SZ (L.h d.2.1 ([111,112,101,110]:Y1)))) λg=>L.b (L.y g (SZ (L.l (L.a .i64 b.d4 1) (L.n b.1.l)))) λh=>L.b (L.y h (L.b (L.g b.1.l (L.a .i64 b.d4 1)) λi=>SZ (L.e i.1 2))) λj=>L.b (L.c j (L.b (L.g b.1.l (L.a .i64 b.d4 1)) λk=>L.z b.d5 [k.2.1] λzz=>SZ (b.1,b.d2,b.d3,b.d4,zz,d.1,d.2.1,d.d2,d.2.2.2,())) (SZ (b.1,b.d2,b.d3,b.d4,b.d5,d.1,d.2.1,d.d2,d.2.2.2,()))) λm=>L.b (L.y (L.e m.d5 6) (SZ (L.h m.d6 ([59,59]:Y1)))) λn=>SZ (IZ (m.1,n,m.2.1,m.d2,L.a .i64 m.d3 1,m.d4,()))) (SZ (JZ (b.d5,())))
def I9(L:Lf)(c0:ch->OZ sv)(x:ch):OZ fo:=L.b (c0 (x.1,())) λb=>L.c (L.t (L.e b.d2 0)) (SZ (⟨true,([]:List Y1)⟩,())) (L.o (qdv L) (b.1,true,b.1,L.n b.1.l,0,⟨true,([]:List Y1)⟩,()))
def Ja:=I9 lf Ek
def Zi(L:Lf)(c0:(sq×Y3×Unit)->OZ eT)(c1:(sq×Unit)->OZ Y9)(c2:(Y1×Y1×Y3×Unit)->OZ Mm)(c3:ch->OZ fo)(_x:Unit):OZ Y8:=L.b (c2 (([77]:Y1),([116,121,112,101,32,76,105,115,116,32,97,32,61,32,78,105,108,32,124,32,67,111,110,115,32,111,102,32,97,32,40,76,105,115,116,32,97,41,59,59,10,108,101,116,32,120,32,61,32,67,111,110,115,32,49,32,78,105,108,59,59,10]:Y1),⟨true,([]:List Y6)⟩,())) λb=>L.b (c0 ((b.1.1,b.1.2.1,b.1.d2,b.1.d3,b.1.2.2.2.2),⟨true,([]:List Y6)⟩,())) λd=>L.b (c2 (([77]:Y1),([108,101,116,32,120,32,61,32,49]:Y1),⟨true,([]:List Y6)⟩,())) λe=>L.b (c3 (([111,112,101,110,32,65,59,59]:Y1),())) λg=>L.b (L.y (L.e b.d2 0) (SZ (L.e b.2.1 0))) λh=>L.b (L.y h (SZ (L.e (L.n b.1.d3.l) 1))) λi=>L.b (L.y i (SZ (L.e (L.n b.1.2.2.2.2.l) 1))) λj=>L.b (L.y j (SZ (L.h d.1 ([116,121,112,101,32,76,105,115,116,32,97,32,61,32,78,105,108,32,124,32,67,111,110,115,32,111,102,32,97,32,40,76,105,115,116,32,97,41,59,59,10,108,101,116,32,120,32,61,32,67,111,110,115,32,49,32,78,105,108,59,59,10]:Y1)))) λk=>L.b (L.y k (SZ (L.e d.2.1 0))) λm=>L.b (L.y m (SZ (L.e e.d2 240))) λn=>L.b (L.y n (SZ (L.e e.2.1 9))) λo=>L.b (L.y o (SZ (L.e (L.n g.1.l) 1))) λp=>L.b (L.y p (L.b (L.g g.1.l 0) λq=>SZ (L.h q ([65]:Y1)))) λr=>L.b (L.y r (L.b (c1 ((b.1.1,b.1.2.1,b.1.d2,b.1.d3,b.1.2.2.2.2),())) λs=>SZ (L.e s.1 0))) λt=>SZ (t,())
def Rj:=Zi lf w7 oZ I8 Ja
def qcy(L:Lf)(b:((Sl Y2)×Int×Int×Int×Int×Int×Y1×eK×Unit)):OZ (((Sl Y2)×Int×Int×Int×Int×Int×Y1×eK×Unit)⊕((z8⊕(xJ⊕(rM⊕Y8))))):=L.b (L.g b.d7.l b.d4) λd=>L.b (L.y (L.l b.d5 (L.n d.l)) (SZ (L.l b.d5 61))) λe=>L.c e (L.b (L.g b.d7.l b.d4) λg=>L.b (L.g g.l b.d5) λh=>L.c (L.l 60 (L.n h.2.1)) (SZ (JZ (JZ (JZ (JZ (false,())))))) (SZ (IZ (b.1,b.2.1,b.d2,b.d3,b.d4,L.a .i64 b.d5 1,b.d6,b.d7,())))) (L.b (L.g b.d7.l b.d4) λi=>L.b (L.r (L.l 60 (L.n i.l)) (SZ (L.l 300 b.2.1))) λj=>L.c j (SZ (JZ (JZ (JZ (JZ (false,())))))) (SZ (JZ (IZ (b.1,b.2.1,b.d2,b.d3,L.a .i64 b.d4 1,b.d6,b.d7,())))))
def qcz(L:Lf)(k0:(((Sl Y2)×Int×Int×Int×Int×Int×Y1×eK×Unit))->OZ (((Sl Y2)×Int×Int×Int×Int×Int×Y1×eK×Unit)⊕((z8⊕(xJ⊕(rM⊕Y8))))))(b:z8):OZ (z8⊕((xJ⊕(rM⊕Y8)))):=L.c (L.l b.d4 (L.n b.d6.l)) (L.b (L.g b.d6.l b.d4) λd=>L.o k0 (b.1,L.a .i64 b.2.1 (L.n d.l),b.d2,b.d3,b.d4,0,b.d5,b.d6,())) (SZ (JZ (IZ (b.1,b.2.1,b.d2,L.a .i64 b.d3 1,()))))
def qd0(L:Lf)(k0:(z8)->OZ (z8⊕((xJ⊕(rM⊕Y8)))))(b:xJ):OZ (xJ⊕((rM⊕Y8))):=L.b (L.g b.1.l b.d2) λd=>L.c (L.l b.d3 (L.n d.2.2.l)) (L.b (L.g b.1.l b.d2) λe=>L.b (L.g e.2.2.l b.d3) λg=>L.b (L.r (L.l 60 (L.n g.1)) (SZ (L.l 10 (L.n g.2.l)))) λh=>L.c h (SZ (JZ (JZ (false,())))) (L.o k0 (b.1,b.2.1,b.d2,b.d3,0,g.1,g.2,()))) (SZ (JZ (IZ (b.1,b.2.1,L.a .i64 b.d2 1,()))))
def qd1(L:Lf)(k0:(xJ)->OZ (xJ⊕((rM⊕Y8))))(b:rM):OZ (rM⊕Y8):=L.c (L.l b.d2 (L.n b.1.l)) (L.b (L.g b.1.l b.d2) λd=>L.b (L.r (L.l 70 (L.n d.2.2.l)) (L.b (L.g b.1.l b.d2) λe=>SZ (L.l 60 (L.n e.1)))) λg=>L.c g (SZ (JZ (false,()))) (L.o k0 (b.1,b.2.1,b.d2,0,()))) (SZ (JZ (true,())))
def To(L:Lf)(x:lH):OZ Y8:=L.c (L.l 70 (L.n x.1.l)) (SZ (false,())) (L.o (qd1 L (qd0 L (qcz L (qcy L)))) (x.1,0,0,()))
def Es:=To lf
def qjf(L:Lf)(b:(Int×Int×Y1×vY×(Sl Y2)×Y3×(Sl jQ)×Unit)):OZ ((Int×Int×Y1×vY×(Sl Y2)×Y3×(Sl jQ)×Unit)⊕((nq⊕(nq⊕(nq⊕Y8))))):=L.b (L.g b.d6.l b.1) λd=>L.c (L.l b.2.1 (L.n d.2.l)) (L.b (L.g b.d6.l b.1) λe=>L.b (L.g e.2.l b.2.1) λg=>L.c (L.l 100 (L.n g.2.1)) (SZ (JZ (JZ (JZ (JZ (false,())))))) (SZ (IZ (b.s1 (L.a .i64 b.2.1 1))))) (SZ (JZ (IZ (L.a .i64 b.1 1,b.d2,b.d3,b.d4,b.d5,b.d6,()))))
def qjg(L:Lf)(k0:((Int×Int×Y1×vY×(Sl Y2)×Y3×(Sl jQ)×Unit))->OZ ((Int×Int×Y1×vY×(Sl Y2)×Y3×(Sl jQ)×Unit)⊕((nq⊕(nq⊕(nq⊕Y8))))))(b:nq):OZ (nq⊕((nq⊕(nq⊕Y8)))):=L.c (L.l b.1 (L.n b.d5.l)) (L.b (L.g b.d5.l b.1) λd=>L.b (L.r (L.l 100 (L.n d.1)) (L.b (L.g b.d5.l b.1) λe=>SZ (L.l 40 (L.n e.2.l)))) λg=>L.c g (SZ (JZ (JZ (JZ (false,()))))) (L.o k0 (b.1,0,b.2.1,b.d2,b.d3,b.d4,b.d5,()))) (SZ (JZ (JZ (JZ (true,())))))
def qd2(L:Lf)(k0:(nq)->OZ (nq⊕((nq⊕(nq⊕Y8)))))(b:nq):OZ (nq⊕((nq⊕Y8))):=L.c (L.l b.1 (L.n b.d4.l)) (L.b (L.g b.d4.l b.1) λd=>L.c (L.l 100 (L.n d.1)) (SZ (JZ (JZ (false,())))) (SZ (IZ (b.s0 (L.a .i64 b.1 1))))) (L.o k0 (b.s0 0))
def qd3(L:Lf)(k0:(nq)->OZ (nq⊕((nq⊕Y8))))(b:nq):OZ (nq⊕Y8):=L.c (L.l b.1 (L.n b.d2.l)) (L.b (L.g b.d2.l b.1) λd=>L.c (L.l 100 (L.n d.1)) (SZ (JZ (false,()))) (SZ (IZ (b.s0 (L.a .i64 b.1 1))))) (L.o k0 (b.s0 0))
def Tp(L:Lf)(c0:lH->OZ Y8)(x:(Y1×vY×(Sl Y2)×Y3×Sl jQ)×Unit):OZ Y8:=L.b (L.r (L.l 100 (L.n x.1.1)) (SZ (L.l 70 (L.n x.1.2.1.l)))) λb=>L.b (L.r b (SZ (L.l 70 (L.n x.1.d3.l)))) λd=>L.b (L.r d (SZ (L.l 40 (L.n x.1.2.2.2.2.l)))) λe=>L.b (L.r e (L.b (c0 (x.1.d2,())) λg=>SZ (L.t g.1))) λh=>L.c h (SZ (false,())) (L.o (qd3 L (qd2 L (qjg L (qjf L)))) (0,x.1.1,x.1.2.1,x.1.d2,x.1.d3,x.1.2.2.2.2,()))
def AJ:=Tp lf Es
def qd4(L:Lf)(b:KW):OZ (KW⊕((fB⊕(fB⊕Y8)))):=L.b (L.g b.d6.l b.1) λd=>L.c (L.l b.2.1 (L.n d.2.2.l)) (L.b (L.g b.d6.l b.1) λe=>L.b (L.g e.2.2.l b.2.1) λg=>L.c (L.l 100 (L.n g.2.1)) (SZ (JZ (JZ (JZ (false,()))))) (SZ (IZ (b.s1 (L.a .i64 b.2.1 1))))) (SZ (JZ (IZ (L.a .i64 b.1 1,b.d2,b.d3,b.d4,b.d5,b.d6,()))))
def qd5(L:Lf)(k0:(KW)->OZ (KW⊕((fB⊕(fB⊕Y8)))))(b:fB):OZ (fB⊕((fB⊕Y8))):=L.c (L.l b.1 (L.n b.d5.l)) (L.b (L.g b.d5.l b.1) λd=>L.b (L.r (L.l 100 (L.n d.1)) (L.b (L.g b.d5.l b.1) λe=>SZ (L.l 60 (L.n e.2.2.l)))) λg=>L.c g (SZ (JZ (JZ (false,())))) (L.o k0 (b.1,0,b.2.1,b.d2,b.d3,b.d4,b.d5,()))) (SZ (JZ (JZ (true,()))))
def qd6(L:Lf)(k0:(fB)->OZ (fB⊕((fB⊕Y8))))(b:fB):OZ (fB⊕Y8):=L.c (L.l b.1 (L.n b.d2.l)) (L.b (L.g b.d2.l b.1) λd=>L.c (L.l 100 (L.n d)) (SZ (JZ (false,()))) (SZ (IZ (b.s0 (L.a .i64 b.1 1))))) (L.o k0 (b.s0 0))
def Tq(L:Lf)(c0:((Y1×vY×(Sl Y2)×Y3×Sl jQ)×Unit)->OZ Y8)(x:sq×Unit):OZ Y8:=L.b (c0 ((x.1.1,⟨true,([]:List (Y1×Int))⟩,x.1.d3,x.1.d2,⟨true,([]:List jQ)⟩),())) λb=>L.b (L.r (L.t b.1) (SZ (L.l 70 (L.n x.1.2.1.l)))) λd=>L.b (L.r d (SZ (L.l 20 (L.n x.1.d2.l)))) λe=>L.b (L.r e (SZ (L.l 12 (L.n x.1.2.2.2.2.l)))) λg=>L.c g (SZ (false,())) (L.o (qd6 L (qd5 L (qd4 L))) (0,x.1.1,x.1.2.1,x.1.d2,x.1.d3,x.1.2.2.2.2,()))
def Et:=Tq lf AJ
def qd7(L:Lf)(b:xL):OZ (xL⊕Y8):=L.b (L.y (L.l b.2.1 (L.n b.1.l)) (SZ (L.l b.2.1 21))) λd=>L.c d (L.b (L.g b.1.l b.2.1) λe=>L.c (L.l 20 (L.n e.1)) (SZ (JZ (false,()))) (SZ (IZ (b.1,L.a .i64 b.2.1 1,())))) (SZ (JZ (L.m (L.n b.1.l) 20,())))
def qoz(L:Lf)(x:rL):OZ Y8:=L.o (qd7 L) (x.1,0,())
def Tt:=qoz lf
def qd8(L:Lf)(x:rL):OZ rL:=L.w ([]:List Y6) x.1.l (SZ (⟨L.d false (L.i x.1.l),L.app ([]:List Y6) x.1.l⟩,()))
def Tu:=qd8 lf
def qeu(L:Lf)(b:y9):OZ (y9⊕Y9):=L.c (L.l b.d2 (L.n b.2.1)) (L.b (L.g b.2.1 b.d2) λd=>L.c (L.e d b.1) (SZ (JZ (5,()))) (SZ (IZ (b.s2 (L.a .i64 b.d2 1))))) (L.b (L.y (L.m 97 b.1) (SZ (L.m b.1 122))) λe=>L.c e (SZ (JZ (1,()))) (L.b (L.y (L.m 65 b.1) (SZ (L.m b.1 90))) λg=>L.c g (SZ (JZ (2,()))) (L.b (L.y (L.m 48 b.1) (SZ (L.m b.1 57))) λh=>L.c h (SZ (JZ (3,()))) (L.b (L.r (L.e b.1 95) (SZ (L.e b.1 39))) λi=>L.c i (SZ (JZ (4,()))) (SZ (JZ (0,())))))))
def Tv(L:Lf)(x:Y9):OZ Y9:=L.o (qeu L) (x.1,([33,36,37,38,42,43,45,47,58,60,61,62,63,64,94,124]:Y1),0,())
def tn:=Tv lf
def q9c(L:Lf)(c0:lI)(b:(Y1×Int×Int×Int×Unit)):OZ ((Y1×Int×Int×Int×Unit)⊕Y9):=L.b (L.y (L.l b.2.1 (L.n b.1)) (L.b (L.g b.1 b.2.1) λd=>L.b (c0 (d,())) λe=>SZ (L.m b.d2 e.1))) λg=>L.b (L.y g (L.b (L.g b.1 b.2.1) λh=>L.b (c0 (h,())) λi=>SZ (L.m i.1 b.d3))) λj=>L.c j (SZ (IZ (b.s1 (L.a .i64 b.2.1 1)))) (SZ (JZ (b.2.1,())))
def Tw(L:Lf)(c0:lI)(x:Y1×Int×Int×Int×Unit):OZ Y9:=L.o (q9c L c0) (x.1,x.2.1,x.d2,x.d3,())
def AK:=Tw lf tn
def My(_L:Lf)(_x:Unit):OZ fo:=SZ (⟨false,([([108,101,116]:Y1),([114,101,99]:Y1),([105,110]:Y1),([102,117,110]:Y1),([105,102]:Y1),([116,104,101,110]:Y1),([101,108,115,101]:Y1),([109,97,116,99,104]:Y1),([119,105,116,104]:Y1),([101,110,100]:Y1),([114,97,105,115,101]:Y1),([116,114,121]:Y1),([111,112,101,110]:Y1),([116,121,112,101]:Y1),([111,102]:Y1),([105,110,102,105,120,108]:Y1),([105,110,102,105,120,114]:Y1),([105,110,102,105,120]:Y1),([45,62]:Y1),([61]:Y1),([124]:Y1),([40]:Y1),([41]:Y1),([95]:Y1),([59,59]:Y1)]:List Y1)⟩,())
def AL:=My lf
def qd9(L:Lf)(b:(Y1×(Sl Y1)×Int×Unit)):OZ ((Y1×(Sl Y1)×Int×Unit)⊕Y8):=L.c (L.l b.d2 (L.n b.2.1.l)) (L.b (L.g b.2.1.l b.d2) λd=>L.c (L.h d b.1) (SZ (JZ (true,()))) (SZ (IZ (b.s2 (L.a .i64 b.d2 1))))) (SZ (JZ (false,())))
def Tz(L:Lf)(c0:Unit->OZ fo)(x:ch):OZ Y8:=L.b (c0 ()) λb=>L.o (qd9 L) (x.1,b.1,0,())
def Eu:=Tz lf AL
def Mz(L:Lf)(x:Y9):OZ Y9:=L.b (L.jK x.1 9223372036854775808) λb=>L.c (L.m 4611686018427387904 b) (SZ (L.u .i64 (L.dV .i64 (L.u .u64 b 4611686018427387904)) 4611686018427387904,())) (SZ (L.dV .i64 b,()))
def Jb:=Mz lf
def MA(L:Lf)(c0:lI)(x:Y9):OZ Y9:=L.b (c0 (L.dV .u64 x.1,())) λb=>SZ (b.1,())
def tp:=MA lf Jb
def MB(L:Lf)(c0:lI)(c1:(Y1×Int×Int×Int×Unit)->OZ Y9)(c2:j4)(c3:lI)(x:KZ):OZ Y8:=L.c (L.l x.1.2.2.2 0) (SZ (false,())) (L.b (L.c (L.e x.1.1 1) (SZ (x.1.2.1,x.1.1,L.e x.1.1 1,x.1.1,x.1.2.1,x.1.d2,x.1.2.2.2,())) (SZ (x.1.2.1,x.1.1,L.e x.1.1 2,x.1.1,x.1.2.1,x.1.d2,x.1.2.2.2,()))) λb=>L.c b.d2 (L.c (L.e b.d5 0) (L.c (L.t (L.h b.1 ([]:Y1))) (L.b (L.g b.1 0) λd=>L.b (c0 (d,())) λe=>L.c (L.e e.1 b.d3) (L.b (c1 (b.1,0,1,4,())) λg=>L.c (L.e g.1 (L.n b.1)) (L.b (c2 (b.1,())) λh=>SZ (L.t h.1,())) (SZ (false,()))) (SZ (false,()))) (SZ (false,()))) (SZ (false,()))) (L.c (L.e b.2.1 3) (L.c (L.h b.1 ([]:Y1)) (L.b (c3 (b.d5,())) λi=>SZ (L.e i.1 b.d5,())) (SZ (false,()))) (L.c (L.e b.2.1 4) (L.b (L.y (L.e b.d5 0) (SZ (L.m (L.n b.1) 200))) λj=>SZ (j,())) (L.c (L.e b.2.1 5) (L.b (L.y (L.e b.d5 0) (SZ (L.t (L.h b.1 ([]:Y1))))) λk=>L.b (L.y k (L.b (c1 (b.1,0,5,5,())) λm=>SZ (L.e m.1 (L.n b.1)))) λn=>L.b (L.y n (L.b (c2 (b.1,())) λo=>SZ (L.t o.1))) λp=>SZ (p,())) (L.c (L.e b.2.1 6) (L.b (L.y (L.e b.d5 0) (L.b (c2 (b.1,())) λq=>SZ q.1)) λr=>SZ (r,())) (SZ (false,())))))))
def lL:=MB lf tn AK Eu tp
def MD(L:Lf)(c0:oM)(x:Y6×Unit):OZ Y8:=L.b (c0 ((5,x.1.1,0,0),())) λb=>L.b (L.y b.1 (SZ (L.m 0 x.1.2.1))) λd=>L.b (L.y d (SZ (L.m x.1.2.1 9))) λe=>L.b (L.y e (SZ (L.m (-1) x.1.2.2))) λg=>L.b (L.y g (SZ (L.m x.1.2.2 1))) λh=>SZ (h,())
def qY:=MD lf lL
def q9d(L:Lf)(b:(Y3×Bool×Int×Int×Unit)):OZ ((Y3×Bool×Int×Int×Unit)⊕(((Y3×Bool×Int×Unit)⊕Y9))):=L.c (L.l b.d3 b.d2) (L.c b.2.1 (SZ (IZ (b.1,true,b.d2,L.a .i64 b.d3 1,()))) (L.b (L.g b.1.l b.d3) λd=>L.b (L.g b.1.l b.d2) λe=>SZ (IZ (b.1,L.h d.1 e.1,b.d2,L.a .i64 b.d3 1,())))) (SZ (JZ (IZ (b.1,b.2.1,L.a .i64 b.d2 1,()))))
def q9e(L:Lf)(c0:(Y6×Unit)->OZ Y8)(k0:((Y3×Bool×Int×Int×Unit))->OZ ((Y3×Bool×Int×Int×Unit)⊕(((Y3×Bool×Int×Unit)⊕Y9))))(b:(Y3×Bool×Int×Unit)):OZ ((Y3×Bool×Int×Unit)⊕Y9):=L.c (L.l b.d2 (L.n b.1.l)) (L.b (L.g b.1.l b.d2) λd=>L.b (c0 (d,())) λe=>L.c (L.t e.1) (SZ (JZ (40,()))) (L.o k0 (b.1,b.2.1,b.d2,0,()))) (L.c b.2.1 (SZ (JZ (41,()))) (SZ (JZ (0,()))))
def TA(L:Lf)(c0:(Y6×Unit)->OZ Y8)(x:rL):OZ Y9:=L.c (L.l 400 (L.n x.1.l)) (SZ (40,())) (L.o (q9e L c0 (q9d L)) (x.1,false,0,()))
def qZ:=TA lf qY
def ME(L:Lf)(c0:oM)(x:ch):OZ Y8:=L.b (c0 ((2,x.1,0,0),())) λb=>SZ (b.1,())
def AM:=ME lf lL
def MF(L:Lf)(c0:j4)(x:ch):OZ Y8:=L.b (c0 (x.1,())) λb=>L.b (L.y b.1 (SZ (L.m (L.n x.1) 60))) λd=>SZ (d,())
def xa:=MF lf AM
def MG(L:Lf)(c0:oM)(x:ch):OZ Y8:=L.b (c0 ((2,x.1,0,0),())) λb=>SZ (b.1,())
def q7:=MG lf lL
def qda(L:Lf)(c0:oN)(b:((Sl Y0)×Int×Int×Int×Unit)):OZ (((Sl Y0)×Int×Int×Int×Unit)⊕Y9):=L.b (L.g b.1.l b.2.1) λd=>L.c (L.l b.d3 d.2.2.2) (L.b (c0 (b.1,b.d2,())) λe=>L.c (L.l e.1 0) (SZ (JZ ((-1),()))) (SZ (IZ (b.1,b.2.1,e.1,L.a .i64 b.d3 1,())))) (SZ (JZ (b.d2,())))
def TB(L:Lf)(c0:oN)(x:jP):OZ Y9:=L.b (L.r (L.l x.2.1 0) (SZ (L.m (L.n x.1.l) x.2.1))) λb=>L.b (L.r b (L.b (L.g x.1.l x.2.1) λd=>SZ (L.l d.2.2.2 0))) λe=>L.b (L.r e (L.b (L.g x.1.l x.2.1) λg=>SZ (L.l (L.n x.1.l) g.2.2.2))) λh=>L.c h (SZ ((-1),())) (L.o (qda L c0) (x.1,x.2.1,L.a .i64 x.2.1 1,0,()))
def tq(self:oN)(x:jP):OZ Y9:=TB lf self x
def AO:=eN tq
def MH(L:Lf)(c0:oN)(x:dA):OZ Y8:=L.b (L.y (L.l 0 (L.n x.1.l)) (L.b (c0 (x.1,0,())) λb=>SZ (L.e b.1 (L.n x.1.l)))) λd=>SZ (d,())
def q8:=MH lf AO
def q9f(L:Lf)(c0:oM)(b:jP):OZ (jP⊕Y8):=L.c (L.l b.2.1 (L.n b.1.l)) (L.b (L.b (L.g b.1.l b.2.1) λd=>L.c (L.e d.1 31) (L.b (L.r (L.t (L.e d.2.2.2 0)) (SZ (L.t (L.h d.2.1 ([]:Y1))))) λe=>L.b (L.r e (SZ (L.l d.d2 0))) λg=>L.b (L.r g (SZ (L.l 1048576 d.d2))) λh=>L.c h (SZ (JZ (JZ (false,())))) (SZ (IZ (b.1,b.2.1,())))) (L.b (c0 ((2,d.2.1,0,0),())) λi=>L.b (L.y i.1 (SZ (L.m d.2.2.2 8))) λj=>L.b (L.y (L.h d.2.1 ([45,62]:Y1)) (SZ (L.e d.2.2.2 2))) λk=>L.b (L.r k (L.c (L.h d.2.1 ([105,110,116]:Y1)) (L.y true (SZ (L.e d.2.2.2 0))) (L.y (L.h d.2.1 ([116,101,120,116]:Y1)) (SZ (L.e d.2.2.2 0))))) λm=>L.b (L.r m (L.y (L.h d.2.1 ([114,101,102]:Y1)) (SZ (L.e d.2.2.2 1)))) λn=>L.b (L.r (L.t (L.e d.1 32)) (SZ (L.t (L.e d.d2 0)))) λo=>L.b (L.r o (L.y (L.t j) (SZ (L.t n)))) λp=>L.c p (SZ (JZ (JZ (false,())))) (SZ (IZ (b.1,b.2.1,()))))) (L.cH λq=>SZ (IZ (q.1,L.a .i64 q.2.1 1,())))) (SZ (JZ (true,())))
def TC(L:Lf)(c0:oM)(c1:nu)(x:dA):OZ Y8:=L.b (L.r (L.l 4000 (L.n x.1.l)) (L.b (c1 (x.1,())) λb=>SZ (L.t b.1))) λd=>L.c d (SZ (false,())) (L.o (q9f L c0) (x.1,0,()))
def Ew:=TC lf lL q8
def q9g(L:Lf)(b:((Sl Int)×Int×Int×Unit)):OZ (((Sl Int)×Int×Int×Unit)⊕Y9):=L.c (L.l b.d2 (L.n b.1.l)) (L.b (L.g b.1.l b.d2) λd=>L.c (L.e d b.2.1) (SZ (JZ (b.d2,()))) (SZ (IZ (b.s2 (L.a .i64 b.d2 1))))) (SZ (JZ ((-1),())))
def TD(L:Lf)(x:v8):OZ Y9:=L.o (q9g L) (x.1,x.2.1,0,())
def Ey:=TD lf
def qb4(L:Lf)(c0:v8->OZ Y9)(b:((Sl Y0)×Int×(Sl Int)×Unit)):OZ (((Sl Y0)×Int×(Sl Int)×Unit)⊕pI):=L.c (L.l b.2.1 (L.n b.1.l)) (L.b (L.g b.1.l b.2.1) λd=>L.b (L.y (L.e d.1 31) (L.b (L.g b.1.l b.2.1) λe=>L.b (c0 (b.d2,e.d2,())) λg=>SZ (L.l g.1 0))) λh=>L.b (L.c h (L.b (L.g b.1.l b.2.1) λi=>L.z b.d2 [i.d2] λzz=>SZ (b.s2 zz)) (SZ b)) λj=>SZ (IZ (j.s1 (L.a .i64 j.2.1 1)))) (SZ (JZ (b.d2,())))
def TE(L:Lf)(c0:v8->OZ Y9)(x:dA):OZ pI:=L.o (qb4 L c0) (x.1,0,⟨false,([]:Y1)⟩,())
def Ez:=TE lf Ey
def q9h(L:Lf)(b:(Int×Int×(Sl Int)×Int×Y1×Int×fL×Y1×eK×Unit)):OZ ((Int×Int×(Sl Int)×Int×Y1×Int×fL×Y1×eK×Unit)⊕((Ab⊕(v7⊕Y8)))):=L.c (L.l b.d3 (L.n b.d2.l)) (L.b (L.g b.d2.l b.d3) λd=>L.c (L.m b.d5 d) (SZ (JZ (JZ (JZ (false,()))))) (SZ (IZ (b.s3 (L.a .i64 b.d3 1))))) (SZ (JZ (IZ (b.1,L.a .i64 b.2.1 1,b.d4,b.d5,b.d6,b.d7,b.d8,()))))
def q9i(L:Lf)(c1:nu)(c2:dA->OZ pI)(k0:((Int×Int×(Sl Int)×Int×Y1×Int×fL×Y1×eK×Unit))->OZ ((Int×Int×(Sl Int)×Int×Y1×Int×fL×Y1×eK×Unit)⊕((Ab⊕(v7⊕Y8)))))(b:Ab):OZ (Ab⊕((v7⊕Y8))):=L.c (L.l b.2.1 (L.n b.d6.l)) (L.b (L.g b.d6.l b.2.1) λd=>L.b (c1 (d,())) λe=>L.c (L.t e.1) (SZ (JZ (JZ (false,())))) (L.b (L.g b.d6.l b.2.1) λg=>L.b (c2 (g,())) λh=>L.o k0 (b.1,b.2.1,h.1,0,b.d2,b.d3,b.d4,b.d5,b.d6,()))) (SZ (JZ (IZ (L.a .i64 b.1 1,b.d2,b.d3,b.d4,()))))
def q9j(L:Lf)(c0:j4)(k0:(Ab)->OZ (Ab⊕((v7⊕Y8))))(b:v7):OZ (v7⊕Y8):=L.c (L.l b.1 (L.n b.d3.l)) (L.b (L.g b.d3.l b.1) λd=>L.b (c0 (d.1,())) λe=>L.b (L.r (L.t e.1) (SZ (L.l 8 (L.n d.2.l)))) λg=>L.c g (SZ (JZ (false,()))) (L.o k0 (b.1,0,b.2.1,b.d2,b.d3,d.1,d.2,()))) (SZ (JZ (true,())))
def TF(L:Lf)(c0:j4)(c1:nu)(c2:dA->OZ pI)(x:Y2×Unit):OZ Y8:=L.b (c0 (x.1.1,())) λb=>L.b (L.r (L.t b.1) (SZ (L.l x.1.2.1 0))) λd=>L.b (L.r d (SZ (L.l 8 x.1.2.1))) λe=>L.b (L.r e (SZ (L.l (L.n x.1.2.2.l) 1))) λg=>L.b (L.r g (SZ (L.l 60 (L.n x.1.2.2.l)))) λh=>L.c h (SZ (false,())) (L.o (q9j L c0 (q9i L c1 c2 (q9h L))) (0,x.1.1,x.1.2.1,x.1.2.2,()))
def EA:=TF lf q7 Ew Ez
def q9k(L:Lf)(b:((Sl Y2)×Int×Int×(Sl Y1)×Unit)):OZ (((Sl Y2)×Int×Int×(Sl Y1)×Unit)⊕((((Sl Y2)×Int×(Sl Y1)×Unit)⊕fo))):=L.b (L.g b.1.l b.2.1) λd=>L.c (L.l b.d2 (L.n d.2.2.l)) (L.b (L.g b.1.l b.2.1) λe=>L.b (L.g e.2.2.l b.d2) λg=>L.z b.d3 [g.1] λzz=>SZ (IZ (b.1,b.2.1,L.a .i64 b.d2 1,zz,()))) (SZ (JZ (IZ (b.1,L.a .i64 b.2.1 1,b.d3,()))))
def q9l(L:Lf)(k0:(((Sl Y2)×Int×Int×(Sl Y1)×Unit))->OZ (((Sl Y2)×Int×Int×(Sl Y1)×Unit)⊕((((Sl Y2)×Int×(Sl Y1)×Unit)⊕fo))))(b:((Sl Y2)×Int×(Sl Y1)×Unit)):OZ (((Sl Y2)×Int×(Sl Y1)×Unit)⊕fo):=L.c (L.l b.2.1 (L.n b.1.l)) (L.o k0 (b.1,b.2.1,0,b.d2,())) (SZ (JZ (b.d2,())))
def TG(L:Lf)(x:lH):OZ fo:=L.o (q9l L (q9k L)) (x.1,0,⟨false,([]:List Y1)⟩,())
def EB:=TG lf
def q9m(L:Lf)(b:((Sl Y2)×Int×Int×Y1×Int×Int×Unit)):OZ (((Sl Y2)×Int×Int×Y1×Int×Int×Unit)⊕Y8):=L.c (L.l b.2.1 (L.n b.1.l)) (L.b (L.g b.1.l b.2.1) λd=>L.c (L.h d.1 b.d3) (L.b (L.g b.1.l b.2.1) λe=>L.c (L.e e.2.1 b.d5) (SZ (JZ (true,()))) (SZ (IZ (b.s1 (L.a .i64 b.2.1 1))))) (L.c false (SZ (JZ (true,()))) (SZ (IZ (b.s1 (L.a .i64 b.2.1 1)))))) (SZ (JZ (false,())))
def TH(L:Lf)(x:(Sl Y2)×Y0×Unit):OZ Y8:=L.o (q9m L) (x.1,0,x.2.1.1,x.2.1.2.1,x.2.1.d2,x.2.1.2.2.2,())
def EC:=TH lf
def q9n(L:Lf)(c2:j4)(c3:((Sl Y2)×Y0×Unit)->OZ Y8)(b:((Sl Y2)×Int×Int×Int×(Sl Y0)×Int×Unit)):OZ (((Sl Y2)×Int×Int×Int×(Sl Y0)×Int×Unit)⊕((xJ⊕(rM⊕(kY⊕(jV⊕(jV⊕(kY⊕Y9)))))))):=L.c (L.l b.d5 (L.n b.d4.l)) (L.b (L.g b.d4.l b.d5) λd=>L.b (L.y (L.e d.1 32) (L.b (L.g b.d4.l b.d5) λe=>L.b (c2 (e.2.1,())) λg=>SZ g.1)) λh=>L.b (L.y h (L.b (L.g b.d4.l b.d5) λi=>L.b (c3 (b.1,i,())) λj=>SZ (L.t j.1))) λk=>L.c k (SZ (JZ (JZ (JZ (JZ (JZ (JZ (JZ (102,()))))))))) (SZ (IZ (b.1,b.2.1,b.d2,b.d3,b.d4,L.a .i64 b.d5 1,())))) (SZ (JZ (IZ (b.1,b.2.1,b.d2,L.a .i64 b.d3 1,()))))
def q9o(L:Lf)(k0:(((Sl Y2)×Int×Int×Int×(Sl Y0)×Int×Unit))->OZ (((Sl Y2)×Int×Int×Int×(Sl Y0)×Int×Unit)⊕((xJ⊕(rM⊕(kY⊕(jV⊕(jV⊕(kY⊕Y9)))))))))(b:xJ):OZ (xJ⊕((rM⊕(kY⊕(jV⊕(jV⊕(kY⊕Y9))))))):=L.b (L.g b.1.l b.2.1) λd=>L.b (L.g d.2.2.l b.d2) λe=>L.c (L.l b.d3 (L.n e.2.l)) (L.b (L.g b.1.l b.2.1) λg=>L.b (L.g g.2.2.l b.d2) λh=>L.b (L.g h.2.l b.d3) λi=>L.o k0 (b.1,b.2.1,b.d2,b.d3,i,0,())) (SZ (JZ (IZ (b.1,b.2.1,L.a .i64 b.d2 1,()))))
def q9p(L:Lf)(k0:(xJ)->OZ (xJ⊕((rM⊕(kY⊕(jV⊕(jV⊕(kY⊕Y9))))))))(b:rM):OZ (rM⊕((kY⊕(jV⊕(jV⊕(kY⊕Y9)))))):=L.b (L.g b.1.l b.2.1) λd=>L.c (L.l b.d2 (L.n d.2.2.l)) (L.o k0 (b.1,b.2.1,b.d2,0,())) (SZ (JZ (IZ (b.1,L.a .i64 b.2.1 1,()))))
def q9q(L:Lf)(k0:(rM)->OZ (rM⊕((kY⊕(jV⊕(jV⊕(kY⊕Y9)))))))(b:kY):OZ (kY⊕((jV⊕(jV⊕(kY⊕Y9))))):=L.c (L.l b.2.1 (L.n b.1.l)) (L.o k0 (b.1,b.2.1,0,())) (SZ (JZ (JZ (JZ (JZ (0,()))))))
def q9r(L:Lf)(b:K4):OZ (K4⊕((jV⊕(jV⊕(kY⊕Y9))))):=L.c (L.l b.d3 b.d2) (L.b (L.g b.2.1.l b.d3) λd=>L.b (L.g b.2.1.l b.d2) λe=>L.c (L.h d e) (SZ (JZ (JZ (JZ (JZ (101,())))))) (SZ (IZ (b.1,b.2.1,b.d2,L.a .i64 b.d3 1,())))) (SZ (JZ (IZ (b.1,b.2.1,L.a .i64 b.d2 1,()))))
def q9s(L:Lf)(k0:(K4)->OZ (K4⊕((jV⊕(jV⊕(kY⊕Y9))))))(k1:(kY)->OZ (kY⊕((jV⊕(jV⊕(kY⊕Y9))))))(b:jV):OZ (jV⊕((jV⊕(kY⊕Y9)))):=L.c (L.l b.d2 (L.n b.2.1.l)) (L.o k0 (b.1,b.2.1,b.d2,0,())) (L.o k1 (b.1,0,()))
def q9t(L:Lf)(b:K4):OZ (K4⊕((jV⊕(kY⊕Y9)))):=L.c (L.l b.d3 b.d2) (L.b (L.g b.1.l b.d3) λd=>L.b (L.g b.1.l b.d2) λe=>L.c (L.h d.1 e.1) (SZ (JZ (JZ (JZ (101,()))))) (SZ (IZ (b.1,b.2.1,b.d2,L.a .i64 b.d3 1,())))) (SZ (JZ (IZ (b.1,b.2.1,L.a .i64 b.d2 1,()))))
def q9u(L:Lf)(k0:(K4)->OZ (K4⊕((jV⊕(kY⊕Y9)))))(k1:(jV)->OZ (jV⊕((jV⊕(kY⊕Y9)))))(b:jV):OZ (jV⊕((kY⊕Y9))):=L.c (L.l b.d2 (L.n b.1.l)) (L.o k0 (b.1,b.2.1,b.d2,0,())) (L.o k1 (b.1,b.2.1,0,()))
def q9v(L:Lf)(c0:(Y2×Unit)->OZ Y8)(c1:lH->OZ fo)(k0:(jV)->OZ (jV⊕((kY⊕Y9))))(b:kY):OZ (kY⊕Y9):=L.c (L.l b.2.1 (L.n b.1.l)) (L.b (L.g b.1.l b.2.1) λd=>L.b (c0 (d,())) λe=>L.c (L.t e.1) (SZ (JZ (100,()))) (SZ (IZ (b.1,L.a .i64 b.2.1 1,())))) (L.b (c1 (b.1,())) λg=>L.o k0 (b.1,g.1,0,()))
def TI(L:Lf)(c0:(Y2×Unit)->OZ Y8)(c1:lH->OZ fo)(c2:j4)(c3:((Sl Y2)×Y0×Unit)->OZ Y8)(x:lH):OZ Y9:=L.c (L.l 60 (L.n x.1.l)) (SZ (100,())) (L.o (q9v L c0 c1 (q9u L (q9t L) (q9s L (q9r L) (q9q L (q9p L (q9o L (q9n L c2 c3))))))) (x.1,0,()))
def Jc:=TI lf EA EB q7 EC
def MI(L:Lf)(c0:GQ)(x:lH):OZ Y8:=L.b (c0 (x.1,())) λb=>L.b (L.r (L.e b.1 0) (SZ (L.e b.1 102))) λd=>SZ (d,())
def AP:=MI lf Jc
def MJ(L:Lf)(c0:oM)(x:ch):OZ Y8:=L.b (c0 ((1,x.1,0,0),())) λb=>L.b (L.r b.1 (L.b (c0 ((5,x.1,0,0),())) λd=>SZ d.1)) λe=>SZ (e,())
def AQ:=MJ lf lL
def qb5(L:Lf)(c0:oN)(b:((Sl Y0)×Int×Int×Int×(Sl Int)×Unit)):OZ (((Sl Y0)×Int×Int×Int×(Sl Int)×Unit)⊕pI):=L.b (L.g b.1.l b.2.1) λd=>L.c (L.l b.d3 d.2.2.2) (L.z b.d4 [b.d2] λzz=>L.b (c0 (b.1,b.d2,())) λe=>SZ (IZ (b.1,b.2.1,e.1,L.a .i64 b.d3 1,zz,()))) (SZ (JZ (b.d4,())))
def TJ(L:Lf)(c0:oN)(x:jP):OZ pI:=L.b (c0 (x.1,x.2.1,())) λb=>L.c (L.l b.1 0) (SZ (⟨false,([]:Y1)⟩,())) (L.o (qb5 L c0) (x.1,x.2.1,L.a .i64 x.2.1 1,0,⟨false,([]:Y1)⟩,()))
def dJ:=TJ lf AO
def qb6(L:Lf)(c1:oN)(b:((Sl Y0)×Int×(Sl Int)×Int×Unit)):OZ (((Sl Y0)×Int×(Sl Int)×Int×Unit)⊕Y9):=L.c (L.l b.d3 (L.n b.d2.l)) (L.b (L.g b.d2.l b.d3) λd=>L.b (c1 (b.1,d,())) λe=>L.b (L.c (L.l b.2.1 e.1) (SZ (b.s1 e.1)) (SZ b)) λg=>SZ (IZ (g.s3 (L.a .i64 g.d3 1)))) (SZ (JZ (L.a .i64 b.2.1 1,())))
def TK(L:Lf)(c0:sy)(c1:oN)(x:jP):OZ Y9:=L.b (c0 (x.1,x.2.1,())) λb=>L.o (qb6 L c1) (x.1,0,b.1,0,())
def o8(self:oN)(x:jP):OZ Y9:=TK lf dJ self x
def MK:=eN o8
def ML(L:Lf)(x:Y9):OZ Y8:=L.b (L.y (L.m 21 x.1) (SZ (L.m x.1 24))) λb=>SZ (b,())
def tu:=ML lf
def MM(L:Lf)(x:Y9):OZ Y9:=L.b (L.c (L.e x.1 1) (SZ (x.1,L.e x.1 1,())) (L.b (L.c (L.e x.1 6) (SZ (x.1,L.e x.1 6,())) (L.b (L.c (L.e x.1 9) (SZ (x.1,L.e x.1 9,())) (L.b (L.c (L.e x.1 10) (SZ (x.1,L.e x.1 10,())) (L.b (L.c (L.e x.1 11) (SZ (x.1,L.e x.1 11,())) (L.b (L.c (L.e x.1 21) (SZ (x.1,L.e x.1 21,())) (SZ (x.1,L.e x.1 23,()))) λb=>SZ (b.1,b.2.1,()))) λd=>SZ (d.1,d.2.1,()))) λe=>SZ (e.1,e.2.1,()))) λg=>SZ (g.1,g.2.1,()))) λh=>SZ (h.1,h.2.1,()))) λi=>L.c i.2.1 (SZ (0,())) (L.b (L.c (L.e i.1 3) (SZ (i.1,L.e i.1 3,())) (L.b (L.c (L.e i.1 5) (SZ (i.1,L.e i.1 5,())) (L.b (L.c (L.e i.1 7) (SZ (i.1,L.e i.1 7,())) (L.b (L.c (L.e i.1 8) (SZ (i.1,L.e i.1 8,())) (L.b (L.c (L.e i.1 12) (SZ (i.1,L.e i.1 12,())) (SZ (i.1,L.e i.1 22,()))) λj=>SZ (j.1,j.2.1,()))) λk=>SZ (k.1,k.2.1,()))) λm=>SZ (m.1,m.2.1,()))) λn=>SZ (n.1,n.2.1,()))) λo=>L.c o.2.1 (SZ (1,())) (L.b (L.c (L.e o.1 4) (SZ (o.1,L.e o.1 4,())) (SZ (o.1,L.e o.1 24,()))) λp=>L.c p.2.1 (SZ (2,())) (L.c (L.e p.1 2) (SZ (3,())) (SZ ((-1),())))))
def ED:=MM lf
def MN(L:Lf)(x:y8):OZ Y8:=L.b (L.c (L.e x.1 5) (SZ (x.2.1,x.1,L.e x.1 5,())) (SZ (x.2.1,x.1,L.e x.1 11,()))) λb=>L.c b.d2 (SZ (L.e b.1 1,())) (L.b (L.c (L.e b.2.1 6) (SZ (b.s2 (L.e b.2.1 6))) (L.b (L.c (L.e b.2.1 7) (SZ (b.s2 (L.e b.2.1 7))) (L.b (L.c (L.e b.2.1 8) (SZ (b.s2 (L.e b.2.1 8))) (SZ (b.s2 (L.e b.2.1 12)))) λd=>SZ d)) λe=>SZ e)) λg=>L.c g.d2 (SZ (L.e g.1 2,())) (L.c (L.e g.2.1 9) (SZ (L.e g.1 3,())) (L.c (L.e g.2.1 10) (L.b (L.y (L.m 3 g.1) (L.b (L.jK g.1 2) λh=>SZ (L.e h 1))) λi=>SZ (i,())) (L.c (L.e g.2.1 24) (SZ (true,())) (SZ (L.e g.1 0,()))))))
def AR:=MN lf
def MO(L:Lf)(c0:j4)(c1:j4)(c2:lI)(c3:kx)(c4:lI)(c5:y8->OZ Y8)(x:KR):OZ Y9:=L.b (L.g x.1.l x.2.1) λb=>L.b (c4 (b.1,())) λd=>L.b (L.r (L.e b.1 1) (SZ (L.e b.1 23))) λe=>L.c (L.l d.1 0) (L.c true (SZ (61,())) (L.b (L.y (L.e b.1 8) (L.b (L.g x.1.l (L.a .i64 x.2.1 1)) λg=>SZ (L.t (L.e g.1 5)))) λh=>L.c h (SZ (61,())) (L.b (L.y (L.e d.1 1) (L.b (c1 (b.2.1,())) λi=>SZ (L.t i.1))) λj=>L.b (L.r j (L.y (L.e d.1 2) (L.b (c0 (b.2.1,())) λk=>SZ (L.t k.1)))) λm=>L.c m (SZ (62,())) (SZ (0,()))))) (L.b (c3 (b.1,())) λn=>L.c (L.t (L.fA n.1 x.d2)) (L.c true (SZ (61,())) (L.b (L.y (L.e b.1 8) (L.b (L.g x.1.l (L.a .i64 x.2.1 1)) λo=>SZ (L.t (L.e o.1 5)))) λp=>L.c p (SZ (61,())) (L.b (L.y (L.e d.1 1) (L.b (c1 (b.2.1,())) λq=>SZ (L.t q.1))) λr=>L.b (L.r r (L.y (L.e d.1 2) (L.b (c0 (b.2.1,())) λs=>SZ (L.t s.1)))) λt=>L.c t (SZ (62,())) (SZ (0,()))))) (L.b (c5 (b.1,b.2.2.2,())) λu=>L.c (L.t u.1) (L.c true (SZ (61,())) (L.b (L.y (L.e b.1 8) (L.b (L.g x.1.l (L.a .i64 x.2.1 1)) λv=>SZ (L.t (L.e v.1 5)))) λw=>L.c w (SZ (61,())) (L.b (L.y (L.e d.1 1) (L.b (c1 (b.2.1,())) λy=>SZ (L.t y.1))) λz=>L.b (L.r z (L.y (L.e d.1 2) (L.b (c0 (b.2.1,())) λbb=>SZ (L.t bb.1)))) λbd=>L.c bd (SZ (62,())) (SZ (0,()))))) (L.c e (L.b (c2 (b.d2,())) λbe=>L.c (L.t (L.e be.1 b.d2)) (L.c true (SZ (61,())) (L.b (L.y (L.e b.1 8) (L.b (L.g x.1.l (L.a .i64 x.2.1 1)) λbg=>SZ (L.t (L.e bg.1 5)))) λbh=>L.c bh (SZ (61,())) (L.b (L.y (L.e d.1 1) (L.b (c1 (b.2.1,())) λbi=>SZ (L.t bi.1))) λbj=>L.b (L.r bj (L.y (L.e d.1 2) (L.b (c0 (b.2.1,())) λbk=>SZ (L.t bk.1)))) λbm=>L.c bm (SZ (62,())) (SZ (0,()))))) (L.c (L.t e) (L.c (L.t (L.e b.d2 0)) (L.c true (SZ (61,())) (L.b (L.y (L.e b.1 8) (L.b (L.g x.1.l (L.a .i64 x.2.1 1)) λbn=>SZ (L.t (L.e bn.1 5)))) λbo=>L.c bo (SZ (61,())) (L.b (L.y (L.e d.1 1) (L.b (c1 (b.2.1,())) λbp=>SZ (L.t bp.1))) λbq=>L.b (L.r bq (L.y (L.e d.1 2) (L.b (c0 (b.2.1,())) λbr=>SZ (L.t br.1)))) λbs=>L.c bs (SZ (62,())) (SZ (0,()))))) (L.c (L.e d.1 0) (L.c (L.t (L.h b.2.1 ([]:Y1))) (L.c true (SZ (61,())) (L.b (L.y (L.e b.1 8) (L.b (L.g x.1.l (L.a .i64 x.2.1 1)) λbt=>SZ (L.t (L.e bt.1 5)))) λbu=>L.c bu (SZ (61,())) (L.b (L.y (L.e d.1 1) (L.b (c1 (b.2.1,())) λbv=>SZ (L.t bv.1))) λbw=>L.b (L.r bw (L.y (L.e d.1 2) (L.b (c0 (b.2.1,())) λbz=>SZ (L.t bz.1)))) λdb=>L.c db (SZ (62,())) (SZ (0,()))))) (L.c (L.e d.1 3) (L.c (L.l 200 (L.n b.2.1)) (SZ (61,())) (L.b (L.y (L.e b.1 8) (L.b (L.g x.1.l (L.a .i64 x.2.1 1)) λdd=>SZ (L.t (L.e dd.1 5)))) λde=>L.c de (SZ (61,())) (L.b (L.y (L.e d.1 1) (L.b (c1 (b.2.1,())) λdg=>SZ (L.t dg.1))) λdh=>L.b (L.r dh (L.y (L.e d.1 2) (L.b (c0 (b.2.1,())) λdi=>SZ (L.t di.1)))) λdj=>L.c dj (SZ (62,())) (SZ (0,()))))) (L.c false (SZ (61,())) (L.b (L.y (L.e b.1 8) (L.b (L.g x.1.l (L.a .i64 x.2.1 1)) λdk=>SZ (L.t (L.e dk.1 5)))) λdm=>L.c dm (SZ (61,())) (L.b (L.y (L.e d.1 1) (L.b (c1 (b.2.1,())) λdn=>SZ (L.t dn.1))) λdp=>L.b (L.r dp (L.y (L.e d.1 2) (L.b (c0 (b.2.1,())) λdq=>SZ (L.t dq.1)))) λdr=>L.c dr (SZ (62,())) (SZ (0,()))))))) (L.c false (L.c true (SZ (61,())) (L.b (L.y (L.e b.1 8) (L.b (L.g x.1.l (L.a .i64 x.2.1 1)) λds=>SZ (L.t (L.e ds.1 5)))) λdt=>L.c dt (SZ (61,())) (L.b (L.y (L.e d.1 1) (L.b (c1 (b.2.1,())) λdu=>SZ (L.t du.1))) λdv=>L.b (L.r dv (L.y (L.e d.1 2) (L.b (c0 (b.2.1,())) λdw=>SZ (L.t dw.1)))) λdy=>L.c dy (SZ (62,())) (SZ (0,()))))) (L.c (L.e d.1 3) (L.c (L.l 200 (L.n b.2.1)) (SZ (61,())) (L.b (L.y (L.e b.1 8) (L.b (L.g x.1.l (L.a .i64 x.2.1 1)) λdz=>SZ (L.t (L.e dz.1 5)))) λeb=>L.c eb (SZ (61,())) (L.b (L.y (L.e d.1 1) (L.b (c1 (b.2.1,())) λed=>SZ (L.t ed.1))) λee=>L.b (L.r ee (L.y (L.e d.1 2) (L.b (c0 (b.2.1,())) λeg=>SZ (L.t eg.1)))) λeh=>L.c eh (SZ (62,())) (SZ (0,()))))) (L.c false (SZ (61,())) (L.b (L.y (L.e b.1 8) (L.b (L.g x.1.l (L.a .i64 x.2.1 1)) λei=>SZ (L.t (L.e ei.1 5)))) λej=>L.c ej (SZ (61,())) (L.b (L.y (L.e d.1 1) (L.b (c1 (b.2.1,())) λek=>SZ (L.t ek.1))) λem=>L.b (L.r em (L.y (L.e d.1 2) (L.b (c0 (b.2.1,())) λen=>SZ (L.t en.1)))) λeo=>L.c eo (SZ (62,())) (SZ (0,()))))))))) (L.c false (L.c true (SZ (61,())) (L.b (L.y (L.e b.1 8) (L.b (L.g x.1.l (L.a .i64 x.2.1 1)) λep=>SZ (L.t (L.e ep.1 5)))) λeq=>L.c eq (SZ (61,())) (L.b (L.y (L.e d.1 1) (L.b (c1 (b.2.1,())) λer=>SZ (L.t er.1))) λes=>L.b (L.r es (L.y (L.e d.1 2) (L.b (c0 (b.2.1,())) λet=>SZ (L.t et.1)))) λeu=>L.c eu (SZ (62,())) (SZ (0,()))))) (L.c (L.e d.1 0) (L.c (L.t (L.h b.2.1 ([]:Y1))) (L.c true (SZ (61,())) (L.b (L.y (L.e b.1 8) (L.b (L.g x.1.l (L.a .i64 x.2.1 1)) λev=>SZ (L.t (L.e ev.1 5)))) λew=>L.c ew (SZ (61,())) (L.b (L.y (L.e d.1 1) (L.b (c1 (b.2.1,())) λey=>SZ (L.t ey.1))) λez=>L.b (L.r ez (L.y (L.e d.1 2) (L.b (c0 (b.2.1,())) λgb=>SZ (L.t gb.1)))) λgd=>L.c gd (SZ (62,())) (SZ (0,()))))) (L.c (L.e d.1 3) (L.c (L.l 200 (L.n b.2.1)) (SZ (61,())) (L.b (L.y (L.e b.1 8) (L.b (L.g x.1.l (L.a .i64 x.2.1 1)) λge=>SZ (L.t (L.e ge.1 5)))) λgg=>L.c gg (SZ (61,())) (L.b (L.y (L.e d.1 1) (L.b (c1 (b.2.1,())) λgh=>SZ (L.t gh.1))) λgi=>L.b (L.r gi (L.y (L.e d.1 2) (L.b (c0 (b.2.1,())) λgj=>SZ (L.t gj.1)))) λgk=>L.c gk (SZ (62,())) (SZ (0,()))))) (L.c false (SZ (61,())) (L.b (L.y (L.e b.1 8) (L.b (L.g x.1.l (L.a .i64 x.2.1 1)) λgm=>SZ (L.t (L.e gm.1 5)))) λgn=>L.c gn (SZ (61,())) (L.b (L.y (L.e d.1 1) (L.b (c1 (b.2.1,())) λgo=>SZ (L.t go.1))) λgp=>L.b (L.r gp (L.y (L.e d.1 2) (L.b (c0 (b.2.1,())) λgq=>SZ (L.t gq.1)))) λgr=>L.c gr (SZ (62,())) (SZ (0,()))))))) (L.c false (L.c true (SZ (61,())) (L.b (L.y (L.e b.1 8) (L.b (L.g x.1.l (L.a .i64 x.2.1 1)) λgs=>SZ (L.t (L.e gs.1 5)))) λgt=>L.c gt (SZ (61,())) (L.b (L.y (L.e d.1 1) (L.b (c1 (b.2.1,())) λgu=>SZ (L.t gu.1))) λgv=>L.b (L.r gv (L.y (L.e d.1 2) (L.b (c0 (b.2.1,())) λgw=>SZ (L.t gw.1)))) λgy=>L.c gy (SZ (62,())) (SZ (0,()))))) (L.c (L.e d.1 3) (L.c (L.l 200 (L.n b.2.1)) (SZ (61,())) (L.b (L.y (L.e b.1 8) (L.b (L.g x.1.l (L.a .i64 x.2.1 1)) λgz=>SZ (L.t (L.e gz.1 5)))) λhb=>L.c hb (SZ (61,())) (L.b (L.y (L.e d.1 1) (L.b (c1 (b.2.1,())) λhd=>SZ (L.t hd.1))) λhe=>L.b (L.r he (L.y (L.e d.1 2) (L.b (c0 (b.2.1,())) λhg=>SZ (L.t hg.1)))) λhh=>L.c hh (SZ (62,())) (SZ (0,()))))) (L.c false (SZ (61,())) (L.b (L.y (L.e b.1 8) (L.b (L.g x.1.l (L.a .i64 x.2.1 1)) λhi=>SZ (L.t (L.e hi.1 5)))) λhj=>L.c hj (SZ (61,())) (L.b (L.y (L.e d.1 1) (L.b (c1 (b.2.1,())) λhk=>SZ (L.t hk.1))) λhm=>L.b (L.r hm (L.y (L.e d.1 2) (L.b (c0 (b.2.1,())) λhn=>SZ (L.t hn.1)))) λho=>L.c ho (SZ (62,())) (SZ (0,()))))))))))) (L.c false (L.c true (SZ (61,())) (L.b (L.y (L.e b.1 8) (L.b (L.g x.1.l (L.a .i64 x.2.1 1)) λhp=>SZ (L.t (L.e hp.1 5)))) λhq=>L.c hq (SZ (61,())) (L.b (L.y (L.e d.1 1) (L.b (c1 (b.2.1,())) λhr=>SZ (L.t hr.1))) λhs=>L.b (L.r hs (L.y (L.e d.1 2) (L.b (c0 (b.2.1,())) λht=>SZ (L.t ht.1)))) λhu=>L.c hu (SZ (62,())) (SZ (0,()))))) (L.c (L.t e) (L.c (L.t (L.e b.d2 0)) (L.c true (SZ (61,())) (L.b (L.y (L.e b.1 8) (L.b (L.g x.1.l (L.a .i64 x.2.1 1)) λhv=>SZ (L.t (L.e hv.1 5)))) λhw=>L.c hw (SZ (61,())) (L.b (L.y (L.e d.1 1) (L.b (c1 (b.2.1,())) λhy=>SZ (L.t hy.1))) λhz=>L.b (L.r hz (L.y (L.e d.1 2) (L.b (c0 (b.2.1,())) λib=>SZ (L.t ib.1)))) λid=>L.c id (SZ (62,())) (SZ (0,()))))) (L.c (L.e d.1 0) (L.c (L.t (L.h b.2.1 ([]:Y1))) (L.c true (SZ (61,())) (L.b (L.y (L.e b.1 8) (L.b (L.g x.1.l (L.a .i64 x.2.1 1)) λie=>SZ (L.t (L.e ie.1 5)))) λig=>L.c ig (SZ (61,())) (L.b (L.y (L.e d.1 1) (L.b (c1 (b.2.1,())) λih=>SZ (L.t ih.1))) λii=>L.b (L.r ii (L.y (L.e d.1 2) (L.b (c0 (b.2.1,())) λij=>SZ (L.t ij.1)))) λik=>L.c ik (SZ (62,())) (SZ (0,()))))) (L.c (L.e d.1 3) (L.c (L.l 200 (L.n b.2.1)) (SZ (61,())) (L.b (L.y (L.e b.1 8) (L.b (L.g x.1.l (L.a .i64 x.2.1 1)) λim=>SZ (L.t (L.e im.1 5)))) λio=>L.c io (SZ (61,())) (L.b (L.y (L.e d.1 1) (L.b (c1 (b.2.1,())) λip=>SZ (L.t ip.1))) λiq=>L.b (L.r iq (L.y (L.e d.1 2) (L.b (c0 (b.2.1,())) λir=>SZ (L.t ir.1)))) λis=>L.c is (SZ (62,())) (SZ (0,()))))) (L.c false (SZ (61,())) (L.b (L.y (L.e b.1 8) (L.b (L.g x.1.l (L.a .i64 x.2.1 1)) λit=>SZ (L.t (L.e it.1 5)))) λiu=>L.c iu (SZ (61,())) (L.b (L.y (L.e d.1 1) (L.b (c1 (b.2.1,())) λiv=>SZ (L.t iv.1))) λiw=>L.b (L.r iw (L.y (L.e d.1 2) (L.b (c0 (b.2.1,())) λiy=>SZ (L.t iy.1)))) λiz=>L.c iz (SZ (62,())) (SZ (0,()))))))) (L.c false (L.c true (SZ (61,())) (L.b (L.y (L.e b.1 8) (L.b (L.g x.1.l (L.a .i64 x.2.1 1)) λjb=>SZ (L.t (L.e jb.1 5)))) λjd=>L.c jd (SZ (61,())) (L.b (L.y (L.e d.1 1) (L.b (c1 (b.2.1,())) λje=>SZ (L.t je.1))) λjg=>L.b (L.r jg (L.y (L.e d.1 2) (L.b (c0 (b.2.1,())) λjh=>SZ (L.t jh.1)))) λji=>L.c ji (SZ (62,())) (SZ (0,()))))) (L.c (L.e d.1 3) (L.c (L.l 200 (L.n b.2.1)) (SZ (61,())) (L.b (L.y (L.e b.1 8) (L.b (L.g x.1.l (L.a .i64 x.2.1 1)) λjj=>SZ (L.t (L.e jj.1 5)))) λjk=>L.c jk (SZ (61,())) (L.b (L.y (L.e d.1 1) (L.b (c1 (b.2.1,())) λjm=>SZ (L.t jm.1))) λjn=>L.b (L.r jn (L.y (L.e d.1 2) (L.b (c0 (b.2.1,())) λjo=>SZ (L.t jo.1)))) λjp=>L.c jp (SZ (62,())) (SZ (0,()))))) (L.c false (SZ (61,())) (L.b (L.y (L.e b.1 8) (L.b (L.g x.1.l (L.a .i64 x.2.1 1)) λjq=>SZ (L.t (L.e jq.1 5)))) λjr=>L.c jr (SZ (61,())) (L.b (L.y (L.e d.1 1) (L.b (c1 (b.2.1,())) λjs=>SZ (L.t js.1))) λjt=>L.b (L.r jt (L.y (L.e d.1 2) (L.b (c0 (b.2.1,())) λju=>SZ (L.t ju.1)))) λjv=>L.c jv (SZ (62,())) (SZ (0,()))))))))) (L.c false (L.c true (SZ (61,())) (L.b (L.y (L.e b.1 8) (L.b (L.g x.1.l (L.a .i64 x.2.1 1)) λjw=>SZ (L.t (L.e jw.1 5)))) λjy=>L.c jy (SZ (61,())) (L.b (L.y (L.e d.1 1) (L.b (c1 (b.2.1,())) λjz=>SZ (L.t jz.1))) λkb=>L.b (L.r kb (L.y (L.e d.1 2) (L.b (c0 (b.2.1,())) λkd=>SZ (L.t kd.1)))) λke=>L.c ke (SZ (62,())) (SZ (0,()))))) (L.c (L.e d.1 0) (L.c (L.t (L.h b.2.1 ([]:Y1))) (L.c true (SZ (61,())) (L.b (L.y (L.e b.1 8) (L.b (L.g x.1.l (L.a .i64 x.2.1 1)) λkg=>SZ (L.t (L.e kg.1 5)))) λkh=>L.c kh (SZ (61,())) (L.b (L.y (L.e d.1 1) (L.b (c1 (b.2.1,())) λki=>SZ (L.t ki.1))) λkj=>L.b (L.r kj (L.y (L.e d.1 2) (L.b (c0 (b.2.1,())) λkk=>SZ (L.t kk.1)))) λkm=>L.c km (SZ (62,())) (SZ (0,()))))) (L.c (L.e d.1 3) (L.c (L.l 200 (L.n b.2.1)) (SZ (61,())) (L.b (L.y (L.e b.1 8) (L.b (L.g x.1.l (L.a .i64 x.2.1 1)) λkn=>SZ (L.t (L.e kn.1 5)))) λko=>L.c ko (SZ (61,())) (L.b (L.y (L.e d.1 1) (L.b (c1 (b.2.1,())) λkp=>SZ (L.t kp.1))) λkq=>L.b (L.r kq (L.y (L.e d.1 2) (L.b (c0 (b.2.1,())) λkr=>SZ (L.t kr.1)))) λks=>L.c ks (SZ (62,())) (SZ (0,()))))) (L.c false (SZ (61,())) (L.b (L.y (L.e b.1 8) (L.b (L.g x.1.l (L.a .i64 x.2.1 1)) λkt=>SZ (L.t (L.e kt.1 5)))) λku=>L.c ku (SZ (61,())) (L.b (L.y (L.e d.1 1) (L.b (c1 (b.2.1,())) λkv=>SZ (L.t kv.1))) λkw=>L.b (L.r kw (L.y (L.e d.1 2) (L.b (c0 (b.2.1,())) λky=>SZ (L.t ky.1)))) λkz=>L.c kz (SZ (62,())) (SZ (0,()))))))) (L.c false (L.c true (SZ (61,())) (L.b (L.y (L.e b.1 8) (L.b (L.g x.1.l (L.a .i64 x.2.1 1)) λmb=>SZ (L.t (L.e mb.1 5)))) λmd=>L.c md (SZ (61,())) (L.b (L.y (L.e d.1 1) (L.b (c1 (b.2.1,())) λme=>SZ (L.t me.1))) λmg=>L.b (L.r mg (L.y (L.e d.1 2) (L.b (c0 (b.2.1,())) λmh=>SZ (L.t mh.1)))) λmi=>L.c mi (SZ (62,())) (SZ (0,()))))) (L.c (L.e d.1 3) (L.c (L.l 200 (L.n b.2.1)) (SZ (61,())) (L.b (L.y (L.e b.1 8) (L.b (L.g x.1.l (L.a .i64 x.2.1 1)) λmj=>SZ (L.t (L.e mj.1 5)))) λmk=>L.c mk (SZ (61,())) (L.b (L.y (L.e d.1 1) (L.b (c1 (b.2.1,())) λmm=>SZ (L.t mm.1))) λmn=>L.b (L.r mn (L.y (L.e d.1 2) (L.b (c0 (b.2.1,())) λmo=>SZ (L.t mo.1)))) λmp=>L.c mp (SZ (62,())) (SZ (0,()))))) (L.c false (SZ (61,())) (L.b (L.y (L.e b.1 8) (L.b (L.g x.1.l (L.a .i64 x.2.1 1)) λmq=>SZ (L.t (L.e mq.1 5)))) λmr=>L.c mr (SZ (61,())) (L.b (L.y (L.e d.1 1) (L.b (c1 (b.2.1,())) λms=>SZ (L.t ms.1))) λmt=>L.b (L.r mt (L.y (L.e d.1 2) (L.b (c0 (b.2.1,())) λmu=>SZ (L.t mu.1)))) λmv=>L.c mv (SZ (62,())) (SZ (0,()))))))))))))))
def xc:=MO lf AM AQ tp tu ED AR
def q9w(L:Lf)(c1:sA)(b:((Sl Y0)×Int×Bool×(Sl Int)×Int×Unit)):OZ (((Sl Y0)×Int×Bool×(Sl Int)×Int×Unit)⊕Y9):=L.c (L.l b.d4 (L.n b.d3.l)) (L.b (L.g b.d3.l b.d4) λd=>L.c b.d2 (L.b (c1 (b.1,d,true,())) λe=>L.c (L.t (L.e e.1 0)) (SZ (JZ (e.1,()))) (SZ (IZ (b.s4 (L.a .i64 b.d4 1))))) (L.b (L.g b.1.l b.2.1) λg=>L.c (L.e g.1 10) (L.b (L.jK b.d4 2) λh=>L.b (c1 (b.1,d,L.e h 1,())) λi=>L.c (L.t (L.e i.1 0)) (SZ (JZ (i.1,()))) (SZ (IZ (b.s4 (L.a .i64 b.d4 1))))) (L.b (c1 (b.1,d,false,())) λj=>L.c (L.t (L.e j.1 0)) (SZ (JZ (j.1,()))) (SZ (IZ (b.s4 (L.a .i64 b.d4 1))))))) (SZ (JZ (0,())))
def TM(L:Lf)(c0:sy)(c1:sA)(c2:sA)(x:KR):OZ Y9:=L.b (c2 (x.1,x.2.1,x.d2,())) λb=>L.c (L.t (L.e b.1 0)) (SZ (b.1,())) (L.b (c0 (x.1,x.2.1,())) λd=>L.o (q9w L c1) (x.1,x.2.1,x.d2,d.1,0,()))
def nE(self:sA)(x:KR):OZ Y9:=TM lf dJ self xc x
def MP:=eN nE
def qb7(L:Lf)(c1:Ah)(b:((Sl Y0)×(Sl Int)×Int×(Sl Y1)×Unit)):OZ (((Sl Y0)×(Sl Int)×Int×(Sl Y1)×Unit)⊕fo):=L.c (L.l b.d2 (L.n b.2.1.l)) (L.b (L.g b.2.1.l b.d2) λd=>L.b (c1 (b.1,d,())) λe=>L.w b.d3.l e.1.l (SZ (IZ (b.1,b.2.1,L.a .i64 b.d2 1,⟨L.d b.d3.nil (L.i e.1.l),L.app b.d3.l e.1.l⟩,())))) (SZ (JZ (b.d3,())))
def TN(L:Lf)(c0:sy)(c1:Ah)(x:jP):OZ fo:=L.b (L.g x.1.l x.2.1) λb=>L.c (L.e b.1 22) (L.b (L.g x.1.l x.2.1) λd=>SZ (⟨false,([d.2.1]:List Y1)⟩,())) (L.b (c0 (x.1,x.2.1,())) λe=>L.o (qb7 L c1) (x.1,e.1,0,⟨false,([]:List Y1)⟩,()))
def nG(self:Ah)(x:jP):OZ fo:=TN lf dJ self x
def EE:=eN nG
def q9x(L:Lf)(c1:Ai)(b:((Sl Y0)×(Sl Int)×Int×Unit)):OZ (((Sl Y0)×(Sl Int)×Int×Unit)⊕Y8):=L.c (L.l b.d2 (L.n b.2.1.l)) (L.b (L.g b.2.1.l b.d2) λd=>L.b (c1 (b.1,d,())) λe=>L.c e.1 (SZ (JZ (true,()))) (SZ (IZ (b.s2 (L.a .i64 b.d2 1))))) (SZ (JZ (false,())))
def q9y(L:Lf)(b:(Int×Int×(Sl Y1)×Unit)):OZ ((Int×Int×(Sl Y1)×Unit)⊕((sx⊕Y8))):=L.c (L.l b.2.1 b.1) (L.b (L.cD b.d2.l b.1) λd=>L.b (L.nth b.d2.l d) λe=>L.b (L.cD b.d2.l b.2.1) λg=>L.b (L.nth b.d2.l g) λh=>L.c (L.h e h) (SZ (JZ (JZ (true,())))) (SZ (IZ (b.s1 (L.a .i64 b.2.1 1))))) (SZ (JZ (IZ (L.a .i64 b.1 1,b.d2,()))))
def q9z(L:Lf)(k0:((Int×Int×(Sl Y1)×Unit))->OZ ((Int×Int×(Sl Y1)×Unit)⊕((sx⊕Y8))))(b:sx):OZ (sx⊕Y8):=L.c (L.l b.1 (L.n b.2.1.l)) (L.o k0 (b.1,0,b.2.1,())) (SZ (JZ (false,())))
def TO(L:Lf)(c0:sy)(c1:Ai)(c2:kx)(c3:Ah)(x:jP):OZ Y8:=L.b (L.g x.1.l x.2.1) λb=>L.b (c2 (b.1,())) λd=>L.c d.1 (L.b (c3 (x.1,x.2.1,())) λe=>L.o (q9z L (q9y L)) (0,e.1,())) (L.b (c0 (x.1,x.2.1,())) λg=>L.o (q9x L c1) (x.1,g.1,0,()))
def nH(self:Ai)(x:jP):OZ Y8:=TO lf dJ self tu EE x
def MQ:=eN nH
def MR(L:Lf)(c0:nu)(c1:oN)(c2:sA)(c3:Ai)(x:(Sl Y0)×Bool×Unit):OZ Y9:=L.b (L.r (L.l 4000 (L.n x.1.l)) (L.b (c0 (x.1,())) λb=>SZ (L.t b.1))) λd=>L.b (L.r d (L.b (c1 (x.1,0,())) λe=>SZ (L.l 100 e.1))) λg=>L.c g (SZ (60,())) (L.b (c2 (x.1,0,x.2.1,())) λh=>L.c (L.t (L.e h.1 0)) (SZ (h.1,())) (L.b (c3 (x.1,0,())) λi=>L.c i.1 (SZ (63,())) (SZ (0,()))))
def o9:=MR lf q8 MK MP MQ
def MS(L:Lf)(c0:j4)(c1:((Sl Y0)×Bool×Unit)->OZ Y9)(x:Y5×Unit):OZ Y8:=L.b (c0 (x.1.1,())) λb=>L.b (L.y b.1 (L.b (c1 (x.1.2.2,false,())) λd=>SZ (L.e d.1 0))) λe=>L.b (L.y e (L.r (L.t x.1.2.1) (L.b (L.g x.1.2.2.l 0) λg=>SZ (L.e g.1 5)))) λh=>SZ (h,())
def xd:=MS lf AQ o9
def qev(L:Lf)(b:((Sl Y1)×Y1×Int×Unit)):OZ (((Sl Y1)×Y1×Int×Unit)⊕Y8):=L.c (L.l b.d2 (L.n b.1.l)) (L.b (L.g b.1.l b.d2) λd=>L.c (L.h d b.2.1) (SZ (JZ (true,()))) (SZ (IZ (b.s2 (L.a .i64 b.d2 1))))) (SZ (JZ (false,())))
def TP(L:Lf)(x:Rg):OZ Y8:=L.o (qev L) (x.1,x.2.1,0,())
def EF:=TP lf
def qa0(L:Lf)(b:KW):OZ (KW⊕((fB⊕(fB⊕(fB⊕(fB⊕Y9)))))):=L.c (L.l b.2.1 b.1) (L.b (L.g b.d6.l b.2.1) λd=>L.b (L.g b.d6.l b.1) λe=>L.c (L.h d.1 e.1) (SZ (JZ (JZ (JZ (JZ (JZ (241,()))))))) (SZ (IZ (b.s1 (L.a .i64 b.2.1 1))))) (SZ (JZ (IZ (L.a .i64 b.1 1,b.d2,b.d3,b.d4,b.d5,b.d6,()))))
def qa1(L:Lf)(k0:(KW)->OZ (KW⊕((fB⊕(fB⊕(fB⊕(fB⊕Y9)))))))(b:fB):OZ (fB⊕((fB⊕(fB⊕(fB⊕Y9))))):=L.c (L.l b.1 (L.n b.d5.l)) (L.o k0 (b.1,0,b.2.1,b.d2,b.d3,b.d4,b.d5,())) (SZ (JZ (JZ (JZ (JZ (0,()))))))
def qa2(L:Lf)(c4:sD)(k0:(fB)->OZ (fB⊕((fB⊕(fB⊕(fB⊕Y9))))))(b:fB):OZ (fB⊕((fB⊕(fB⊕Y9)))):=L.c (L.l b.1 (L.n b.d2.l)) (L.b (L.g b.d2.l b.1) λd=>L.c (L.h d b.2.1) (L.c true (SZ (JZ (JZ (JZ (241,()))))) (SZ (IZ (b.s0 (L.a .i64 b.1 1))))) (L.b (L.cI b.d2.l 0 b.1) λe=>L.b (L.g b.d2.l b.1) λg=>L.b (c4 (⟨b.d2.nil,e⟩,g,())) λh=>L.c h.1 (SZ (JZ (JZ (JZ (241,()))))) (SZ (IZ (b.s0 (L.a .i64 b.1 1)))))) (L.o k0 (b.s0 0))
def qa3(L:Lf)(c3:(Y5×Unit)->OZ Y8)(k0:(fB)->OZ (fB⊕((fB⊕(fB⊕Y9)))))(b:fB):OZ (fB⊕((fB⊕Y9))):=L.c (L.l b.1 (L.n b.d5.l)) (L.b (L.g b.d5.l b.1) λd=>L.b (c3 (d,())) λe=>L.c (L.t e.1) (SZ (JZ (JZ (240,())))) (SZ (IZ (b.s0 (L.a .i64 b.1 1))))) (L.o k0 (b.s0 0))
def qa4(L:Lf)(c1:j4)(k0:(fB)->OZ (fB⊕((fB⊕Y9))))(b:fB):OZ (fB⊕Y9):=L.c (L.l b.1 (L.n b.d2.l)) (L.b (L.g b.d2.l b.1) λd=>L.b (c1 (d,())) λe=>L.c (L.t e.1) (SZ (JZ (240,()))) (SZ (IZ (b.s0 (L.a .i64 b.1 1))))) (L.o k0 (b.s0 0))
def TQ(L:Lf)(c0:Ac)(c1:j4)(c2:lH->OZ Y8)(c3:(Y5×Unit)->OZ Y8)(c4:sD)(x:sq×Unit):OZ Y9:=L.b (c1 (x.1.1,())) λb=>L.b (L.r (L.t b.1) (SZ (L.l 60 (L.n x.1.2.1.l)))) λd=>L.b (L.r d (SZ (L.l 200 (L.n x.1.2.2.2.2.l)))) λe=>L.b (L.r e (L.b (c2 (x.1.d3,())) λg=>SZ (L.t g.1))) λh=>L.b (L.r h (L.b (c0 (x.1.d2,())) λi=>SZ (L.t (L.e i.1 0)))) λj=>L.c j (SZ (240,())) (L.o (qa4 L c1 (qa3 L c3 (qa2 L c4 (qa1 L (qa0 L))))) (0,x.1.1,x.1.2.1,x.1.d2,x.1.d3,x.1.2.2.2.2,()))
def EG:=TQ lf qZ xa AP xd EF
def qdb(L:Lf)(b:(Int×Int×Y3×Y3×Unit)):OZ ((Int×Int×Y3×Y3×Unit)⊕(((Int×Y3×Y3×Unit)⊕(Rh⊕xL)))):=L.c (L.l b.2.1 (L.n b.d3.l)) (L.b (L.cD b.d3.l b.2.1) λd=>L.b (L.nth b.d3.l d) λe=>L.b (L.cD b.d2.l b.1) λg=>L.b (L.nth b.d2.l g) λh=>L.c (L.strLt e.1 h.1) (SZ (IZ (b.s1 (L.a .i64 b.2.1 1)))) (L.b (L.df (L.n b.d3.l) b.2.1) λi=>L.w ([]:List Y6) (L.aH b.d3.l i) (L.b (L.cD b.d2.l b.1) λj=>L.b (L.nth b.d2.l j) λk=>L.w (L.app ([]:List Y6) (L.aH b.d3.l i)) ([k]:List Y6) (L.b (L.df (L.n b.d3.l) b.2.1) λ_=>L.w (L.app (L.app ([]:List Y6) (L.aH b.d3.l i)) ([k]:List Y6)) (L.cj b.d3.l b.2.1) (SZ (JZ (IZ (L.a .i64 b.1 1,b.d2,⟨L.d (L.d (L.d false (L.i (L.aH b.d3.l i))) (L.i ([k]:List Y6))) (L.i (L.cj b.d3.l b.2.1)),L.app (L.app (L.app ([]:List Y6) (L.aH b.d3.l i)) ([k]:List Y6)) (L.cj b.d3.l b.2.1)⟩,())))))))) (L.c false (SZ (IZ (b.s1 (L.a .i64 b.2.1 1)))) (L.b (L.df (L.n b.d3.l) b.2.1) λm=>L.w ([]:List Y6) (L.aH b.d3.l m) (L.b (L.cD b.d2.l b.1) λn=>L.b (L.nth b.d2.l n) λo=>L.w (L.app ([]:List Y6) (L.aH b.d3.l m)) ([o]:List Y6) (L.b (L.df (L.n b.d3.l) b.2.1) λ_=>L.w (L.app (L.app ([]:List Y6) (L.aH b.d3.l m)) ([o]:List Y6)) (L.cj b.d3.l b.2.1) (SZ (JZ (IZ (L.a .i64 b.1 1,b.d2,⟨L.d (L.d (L.d false (L.i (L.aH b.d3.l m))) (L.i ([o]:List Y6))) (L.i (L.cj b.d3.l b.2.1)),L.app (L.app (L.app ([]:List Y6) (L.aH b.d3.l m)) ([o]:List Y6)) (L.cj b.d3.l b.2.1)⟩,()))))))))
def qdc(L:Lf)(k0:((Int×Int×Y3×Y3×Unit))->OZ ((Int×Int×Y3×Y3×Unit)⊕(((Int×Y3×Y3×Unit)⊕(Rh⊕xL)))))(b:(Int×Y3×Y3×Unit)):OZ ((Int×Y3×Y3×Unit)⊕((Rh⊕xL))):=L.c (L.l b.1 (L.n b.2.1.l)) (L.o k0 (b.1,0,b.2.1,b.d2,())) (SZ (JZ (JZ (b.d2,0,()))))
def qdd(L:Lf)(k0:((Int×Y3×Y3×Unit))->OZ ((Int×Y3×Y3×Unit)⊕((Rh⊕xL))))(b:Rh):OZ (Rh⊕xL):=L.c (L.l b.2.1 (L.n b.1.l)) (L.b (L.g b.1.l b.2.1) λd=>L.b (L.c (L.t (L.h d.1 b.d2)) (L.b (L.g b.1.l b.2.1) λe=>L.z b.d5 [e] λzz=>SZ (b.s5 zz)) (SZ b)) λg=>SZ (IZ (g.s1 (L.a .i64 g.2.1 1)))) (L.c (L.l 400 (L.n b.d5.l)) (SZ (JZ (⟨true,([]:List Y6)⟩,40,()))) (L.o k0 (0,b.d5,⟨false,([]:List Y6)⟩,())))
def TR(L:Lf)(c0:Ac)(c1:(Y6×Unit)->OZ Y8)(x:Y3×Y6×Unit):OZ xL:=L.b (c0 (x.1,())) λb=>L.c (L.t (L.e b.1 0)) (SZ (⟨true,([]:List Y6)⟩,b.1,())) (L.b (c1 ((x.2.1.1,x.2.1.2.1,x.2.1.2.2),())) λd=>L.c (L.t d.1) (SZ (⟨true,([]:List Y6)⟩,40,())) (L.o (qdd L (qdc L (qdb L))) (x.1,0,x.2.1.1,x.2.1.2.1,x.2.1.2.2,⟨false,([(x.2.1.1,x.2.1.2.1,x.2.1.2.2)]:List Y6)⟩,())))
def AS:=TR lf qZ qY
def MT(L:Lf)(x:Y9):OZ ch:=L.b (L.cI ([97,98,99,100,101,102,103,104]:Y1) x.1 (L.a .i64 x.1 1)) λb=>SZ (b,())
def q9:=MT lf
def MU(L:Lf)(x:Y1×Bool×Unit):OZ ch:=L.c x.2.1 (L.w ([40]:Y1) x.1 (L.w (L.q ([40]:Y1) x.1) ([41]:Y1) (SZ (L.q (L.q ([40]:Y1) x.1) ([41]:Y1),())))) (SZ (x.1,()))
def tv:=MU lf
def qb8(L:Lf)(c1:qF)(c3:(Y1×Bool×Unit)->OZ ch)(b:((Sl Y0)×Int×(Sl Int)×Y1×Int×Unit)):OZ (((Sl Y0)×Int×(Sl Int)×Y1×Int×Unit)⊕ch):=L.c (L.l b.d4 (L.n b.d2.l)) (L.b (L.g b.d2.l b.d4) λd=>L.b (c1 (b.1,d,0,())) λe=>L.w ([32]:Y1) e.1 (L.w b.d3 (L.q ([32]:Y1) e.1) (SZ (IZ ((b.s3 (L.q b.d3 (L.q ([32]:Y1) e.1))).s4 (L.a .i64 b.d4 1)))))) (L.b (L.y (L.e b.2.1 0) (SZ (L.l 0 (L.n b.d2.l)))) λg=>L.b (c3 (b.d3,g,())) λh=>SZ (JZ (h.1,())))
def TS(L:Lf)(c0:qC)(c1:qF)(c2:sy)(c3:(Y1×Bool×Unit)->OZ ch)(x:sv):OZ ch:=L.b (L.g x.1.l x.2.1) λb=>L.c (L.e b.1 31) (L.b (c0 (b.d2,())) λd=>SZ (d.1,())) (L.b (c2 (x.1,x.2.1,())) λe=>L.c (L.h b.2.1 ([45,62]:Y1)) (L.b (L.g e.1.l 0) λg=>L.b (c1 (x.1,g,1,())) λh=>L.w h.1 ([32,45,62,32]:Y1) (L.b (L.g e.1.l 1) λi=>L.b (c1 (x.1,i,2,())) λj=>L.w (L.q h.1 ([32,45,62,32]:Y1)) j.1 (L.b (c3 (L.q (L.q h.1 ([32,45,62,32]:Y1)) j.1,L.l x.d2 2,())) λk=>SZ (k.1,())))) (L.o (qb8 L c1 c3) (x.1,x.d2,e.1,b.2.1,0,())))
def tA(self:qF)(x:sv):OZ ch:=TS lf q9 self dJ tv x
def AT:=eN tA
def MW(L:Lf)(c0:Ac)(c1:((Sl Y0)×Bool×Unit)->OZ Y9)(x:(Sl Y0)×Y3×Unit):OZ Y9:=L.b (c1 (x.1,false,())) λb=>L.c (L.t (L.e b.1 0)) (SZ (b.1,())) (L.b (c0 (x.2.1,())) λd=>SZ (d.1,()))
def AU:=MW lf qZ o9
def MY(L:Lf)(c0:oM)(x:ch):OZ ch:=L.b (c0 ((5,x.1,0,0),())) λb=>L.c b.1 (L.w ([40]:Y1) x.1 (L.w (L.q ([40]:Y1) x.1) ([41]:Y1) (SZ (L.q (L.q ([40]:Y1) x.1) ([41]:Y1),())))) (SZ (x.1,()))
def jS:=MY lf lL
def MZ(_L:Lf)(x:ch):OZ dA:=SZ (⟨false,([(41,x.1,0,0)]:List Y0)⟩,())
def eO:=MZ lf
def M0(L:Lf)(x:Y9):OZ Y9:=L.c (L.l x.1 0) (SZ (L.dV .u64 (L.u .i64 0 x.1),())) (SZ (L.dV .u64 x.1,()))
def EH:=M0 lf
def qb9(L:Lf)(b:y9):OZ (y9⊕ch):=L.b (L.r (L.h b.2.1 ([]:Y1)) (SZ (L.l 0 b.d2))) λd=>L.c d (L.b (L.jK b.d2 10) λe=>L.w ([L.dV .u8 (L.a .u64 48 e)]:Y1) b.2.1 (L.b (L.l7 .u64 b.d2 10) λg=>SZ (IZ (b.1,L.q ([L.dV .u8 (L.a .u64 48 e)]:Y1) b.2.1,g,())))) (L.c (L.l b.1 0) (L.w ([126]:Y1) b.2.1 (SZ (JZ (L.q ([126]:Y1) b.2.1,())))) (SZ (JZ (b.2.1,()))))
def TT(L:Lf)(c0:lI)(c1:lI)(x:Y9):OZ ch:=L.b (c0 (x.1,())) λb=>L.b (c1 (b.1,())) λd=>L.o (qb9 L) (b.1,([]:Y1),d.1,())
def re:=TT lf tp EH
def qa5(L:Lf)(b:(Y1×Y1×Y1×Int×Unit)):OZ ((Y1×Y1×Y1×Int×Unit)⊕ch):=L.c (L.l b.d3 (L.n b.1)) (L.b (L.g b.1 b.d3) λd=>L.b (L.r (L.e (L.dV .i64 d) 34) (SZ (L.e (L.dV .i64 d) 92))) λe=>L.b (L.c e (L.b (L.cI b.1 b.d3 (L.a .i64 b.d3 1)) λg=>L.w ([92]:Y1) g (L.w b.d2 (L.q ([92]:Y1) g) (SZ (b.s2 (L.q b.d2 (L.q ([92]:Y1) g)))))) (L.b (L.c (L.e (L.dV .i64 d) 10) (L.w b.d2 ([92,110]:Y1) (SZ (b.s2 (L.q b.d2 ([92,110]:Y1))))) (L.b (L.y (L.m 32 (L.dV .i64 d)) (SZ (L.m (L.dV .i64 d) 126))) λh=>L.b (L.c h (L.b (L.cI b.1 b.d3 (L.a .i64 b.d3 1)) λi=>L.w b.d2 i (SZ (b.s2 (L.q b.d2 i)))) (L.b (L.l7 .i64 (L.dV .i64 d) 16) λj=>L.b (L.g b.2.1 j) λk=>L.b (L.jK (L.dV .i64 d) 16) λm=>L.b (L.g b.2.1 m) λn=>L.w b.d2 ([92,120,k,n]:Y1) (SZ (b.s2 (L.q b.d2 ([92,120,k,n]:Y1)))))) λo=>SZ o)) λp=>SZ p)) λq=>SZ (IZ (q.s3 (L.a .i64 q.d3 1)))) (L.w b.d2 ([34]:Y1) (SZ (JZ (L.q b.d2 ([34]:Y1),()))))
def TU(L:Lf)(x:ch):OZ ch:=L.o (qa5 L) (x.1,([48,49,50,51,52,53,54,55,56,57,97,98,99,100,101,102]:Y1),([34]:Y1),0,())
def AV:=TU lf
def qba(L:Lf)(b:(eK×Int×(Sl Y0)×Unit)):OZ ((eK×Int×(Sl Y0)×Unit)⊕dA):=L.c (L.l b.2.1 (L.n b.1.l)) (L.b (L.g b.1.l b.2.1) λd=>L.w b.d2.l d.l (SZ (IZ (b.1,L.a .i64 b.2.1 1,⟨L.d b.d2.nil (L.i d.l),L.app b.d2.l d.l⟩,())))) (SZ (JZ (b.d2,())))
def TV(L:Lf)(x:Y67):OZ dA:=L.o (qba L) (x.2.1,0,⟨false,([(x.1.1,x.1.2.1,x.1.d2,L.n x.2.1.l)]:List Y0)⟩,())
def pa:=TV lf
def M3(L:Lf)(c0:Ad)(x:KY):OZ dA:=L.c (L.e (L.n x.1.l) 1) (L.b (L.g x.1.l 0) λb=>SZ (b,())) (L.b (c0 ((45,([]:Y1),0,0),x.1,())) λd=>SZ (d.1,()))
def AW:=M3 lf pa
def M4(L:Lf)(c0:Ad)(c1:oB)(x:KY):OZ dA:=L.b (c1 (x.1,())) λb=>L.b (c0 ((44,([]:Y1),0,0),⟨false,([b.1]:List (Sl Y0))⟩,())) λd=>SZ (d.1,())
def kN:=M4 lf pa AW
def M5(_L:Lf)(_x:Unit):OZ dA:=SZ (⟨false,([(42,([]:Y1),0,0)]:List Y0)⟩,())
def ic:=M5 lf
def M6(L:Lf)(c0:Ad)(c1:oB)(x:KY):OZ dA:=L.b (c1 (x.1,())) λb=>L.b (c0 ((43,([]:Y1),2,0),⟨false,([b.1]:List (Sl Y0))⟩,())) λd=>SZ (d.1,())
def pb:=M6 lf pa AW
def M7(L:Lf)(c0:nv)(c1:oB)(x:dA):OZ dA:=L.b (c0 ()) λb=>L.b (c1 (⟨false,([b.1,x.1]:List (Sl Y0))⟩,())) λd=>SZ (d.1,())
def jx:=M7 lf ic pb
def q7b(L:Lf)(c3:gI)(b:S8):OZ (S8⊕ch):=L.c (L.l b.d3 (L.n b.d2.l)) (L.b (L.g b.d2.l b.d3) λd=>L.b (c3 (b.1,d,())) λe=>L.b (L.g b.d2.l b.d3) λg=>L.b (L.g b.1.l g) λh=>L.b (L.y (L.e h.1 24) (L.b (L.g b.d2.l b.d3) λi=>L.b (L.g b.1.l i) λj=>SZ (L.l 0 j.2.2.2))) λk=>L.b (L.c k (L.w ([40]:Y1) e.1 (L.w (L.q ([40]:Y1) e.1) ([41]:Y1) (SZ (b.1,b.2.1,b.d2,b.d3,L.q (L.q ([40]:Y1) e.1) ([41]:Y1),())))) (SZ (b.1,b.2.1,b.d2,b.d3,e.1,()))) λm=>L.w ([32]:Y1) m.d4 (L.w m.2.1 (L.q ([32]:Y1) m.d4) (SZ (IZ (m.1,L.q m.2.1 (L.q ([32]:Y1) m.d4),m.d2,L.a .i64 m.d3 1,()))))) (SZ (JZ (b.2.1,())))
def TW(L:Lf)(c0:oP)(c1:sy)(c2:qC)(c3:gI)(x:jP):OZ ch:=L.b (L.g x.1.l x.2.1) λb=>L.c (L.e b.1 21) (SZ (([95]:Y1),())) (L.c (L.e b.1 22) (L.b (c0 (b.2.1,())) λd=>SZ (d.1,())) (L.c (L.e b.1 23) (L.b (c2 (b.d2,())) λe=>SZ (e.1,())) (L.b (c1 (x.1,x.2.1,())) λg=>L.o (q7b L c3) (x.1,b.2.1,g.1,0,()))))
def AX(self:gI)(x:jP):OZ ch:=TW lf jS dJ re self x
def AY:=eN AX
def qbb(L:Lf)(b:(Y3×Y1×Int×Y1×Int×Int×Unit)):OZ ((Y3×Y1×Int×Y1×Int×Int×Unit)⊕rN):=L.c (L.l b.d2 (L.n b.1.l)) (L.b (L.g b.1.l b.d2) λd=>L.c (L.h d.1 b.2.1) (L.b (L.g b.1.l b.d2) λe=>SZ (JZ ((e.1,e.2.1,e.2.2),true,()))) (SZ (IZ (b.s2 (L.a .i64 b.d2 1))))) (SZ (JZ ((([]:Y1),0,0),false,())))
def TX(L:Lf)(x:Y3×Y1×Unit):OZ rN:=L.o (qbb L) (x.1,x.2.1,0,([]:Y1),0,0,())
def Jd:=TX lf
def M8(L:Lf)(c0:(Y3×Y1×Unit)->OZ rN)(x:su):OZ rN:=L.b (L.g x.1.l x.2.1) λb=>L.b (L.y (L.e b.1 6) (L.b (L.g x.1.l (L.a .i64 x.2.1 1)) λd=>SZ (L.e d.1 6))) λe=>L.b (L.y e (L.b (L.g x.1.l (L.a .i64 x.2.1 2)) λg=>SZ (L.e g.1 3))) λh=>L.c h (L.b (L.g x.1.l (L.a .i64 x.2.1 2)) λi=>L.b (c0 (x.d2,i.2.1,())) λj=>SZ ((j.1.1,j.1.2.1,j.1.2.2),j.2.1,())) (SZ ((([]:Y1),0,0),false,()))
def pe:=M8 lf Jd
def M9(L:Lf)(c0:su->OZ rN)(x:su):OZ Y9:=L.b (L.g x.1.l x.2.1) λb=>L.c (L.e b.1 6) (L.b (c0 (x.1,x.2.1,x.d2,())) λd=>L.c d.2.1 (SZ (2,())) (SZ (1,()))) (L.b (L.c (L.e b.1 5) (SZ (L.e b.1 5,())) (L.b (L.c (L.e b.1 7) (SZ (L.e b.1 7,())) (L.b (L.c (L.e b.1 8) (SZ (L.e b.1 8,())) (L.b (L.c (L.e b.1 9) (SZ (L.e b.1 9,())) (L.b (L.c (L.e b.1 11) (SZ (L.e b.1 11,())) (SZ (L.e b.1 12,()))) λe=>SZ (e.1,()))) λg=>SZ (g.1,()))) λh=>SZ (h.1,()))) λi=>SZ (i.1,()))) λj=>L.c j.1 (SZ (3,())) (SZ (0,())))
def mM:=M9 lf pe
def qew(L:Lf)(c0:gH)(c1:qB)(c2:Ad)(x:(Sl Y0)×Int×Y3×Bool×Unit):OZ dA:=L.b (c0 (x.1,x.2.1,x.d2,())) λb=>L.c (L.t x.d3) (SZ (b.1,())) (L.b (c1 (([40]:Y1),())) λd=>L.b (c1 (([41]:Y1),())) λe=>L.b (c2 ((45,([]:Y1),0,0),⟨false,([d.1,b.1,e.1]:List (Sl Y0))⟩,())) λg=>SZ (g.1,()))
def EI(self:gH)(x:(Sl Y0)×Int×Y3×Bool×Unit):OZ dA:=qew lf self eO pa x
def qex(L:Lf)(c0:su->OZ rN)(c1:su->OZ Y9)(c2:((Sl Y0)×Int×Y3×Bool×Unit)->OZ dA)(x:(Sl Y0)×Int×Y3×Y6×Int×Unit):OZ dA:=L.b (c0 (x.1,x.2.1,x.d2,())) λb=>L.b (L.y b.2.1 (L.r (L.l b.1.2.1 x.d3.2.1) (L.y (L.e b.1.2.1 x.d3.2.1) (L.r (L.t (L.e b.1.2.2 x.d4)) (SZ (L.t (L.e x.d3.2.2 x.d4))))))) λd=>L.b (L.r d (L.b (c1 (x.1,x.2.1,x.d2,())) λe=>SZ (L.e e.1 3))) λg=>L.b (c2 (x.1,x.2.1,x.d2,g,())) λh=>SZ (h.1,())
def K8(self:gH)(x:(Sl Y0)×Int×Y3×Y6×Int×Unit):OZ dA:=qex lf pe mM (EI self) x
def qey(L:Lf)(c0:sy)(c1:nv)(c2:Mn)(c3:su->OZ Y9)(c4:((Sl Y0)×Int×Y3×Bool×Unit)->OZ dA)(x:su):OZ GK:=L.b (c3 (x.1,x.2.1,x.d2,())) λb=>L.c (L.t (L.e b.1 1)) (SZ (x.2.1,⟨true,([]:List (Sl Y0))⟩,())) (L.b (c0 (x.1,x.2.1,())) λd=>L.b (L.g d.1.l 0) λe=>L.b (c2 (x.1,e,x.d2,())) λg=>L.b (c1 ()) λh=>L.w g.2.1.l ([h.1]:List (Sl Y0)) (L.b (L.g d.1.l 1) λi=>L.b (L.g d.1.l 1) λj=>L.b (c3 (x.1,j,x.d2,())) λk=>L.b (c4 (x.1,i,x.d2,L.t (L.e k.1 0),())) λm=>L.w (L.app g.2.1.l ([h.1]:List (Sl Y0))) ([m.1]:List (Sl Y0)) (SZ (g.1,⟨L.d (L.d g.2.1.nil (L.i ([h.1]:List (Sl Y0)))) (L.i ([m.1]:List (Sl Y0))),L.app (L.app g.2.1.l ([h.1]:List (Sl Y0))) ([m.1]:List (Sl Y0))⟩,()))))
def Na(self:gH)(EJ:Mn)(x:su):OZ GK:=qey lf dJ ic EJ mM (EI self) x
def TY(self:gH):su->OZ GK:=eN (Na self)
def qde(L:Lf)(c2:gH)(c3:qB)(c6:oB)(c7:Aj)(c8:nv)(oC:gI)(b:((Sl Y0)×Y3×(Sl Int)×Int×eK×Unit)):OZ (((Sl Y0)×Y3×(Sl Int)×Int×eK×Unit)⊕dA):=L.c (L.l (L.a .i64 b.d3 1) (L.n b.d2.l)) (L.b (c8 ()) λd=>L.b (L.g b.d2.l b.d3) λe=>L.b (oC (b.1,e,())) λg=>L.w ([124,32]:Y1) g.1 (L.w (L.q ([124,32]:Y1) g.1) ([32,45,62]:Y1) (L.b (c3 (L.q (L.q ([124,32]:Y1) g.1) ([32,45,62]:Y1),())) λh=>L.b (L.g b.d2.l (L.a .i64 b.d3 1)) λi=>L.b (c2 (b.1,i,b.2.1,())) λj=>L.b (c7 (j.1,())) λk=>L.z b.d4 [d.1,h.1,k.1] λzz=>SZ (IZ ((b.s3 (L.a .i64 b.d3 2)).s4 zz))))) (L.b (c8 ()) λm=>L.b (c3 (([101,110,100]:Y1),())) λn=>L.z b.d4 [m.1,n.1] λzy=>L.b (c6 (zy,())) λo=>SZ (JZ (o.1,())))
def TZ(L:Lf)(c0:oP)(c1:sy)(c2:gH)(c3:qB)(c4:qC)(c5:oP)(c6:oB)(c7:Aj)(c8:nv)(c9:oB)(oC:gI)(HE:su->OZ rN)(c12:((Sl Y0)×Int×Y3×Y6×Int×Unit)->OZ dA)(c13:Mn)(c14:su->OZ Y9)(c15:((Sl Y0)×Int×Y3×Bool×Unit)->OZ dA)(x:su):OZ dA:=L.b (L.g x.1.l x.2.1) λb=>L.b (c1 (x.1,x.2.1,())) λd=>L.c (L.e b.1 1) (L.b (c4 (b.d2,())) λe=>L.b (c3 (e.1,())) λg=>SZ (g.1,())) (L.c (L.e b.1 2) (L.b (c5 (b.2.1,())) λh=>L.b (c3 (h.1,())) λi=>SZ (i.1,())) (L.c (L.e b.1 3) (L.b (c0 (b.2.1,())) λj=>L.b (c3 (j.1,())) λk=>SZ (k.1,())) (L.c (L.e b.1 4) (L.b (c3 (b.2.1,())) λm=>SZ (m.1,())) (L.c (L.e b.1 5) (L.b (c0 (b.2.1,())) λn=>L.w ([102,117,110,32]:Y1) n.1 (L.w (L.q ([102,117,110,32]:Y1) n.1) ([32,45,62]:Y1) (L.b (c3 (L.q (L.q ([102,117,110,32]:Y1) n.1) ([32,45,62]:Y1),())) λo=>L.b (L.g d.1.l 0) λp=>L.b (c2 (x.1,p,x.d2,())) λq=>L.b (c7 (q.1,())) λr=>L.b (c6 (⟨false,([o.1,r.1]:List (Sl Y0))⟩,())) λs=>SZ (s.1,())))) (L.b (L.c (L.e b.1 7) (SZ (x.1,x.2.1,x.d2,d.1,b.1,L.e b.1 7,b.1,b.2.1,b.d2,b.2.2.2,())) (SZ (x.1,x.2.1,x.d2,d.1,b.1,L.e b.1 8,b.1,b.2.1,b.d2,b.2.2.2,()))) λt=>L.c t.d5 (L.b (L.c (L.e t.d6 8) (SZ (t.1,t.d2,t.d3,([108,101,116,32,114,101,99,32]:Y1),t.d6,t.d7,t.d8,t.d9,())) (SZ (t.1,t.d2,t.d3,([108,101,116,32]:Y1),t.d6,t.d7,t.d8,t.d9,()))) λu=>L.b (c0 (u.d5,())) λv=>L.w u.d3 v.1 (L.w (L.q u.d3 v.1) ([32,61]:Y1) (L.b (c3 (L.q (L.q u.d3 v.1) ([32,61]:Y1),())) λw=>L.b (L.g u.d2.l 0) λy=>L.b (c2 (u.1,y,u.2.1,())) λz=>L.b (c7 (z.1,())) λbb=>L.b (c8 ()) λbd=>L.b (c3 (([105,110]:Y1),())) λbe=>L.b (c8 ()) λbg=>L.b (L.g u.d2.l 1) λbh=>L.b (c2 (u.1,bh,u.2.1,())) λbi=>L.b (c6 (⟨false,([w.1,bb.1,bd.1,be.1,bg.1,bi.1]:List (Sl Y0))⟩,())) λbj=>SZ (bj.1,())))) (L.c (L.e t.d4 9) (L.b (c3 (([105,102]:Y1),())) λbk=>L.b (L.g t.d3.l 0) λbm=>L.b (c2 (t.1,bm,t.d2,())) λbn=>L.b (c7 (bn.1,())) λbo=>L.b (c8 ()) λbp=>L.b (c3 (([116,104,101,110]:Y1),())) λbq=>L.b (L.g t.d3.l 1) λbr=>L.b (c2 (t.1,br,t.d2,())) λbs=>L.b (c7 (bs.1,())) λbt=>L.b (c8 ()) λbu=>L.b (c3 (([101,108,115,101]:Y1),())) λbv=>L.b (L.g t.d3.l 2) λbw=>L.b (c2 (t.1,bw,t.d2,())) λbz=>L.b (c7 (bz.1,())) λdb=>L.b (c6 (⟨false,([bk.1,bo.1,bp.1,bq.1,bt.1,bu.1,bv.1,db.1]:List (Sl Y0))⟩,())) λdd=>SZ (dd.1,())) (L.c (L.e t.d4 11) (L.b (c3 (([114,97,105,115,101]:Y1),())) λde=>L.b (L.g t.d3.l 0) λdg=>L.b (c2 (t.1,dg,t.d2,())) λdh=>L.b (c7 (dh.1,())) λdi=>L.b (c6 (⟨false,([de.1,di.1]:List (Sl Y0))⟩,())) λdj=>SZ (dj.1,())) (L.c (L.e t.d4 12) (L.b (c3 (([116,114,121]:Y1),())) λdk=>L.b (L.g t.d3.l 0) λdm=>L.b (c2 (t.1,dm,t.d2,())) λdn=>L.b (c7 (dn.1,())) λdp=>L.b (c8 ()) λdq=>L.b (c0 (t.d7,())) λdr=>L.w ([119,105,116,104,32]:Y1) dr.1 (L.w (L.q ([119,105,116,104,32]:Y1) dr.1) ([32,45,62]:Y1) (L.b (c3 (L.q (L.q ([119,105,116,104,32]:Y1) dr.1) ([32,45,62]:Y1),())) λds=>L.b (L.g t.d3.l 1) λdt=>L.b (c2 (t.1,dt,t.d2,())) λdu=>L.b (c7 (du.1,())) λdv=>L.b (c6 (⟨false,([dk.1,dp.1,dq.1,ds.1,dv.1]:List (Sl Y0))⟩,())) λdw=>SZ (dw.1,())))) (L.c (L.e t.d4 10) (L.b (c3 (([109,97,116,99,104]:Y1),())) λdy=>L.b (L.g t.d3.l 0) λdz=>L.b (c2 (t.1,dz,t.d2,())) λeb=>L.b (c7 (eb.1,())) λed=>L.b (c8 ()) λee=>L.b (c3 (([119,105,116,104]:Y1),())) λeg=>L.b (c8 ()) λeh=>L.b (L.g t.d3.l 1) λei=>L.b (oC (t.1,ei,())) λej=>L.w ej.1 ([32,45,62]:Y1) (L.b (c3 (L.q ej.1 ([32,45,62]:Y1),())) λek=>L.b (L.g t.d3.l 2) λem=>L.b (c2 (t.1,em,t.d2,())) λen=>L.b (c7 (en.1,())) λeo=>L.b (c9 (⟨false,([eh.1,ek.1,eo.1]:List (Sl Y0))⟩,())) λep=>L.w ([dy.1,ed.1,ee.1,eg.1]:List (Sl Y0)) ([ep.1]:List (Sl Y0)) (L.o (qde L c2 c3 c6 c7 c8 oC) (t.1,t.d2,t.d3,3,⟨L.d false (L.i ([ep.1]:List (Sl Y0))),L.app ([dy.1,ed.1,ee.1,eg.1]:List (Sl Y0)) ([ep.1]:List (Sl Y0))⟩,())))) (L.b (HE (t.1,t.2.1,t.d2,())) λeq=>L.c eq.2.1 (L.b (L.g t.d3.l 0) λer=>L.b (c1 (t.1,er,())) λes=>L.b (L.g es.1.l 1) λet=>L.b (c12 (t.1,et,t.d2,(eq.1.1,eq.1.2.1,eq.1.2.2),(-1),())) λeu=>L.b (c8 ()) λev=>L.w eq.1.1 ([32]:Y1) (L.b (c3 (L.q eq.1.1 ([32]:Y1),())) λew=>L.b (L.g t.d3.l 1) λey=>L.b (c12 (t.1,ey,t.d2,(eq.1.1,eq.1.2.1,eq.1.2.2),1,())) λez=>L.b (c9 (⟨false,([ev.1,ew.1,ez.1]:List (Sl Y0))⟩,())) λgb=>L.b (c6 (⟨false,([eu.1,gb.1]:List (Sl Y0))⟩,())) λgd=>SZ (gd.1,()))) (L.b (c13 (t.1,t.2.1,t.d2,())) λge=>L.b (c14 (t.1,ge.1,t.d2,())) λgg=>L.b (L.r (L.e gg.1 2) (SZ (L.e gg.1 3))) λgh=>L.b (c15 (t.1,ge.1,t.d2,gh,())) λgi=>L.b (c9 (ge.2.1,())) λgj=>L.b (c6 (⟨false,([gi.1,gj.1]:List (Sl Y0))⟩,())) λgk=>SZ (gk.1,()))))))))))))
def pf(self:gH)(x:su):OZ dA:=TZ lf jS dJ self eO re AV kN jx ic pb AY pe (K8 self) (TY self) mM (EI self) x
def EK:=eN pf
def qa6(L:Lf)(b:((Sl Y0)×Int×Int×Int×Y1×Int×Int×Unit)):OZ (((Sl Y0)×Int×Int×Int×Y1×Int×Int×Unit)⊕((jP⊕Y8))):=L.c (L.l b.d2 (L.n b.d4)) (L.b (L.g b.d4 b.d2) λd=>L.b (L.r (L.l d 32) (L.b (L.g b.d4 b.d2) λe=>SZ (L.l 126 e))) λg=>L.c g (SZ (JZ (JZ (false,())))) (SZ (IZ (b.s2 (L.a .i64 b.d2 1))))) (SZ (JZ (IZ (b.1,L.a .i64 b.2.1 1,()))))
def qa7(L:Lf)(k0:(((Sl Y0)×Int×Int×Int×Y1×Int×Int×Unit))->OZ (((Sl Y0)×Int×Int×Int×Y1×Int×Int×Unit)⊕((jP⊕Y8))))(b:jP):OZ (jP⊕Y8):=L.c (L.l b.2.1 (L.n b.1.l)) (L.b (L.g b.1.l b.2.1) λd=>L.b (L.r (L.l d.1 41) (SZ (L.l 45 d.1))) λe=>L.b (L.r e (L.y (L.t (L.e d.1 43)) (SZ (L.t (L.e d.d2 0))))) λg=>L.b (L.r g (SZ (L.l d.d2 0))) λh=>L.b (L.r h (SZ (L.l 40 d.d2))) λi=>L.b (L.r i (L.y (L.t (L.e d.1 41)) (SZ (L.t (L.h d.2.1 ([]:Y1)))))) λj=>L.c j (SZ (JZ (false,()))) (L.b (L.r (L.e d.1 41) (SZ (L.e d.1 42))) λk=>L.b (L.y k (SZ (L.t (L.e d.2.2.2 0)))) λm=>L.b (L.r m (L.c (L.e d.1 43) (L.y true (SZ (L.t (L.e d.2.2.2 1)))) (L.y (L.e d.1 44) (SZ (L.t (L.e d.2.2.2 1)))))) λn=>L.c n (SZ (JZ (false,()))) (L.o k0 (b.1,b.2.1,0,d.1,d.2.1,d.d2,d.2.2.2,())))) (SZ (JZ (true,())))
def Ua(L:Lf)(c0:nu)(x:dA):OZ Y8:=L.b (L.r (L.l 4000 (L.n x.1.l)) (L.b (c0 (x.1,())) λb=>SZ (L.t b.1))) λd=>L.c d (SZ (false,())) (L.o (qa7 L (qa6 L)) (x.1,0,()))
def Je:=Ua lf q8
def qbc(L:Lf)(c1:gI)(b:S8):OZ (S8⊕ch):=L.c (L.l b.d3 (L.n b.d2.l)) (L.b (L.g b.d2.l b.d3) λd=>L.b (c1 (b.1,d,())) λe=>L.w b.2.1 e.1 (SZ (IZ (b.1,L.q b.2.1 e.1,b.d2,L.a .i64 b.d3 1,())))) (SZ (JZ (b.2.1,())))
def Ub(L:Lf)(c0:sy)(c1:gI)(x:jP):OZ ch:=L.b (L.g x.1.l x.2.1) λb=>L.c (L.e b.1 41) (SZ (b.2.1,())) (L.c (L.e b.1 42) (SZ (([32]:Y1),())) (L.b (c0 (x.1,x.2.1,())) λd=>L.o (qbc L c1) (x.1,([]:Y1),d.1,0,())))
def A0(self:gI)(x:jP):OZ ch:=Ub lf dJ self x
def A1:=eN A0
def qmq(L:Lf)(b:(Y1×Int×Int×Unit)):OZ ((Y1×Int×Int×Unit)⊕Y9):=L.c (L.l b.d2 (L.n b.1)) (L.b (L.g b.1 b.d2) λd=>L.b (L.c (L.e d 10) (SZ (b.s1 0)) (SZ (b.s1 (L.a .i64 b.2.1 1)))) λe=>SZ (IZ (e.s2 (L.a .i64 e.d2 1)))) (SZ (JZ (b.2.1,())))
def Uc(L:Lf)(x:eT):OZ Y9:=L.o (qmq L) (x.1,x.2.1,0,())
def Nb:=Uc lf
def qsv(L:Lf)(c2:GP)(c3:eT->OZ Y9)(b:((Sl Y0)×Int×Int×Int×Y1×(Sl Int)×Int×Unit)):OZ (((Sl Y0)×Int×Int×Int×Y1×(Sl Int)×Int×Unit)⊕ch):=L.c (L.l b.d6 (L.n b.d5.l)) (L.b (L.g b.d5.l b.d6) λd=>L.b (c3 (b.d4,b.2.1,())) λe=>L.b (c2 (b.1,d,e.1,b.d2,b.d3,())) λg=>L.w b.d4 g.1 (SZ (IZ ((b.s4 (L.q b.d4 g.1)).s6 (L.a .i64 b.d6 1))))) (SZ (JZ (b.d4,())))
def qsw(L:Lf)(b:y9):OZ (y9⊕ch):=L.c (L.l b.d2 b.1) (L.w b.2.1 ([32]:Y1) (SZ (IZ (b.1,L.q b.2.1 ([32]:Y1),L.a .i64 b.d2 1,())))) (SZ (JZ (b.2.1,())))
def Ud(L:Lf)(c0:sy)(c1:gI)(c2:GP)(c3:eT->OZ Y9)(x:Y73):OZ ch:=L.b (L.g x.1.l x.2.1) λb=>L.c (L.e b.1 41) (SZ (b.2.1,())) (L.c (L.e b.1 42) (L.o (qsw L) (x.d3,([10]:Y1),0,())) (L.b (L.c (L.e b.1 43) (SZ (IZ (x.1,x.2.1,x.d2,L.a .i64 x.d3 b.d2,x.d4,()))) (L.b (L.c (L.e b.1 44) (L.b (c1 (x.1,x.2.1,())) λd=>L.c (L.m (L.a .i64 x.d2 (L.n d.1)) x.d4) (SZ (JZ (JZ (d.1,())))) (SZ (IZ (x.1,x.2.1,x.d2,x.d3,x.d4,())))) (SZ (IZ (x.1,x.2.1,x.d2,x.d3,x.d4,())))) (L.cH λe=>SZ (IZ e)))) (L.cH λg=>L.b (c0 (g.1,g.2.1,())) λh=>L.o (qsv L c2 c3) (g.1,g.d2,g.d3,g.d4,([]:Y1),h.1,0,()))))
def Ue(self:GP)(x:Y73):OZ ch:=Ud lf dJ A1 self Nb x
def Uf:=eN Ue
def Ug(L:Lf)(c0:GP)(x:jP):OZ ch:=L.b (c0 (x.1,0,0,0,x.2.1,())) λb=>SZ (b.1,())
def Uh:=Ug lf Uf
def Nc(L:Lf)(c0:((Sl Y0)×Y3×Unit)->OZ Y9)(c1:gH)(c2:nu)(c3:gI)(c4:gI)(x:(Sl Y0)×Y3×Int×Unit):OZ eT:=L.b (c0 (x.1,x.2.1,())) λb=>L.c (L.t (L.e b.1 0)) (SZ (([]:Y1),b.1,())) (L.b (c1 (x.1,0,x.2.1,())) λd=>L.b (c2 (d.1,())) λe=>L.c (L.t e.1) (SZ (([]:Y1),50,())) (L.c (L.e x.d2 0) (L.b (c3 (d.1,0,())) λg=>SZ (g.1,0,())) (L.b (c4 (d.1,x.d2,())) λh=>SZ (h.1,0,()))))
def tB:=Nc lf AU EK Je A1 Uh
def qbd(L:Lf)(c3:((Sl Y0)×Y3×Int×Unit)->OZ eT)(c4:oP)(b:fO):OZ (fO⊕((fO⊕(fO⊕(fO⊕eT))))):=L.c (L.l b.d3 (L.n b.d8.l)) (L.b (L.g b.d8.l b.d3) λd=>L.b (c3 (d.2.2,b.1,0,())) λe=>L.c (L.t (L.e e.2.1 0)) (SZ (JZ (JZ (JZ (JZ (([]:Y1),e.2.1,())))))) (L.b (L.c d.2.1 (SZ (b.1,b.2.1,b.d2,b.d3,e.1,([108,101,116,32,114,101,99,32]:Y1),b.d4,b.d5,b.d6,b.d7,b.d8,d.1,d.2.1,d.2.2,())) (SZ (b.1,b.2.1,b.d2,b.d3,e.1,([108,101,116,32]:Y1),b.d4,b.d5,b.d6,b.d7,b.d8,d.1,d.2.1,d.2.2,()))) λg=>L.b (c4 (g.d11,())) λh=>L.w g.d5 h.1 (L.w (L.q g.d5 h.1) ([32,61,32]:Y1) (L.w (L.q (L.q g.d5 h.1) ([32,61,32]:Y1)) g.d4 (L.w (L.q (L.q (L.q g.d5 h.1) ([32,61,32]:Y1)) g.d4) g.2.1 (L.w g.d2 (L.q (L.q (L.q (L.q g.d5 h.1) ([32,61,32]:Y1)) g.d4) g.2.1) (SZ (IZ (g.1,g.2.1,L.q g.d2 (L.q (L.q (L.q (L.q g.d5 h.1) ([32,61,32]:Y1)) g.d4) g.2.1),L.a .i64 g.d3 1,g.d6,g.d7,g.d8,g.d9,g.d10,()))))))))) (L.c (L.l 262144 (L.n b.d2)) (SZ (JZ (JZ (JZ (JZ (([]:Y1),240,())))))) (SZ (JZ (JZ (JZ (JZ (b.d2,0,())))))))
def qbe(L:Lf)(c2:qF)(b:GJ):OZ (GJ⊕((Rc⊕(KT⊕(fO⊕(fO⊕(fO⊕eT))))))):=L.b (L.g b.d14.l b.d5) λd=>L.c (L.l b.d6 (L.n d.2.l)) (L.b (L.c (L.e b.d6 0) (L.w b.d2 ([32,111,102]:Y1) (SZ (b.s2 (L.q b.d2 ([32,111,102]:Y1))))) (SZ b)) λe=>L.b (L.g e.d14.l e.d5) λg=>L.b (L.g g.2.l e.d6) λh=>L.b (c2 (h,0,0,())) λi=>L.w ([32]:Y1) i.1 (L.w e.d2 (L.q ([32]:Y1) i.1) (SZ (IZ ((e.s2 (L.q e.d2 (L.q ([32]:Y1) i.1))).s6 (L.a .i64 e.d6 1)))))) (SZ (JZ (IZ (b.1,b.2.1,b.d2,b.d3,b.d4,L.a .i64 b.d5 1,b.d7,b.d8,b.d9,b.d10,b.d11,b.d12,b.d13,b.d14,()))))
def qbf(L:Lf)(k0:(GJ)->OZ (GJ⊕((Rc⊕(KT⊕(fO⊕(fO⊕(fO⊕eT))))))))(b:Rc):OZ (Rc⊕((KT⊕(fO⊕(fO⊕(fO⊕eT)))))):=L.c (L.l b.d5 (L.n b.d13.l)) (L.b (L.g b.d13.l b.d5) λd=>L.w b.d4 d.1 (L.w b.d2 (L.q b.d4 d.1) (L.o k0 (b.1,b.2.1,L.q b.d2 (L.q b.d4 d.1),b.d3,([32,124,32]:Y1),b.d5,0,b.d6,b.d7,b.d8,b.d9,b.d10,b.d11,b.d12,b.d13,())))) (L.w b.d2 b.2.1 (SZ (JZ (JZ (IZ (b.1,b.2.1,L.q b.d2 b.2.1,L.a .i64 b.d3 1,b.d6,b.d7,b.d8,b.d9,b.d10,()))))))
def qbg(L:Lf)(c1:qC)(k0:(Rc)->OZ (Rc⊕((KT⊕(fO⊕(fO⊕(fO⊕eT)))))))(b:KT):OZ (KT⊕((fO⊕(fO⊕(fO⊕eT))))):=L.c (L.l b.d4 b.d11) (L.b (c1 (b.d4,())) λd=>L.w ([32]:Y1) d.1 (L.w b.d2 (L.q ([32]:Y1) d.1) (SZ (IZ ((b.s2 (L.q b.d2 (L.q ([32]:Y1) d.1))).s4 (L.a .i64 b.d4 1)))))) (L.o k0 (b.1,b.2.1,b.d2,b.d3,([32,61,32]:Y1),0,b.d5,b.d6,b.d7,b.d8,b.d9,b.d10,b.d11,b.d12,()))
def qbh(L:Lf)(k0:(KT)->OZ (KT⊕((fO⊕(fO⊕(fO⊕eT))))))(k1:(fO)->OZ (fO⊕((fO⊕(fO⊕(fO⊕eT))))))(b:fO):OZ (fO⊕((fO⊕(fO⊕eT)))):=L.c (L.l b.d3 (L.n b.d7.l)) (L.b (L.g b.d7.l b.d3) λd=>L.w ([116,121,112,101,32]:Y1) d.1 (L.w b.d2 (L.q ([116,121,112,101,32]:Y1) d.1) (L.o k0 (b.1,b.2.1,L.q b.d2 (L.q ([116,121,112,101,32]:Y1) d.1),b.d3,0,b.d4,b.d5,b.d6,b.d7,b.d8,d.1,d.2.1,d.2.2,())))) (L.o k1 (b.s3 0))
def qbi(L:Lf)(c0:(Y3×Y6×Unit)->OZ xL)(k0:(fO)->OZ (fO⊕((fO⊕(fO⊕eT)))))(b:fO):OZ (fO⊕((fO⊕eT))):=L.c (L.l b.d3 (L.n b.d6.l)) (L.b (L.g b.d6.l b.d3) λd=>L.b (L.c (L.l d.2.2 0) (SZ (b.1,b.2.1,b.d2,b.d3,([105,110,102,105,120,108]:Y1),b.d4,b.d5,b.d6,b.d7,b.d8,d.1,d.2.1,d.2.2,())) (SZ (b.1,b.2.1,b.d2,b.d3,([105,110,102,105,120]:Y1),b.d4,b.d5,b.d6,b.d7,b.d8,d.1,d.2.1,d.2.2,()))) λe=>L.b (L.c (L.l 0 e.d12) (SZ (e.s4 ([105,110,102,105,120,114]:Y1))) (SZ e)) λg=>L.w g.d4 ([32]:Y1) (L.w (L.q g.d4 ([32]:Y1)) ([L.dV .u8 (L.a .i64 48 g.d11)]:Y1) (L.w (L.q (L.q g.d4 ([32]:Y1)) ([L.dV .u8 (L.a .i64 48 g.d11)]:Y1)) ([32]:Y1) (L.w (L.q (L.q (L.q g.d4 ([32]:Y1)) ([L.dV .u8 (L.a .i64 48 g.d11)]:Y1)) ([32]:Y1)) g.d10 (L.w (L.q (L.q (L.q (L.q g.d4 ([32]:Y1)) ([L.dV .u8 (L.a .i64 48 g.d11)]:Y1)) ([32]:Y1)) g.d10) g.2.1 (L.w g.d2 (L.q (L.q (L.q (L.q (L.q g.d4 ([32]:Y1)) ([L.dV .u8 (L.a .i64 48 g.d11)]:Y1)) ([32]:Y1)) g.d10) g.2.1) (L.b (c0 (g.1,(g.d10,g.d11,g.d12),())) λh=>SZ (IZ (h.1,g.2.1,L.q g.d2 (L.q (L.q (L.q (L.q (L.q g.d4 ([32]:Y1)) ([L.dV .u8 (L.a .i64 48 g.d11)]:Y1)) ([32]:Y1)) g.d10) g.2.1),L.a .i64 g.d3 1,g.d5,g.d6,g.d7,g.d8,g.d9,()))))))))) (L.o k0 (b.s3 0))
def qbj(L:Lf)(k0:(fO)->OZ (fO⊕((fO⊕eT))))(b:fO):OZ (fO⊕eT):=L.c (L.l b.d3 (L.n b.d5.l)) (L.b (L.g b.d5.l b.d3) λd=>L.w ([111,112,101,110,32]:Y1) d (L.w (L.q ([111,112,101,110,32]:Y1) d) b.2.1 (L.w b.d2 (L.q (L.q ([111,112,101,110,32]:Y1) d) b.2.1) (SZ (IZ ((b.s2 (L.q b.d2 (L.q (L.q ([111,112,101,110,32]:Y1) d) b.2.1))).s3 (L.a .i64 b.d3 1))))))) (L.o k0 (b.s3 0))
def Ui(L:Lf)(c0:(Y3×Y6×Unit)->OZ xL)(c1:qC)(c2:qF)(c3:((Sl Y0)×Y3×Int×Unit)->OZ eT)(c4:oP)(x:sq×Y3×Unit):OZ eT:=L.w ([59,59]:Y1) ([10]:Y1) (L.o (qbj L (qbi L c0 (qbh L (qbg L c1 (qbf L (qbe L c2))) (qbd L c3 c4)))) (x.2.1,L.q ([59,59]:Y1) ([10]:Y1),([]:Y1),0,x.1.1,x.1.2.1,x.1.d2,x.1.d3,x.1.2.2.2.2,()))
def EL:=Ui lf AS q9 AT tB jS
def q82(L:Lf)(c0:Unit->OZ Y8)(c1:(sq×Unit)->OZ Y8)(c2:Ta)(c3:(sq×Y3×Unit)->OZ eT)(c4:Ae)(c5:(sq×Unit)->OZ Y9)(c6:(sq×Unit)->OZ Y9)(c7:Ac)(c8:(sq×Y3×Unit)->OZ eT)(x:sq×Y3×Unit):OZ Y8:=L.b (c0 ()) λb=>L.b (L.r (L.t b.1) (L.b (c1 ((x.1.1,x.1.2.1,x.1.d2,x.1.d3,x.1.2.2.2.2),())) λd=>SZ (L.t d.1))) λe=>L.b (L.r e (L.b (c2 (x.2.1,())) λg=>SZ (L.t g.1))) λh=>L.c h (L.b (c0 ()) λi=>SZ (i.1,())) (L.b (c4 (x.2.1,())) λj=>L.b (c3 ((x.1.1,x.1.2.1,x.1.d2,x.1.d3,x.1.2.2.2.2),j.1,())) λk=>L.b (c5 ((x.1.1,x.1.2.1,x.1.d2,x.1.d3,x.1.2.2.2.2),())) λm=>L.b (c6 ((x.1.1,x.1.2.1,x.1.d2,x.1.d3,x.1.2.2.2.2),())) λn=>L.c (L.t (L.e n.1 m.1)) (SZ (false,())) (L.b (L.c (L.e m.1 0) (L.b (c7 (x.2.1,())) λo=>SZ (x.2.1,k.1,k.2.1,o.1,x.1.1,x.1.2.1,x.1.d2,x.1.d3,x.1.2.2.2.2,())) (SZ (x.2.1,k.1,k.2.1,m.1,x.1.1,x.1.2.1,x.1.d2,x.1.d3,x.1.2.2.2.2,()))) λp=>L.c (L.t (L.e p.d3 0)) (L.b (L.y (L.h p.2.1 ([]:Y1)) (SZ (L.e p.d2 p.d3))) λq=>SZ (q,())) (L.b (c8 ((p.d4,p.d5,p.d6,p.d7,p.d8),p.1,())) λr=>L.b (L.y (L.h p.2.1 r.1) (SZ (L.e p.d2 r.2.1))) λs=>SZ (s,()))))
def cA:=q82 lf Rj Et Tt w7 Tu EG oZ qZ EL
end
end Fn
end Ev