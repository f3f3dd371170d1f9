/- The example of the chapter, reckoned by the kernel: loops and calls that end soon. No statement of its own about the program. -/
import Derived.Test.YtakmoaimmdheeaaGreatDoorFnA
import Derived.KernelRfl
namespace Ev
open Go
namespace Fn
def lq{α:Type}(a b:Option α):Prop:=∀v,a=some v->b=some v
theorem oz{α:Type}(a:Option α):lq a a:=fun _ h=>h
def DI{α β:Type}(f g:α->Option β):Prop:=∀x,lq (f x) (g x)
theorem Cd{α β:Type}{f:α->Option β}:DI f f:=fun _=>oz _
@[reducible] noncomputable def aY(n:Nat):Lf:={lf with o:=fun f s=>mr f n s}
theorem TR{σ ρ:Type}{f g:σ->Option (σ⊕ρ)}(h:∀s,lq (f s) (g s)):∀(n:Nat) (s:σ) (r:ρ),mr f n s=some r->mr g n s=some r
 |0,_,_,e=>by cases e
 |n+1,s,r,e=>by
  unfold mr at e ⊢;cases hf:f s with
  |none=>rw[hf] at e;cases e
  |some v=>rw[hf] at e;rw[h s v hf];cases v with
   |inl s'=>exact TR h n s' r e
   |inr r'=>exact e
theorem mB{n:Nat}{α β:Type}{x y:Option α}{f g:α->Option β}(h:lq x y)(h2:∀a,lq (f a) (g a)):lq ((aY n).b x f) (lf.b y g):=by
 intro v e;show aj y g=some v;have e:aj x f=some v:=e;cases hx:x with
 |none=>rw[hx] at e;cases e
 |some a=>rw[hx] at e;rw[h a hx];exact h2 a v e
theorem mC{n:Nat}{α:Type}{c c':Bool}{x y x' y':Option α}(hc:c=c')(h:lq x x')(h2:lq y y'):lq ((aY n).c c x y) (lf.c c' x' y'):=by
 subst hc;cases c with
 |true=>exact h
 |false=>exact h2
theorem mS{n:Nat}{α β:Type}{f g:α->Option β}(h:∀a,lq (f a) (g a))(y:α⊕β):lq ((aY n).bR f y) (lf.bR g y):=by
 cases y with
 |inl a=>exact h a
 |inr b=>exact oz _
theorem mL{n:Nat}{σ ρ:Type}{f g:σ->Option (σ⊕ρ)}(h:∀s,lq (f s) (g s)){s s':σ}(hs:s=s'):lq ((aY n).o f s) (lf.o g s'):=by subst hs;exact fun r e=>JP n (TR h n s r e)
theorem Fg{α β:Type}{F G:(α->Option β)->α->Option β}(h1:∀g g':α->Option β,DI g g'->DI (F g) (G g'))(n:Nat):DI (cL F n) (iM G):=by
 have aux:∀(n m:Nat),n<=m->∀x,lq (cL F n x) (cL G m x):=by
  intro n
  induction n with
  |zero=>intro m _ x v e;cases e
  |succ n ih=>
   intro m hm x;cases m with
   |zero=>omega
   |succ m=>exact h1 _ _ (fun x=>ih m om x) x
 intro x v e;exact Dv n (fun m hm=>aux n m hm x v e)
class LQ {α:Type} (a b:Option α):Prop where
 h:lq a b
class LF {α β:Type} (f g:α->Option β):Prop where
 h:DI f g
instance (priority:=1) iR {α:Type} (a:Option α):LQ a a:=⟨oz a⟩
instance iA {α β:Type} {f g:α->Option β} [LF f g] (a:α):LQ (f a) (g a):=⟨LF.h a⟩
instance iB {n:Nat} {α β:Type} {x y:Option α} {f g:α->Option β} [LQ x y] [∀a,LQ (f a) (g a)]:LQ ((aY n).b x f) (lf.b y g):=⟨mB LQ.h fun _=>LQ.h⟩
instance iC {n:Nat} {α:Type} {c:Bool} {x y x' y':Option α} [LQ x x'] [LQ y y']:LQ ((aY n).c c x y) (lf.c c x' y'):=⟨mC rfl LQ.h LQ.h⟩
instance iS {n:Nat} {α β:Type} {f g:α->Option β} [∀a,LQ (f a) (g a)] (y:α⊕β):LQ ((aY n).bR f y) (lf.bR g y):=⟨mS (fun _=>LQ.h) y⟩
instance iL {n:Nat} {σ ρ:Type} {f g:σ->Option (σ⊕ρ)} [∀s,LQ (f s) (g s)] (s:σ):LQ ((aY n).o f s) (lf.o g s):=⟨mL (fun _=>LQ.h) rfl⟩
noncomputable section
set_option synthInstance.maxHeartbeats 0
set_option synthInstance.maxSize 100000
set_option maxRecDepth 100000
def TS(x:(Sl (List Int))×Unit):Option ((Sl (List Int))×Unit):=bif Nat.ble x.1.l.length 1&&x.1.l.all ua then some (x.1,()) else none
theorem qyo(_n:Nat):DI TS rO:=by
 intro x v h;obtain⟨⟨b,l⟩,u⟩:=x;unfold TS at h;cases hc:(Nat.ble l.length 1&&l.all ua) with
 |false=>rw[hc] at h;cases h
 |true=>
  rw[hc] at h;injection h with h;subst h;simp only[ze] at hc;have hl:l.length<=1:=zB hc.1;have hm:(l.mergeSort fun a b=>!strLt b a)=l:=by
   match l,hl with
   |[],_=>exact List.mergeSort_nil ..
   |[a],_=>exact List.mergeSort_singleton ..
  have hd:decide (l.length<4611686018427387904)=true:=zu om;show(bif l.all ua&&decide (l.length<4611686018427387904) then _ else none)=_;rw[hc.2,hd,hm];rfl
def sB(n:Nat):=Bo (aY n)
instance aag (n:Nat):LF (sB n) jL:=⟨fun x=>by unfold sB jL Bo;exact LQ.h⟩
def yr(n:Nat):=wC (aY n) (sB n)
instance aah (n:Nat):LF (yr n) kV:=⟨fun x=>by unfold yr kV wC;exact LQ.h⟩
def Fh(n:Nat):=Bp (aY n) (yr n)
instance aai (n:Nat):LF (Fh n) rD:=⟨fun x=>by unfold Fh rD Bp;exact LQ.h⟩
def Ce(n:Nat):=wD (aY n)
instance aaj (n:Nat):LF (Ce n) od:=⟨fun x=>by unfold Ce od wD;exact LQ.h⟩
def yu(n:Nat):=wE (aY n)
instance aak (n:Nat):LF (yu n) lM:=⟨fun x=>by unfold yu lM wE;exact LQ.h⟩
def Fi(n:Nat):=Bq (aY n)
instance aal (n:Nat):LF (Fi n) Br:=⟨fun x=>by unfold Fi Br Bq;exact LQ.h⟩
def Fj(n:Nat):=wF (aY n) (Fi n)
instance aam (n:Nat):LF (Fj n) fC:=⟨fun x=>by unfold Fj fC wF;exact LQ.h⟩
def Fk(n:Nat):=Bs (aY n)
instance aan (n:Nat):LF (Fk n) wG:=⟨fun x=>by unfold Fk wG Bs;exact LQ.h⟩
def Cf(n:Nat):=wH (aY n) (Fk n)
instance aao (n:Nat):LF (Cf n) pJ:=⟨fun x=>by unfold Cf pJ wH;exact LQ.h⟩
def Fl(n:Nat):=Bu (aY n)
instance aap (n:Nat):LF (Fl n) Bv:=⟨fun x=>by unfold Fl Bv Bu;exact LQ.h⟩
def Fm(n:Nat):=Bw (aY n) (Fl n)
instance TT (n:Nat):LF (Fm n) wI:=⟨fun x=>by unfold Fm wI Bw;exact LQ.h⟩
def uE(n:Nat):=wJ (aY n) (Cf n) (Fm n)
instance aaq (n:Nat):LF (uE n) mD:=⟨fun x=>by unfold uE mD wJ;exact LQ.h⟩
def yv(n:Nat):=wK (aY n)
instance aar (n:Nat):LF (yv n) oe:=⟨fun x=>by unfold yv oe wK;exact LQ.h⟩
def yw(n:Nat):=wL (aY n)
instance aas (n:Nat):LF (yw n) oh:=⟨fun x=>by unfold yw oh wL;exact LQ.h⟩
def yx(n:Nat):=wM (aY n)
instance aat (n:Nat):LF (yx n) mE:=⟨fun x=>by unfold yx mE wM;exact LQ.h⟩
def Cg(n:Nat):=wN (aY n) (yv n) (yw n) (yx n)
instance aau (n:Nat):LF (Cg n) mF:=⟨fun x=>by unfold Cg mF wN;exact LQ.h⟩
def Ch(n:Nat):=Bx (aY n) (Cg n)
instance aav (n:Nat):LF (Ch n) rE:=⟨fun x=>by unfold Ch rE Bx;exact LQ.h⟩
def Fo(n:Nat):=wO (aY n) (uE n) (yv n) (Ch n)
instance aaw (n:Nat):LF (Fo n) rF:=⟨fun x=>by unfold Fo rF wO;exact LQ.h⟩
def Fp(n:Nat):=wP (aY n) (uE n) (yw n) (Ch n)
instance aax (n:Nat):LF (Fp n) rG:=⟨fun x=>by unfold Fp rG wP;exact LQ.h⟩
def Fq(_n:Nat):=mG
instance aay (n:Nat):LF (Fq n) mG:=⟨Cd⟩
def yz(n:Nat):=wQ (aY n) (Fq n)
instance aaz (n:Nat):LF (yz n) lN:=⟨fun x=>by unfold yz lN wQ;exact LQ.h⟩
def Fs(n:Nat):=By (aY n) (yz n)
instance aaA (n:Nat):LF (Fs n) ue:=⟨fun x=>by unfold Fs ue By;exact LQ.h⟩
def uF(n:Nat):=wR (aY n) (yu n) (uE n) (Fo n) (Fp n) (Fs n)
instance aaB (n:Nat):LF (uF n) kW:=⟨fun x=>by unfold uF kW wR;exact LQ.h⟩
def Ft(n:Nat):=wT (aY n) (uF n)
instance aaC (n:Nat):LF (Ft n) rH:=⟨fun x=>by unfold Ft rH wT;exact LQ.h⟩
def Fu(n:Nat):=wU (aY n) (uF n)
instance aaD (n:Nat):LF (Fu n) rI:=⟨fun x=>by unfold Fu rI wU;exact LQ.h⟩
def Fv(n:Nat):=wV (aY n)
instance aaE (n:Nat):LF (Fv n) rJ:=⟨fun x=>by unfold Fv rJ wV;exact LQ.h⟩
def Fw(n:Nat):=Bz (aY n)
instance aaF (n:Nat):LF (Fw n) uf:=⟨fun x=>by unfold Fw uf Bz;exact LQ.h⟩
def Fy(n:Nat):=wW (aY n)
instance aaG (n:Nat):LF (Fy n) rK:=⟨fun x=>by unfold Fy rK wW;exact LQ.h⟩
def Fz(n:Nat):=wX (aY n) (Ce n) (yu n) (Fj n) (Ft n) (Fu n) (Fv n) (Fw n) (Fy n)
instance aaH (n:Nat):LF (Fz n) rL:=⟨fun x=>by unfold Fz rL wX;exact LQ.h⟩
def FA(n:Nat):=wY (aY n) (Fz n)
instance aaI (n:Nat):LF (FA n) pK:=⟨fun x=>by unfold FA pK wY;exact LQ.h⟩
def DJ(n:Nat)(self:wA):=BA (aY n) self (FA n)
def Kw(n:Nat):=cL (DJ n) n
instance aaJ (n:Nat):LF (Kw n) wZ:=⟨Fg (fun _ _ hg x=>by have:=LF.mk hg;unfold DJ lO BA;exact LQ.h) n⟩
def FB(n:Nat):=w6 (aY n) (sB n)
instance aaK (n:Nat):LF (FB n) rM:=⟨fun x=>by unfold FB rM w6;exact LQ.h⟩
def Ci(n:Nat):=BB (aY n)
instance aaL (n:Nat):LF (Ci n) rN:=⟨fun x=>by unfold Ci rN BB;exact LQ.h⟩
def Kx(_n:Nat):=TS
instance aaM (n:Nat):LF (Kx n) rO:=⟨qyo n⟩
def FC(n:Nat):=BC (aY n)
instance aaN (n:Nat):LF (FC n) rP:=⟨fun x=>by unfold FC rP BC;exact LQ.h⟩
def FD(n:Nat):=w7 (aY n) (Ci n)
instance aaO (n:Nat):LF (FD n) rQ:=⟨fun x=>by unfold FD rQ w7;exact LQ.h⟩
def FE(n:Nat):=w8 (aY n) (FB n) (Ci n) (Kx n) (FC n) (FD n)
instance aaP (n:Nat):LF (FE n) pL:=⟨fun x=>by unfold FE pL w8;exact LQ.h⟩
def Cj(n:Nat):=BD (aY n) (yr n) (sB n) (Fh n) (Kw n) (FE n) (Ce n)
instance aaQ (n:Nat):LF (Cj n) pM:=⟨fun x=>by unfold Cj pM BD;exact LQ.h⟩
def Ck(n:Nat):=w9 (aY n) (Cj n)
instance aaR (n:Nat):LF (Ck n) ga:=⟨fun x=>by unfold Ck ga w9;exact LQ.h⟩
def FF(n:Nat):=xa (aY n) (uF n)
instance aaS (n:Nat):LF (FF n) oi:=⟨fun x=>by unfold FF oi xa;exact LQ.h⟩
def FG(n:Nat):=xb (aY n) (FF n)
instance aaT (n:Nat):LF (FG n) pP:=⟨fun x=>by unfold FG pP xb;exact LQ.h⟩
def FH(n:Nat):=BE (aY n) (FG n)
instance aaU (n:Nat):LF (FH n) xc:=⟨fun x=>by unfold FH xc BE;exact LQ.h⟩
def FI(n:Nat):=xd (aY n) (FH n)
instance aaV (n:Nat):LF (FI n) rR:=⟨fun x=>by unfold FI rR xd;exact LQ.h⟩
def FJ(n:Nat):=xe (aY n)
instance aaW (n:Nat):LF (FJ n) pQ:=⟨fun x=>by unfold FJ pQ xe;exact LQ.h⟩
def FK(n:Nat):=BF (aY n) (FJ n)
instance aaX (n:Nat):LF (FK n) xf:=⟨fun x=>by unfold FK xf BF;exact LQ.h⟩
def uG(n:Nat):=xg (aY n) (FK n)
instance aaY (n:Nat):LF (uG n) kX:=⟨fun x=>by unfold uG kX xg;exact LQ.h⟩
def uH(n:Nat):=BG (aY n) (FI n) (uG n)
instance aaZ (n:Nat):LF (uH n) mH:=⟨fun x=>by unfold uH mH BG;exact LQ.h⟩
def sC(n:Nat):=BH (aY n) (sB n)
instance aa0 (n:Nat):LF (sC n) gA:=⟨fun x=>by unfold sC gA BH;exact LQ.h⟩
def mO(n:Nat):=BI (aY n)
instance aa1 (n:Nat):LF (mO n) iN:=⟨fun x=>by unfold mO iN BI;exact LQ.h⟩
def FL(n:Nat):=xh (aY n) (mO n)
instance aa2 (n:Nat):LF (FL n) ug:=⟨fun x=>by unfold FL ug xh;exact LQ.h⟩
def uI(n:Nat):=xi (aY n) (FL n)
instance aa3 (n:Nat):LF (uI n) gb:=⟨fun x=>by unfold uI gb xi;exact LQ.h⟩
def Ky(_n:Nat):=uh
instance aa4 (n:Nat):LF (Ky n) uh:=⟨Cd⟩
def Kz(_n:Nat):=ui
instance aa5 (n:Nat):LF (Kz n) ui:=⟨Cd⟩
def yA(n:Nat):=xj (aY n) (Ky n) (Kz n) (yu n)
instance aa6 (n:Nat):LF (yA n) iv:=⟨fun x=>by unfold yA iv xj;exact LQ.h⟩
def KA(_n:Nat):=rS
instance aa7 (n:Nat):LF (KA n) rS:=⟨Cd⟩
def FM(_n:Nat):=oo
instance aa8 (n:Nat):LF (FM n) oo:=⟨Cd⟩
def KB(n:Nat):=rT (aY n) (FM n)
theorem q6x(n:Nat)(c c':tf->Option tf)[LF c c']:DI (rT (aY n) c) (rT lf c'):=fun x=>by unfold rT;exact LQ.h
instance aa9 (n:Nat):LF (KB n) pR:=⟨q6x n _ _⟩
def FN(n:Nat):=xk (aY n) (FM n)
instance aba (n:Nat):LF (FN n) mI:=⟨fun x=>by unfold FN mI xk;exact LQ.h⟩
def FP(n:Nat):=BJ (aY n) (KA n) (KB n) (FN n)
instance abb (n:Nat):LF (FP n) rU:=⟨fun x=>by unfold FP rU BJ;exact LQ.h⟩
def Cl(n:Nat):=xm (aY n) (uF n)
instance abc (n:Nat):LF (Cl n) kY:=⟨fun x=>by unfold Cl kY xm;exact LQ.h⟩
def FQ(n:Nat):=xn (aY n) (mO n)
instance abd (n:Nat):LF (FQ n) uj:=⟨fun x=>by unfold FQ uj xn;exact LQ.h⟩
def Cm(n:Nat):=xo (aY n) (mO n)
instance abe (n:Nat):LF (Cm n) mK:=⟨fun x=>by unfold Cm mK xo;exact LQ.h⟩
def Cn(n:Nat):=xp (aY n) (Cm n)
instance abf (n:Nat):LF (Cn n) pS:=⟨fun x=>by unfold Cn pS xp;exact LQ.h⟩
def uJ(n:Nat):=xq (aY n) (FQ n) (Cn n)
instance abg (n:Nat):LF (uJ n) iO:=⟨fun x=>by unfold uJ iO xq;exact LQ.h⟩
def sD(n:Nat):=xr (aY n) (mO n)
instance abh (n:Nat):LF (sD n) gd:=⟨fun x=>by unfold sD gd xr;exact LQ.h⟩
def FR(n:Nat):=xt (aY n) (mO n)
instance abi (n:Nat):LF (FR n) uk:=⟨fun x=>by unfold FR uk xt;exact LQ.h⟩
def uK(n:Nat):=xu (aY n) (Cn n) (FR n)
instance abj (n:Nat):LF (uK n) jn:=⟨fun x=>by unfold uK jn xu;exact LQ.h⟩
def Co(n:Nat):=xv (aY n) (sD n) (uK n)
instance abk (n:Nat):LF (Co n) kZ:=⟨fun x=>by unfold Co kZ xv;exact LQ.h⟩
def DK(n:Nat)(self:pI):=BK (aY n) self (sC n) (yA n) (Cl n)
def FT(n:Nat):=cL (DK n) n
instance abl (n:Nat):LF (FT n) rW:=⟨Fg (fun _ _ hg x=>by have:=LF.mk hg;unfold DK rV BK;exact LQ.h) n⟩
def yB(n:Nat):=xw (aY n) (uG n)
instance abm (n:Nat):LF (yB n) mM:=⟨fun x=>by unfold yB mM xw;exact LQ.h⟩
def yC(n:Nat):=xx (aY n) (yB n)
instance abn (n:Nat):LF (yC n) jo:=⟨fun x=>by unfold yC jo xx;exact LQ.h⟩
def FU(n:Nat):=xy (aY n) (yB n)
instance abo (n:Nat):LF (FU n) rX:=⟨fun x=>by unfold FU rX xy;exact LQ.h⟩
def TU(n:Nat)(self:jd):=J2 (aY n) self (sC n)
instance qqw (n:Nat) {g g'} [LF g g']:LF (TU n g) (Dy g'):=⟨fun x=>by unfold TU Dy J2;exact LQ.h⟩
def TV(n:Nat)(self:jd):=NM (aY n) self (FT n) (sC n) (uI n) (uJ n) (Co n) (sD n) (uK n)
instance qqx (n:Nat) {g g'} [LF g g']:LF (TV n g) (E5 g'):=⟨fun x=>by unfold TV E5 NM;exact LQ.h⟩
def NV(n:Nat)(self:jd):=J3 (aY n) self (uI n) (Cm n)
instance qt6 (n:Nat) {g g'} [LF g g']:LF (NV n g) (um g'):=⟨fun x=>by unfold NV um J3;exact LQ.h⟩
def TW(n:Nat)(self:jd):=J4 (aY n) (yC n) (NV n self) (FU n)
instance qt7 (n:Nat) {g g'} [LF g g']:LF (TW n g) (Dz g'):=⟨fun x=>by unfold TW Dz J4;exact LQ.h⟩
def TX(n:Nat)(self:jd):=J5 (aY n) (sC n) (uI n) (uJ n) (sD n) (uK n) (yB n) (TW n self)
instance qt8 (n:Nat) {g g'} [LF g g']:LF (TX n g) (DA g'):=⟨fun x=>by unfold TX DA J5;exact LQ.h⟩
def TY(n:Nat)(self:jd):=NN (aY n) (sC n) (uJ n) (sD n) (yC n) (uK n) (NV n self)
instance qt9 (n:Nat) {g g'} [LF g g']:LF (TY n g) (E6 g'):=⟨fun x=>by unfold TY E6 NN;exact LQ.h⟩
def DL(n:Nat)(self:jd):=xz (aY n) (TU n self) (uI n) (yA n) (FP n) (Cl n) (uJ n) (Co n) (sD n) (TV n self) (yC n) (TX n self) (TY n self)
def KC(n:Nat):=cL (DL n) n
instance abp (n:Nat):LF (KC n) xA:=⟨Fg (fun _ _ hg x=>by have:=LF.mk hg;unfold DL oq xz;exact LQ.h) n⟩
def yD(n:Nat):=xB (aY n) (Ck n) (uH n) (KC n)
instance abq (n:Nat):LF (yD n) kr:=⟨fun x=>by unfold yD kr xB;exact LQ.h⟩
def FV(n:Nat):=xC (aY n)
instance abr (n:Nat):LF (FV n) rZ:=⟨fun x=>by unfold FV rZ xC;exact LQ.h⟩
def FW(n:Nat):=BL (aY n) (FV n)
instance abt (n:Nat):LF (FW n) xD:=⟨fun x=>by unfold FW xD BL;exact LQ.h⟩
def FY(n:Nat):=xE (aY n) (FW n)
instance abu (n:Nat):LF (FY n) uo:=⟨fun x=>by unfold FY uo xE;exact LQ.h⟩
def FZ(n:Nat):=xF (aY n) (FY n)
instance abv (n:Nat):LF (FZ n) pT:=⟨fun x=>by unfold FZ pT xF;exact LQ.h⟩
def F0(n:Nat):=xG (aY n) (FZ n)
instance abw (n:Nat):LF (F0 n) ot:=⟨fun x=>by unfold F0 ot xG;exact LQ.h⟩
def Cp(n:Nat):=BM (aY n) (yr n) (F0 n)
instance abx (n:Nat):LF (Cp n) r7:=⟨fun x=>by unfold Cp r7 BM;exact LQ.h⟩
def F1(_n:Nat):=ou
instance aby (n:Nat):LF (F1 n) ou:=⟨Cd⟩
def F2(n:Nat):=xH (aY n) (F1 n)
instance abz (n:Nat):LF (F2 n) uq:=⟨fun x=>by unfold F2 uq xH;exact LQ.h⟩
def Cq(n:Nat):=xI (aY n) (F2 n)
instance abA (n:Nat):LF (Cq n) ow:=⟨fun x=>by unfold Cq ow xI;exact LQ.h⟩
def KD(n:Nat):=r8 (aY n) (F1 n)
theorem q62(n:Nat)(c c':nw->Option nw)[LF c c']:DI (r8 (aY n) c) (r8 lf c'):=fun x=>by unfold r8;exact LQ.h
instance abB (n:Nat):LF (KD n) BN:=⟨q62 n _ _⟩
def KE(_n:Nat):=xJ
instance abC (n:Nat):LF (KE n) xJ:=⟨Cd⟩
def F3(n:Nat):=xK (aY n) (Cq n) (KD n) (KE n)
instance abD (n:Nat):LF (F3 n) pU:=⟨fun x=>by unfold F3 pU xK;exact LQ.h⟩
def F4(n:Nat):=xL (aY n)
instance abE (n:Nat):LF (F4 n) pV:=⟨fun x=>by unfold F4 pV xL;exact LQ.h⟩
def F5(n:Nat):=BO (aY n)
instance abF (n:Nat):LF (F5 n) r9:=⟨fun x=>by unfold F5 r9 BO;exact LQ.h⟩
def TZ(n:Nat)(self:kU):=NO (aY n) self
instance qqy (n:Nat) {g g'} [LF g g']:LF (TZ n g) (H9 g'):=⟨fun x=>by unfold TZ H9 NO;exact LQ.h⟩
def DM(n:Nat)(self:kU):=xM (aY n) (TZ n self) (Cq n) (F3 n) (F4 n) (F5 n) (sB n)
def F6(n:Nat):=cL (DM n) n
instance abG (n:Nat):LF (F6 n) ur:=⟨Fg (fun _ _ hg x=>by have:=LF.mk hg;unfold DM pW xM;exact LQ.h) n⟩
def F7(_n:Nat):=xN
instance abH (n:Nat):LF (F7 n) xN:=⟨Cd⟩
def F8(n:Nat):=xO (aY n) (Cp n) (F6 n) (F7 n)
instance abI (n:Nat):LF (F8 n) sa:=⟨fun x=>by unfold F8 sa xO;exact LQ.h⟩
def F9(n:Nat):=xP (aY n) (yD n) (F8 n)
instance abJ (n:Nat):LF (F9 n) ku:=⟨fun x=>by unfold F9 ku xP;exact LQ.h⟩
def Ga(n:Nat):=BP (aY n) (Cp n) (F6 n) (F7 n)
instance abK (n:Nat):LF (Ga n) BQ:=⟨fun x=>by unfold Ga BQ BP;exact LQ.h⟩
def Gb(n:Nat):=xQ (aY n) (yD n) (Ga n)
instance abL (n:Nat):LF (Gb n) sb:=⟨fun x=>by unfold Gb sb xQ;exact LQ.h⟩
def Gc(n:Nat):=BR (aY n) (Cj n)
instance abM (n:Nat):LF (Gc n) BS:=⟨fun x=>by unfold Gc BS BR;exact LQ.h⟩
def Gd(n:Nat):=BT (aY n) (Gc n) (FT n)
instance abN (n:Nat):LF (Gd n) BU:=⟨fun x=>by unfold Gd BU BT;exact LQ.h⟩
def Ge(n:Nat):=xR (aY n)
instance abO (n:Nat):LF (Ge n) sc:=⟨fun x=>by unfold Ge sc xR;exact LQ.h⟩
def Gf(n:Nat):=BV (aY n) (Ge n)
instance abP (n:Nat):LF (Gf n) si:=⟨fun x=>by unfold Gf si BV;exact LQ.h⟩
def Gg(n:Nat):=BW (aY n) (Cg n)
instance abQ (n:Nat):LF (Gg n) uu:=⟨fun x=>by unfold Gg uu BW;exact LQ.h⟩
def Gh(n:Nat):=BX (aY n) (yz n)
instance abR (n:Nat):LF (Gh n) uv:=⟨fun x=>by unfold Gh uv BX;exact LQ.h⟩
def Gi(n:Nat):=BY (aY n) (yx n)
instance abS (n:Nat):LF (Gi n) uw:=⟨fun x=>by unfold Gi uw BY;exact LQ.h⟩
def Gj(n:Nat):=xS (aY n) (uE n)
instance abT (n:Nat):LF (Gj n) ox:=⟨fun x=>by unfold Gj ox xS;exact LQ.h⟩
def Cr(n:Nat):=xT (aY n)
instance abU (n:Nat):LF (Cr n) sj:=⟨fun x=>by unfold Cr sj xT;exact LQ.h⟩
def Gk(n:Nat):=xU (aY n) (Cr n)
instance abV (n:Nat):LF (Gk n) sq:=⟨fun x=>by unfold Gk sq xU;exact LQ.h⟩
def Gl(n:Nat):=xV (aY n) (Cr n)
instance abW (n:Nat):LF (Gl n) ux:=⟨fun x=>by unfold Gl ux xV;exact LQ.h⟩
def Gm(n:Nat):=xW (aY n) (Gl n)
instance abX (n:Nat):LF (Gm n) pX:=⟨fun x=>by unfold Gm pX xW;exact LQ.h⟩
def Gn(n:Nat):=BZ (aY n) (yA n) (Gm n)
instance abY (n:Nat):LF (Gn n) oy:=⟨fun x=>by unfold Gn oy BZ;exact LQ.h⟩
def Gp(n:Nat):=B0 (aY n) (Fq n)
instance abZ (n:Nat):LF (Gp n) uy:=⟨fun x=>by unfold Gp uy B0;exact LQ.h⟩
def Gq(n:Nat):=xX (aY n) (Gg n) (Gh n) (Gi n) (Gj n) (yv n) (yw n) (yz n) (Gk n) (yx n) (Gn n) (Gp n)
instance ab0 (n:Nat):LF (Gq n) pY:=⟨fun x=>by unfold Gq pY xX;exact LQ.h⟩
def Gr(n:Nat):=B3 (aY n) (Gf n) (Gq n)
instance ab1 (n:Nat):LF (Gr n) uz:=⟨fun x=>by unfold Gr uz B3;exact LQ.h⟩
def oA(n:Nat):=xY (aY n)
instance ab2 (n:Nat):LF (oA n) gf:=⟨fun x=>by unfold oA gf xY;exact LQ.h⟩
def oB(n:Nat):=xZ (aY n)
instance ab3 (n:Nat):LF (oB n) gB:=⟨fun x=>by unfold oB gB xZ;exact LQ.h⟩
def lU(n:Nat):=ya (aY n) (Cf n)
instance ab4 (n:Nat):LF (lU n) dM:=⟨fun x=>by unfold lU dM ya;exact LQ.h⟩
def qz(n:Nat):=yc (aY n)
instance ab5 (n:Nat):LF (qz n) gh:=⟨fun x=>by unfold qz gh yc;exact LQ.h⟩
def oC(n:Nat):=yd (aY n) (mO n)
instance ab6 (n:Nat):LF (oC n) dH:=⟨fun x=>by unfold oC dH yd;exact LQ.h⟩
def qA(n:Nat):=ye (aY n) (oA n) (oB n) (lU n)
instance ab7 (n:Nat):LF (qA n) fK:=⟨fun x=>by unfold qA fK ye;exact LQ.h⟩
def Cs(n:Nat):=yf (aY n) (lU n)
instance ab8 (n:Nat):LF (Cs n) la:=⟨fun x=>by unfold Cs la yf;exact LQ.h⟩
def Ct(n:Nat):=yg (aY n) (oA n) (oB n) (lU n) (qz n) (qA n)
instance ab9 (n:Nat):LF (Ct n) jM:=⟨fun x=>by unfold Ct jM yg;exact LQ.h⟩
def Ua(n:Nat)(self:eZ):=J7 (aY n) (mO n) self (lU n) (qz n) (Ct n) (oC n) (qA n)
instance qol (n:Nat) {g g'} [LF g g']:LF (Ua n g) (ny g'):=⟨fun x=>by unfold Ua ny J7;exact LQ.h⟩
def Ub(n:Nat)(self:eZ):=NP (aY n) (lU n) (qz n) (oC n) (Ua n self)
instance qqz (n:Nat) {g g'} [LF g g']:LF (Ub n g) (B4 g'):=⟨fun x=>by unfold Ub B4 NP;exact LQ.h⟩
def DN(n:Nat)(self:eZ):=yh (aY n) (oA n) (oB n) (Ub n self)
def KF(n:Nat):=cL (DN n) n
instance aca (n:Nat):LF (KF n) iP:=⟨Fg (fun _ _ hg x=>by have:=LF.mk hg;unfold DN kv yh;exact LQ.h) n⟩
def Gs(n:Nat):=yi (aY n) (uG n)
instance acb (n:Nat):LF (Gs n) pZ:=⟨fun x=>by unfold Gs pZ yi;exact LQ.h⟩
def Gt(n:Nat):=B6 (aY n) (Gs n)
instance acd (n:Nat):LF (Gt n) p7:=⟨fun x=>by unfold Gt p7 B6;exact LQ.h⟩
def KG(_n:Nat):=sv
instance ace (n:Nat):LF (KG n) sv:=⟨Cd⟩
def Gu(n:Nat):=B7 (aY n) (KG n)
instance acf (n:Nat):LF (Gu n) sw:=⟨fun x=>by unfold Gu sw B7;exact LQ.h⟩
def Gv(n:Nat):=yj (aY n) (Gu n)
instance acg (n:Nat):LF (Gv n) mN:=⟨fun x=>by unfold Gv mN yj;exact LQ.h⟩
def Gw(n:Nat):=B8 (aY n) (uH n) (uG n) (Gv n)
instance ach (n:Nat):LF (Gw n) lP:=⟨fun x=>by unfold Gw lP B8;exact LQ.h⟩
def DO(n:Nat)(self:Bn):=yl (aY n) (oC n) self
def KH(n:Nat):=cL (DO n) n
instance aci (n:Nat):LF (KH n) sx:=⟨Fg (fun _ _ hg x=>by have:=LF.mk hg;unfold DO p8 yl;exact LQ.h) n⟩
def NW(n:Nat)(self:eZ):=J8 (aY n) self (qA n)
instance qms (n:Nat) {g g'} [LF g g']:LF (NW n g) (su g'):=⟨fun x=>by unfold NW su J8;exact LQ.h⟩
def Uc(n:Nat)(self:eZ):=NQ (aY n) self (KF n) (lU n) (oC n) (NW n self) (qA n)
instance qom (n:Nat) {g g'} [LF g g']:LF (Uc n g) (B5 g'):=⟨fun x=>by unfold Uc B5 NQ;exact LQ.h⟩
def Ud(n:Nat)(self:eZ):=J9 (aY n) self (oA n) (oB n) (mO n) (lU n) (qz n) (oC n) (qA n) (Cs n) (Uc n self)
instance qpk (n:Nat) {g g'} [LF g g']:LF (Ud n g) (uA g'):=⟨fun x=>by unfold Ud uA J9;exact LQ.h⟩
def Ue(n:Nat)(self:eZ):=NR (aY n) (oC n) (Ud n self) (Cs n)
instance qr0 (n:Nat) {g g'} [LF g g']:LF (Ue n g) (vw g'):=⟨fun x=>by unfold Ue vw NR;exact LQ.h⟩
def Uf(n:Nat)(self:eZ):=NS (aY n) (oA n) (oB n) (lU n) (qz n) (Ue n self) (Gt n) (Gw n) (KH n)
instance qr1 (n:Nat) {g g'} [LF g g']:LF (Uf n g) (B9 g'):=⟨fun x=>by unfold Uf B9 NS;exact LQ.h⟩
def Ug(n:Nat)(self:eZ):=Ka (aY n) self (lU n) (Uf n self) (qz n) (Ct n) (oC n) (NW n self) (qA n)
instance qpl (n:Nat) {g g'} [LF g g']:LF (Ug n g) (AA g'):=⟨fun x=>by unfold Ug AA Ka;exact LQ.h⟩
def Uh(n:Nat)(self:eZ):=Kb (aY n) (oA n) (oB n) (Ug n self)
instance qpm (n:Nat) {g g'} [LF g g']:LF (Uh n g) (AB g'):=⟨fun x=>by unfold Uh AB Kb;exact LQ.h⟩
def DP(n:Nat)(self:eZ):=ym (aY n) (Uh n self)
def KI(n:Nat):=cL (DP n) n
instance acj (n:Nat):LF (KI n) sy:=⟨Fg (fun _ _ hg x=>by have:=LF.mk hg;unfold DP kx ym;exact LQ.h) n⟩
def Gx(n:Nat):=yo (aY n) (Ck n) (uH n) (KI n) (oA n) (oB n)
instance ack (n:Nat):LF (Gx n) lg:=⟨fun x=>by unfold Gx lg yo;exact LQ.h⟩
def Gy(n:Nat):=yp (aY n) (uH n) (Gr n) (Gx n)
instance acm (n:Nat):LF (Gy n) lh:=⟨fun x=>by unfold Gy lh yp;exact LQ.h⟩
def Ui(n:Nat):=NT (aY n) (F9 n) (Gb n) (yD n) (Gd n) (Gy n)
instance qlw (n:Nat):LF (Ui n) DB:=⟨fun x=>by unfold Ui DB NT;exact LQ.h⟩
theorem z84:Ui 300 ()=some (true,()):=by kernel_rfl
theorem Uj:DB ()=some (true,()):=(qlw 300).h _ _ z84
end
end Fn
end Ev