/- The example of the chapter, reckoned by the kernel: loops and calls that end soon. -/
import Derived.Test.YtdgmbemagoakjaaGreatDoorFnA
import Derived.KernelRfl
set_option linter.defProp false
namespace Ev
open Go
namespace Fn
def lq{α:Type}(a b:Option α):Prop:=∀v,a=some v->b=some v
def qya{α:Type}(a:Option α):lq a a:=fun _ h=>h
def La{α β:Type}(f g:α->Option β):Prop:=∀x,lq (f x) (g x)
def FQ{α β:Type}{f:α->Option β}:La f f:=fun _=>qya _
@[reducible] noncomputable def aO(n:Nat):Lf:={lf with o:=fun f s=>px f n s}
theorem z7v{σ ρ:Type}{f g:σ->Option (σ⊕ρ)}(h:∀s,lq (f s) (g s)):∀(n:Nat) (s:σ) (r:ρ),px f n s=some r->px g n s=some r
 |0,_,_,e=>by cases e
 |n+1,s,r,e=>by
  unfold px at e ⊢;cases hf:f s with
  |none=>rw[hf] at e;cases e
  |some v=>rw[hf] at e;rw[h s v hf];cases v with
   |inl s'=>exact z7v h n s' r e
   |inr r'=>exact e
def mB{n:Nat}{α β:Type}{x y:Option α}{f g:α->Option β}(h:lq x y)(h2:∀a,lq (f a) (g a)):lq ((aO n).b x f) (lf.b y g):=by
 intro v e;show az y g=some v;have e:az x f=some v:=e;cases hx:x with
 |none=>rw[hx] at e;cases e
 |some a=>rw[hx] at e;rw[h a hx];exact h2 a v e
def mC{n:Nat}{α:Type}{c c':Bool}{x y x' y':Option α}(hc:c=c')(h:lq x x')(h2:lq y y'):lq ((aO n).c c x y) (lf.c c' x' y'):=by
 subst hc;cases c with
 |true=>exact h
 |false=>exact h2
def mS{n:Nat}{α β:Type}{f g:α->Option β}(h:∀a,lq (f a) (g a))(y:α⊕β):lq ((aO n).cH f y) (lf.cH g y):=by
 cases y with
 |inl a=>exact h a
 |inr b=>exact qya _
def mL{n:Nat}{σ ρ:Type}{f g:σ->Option (σ⊕ρ)}(h:∀s,lq (f s) (g s)){s s':σ}(hs:s=s'):lq ((aO n).o f s) (lf.o g s'):=by subst hs;exact fun r e=>XL n (z7v h n s r e)
def Jg{α β:Type}{F G:(α->Option β)->α->Option β}(h1:∀g g':α->Option β,La g g'->La (F g) (G g'))(n:Nat):La (bc F n) (eN G):=by
 have aux:∀(n m:Nat),n<=m->∀x,lq (bc F n x) (bc G m x):=by
  intro n
  induction n with
  |zero=>intro m _ x v e;cases e
  |succ n ih=>
   intro m hm x;cases m with
   |zero=>omega
   |succ m=>exact h1 _ _ (fun x=>ih m om x) x
 intro x v e;exact vw n (fun m hm=>aux n m hm x v e)
class LQ {α:Type} (a b:Option α):Prop where
 h:lq a b
class LF {α β:Type} (f g:α->Option β):Prop where
 h:La f g
instance (priority:=1) iR {α:Type} (a:Option α):LQ a a:=⟨qya a⟩
instance iA {α β:Type} {f g:α->Option β} [LF f g] (a:α):LQ (f a) (g a):=⟨LF.h a⟩
instance iB {n:Nat} {α β:Type} {x y:Option α} {f g:α->Option β} [LQ x y] [∀a,LQ (f a) (g a)]:LQ ((aO n).b x f) (lf.b y g):=⟨mB LQ.h fun _=>LQ.h⟩
instance iC {n:Nat} {α:Type} {c:Bool} {x y x' y':Option α} [LQ x x'] [LQ y y']:LQ ((aO n).c c x y) (lf.c c x' y'):=⟨mC rfl LQ.h LQ.h⟩
instance iS {n:Nat} {α β:Type} {f g:α->Option β} [∀a,LQ (f a) (g a)] (y:α⊕β):LQ ((aO n).cH f y) (lf.cH g y):=⟨mS (fun _=>LQ.h) y⟩
instance iL {n:Nat} {σ ρ:Type} {f g:σ->Option (σ⊕ρ)} [∀s,LQ (f s) (g s)] (s:σ):LQ ((aO n).o f s) (lf.o g s):=⟨mL (fun _=>LQ.h) rfl⟩
set_option synthInstance.maxHeartbeats 0
set_option synthInstance.maxSize 100000
set_option maxRecDepth 100000
noncomputable section
def z7w(x:(Sl (List Int))×Unit):Option ((Sl (List Int))×Unit):=bif Nat.ble x.1.l.length 1&&x.1.l.all yZ then some (x.1,()) else none
def z7x(_n:Nat):La z7w wv:=by
 intro x v h;obtain⟨⟨b,l⟩,u⟩:=x;unfold z7w at h;cases hc:(Nat.ble l.length 1&&l.all yZ) with
 |false=>rw[hc] at h;cases h
 |true=>
  rw[hc] at h;injection h with h;subst h;simp only[ze] at hc;have hl:l.length<=1:=zD hc.1;have hm:(l.mergeSort fun a b=>!strLt b a)=l:=by
   match l,hl with
   |[],_=>exact List.mergeSort_nil ..
   |[a],_=>exact List.mergeSort_singleton ..
  have hd:decide (l.length<4611686018427387904)=true:=zt om;show(bif l.all yZ&&decide (l.length<4611686018427387904) then _ else none)=_;rw[hc.2,hd,hm];rfl
def EO(n:Nat):=Cm (aO n)
instance agF (n:Nat):LF (EO n) qG:=⟨fun x=>by unfold EO qG Cm;exact LQ.h⟩
def EP(n:Nat):=Cn (aO n)
instance agG (n:Nat):LF (EP n) qH:=⟨fun x=>by unfold EP qH Cn;exact LQ.h⟩
def ER(n:Nat):=Co (aO n)
instance agH (n:Nat):LF (ER n) qI:=⟨fun x=>by unfold ER qI Co;exact LQ.h⟩
def Jh(n:Nat):=Cp (aO n) (EO n) (EP n) (ER n)
instance agI (n:Nat):LF (Jh n) qJ:=⟨fun x=>by unfold Jh qJ Cp;exact LQ.h⟩
def Ji(n:Nat):=GR (aO n) (Jh n)
instance agJ (n:Nat):LF (Ji n) wc:=⟨fun x=>by unfold Ji wc GR XZ;exact LQ.h⟩
def Jj(n:Nat):=GS (aO n)
instance agK (n:Nat):LF (Jj n) Ak:=⟨fun x=>by unfold Jj Ak GS X0;exact LQ.h⟩
def A2(n:Nat):=Cq (aO n) (Jj n)
instance agL (n:Nat):LF (A2 n) nx:=⟨fun x=>by unfold A2 nx Cq;exact LQ.h⟩
def Nj(n:Nat):=GU (aO n)
instance agM (n:Nat):LF (Nj n) GV:=⟨fun x=>by unfold Nj GV GU qao qan qam qal;exact LQ.h⟩
def Nk(n:Nat):=GW (aO n) (Nj n)
instance adq (n:Nat):LF (Nk n) Cr:=⟨fun x=>by unfold Nk Cr GW;exact LQ.h⟩
def A3(n:Nat):=Cs (aO n) (A2 n) (Nk n)
instance agN (n:Nat):LF (A3 n) oU:=⟨fun x=>by unfold A3 oU Cs;exact LQ.h⟩
def Nl(n:Nat):=Ct (aO n) (Ji n) (A3 n) (EO n)
instance agO (n:Nat):LF (Nl n) we:=⟨fun x=>by unfold Nl we Ct;exact LQ.h⟩
def Nn(n:Nat):=Cu (aO n) (Ji n) (A3 n) (EP n)
instance agP (n:Nat):LF (Nn n) wg:=⟨fun x=>by unfold Nn wg Cu;exact LQ.h⟩
def Np(_n:Nat):=Al
instance agQ (n:Nat):LF (Np n) Al:=⟨FQ⟩
def ES(n:Nat):=Cv (aO n) (Np n)
instance agR (n:Nat):LF (ES n) oV:=⟨fun x=>by unfold ES oV Cv;exact LQ.h⟩
def Nq(n:Nat):=GX (aO n) (ES n)
instance agS (n:Nat):LF (Nq n) Am:=⟨fun x=>by unfold Nq Am GX X4;exact LQ.h⟩
def ET(n:Nat):=Cw (aO n)
instance agT (n:Nat):LF (ET n) oW:=⟨fun x=>by unfold ET oW Cw;exact LQ.h⟩
def rf(n:Nat):=Cy (aO n) (Nl n) (Nn n) (Nq n) (A3 n) (ET n)
instance agU (n:Nat):LF (rf n) j5:=⟨fun x=>by unfold rf j5 Cy;exact LQ.h⟩
def Jk(n:Nat):=Cz (aO n) (rf n)
instance agV (n:Nat):LF (Jk n) nz:=⟨fun x=>by unfold Jk nz Cz;exact LQ.h⟩
def Nr(n:Nat):=CA (aO n) (Jk n)
instance agW (n:Nat):LF (Nr n) sE:=⟨fun x=>by unfold Nr sE CA;exact LQ.h⟩
def Ns(n:Nat):=GY (aO n) (Nr n)
instance agX (n:Nat):LF (Ns n) CB:=⟨fun x=>by unfold Ns CB GY X5;exact LQ.h⟩
def Nt(n:Nat):=CC (aO n) (Ns n)
instance agY (n:Nat):LF (Nt n) wh:=⟨fun x=>by unfold Nt wh CC;exact LQ.h⟩
def Nu(n:Nat):=CD (aO n)
instance agZ (n:Nat):LF (Nu n) sF:=⟨fun x=>by unfold Nu sF CD;exact LQ.h⟩
def Nv(n:Nat):=GZ (aO n) (Nu n)
instance ag0 (n:Nat):LF (Nv n) CE:=⟨fun x=>by unfold Nv CE GZ X6;exact LQ.h⟩
def A4(n:Nat):=CF (aO n) (Nv n)
instance ag3 (n:Nat):LF (A4 n) nA:=⟨fun x=>by unfold A4 nA CF;exact LQ.h⟩
def pg(n:Nat):=G0 (aO n) (Nt n) (A4 n)
instance ag4 (n:Nat):LF (pg n) iZ:=⟨fun x=>by unfold pg iZ G0 X7;exact LQ.h⟩
def Jl(n:Nat):=CG (aO n) (rf n)
instance ag5 (n:Nat):LF (Jl n) sG:=⟨fun x=>by unfold Jl sG CG;exact LQ.h⟩
def EU(n:Nat):=CH (aO n) (Jl n)
instance ag6 (n:Nat):LF (EU n) oX:=⟨fun x=>by unfold EU oX CH;exact LQ.h⟩
def Nw(n:Nat):=CI (aO n) (EU n)
instance ag7 (n:Nat):LF (Nw n) wi:=⟨fun x=>by unfold Nw wi CI;exact LQ.h⟩
def Nx(n:Nat):=G1 (aO n) (Nw n)
instance ag8 (n:Nat):LF (Nx n) CJ:=⟨fun x=>by unfold Nx CJ G1 X8;exact LQ.h⟩
def Ny(n:Nat):=CK (aO n) (Nx n)
instance ag9 (n:Nat):LF (Ny n) qK:=⟨fun x=>by unfold Ny qK CK;exact LQ.h⟩
def Jm(n:Nat):=CL (aO n) (rf n)
instance aha (n:Nat):LF (Jm n) sH:=⟨fun x=>by unfold Jm sH CL;exact LQ.h⟩
def xe(n:Nat):=G2 (aO n)
instance ahb (n:Nat):LF (xe n) kG:=⟨fun x=>by unfold xe kG G2 X9;exact LQ.h⟩
def A5(n:Nat):=CM (aO n) (xe n)
instance ahc (n:Nat):LF (A5 n) lJ:=⟨fun x=>by unfold A5 lJ CM;exact LQ.h⟩
def Nz(n:Nat):=G3 (aO n) (A5 n)
instance ahd (n:Nat):LF (Nz n) wj:=⟨fun x=>by unfold Nz wj G3 Yb Ya;exact LQ.h⟩
def Jn(n:Nat):=CN (aO n)
instance ahe (n:Nat):LF (Jn n) qL:=⟨fun x=>by unfold Jn qL CN;exact LQ.h⟩
def NA(n:Nat):=G4 (aO n)
instance ahf (n:Nat):LF (NA n) G5:=⟨fun x=>by unfold NA G5 G4;exact LQ.h⟩
def NB(n:Nat):=CO (aO n) (NA n)
instance ahg (n:Nat):LF (NB n) fu:=⟨fun x=>by unfold NB fu CO;exact LQ.h⟩
def NC(n:Nat):=CP (aO n)
instance ahh (n:Nat):LF (NC n) wk:=⟨fun x=>by unfold NC wk CP;exact LQ.h⟩
def NF(n:Nat):=G6 (aO n)
instance ahi (n:Nat):LF (NF n) An:=⟨fun x=>by unfold NF An G6;exact LQ.h⟩
def NG(n:Nat):=CQ (aO n)
instance ahj (n:Nat):LF (NG n) wm:=⟨fun x=>by unfold NG wm CQ;exact LQ.h⟩
def NH(n:Nat):=CR (aO n) (Jl n) (Jm n) (ET n) (Jn n) (NB n) (NC n) (NF n) (NG n)
instance ahk (n:Nat):LF (NH n) wo:=⟨fun x=>by unfold NH wo CR;exact LQ.h⟩
def NI(n:Nat):=CS (aO n) (NH n)
instance ahl (n:Nat):LF (NI n) sI:=⟨fun x=>by unfold NI sI CS;exact LQ.h⟩
def Lb(n:Nat)(self:wb):=G7 (aO n) self (NI n)
def Uz(n:Nat):=bc (Lb n) n
instance ahm (n:Nat):LF (Uz n) CU:=⟨Jg (fun _ _ hg x=>by have:=LF.mk hg;unfold Lb nB G7 Yc;exact LQ.h) n⟩
def NJ(n:Nat):=CV (aO n) (xe n)
instance ahn (n:Nat):LF (NJ n) wq:=⟨fun x=>by unfold NJ wq CV;exact LQ.h⟩
def Jo(n:Nat):=G8 (aO n)
instance aho (n:Nat):LF (Jo n) wu:=⟨fun x=>by unfold Jo wu G8 Yd;exact LQ.h⟩
def UA(_n:Nat):=z7w
instance ahp (n:Nat):LF (UA n) wv:=⟨z7x n⟩
def NK(n:Nat):=G9 (aO n)
instance ahq (n:Nat):LF (NK n) wy:=⟨fun x=>by unfold NK wy G9 Yf Ye;exact LQ.h⟩
def NL(n:Nat):=CW (aO n) (Jo n)
instance ahr (n:Nat):LF (NL n) wz:=⟨fun x=>by unfold NL wz CW;exact LQ.h⟩
def NM(n:Nat):=CY (aO n) (NJ n) (Jo n) (UA n) (NK n) (NL n)
instance ahs (n:Nat):LF (NM n) sJ:=⟨fun x=>by unfold NM sJ CY;exact LQ.h⟩
def NN(n:Nat):=Ha (aO n) (xe n) (A5 n) (Nz n) (Uz n) (NM n) (Jn n)
instance aht (n:Nat):LF (NN n) qM:=⟨fun x=>by unfold NN qM Ha Yg;exact LQ.h⟩
def EV(n:Nat):=CZ (aO n) (NN n)
instance ahu (n:Nat):LF (EV n) jc:=⟨fun x=>by unfold EV jc CZ;exact LQ.h⟩
def Jp(n:Nat):=C0 (aO n) (Jm n) (EV n)
instance ahv (n:Nat):LF (Jp n) sK:=⟨fun x=>by unfold Jp sK C0;exact LQ.h⟩
def NO(n:Nat):=C1 (aO n) (Jp n)
instance ahw (n:Nat):LF (NO n) wA:=⟨fun x=>by unfold NO wA C1;exact LQ.h⟩
def NP(n:Nat):=Hb (aO n) (NO n)
instance ahx (n:Nat):LF (NP n) C2:=⟨fun x=>by unfold NP C2 Hb Yh;exact LQ.h⟩
def NQ(n:Nat):=C3 (aO n) (NP n)
instance ahy (n:Nat):LF (NQ n) qN:=⟨fun x=>by unfold NQ qN C3;exact LQ.h⟩
def Jq(n:Nat):=C4 (aO n) (rf n)
instance ahz (n:Nat):LF (Jq n) oY:=⟨fun x=>by unfold Jq oY C4;exact LQ.h⟩
def NR(n:Nat):=C5 (aO n) (rf n)
instance ahA (n:Nat):LF (NR n) wB:=⟨fun x=>by unfold NR wB C5;exact LQ.h⟩
def NS(n:Nat):=C6 (aO n) (NR n)
instance ahB (n:Nat):LF (NS n) wC:=⟨fun x=>by unfold NS wC C6;exact LQ.h⟩
def NT(n:Nat):=Hc (aO n) (NS n)
instance ahC (n:Nat):LF (NT n) C7:=⟨fun x=>by unfold NT C7 Hc Yi;exact LQ.h⟩
def NU(n:Nat):=C8 (aO n) (NT n)
instance ahD (n:Nat):LF (NU n) wD:=⟨fun x=>by unfold NU wD C8;exact LQ.h⟩
def Jr(n:Nat):=C9 (aO n) (NU n) (A5 n)
instance ahE (n:Nat):LF (Jr n) qO:=⟨fun x=>by unfold Jr qO C9;exact LQ.h⟩
def NV(n:Nat):=Da (aO n)
instance ahF (n:Nat):LF (NV n) wF:=⟨fun x=>by unfold NV wF Da;exact LQ.h⟩
def NW(n:Nat):=Hd (aO n) (NV n)
instance ahG (n:Nat):LF (NW n) Db:=⟨fun x=>by unfold NW Db Hd Yj;exact LQ.h⟩
def NX(n:Nat):=Dd (aO n) (NW n)
instance ahH (n:Nat):LF (NX n) Ao:=⟨fun x=>by unfold NX Ao Dd;exact LQ.h⟩
def NY(n:Nat):=He (aO n)
instance ahI (n:Nat):LF (NY n) De:=⟨fun x=>by unfold NY De He Yk;exact LQ.h⟩
def NZ(n:Nat):=Df (aO n) (NY n)
instance ahJ (n:Nat):LF (NZ n) sL:=⟨fun x=>by unfold NZ sL Df;exact LQ.h⟩
def N1(n:Nat):=Hf (aO n) (Jr n) (NZ n)
instance ahK (n:Nat):LF (N1 n) Ap:=⟨fun x=>by unfold N1 Ap Hf Yl;exact LQ.h⟩
def N2(n:Nat):=Dg (aO n) (Jr n) (NX n) (N1 n)
instance ahL (n:Nat):LF (N2 n) Aq:=⟨fun x=>by unfold N2 Aq Dg;exact LQ.h⟩
def N3(n:Nat):=Dh (aO n) (N2 n)
instance ahM (n:Nat):LF (N3 n) sM:=⟨fun x=>by unfold N3 sM Dh;exact LQ.h⟩
def N4(n:Nat):=Hg (aO n) (N3 n)
instance ahN (n:Nat):LF (N4 n) Di:=⟨fun x=>by unfold N4 Di Hg Ym;exact LQ.h⟩
def N5(n:Nat):=Dj (aO n) (N4 n)
instance ahO (n:Nat):LF (N5 n) sO:=⟨fun x=>by unfold N5 sO Dj;exact LQ.h⟩
def N6(n:Nat):=Hh (aO n) (Jq n) (N5 n)
instance ahP (n:Nat):LF (N6 n) Ar:=⟨fun x=>by unfold N6 Ar Hh Yn;exact LQ.h⟩
def N7(n:Nat):=Dk (aO n) (N6 n)
instance ahQ (n:Nat):LF (N7 n) wG:=⟨fun x=>by unfold N7 wG Dk;exact LQ.h⟩
def N8(n:Nat):=Hi (aO n) (N7 n)
instance ahR (n:Nat):LF (N8 n) Dl:=⟨fun x=>by unfold N8 Dl Hi Yo;exact LQ.h⟩
def N9(n:Nat):=Dm (aO n) (N8 n)
instance ahS (n:Nat):LF (N9 n) sP:=⟨fun x=>by unfold N9 sP Dm;exact LQ.h⟩
def Oa(n:Nat):=Dn (aO n)
instance ahT (n:Nat):LF (Oa n) wH:=⟨fun x=>by unfold Oa wH Dn;exact LQ.h⟩
def Ob(n:Nat):=Hj (aO n) (Oa n)
instance ahU (n:Nat):LF (Ob n) wJ:=⟨fun x=>by unfold Ob wJ Hj Yp;exact LQ.h⟩
def Oc(n:Nat):=Dp (aO n)
instance ahV (n:Nat):LF (Oc n) wK:=⟨fun x=>by unfold Oc wK Dp;exact LQ.h⟩
def Od(n:Nat):=Hk (aO n) (Oc n)
instance ahW (n:Nat):LF (Od n) As:=⟨fun x=>by unfold Od As Hk Yr Yq;exact LQ.h⟩
def Oe(n:Nat):=Dq (aO n) (Od n)
instance ahX (n:Nat):LF (Oe n) Au:=⟨fun x=>by unfold Oe Au Dq;exact LQ.h⟩
def Of(n:Nat):=Dr (aO n) (Oe n)
instance ahY (n:Nat):LF (Of n) sQ:=⟨fun x=>by unfold Of sQ Dr;exact LQ.h⟩
def Og(n:Nat):=Hl (aO n) (Of n)
instance ahZ (n:Nat):LF (Og n) wL:=⟨fun x=>by unfold Og wL Hl Yt Ys;exact LQ.h⟩
def Oh(n:Nat):=Dt (aO n)
instance ah0 (n:Nat):LF (Oh n) wM:=⟨fun x=>by unfold Oh wM Dt;exact LQ.h⟩
def Oi(n:Nat):=Hm (aO n) (Oh n)
instance ah1 (n:Nat):LF (Oi n) Du:=⟨fun x=>by unfold Oi Du Hm Yu;exact LQ.h⟩
def Oj(n:Nat):=Dv (aO n) (Oi n)
instance ah2 (n:Nat):LF (Oj n) wN:=⟨fun x=>by unfold Oj wN Dv;exact LQ.h⟩
def Ol(n:Nat):=Dw (aO n) (Oj n) (Jq n)
instance ah3 (n:Nat):LF (Ol n) sR:=⟨fun x=>by unfold Ol sR Dw;exact LQ.h⟩
def Om(n:Nat):=Hn (aO n) (Ol n)
instance ah4 (n:Nat):LF (Om n) Dx:=⟨fun x=>by unfold Om Dx Hn Yv;exact LQ.h⟩
def On(n:Nat):=Dy (aO n) (Om n)
instance ah5 (n:Nat):LF (On n) Av:=⟨fun x=>by unfold On Av Dy;exact LQ.h⟩
def Oo(n:Nat):=Dz (aO n) (On n)
instance ah6 (n:Nat):LF (Oo n) sS:=⟨fun x=>by unfold Oo sS Dz;exact LQ.h⟩
def Oq(n:Nat):=Ho (aO n) (Oo n)
instance ah7 (n:Nat):LF (Oq n) DA:=⟨fun x=>by unfold Oq DA Ho Yw;exact LQ.h⟩
def Ot(n:Nat):=DB (aO n) (Oq n)
instance ah8 (n:Nat):LF (Ot n) Aw:=⟨fun x=>by unfold Ot Aw DB;exact LQ.h⟩
def Ou(n:Nat):=DC (aO n) (Ot n)
instance ah9 (n:Nat):LF (Ou n) sT:=⟨fun x=>by unfold Ou sT DC;exact LQ.h⟩
def Ov(n:Nat):=Hp (aO n) (Ou n)
instance aia (n:Nat):LF (Ov n) wO:=⟨fun x=>by unfold Ov wO Hp Yy Yx;exact LQ.h⟩
def Js(n:Nat):=Hq (aO n) (N9 n) (Ob n) (Og n) (Ov n)
instance aib (n:Nat):LF (Js n) qP:=⟨fun x=>by unfold Js qP Hq Yz;exact LQ.h⟩
def Ow(n:Nat):=Hr (aO n) (A2 n)
instance aic (n:Nat):LF (Ow n) qQ:=⟨fun x=>by unfold Ow qQ Hr YA;exact LQ.h⟩
def EW(n:Nat):=Hs (aO n) (pg n) (EU n) (Ny n) (NQ n) (Js n) (Ow n)
instance aid (n:Nat):LF (EW n) oZ:=⟨fun x=>by unfold EW oZ Hs YB;exact LQ.h⟩
def Ox(_n:Nat):=o3
instance aie (n:Nat):LF (Ox n) o3:=⟨FQ⟩
def Jt(n:Nat):=DE (aO n) (Ox n)
instance aif (n:Nat):LF (Jt n) gX:=⟨fun x=>by unfold Jt gX DE;exact LQ.h⟩
def EX(n:Nat):=DF (aO n)
instance aih (n:Nat):LF (EX n) nC:=⟨fun x=>by unfold EX nC DF;exact LQ.h⟩
def Ju(n:Nat):=DG (aO n)
instance aii (n:Nat):LF (Ju n) nD:=⟨fun x=>by unfold Ju nD DG;exact LQ.h⟩
def Oy(n:Nat):=Ht (aO n) (Ju n)
instance aij (n:Nat):LF (Oy n) wP:=⟨fun x=>by unfold Oy wP Ht YC;exact LQ.h⟩
def Oz(n:Nat):=Hu (aO n) (Ju n) (Oy n)
instance aik (n:Nat):LF (Oz n) sU:=⟨fun x=>by unfold Oz sU Hu YD;exact LQ.h⟩
def UB(_n:Nat):=Ax
instance ail (n:Nat):LF (UB n) Ax:=⟨FQ⟩
def Jv(n:Nat):=DH (aO n) (pg n) (EX n) (Jk n) (Oz n) (UB n)
instance aim (n:Nat):LF (Jv n) o4:=⟨fun x=>by unfold Jv o4 DH;exact LQ.h⟩
def uX(n:Nat):=Hv (aO n) (xe n)
instance ain (n:Nat):LF (uX n) fM:=⟨fun x=>by unfold uX fM Hv YE;exact LQ.h⟩
def Lc(n:Nat)(self:oS):=Hw (aO n) self (uX n)
def UC(n:Nat):=bc (Lc n) n
instance aio (n:Nat):LF (UC n) sV:=⟨Jg (fun _ _ hg x=>by have:=LF.mk hg;unfold Lc wQ Hw YF;exact LQ.h) n⟩
def OA(n:Nat):=Hx (aO n) (UC n)
instance aip (n:Nat):LF (OA n) qR:=⟨fun x=>by unfold OA qR Hx YI YH YG;exact LQ.h⟩
def nQ(n:Nat):=Hy (aO n)
instance aiq (n:Nat):LF (nQ n) jf:=⟨fun x=>by unfold nQ jf Hy YJ;exact LQ.h⟩
def OB(n:Nat):=DI (aO n) (nQ n)
instance air (n:Nat):LF (OB n) Ay:=⟨fun x=>by unfold OB Ay DI;exact LQ.h⟩
def A6(n:Nat):=DJ (aO n) (OB n)
instance ais (n:Nat):LF (A6 n) gY:=⟨fun x=>by unfold A6 gY DJ;exact LQ.h⟩
def UD(_n:Nat):=DK
instance ait (n:Nat):LF (UD n) DK:=⟨FQ⟩
def UE(_n:Nat):=DL
instance aiu (n:Nat):LF (UE n) DL:=⟨FQ⟩
def EY(n:Nat):=DM (aO n) (ET n) (UD n) (UE n)
instance aiv (n:Nat):LF (EY n) mG:=⟨fun x=>by unfold EY mG DM;exact LQ.h⟩
def OC(_n:Nat):=qS
instance aiw (n:Nat):LF (OC n) qS:=⟨FQ⟩
def UF(n:Nat):=wR (aO n) (Ox n)
def q8t(n:Nat)(c c':oL->Option oL)[LF c c']:La (wR (aO n) c) (wR lf c'):=fun x=>by unfold wR;exact LQ.h
instance aix (n:Nat):LF (UF n) wS:=⟨q8t n _ _⟩
def OD(n:Nat):=Hz (aO n) (Jt n) (OC n) (UF n)
instance aiy (n:Nat):LF (OD n) wT:=⟨fun x=>by unfold OD wT Hz YK;exact LQ.h⟩
def Jw(n:Nat):=DN (aO n) (rf n)
instance aiz (n:Nat):LF (Jw n) mH:=⟨fun x=>by unfold Jw mH DN;exact LQ.h⟩
def OE(n:Nat):=DO (aO n) (nQ n)
instance aiA (n:Nat):LF (OE n) Az:=⟨fun x=>by unfold OE Az DO;exact LQ.h⟩
def Jx(n:Nat):=DP (aO n) (nQ n)
instance aiB (n:Nat):LF (Jx n) o5:=⟨fun x=>by unfold Jx o5 DP;exact LQ.h⟩
def Jy(n:Nat):=DQ (aO n) (Jx n)
instance aiC (n:Nat):LF (Jy n) sW:=⟨fun x=>by unfold Jy sW DQ;exact LQ.h⟩
def A7(n:Nat):=DR (aO n) (OE n) (Jy n)
instance aiD (n:Nat):LF (A7 n) jR:=⟨fun x=>by unfold A7 jR DR;exact LQ.h⟩
def xf(n:Nat):=DS (aO n) (nQ n)
instance aiE (n:Nat):LF (xf n) gZ:=⟨fun x=>by unfold xf gZ DS;exact LQ.h⟩
def OF(n:Nat):=DT (aO n) (nQ n)
instance aiF (n:Nat):LF (OF n) AA:=⟨fun x=>by unfold OF AA DT;exact LQ.h⟩
def A8(n:Nat):=DU (aO n) (Jy n) (OF n)
instance aiG (n:Nat):LF (A8 n) j6:=⟨fun x=>by unfold A8 j6 DU;exact LQ.h⟩
def Jz(n:Nat):=DV (aO n) (xf n) (A8 n)
instance aiH (n:Nat):LF (Jz n) mI:=⟨fun x=>by unfold Jz mI DV;exact LQ.h⟩
def Ld(n:Nat)(self:oT):=HA (aO n) (uX n) (EY n) (Jw n) self
def UG(n:Nat):=bc (Ld n) n
instance aiI (n:Nat):LF (UG n) AB:=⟨Jg (fun _ _ hg x=>by have:=LF.mk hg;unfold Ld wU HA YL;exact LQ.h) n⟩
def EZ(n:Nat):=DW (aO n) (A4 n)
instance aiJ (n:Nat):LF (EZ n) o6:=⟨fun x=>by unfold EZ o6 DW;exact LQ.h⟩
def E0(n:Nat):=DY (aO n) (EZ n)
instance aiK (n:Nat):LF (E0 n) kH:=⟨fun x=>by unfold E0 kH DY;exact LQ.h⟩
def OG(n:Nat):=DZ (aO n) (EZ n)
instance aiL (n:Nat):LF (OG n) wV:=⟨fun x=>by unfold OG wV DZ;exact LQ.h⟩
def q5o(n:Nat)(self:iI):=Tb (aO n) (uX n) self
instance qyb (n:Nat) {g g'} [LF g g']:LF (q5o n g) (K5 g'):=⟨fun x=>by unfold q5o K5 Tb;exact LQ.h⟩
def q5p(n:Nat)(self:iI):=YN (aO n) (uX n) self (A6 n) (A7 n) (Jz n) (xf n) (A8 n) (UG n)
instance qyc (n:Nat) {g g'} [LF g g']:LF (q5p n g) (Mo g'):=⟨fun x=>by unfold q5p Mo YN YM;exact LQ.h⟩
def Zm(n:Nat)(self:iI):=Tc (aO n) self (A6 n) (Jx n)
instance z0u (n:Nat) {g g'} [LF g g']:LF (Zm n g) (BG g'):=⟨fun x=>by unfold Zm BG Tc;exact LQ.h⟩
def q6q(n:Nat)(self:iI):=Td (aO n) (E0 n) (Zm n self) (OG n)
instance z0v (n:Nat) {g g'} [LF g g']:LF (q6q n g) (K6 g'):=⟨fun x=>by unfold q6q K6 Td;exact LQ.h⟩
def q6r(n:Nat)(self:iI):=Te (aO n) (uX n) (A6 n) (A7 n) (xf n) (A8 n) (EZ n) (q6q n self)
instance z0w (n:Nat) {g g'} [LF g g']:LF (q6r n g) (K7 g'):=⟨fun x=>by unfold q6r K7 Te;exact LQ.h⟩
def q6s(n:Nat)(self:iI):=YQ (aO n) (uX n) (A7 n) (xf n) (E0 n) (A8 n) (Zm n self)
instance z0x (n:Nat) {g g'} [LF g g']:LF (q6s n g) (Mp g'):=⟨fun x=>by unfold q6s Mp YQ YP YO;exact LQ.h⟩
def Le(n:Nat)(self:iI):=D0 (aO n) (q5o n self) (A6 n) (EY n) (OD n) (Jw n) (A7 n) (Jz n) (xf n) (q5p n self) (E0 n) (q6r n self) (q6s n self)
def UH(n:Nat):=bc (Le n) n
instance aiM (n:Nat):LF (UH n) D1:=⟨Jg (fun _ _ hg x=>by have:=LF.mk hg;unfold Le qT D0;exact LQ.h) n⟩
def OH(n:Nat):=D2 (aO n) (pg n) (EV n) (UH n)
instance aiN (n:Nat):LF (OH n) qU:=⟨fun x=>by unfold OH qU D2;exact LQ.h⟩
def UI(_n:Nat):=HF
instance aiO (n:Nat):LF (UI n) HF:=⟨FQ⟩
def OI(n:Nat):=D3 (aO n)
instance aiP (n:Nat):LF (OI n) wW:=⟨fun x=>by unfold OI wW D3;exact LQ.h⟩
def OJ(n:Nat):=HG (aO n) (OI n)
instance aiQ (n:Nat):LF (OJ n) D4:=⟨fun x=>by unfold OJ D4 HG YR;exact LQ.h⟩
def OK(n:Nat):=D5 (aO n) (OJ n)
instance aiR (n:Nat):LF (OK n) AD:=⟨fun x=>by unfold OK AD D5;exact LQ.h⟩
def OL(n:Nat):=D6 (aO n) (OK n)
instance aiS (n:Nat):LF (OL n) sX:=⟨fun x=>by unfold OL sX D6;exact LQ.h⟩
def OM(n:Nat):=D7 (aO n) (OL n)
instance aiT (n:Nat):LF (OM n) qV:=⟨fun x=>by unfold OM qV D7;exact LQ.h⟩
def ON(n:Nat):=HH (aO n) (A5 n) (OM n)
instance aiU (n:Nat):LF (ON n) AE:=⟨fun x=>by unfold ON AE HH YS;exact LQ.h⟩
def OO(_n:Nat):=qW
instance aiV (n:Nat):LF (OO n) qW:=⟨FQ⟩
def OP(n:Nat):=D8 (aO n) (OO n)
instance aiW (n:Nat):LF (OP n) AF:=⟨fun x=>by unfold OP AF D8;exact LQ.h⟩
def JA(n:Nat):=D9 (aO n) (OP n)
instance aiX (n:Nat):LF (JA n) qX:=⟨fun x=>by unfold JA qX D9;exact LQ.h⟩
def UJ(n:Nat):=wX (aO n) (OO n)
def q7d(n:Nat)(c c':qA->Option qA)[LF c c']:La (wX (aO n) c) (wX lf c'):=fun x=>by unfold wX;exact LQ.h
instance aiY (n:Nat):LF (UJ n) HI:=⟨q7d n _ _⟩
def UK(_n:Nat):=Ea
instance aiZ (n:Nat):LF (UK n) Ea:=⟨FQ⟩
def OQ(n:Nat):=Eb (aO n) (JA n) (UJ n) (UK n)
instance ai0 (n:Nat):LF (OQ n) sY:=⟨fun x=>by unfold OQ sY Eb;exact LQ.h⟩
def OR(n:Nat):=Ec (aO n)
instance ai1 (n:Nat):LF (OR n) sZ:=⟨fun x=>by unfold OR sZ Ec;exact LQ.h⟩
def OS(n:Nat):=HK (aO n)
instance ai2 (n:Nat):LF (OS n) wY:=⟨fun x=>by unfold OS wY HK YU;exact LQ.h⟩
def q5q(n:Nat)(self:nw):=YT (aO n) self
instance qyd (n:Nat) {g g'} [LF g g']:LF (q5q n g) (Ri g'):=⟨fun x=>by unfold q5q Ri YT;exact LQ.h⟩
def Lg(n:Nat)(self:nw):=Ed (aO n) (xe n) (q5q n self) (JA n) (OQ n) (OR n) (OS n)
def UL(n:Nat):=bc (Lg n) n
instance ai3 (n:Nat):LF (UL n) Ee:=⟨Jg (fun _ _ hg x=>by have:=LF.mk hg;unfold Lg ti Ed;exact LQ.h) n⟩
def OU(n:Nat):=Ef (aO n) (UI n) (ON n) (UL n)
instance ai4 (n:Nat):LF (OU n) wZ:=⟨fun x=>by unfold OU wZ Ef;exact LQ.h⟩
def OV(n:Nat):=Eg (aO n) (OH n) (OU n)
instance ai5 (n:Nat):LF (OV n) o7:=⟨fun x=>by unfold OV o7 Eg;exact LQ.h⟩
def OW(n:Nat):=Eh (aO n) (rf n)
instance ai6 (n:Nat):LF (OW n) tj:=⟨fun x=>by unfold OW tj Eh;exact LQ.h⟩
def OX(n:Nat):=HM (aO n)
instance ai7 (n:Nat):LF (OX n) AG:=⟨fun x=>by unfold OX AG HM;exact LQ.h⟩
def OY(n:Nat):=HO (aO n) (EW n) (pg n) (Jt n) (EX n) (Jv n) (OA n) (OV n) (OW n) (OX n) (OC n)
instance ai8 (n:Nat):LF (OY n) w7:=⟨fun x=>by unfold OY w7 HO YY YX YW YV;exact LQ.h⟩
def O0(n:Nat):=HP (aO n)
instance ai9 (n:Nat):LF (O0 n) HQ:=⟨fun x=>by unfold O0 HQ HP;exact LQ.h⟩
def O1(n:Nat):=HS (aO n) (O0 n)
instance aja (n:Nat):LF (O1 n) HT:=⟨fun x=>by unfold O1 HT HS qeq;exact LQ.h⟩
def O2(n:Nat):=HU (aO n) (Jh n)
instance ajb (n:Nat):LF (O2 n) HV:=⟨fun x=>by unfold O2 HV HU qmd;exact LQ.h⟩
def O3(n:Nat):=HX (aO n) (ES n)
instance ajc (n:Nat):LF (O3 n) HY:=⟨fun x=>by unfold O3 HY HX qer;exact LQ.h⟩
def O4(n:Nat):=HZ (aO n) (ER n)
instance ajd (n:Nat):LF (O4 n) H0:=⟨fun x=>by unfold O4 H0 HZ qes;exact LQ.h⟩
def O5(n:Nat):=H2 (aO n) (A3 n)
instance aje (n:Nat):LF (O5 n) H5:=⟨fun x=>by unfold O5 H5 H2;exact LQ.h⟩
def JB(n:Nat):=H6 (aO n)
instance ajf (n:Nat):LF (JB n) Ei:=⟨fun x=>by unfold JB Ei H6;exact LQ.h⟩
def O6(n:Nat):=H7 (aO n) (JB n)
instance ajg (n:Nat):LF (O6 n) H8:=⟨fun x=>by unfold O6 H8 H7;exact LQ.h⟩
def O7(n:Nat):=H9 (aO n) (JB n)
instance ajh (n:Nat):LF (O7 n) Ia:=⟨fun x=>by unfold O7 Ia H9;exact LQ.h⟩
def O8(n:Nat):=Ib (aO n) (O7 n)
instance aji (n:Nat):LF (O8 n) Ic:=⟨fun x=>by unfold O8 Ic Ib;exact LQ.h⟩
def O9(n:Nat):=Ie (aO n) (EY n) (O8 n)
instance ajj (n:Nat):LF (O9 n) Ej:=⟨fun x=>by unfold O9 Ej Ie qja;exact LQ.h⟩
def Pa(n:Nat):=Ig (aO n) (Np n)
instance ajk (n:Nat):LF (Pa n) Ih:=⟨fun x=>by unfold Pa Ih Ig qh4;exact LQ.h⟩
def Pb(n:Nat):=Ii (aO n) (O2 n) (O3 n) (O4 n) (EO n) (EP n) (ES n) (O5 n) (O6 n) (ER n) (O9 n) (Pa n)
instance ajl (n:Nat):LF (Pb n) Ij:=⟨fun x=>by unfold Pb Ij Ii;exact LQ.h⟩
def JC(n:Nat):=Ik (aO n) (O1 n) (Pb n)
instance ajm (n:Nat):LF (JC n) Ek:=⟨fun x=>by unfold JC Ek Ik qoy qox;exact LQ.h⟩
def Pc(n:Nat):=Il (aO n)
instance ajn (n:Nat):LF (Pc n) Im:=⟨fun x=>by unfold Pc Im Il;exact LQ.h⟩
def ph(n:Nat):=Io (aO n)
instance ajo (n:Nat):LF (ph n) lK:=⟨fun x=>by unfold ph lK Io;exact LQ.h⟩
def ri(n:Nat):=Ip (aO n) (ph n)
instance ajp (n:Nat):LF (ri n) mK:=⟨fun x=>by unfold ri mK Ip;exact LQ.h⟩
def Pd(n:Nat):=Iq (aO n) (ri n)
instance ajq (n:Nat):LF (Pd n) Ir:=⟨fun x=>by unfold Pd Ir Iq;exact LQ.h⟩
def Pe(n:Nat):=Is (aO n) (Jj n)
instance ajr (n:Nat):LF (Pe n) El:=⟨fun x=>by unfold Pe El Is;exact LQ.h⟩
def Pf(n:Nat):=Iu (aO n) (ph n)
instance ajs (n:Nat):LF (Pf n) Em:=⟨fun x=>by unfold Pf Em Iu;exact LQ.h⟩
def Pg(n:Nat):=Iw (aO n)
instance ajt (n:Nat):LF (Pg n) Eo:=⟨fun x=>by unfold Pg Eo Iw qh5;exact LQ.h⟩
def uY(n:Nat)(self:mE):=It (aO n) (ri n) (ph n) (Pe n) self
instance UM (n:Nat) {g g'} [LF g g']:LF (uY n g) (tm g'):=⟨fun x=>by unfold uY tm It;exact LQ.h⟩
def yg(n:Nat)(self:mE):=Iv (aO n) (uY n self) (Pf n)
instance UN (n:Nat) {g g'} [LF g g']:LF (yg n g) (AH g'):=⟨fun x=>by unfold yg AH Iv q71;exact LQ.h⟩
def Lh(n:Nat)(self:mE):=Ix (aO n) (ri n) (ph n) (uY n self) (yg n self) (nQ n) self (Pg n)
def Ph(n:Nat):=bc (Lh n) n
instance aju (n:Nat):LF (Ph n) AI:=⟨Jg (fun _ _ hg x=>by have:=LF.mk hg;unfold Lh Mq Ix;exact LQ.h) n⟩
def UO(n:Nat):=uY n (Ph n)
instance ajv (n:Nat):LF (UO n) Mr:=UM n
def UP(n:Nat):=yg n (Ph n)
instance ajw (n:Nat):LF (UP n) Ms:=UN n
def Pj(n:Nat):=Iy (aO n) (ri n) (ph n) (UO n) (UP n)
instance ajx (n:Nat):LF (Pj n) Iz:=⟨fun x=>by unfold Pj Iz Iy;exact LQ.h⟩
def Pl(n:Nat):=IA (aO n) (A2 n) (ri n) (ph n) (Pj n)
instance ajy (n:Nat):LF (Pl n) IB:=⟨fun x=>by unfold Pl IB IA q73 q72;exact LQ.h⟩
def Pm(n:Nat):=IC (aO n) (ri n) (ph n)
instance ajz (n:Nat):LF (Pm n) ID:=⟨fun x=>by unfold Pm ID IC;exact LQ.h⟩
def rj(n:Nat):=IE (aO n)
instance ajA (n:Nat):LF (rj n) kI:=⟨fun x=>by unfold rj kI IE;exact LQ.h⟩
def rk(n:Nat):=IF (aO n)
instance ajB (n:Nat):LF (rk n) kJ:=⟨fun x=>by unfold rk kJ IF;exact LQ.h⟩
def nR(n:Nat):=IG (aO n) (A2 n)
instance ajC (n:Nat):LF (nR n) ia:=⟨fun x=>by unfold nR ia IG;exact LQ.h⟩
def Po(n:Nat):=IH (aO n) (A4 n)
instance ajD (n:Nat):LF (Po n) II:=⟨fun x=>by unfold Po II IH;exact LQ.h⟩
def Pp(n:Nat):=IJ (aO n) (Po n)
instance ajE (n:Nat):LF (Pp n) Ep:=⟨fun x=>by unfold Pp Ep IJ q85;exact LQ.h⟩
def uZ(n:Nat):=IK (aO n)
instance ajF (n:Nat):LF (uZ n) kK:=⟨fun x=>by unfold uZ kK IK;exact LQ.h⟩
def rl(n:Nat):=IL (aO n) (nQ n)
instance ajG (n:Nat):LF (rl n) jl:=⟨fun x=>by unfold rl jl IL;exact LQ.h⟩
def u7(n:Nat):=IM (aO n) (rj n) (rk n) (nR n)
instance ajH (n:Nat):LF (u7 n) kM:=⟨fun x=>by unfold u7 kM IM;exact LQ.h⟩
def JD(n:Nat):=IN (aO n) (nR n)
instance ajI (n:Nat):LF (JD n) w8:=⟨fun x=>by unfold JD w8 IN;exact LQ.h⟩
def JE(n:Nat):=IP (aO n) (rj n) (rk n) (nR n) (uZ n) (u7 n)
instance ajJ (n:Nat):LF (JE n) w9:=⟨fun x=>by unfold JE w9 IP;exact LQ.h⟩
def q4p(n:Nat)(self:fC):=YZ (aO n) self (nQ n) (nR n) (uZ n) (JE n) (rl n) (u7 n)
instance qvq (n:Nat) {g g'} [LF g g']:LF (q4p n g) (Tf g'):=⟨fun x=>by unfold q4p Tf YZ;exact LQ.h⟩
def q5r(n:Nat)(self:fC):=Za (aO n) (nR n) (uZ n) (rl n) (q4p n self)
instance qye (n:Nat) {g g'} [LF g g']:LF (q5r n g) (Tg g'):=⟨fun x=>by unfold q5r Tg Za q86;exact LQ.h⟩
def Li(n:Nat)(self:fC):=IQ (aO n) (rj n) (rk n) (q5r n self)
def UQ(n:Nat):=bc (Li n) n
instance ajK (n:Nat):LF (UQ n) IS:=⟨Jg (fun _ _ hg x=>by have:=LF.mk hg;unfold Li Mt IQ;exact LQ.h) n⟩
def UR(_n:Nat):=IT
instance ajL (n:Nat):LF (UR n) IT:=⟨FQ⟩
def Pq(n:Nat):=IU (aO n) (UR n)
instance ajM (n:Nat):LF (Pq n) IV:=⟨fun x=>by unfold Pq IV IU qc4 qc3;exact LQ.h⟩
def Pr(n:Nat):=IW (aO n) (Pq n)
instance ajN (n:Nat):LF (Pr n) IX:=⟨fun x=>by unfold Pr IX IW;exact LQ.h⟩
def Ps(n:Nat):=IY (aO n) (pg n) (A4 n) (Pr n)
instance ajO (n:Nat):LF (Ps n) Er:=⟨fun x=>by unfold Ps Er IY qje qjd qjb qjc;exact LQ.h⟩
def Lj(n:Nat)(self:Cl):=I0 (aO n) (rl n) self
def US(n:Nat):=bc (Lj n) n
instance ajP (n:Nat):LF (US n) I1:=⟨Jg (fun _ _ hg x=>by have:=LF.mk hg;unfold Lj Mv I0;exact LQ.h) n⟩
def Zn(n:Nat)(self:fC):=Zb (aO n) self (u7 n)
instance qtx (n:Nat) {g g'} [LF g g']:LF (Zn n g) (Mu g'):=⟨fun x=>by unfold Zn Mu Zb;exact LQ.h⟩
def q4q(n:Nat)(self:fC):=Zc (aO n) self (UQ n) (nR n) (rl n) (Zn n self) (u7 n)
instance qvr (n:Nat) {g g'} [LF g g']:LF (q4q n g) (Th g'):=⟨fun x=>by unfold q4q Th Zc q74;exact LQ.h⟩
def q56(n:Nat)(self:fC):=Zd (aO n) self (rj n) (rk n) (nQ n) (nR n) (uZ n) (rl n) (u7 n) (JD n) (q4q n self)
instance qx4 (n:Nat) {g g'} [LF g g']:LF (q56 n g) (Ti g'):=⟨fun x=>by unfold q56 Ti Zd;exact LQ.h⟩
def q5s(n:Nat)(self:fC):=Ze (aO n) (rl n) (q56 n self) (JD n)
instance qyf (n:Nat) {g g'} [LF g g']:LF (q5s n g) (Tj g'):=⟨fun x=>by unfold q5s Tj Ze q87;exact LQ.h⟩
def q5t(n:Nat)(self:fC):=Zf (aO n) (Pp n) (rj n) (rk n) (nR n) (uZ n) (q5s n self) (Ps n) (US n)
instance qyg (n:Nat) {g g'} [LF g g']:LF (q5t n g) (Tl g'):=⟨fun x=>by unfold q5t Tl Zf q88;exact LQ.h⟩
def q57(n:Nat)(self:fC):=Zg (aO n) self (nR n) (q5t n self) (uZ n) (JE n) (rl n) (Zn n self) (u7 n)
instance qx5 (n:Nat) {g g'} [LF g g']:LF (q57 n g) (Tm g'):=⟨fun x=>by unfold q57 Tm Zg;exact LQ.h⟩
def q58(n:Nat)(self:fC):=Zh (aO n) (rj n) (rk n) (q57 n self)
instance qx6 (n:Nat) {g g'} [LF g g']:LF (q58 n g) (Tn g'):=⟨fun x=>by unfold q58 Tn Zh;exact LQ.h⟩
def Lk(n:Nat)(self:fC):=I2 (aO n) (q58 n self)
def UT(n:Nat):=bc (Lk n) n
instance ajQ (n:Nat):LF (UT n) Mx:=⟨Jg (fun _ _ hg x=>by have:=LF.mk hg;unfold Lk Mw I2;exact LQ.h) n⟩
def Pu(n:Nat):=I3 (aO n) (pg n) (EV n) (UT n) (rj n) (rk n)
instance ajR (n:Nat):LF (Pu n) I4:=⟨fun x=>by unfold Pu I4 I3;exact LQ.h⟩
def Pv(n:Nat):=I5 (aO n) (pg n) (Jv n) (EU n) (Jp n) (Js n) (Pc n) (ri n) (Pd n) (Pl n) (ph n) (Pm n) (Pu n)
instance ajS (n:Nat):LF (Pv n) I6:=⟨fun x=>by unfold Pv I6 I5;exact LQ.h⟩
def Pw(n:Nat):=I7 (aO n) (EW n) (pg n) (EX n) (JC n) (Pv n)
instance ajT (n:Nat):LF (Pw n) I8:=⟨fun x=>by unfold Pw I8 I7 qet;exact LQ.h⟩
def Px(n:Nat):=I9 (aO n) (JC n)
instance ajU (n:Nat):LF (Px n) Ja:=⟨fun x=>by unfold Px Ja I9 qdv;exact LQ.h⟩
def qdk(n:Nat):=Zi (aO n) (OY n) (EW n) (Pw n) (Px n)
instance qsz (n:Nat):LF (qdk n) Rj:=⟨fun x=>by unfold qdk Rj Zi;exact LQ.h⟩
def zgq:qdk 300 ()=some (true,()):=by kernel_rfl
def z0y:Rj ()=some (true,()):=(qsz 300).h _ _ zgq
end
end Fn
end Ev