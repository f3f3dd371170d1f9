/- The example of the chapter, reckoned by the kernel: loops and calls that end soon. No statement of its own about the program. -/
import Derived.Test.YtdgmbemagoakjaaGreatDoorFnA
import Derived.KernelRfl
namespace Ev
open Go
namespace Fn
def lq{α:Type}(a b:Option α):Prop:=∀v,a=some v->b=some v
theorem lR{α:Type}(a:Option α):lq a a:=fun _ h=>h
def G9{α β:Type}(f g:α->Option β):Prop:=∀x,lq (f x) (g x)
theorem Ck{α β:Type}{f:α->Option β}:G9 f f:=fun _=>lR _
@[reducible] noncomputable def aJ(n:Nat):Lf:={lf with o:=fun f s=>lW f n s}
theorem ZN{σ ρ:Type}{f g:σ->Option (σ⊕ρ)}(h:∀s,lq (f s) (g s)):∀(n:Nat) (s:σ) (r:ρ),lW f n s=some r->lW g n s=some r
 |0,_,_,e=>by cases e
 |n+1,s,r,e=>by
  unfold lW at e ⊢;cases hf:f s with
  |none=>rw[hf] at e;cases e
  |some v=>rw[hf] at e;rw[h s v hf];cases v with
   |inl s'=>exact ZN h n s' r e
   |inr r'=>exact e
theorem mB{n:Nat}{α β:Type}{x y:Option α}{f g:α->Option β}(h:lq x y)(h2:∀a,lq (f a) (g a)):lq ((aJ n).b x f) (lf.b y g):=by
 intro v e;show ag y g=some v;have e:ag x f=some v:=e;cases hx:x with
 |none=>rw[hx] at e;cases e
 |some a=>rw[hx] at e;rw[h a hx];exact h2 a v e
theorem mC{n:Nat}{α:Type}{c c':Bool}{x y x' y':Option α}(hc:c=c')(h:lq x x')(h2:lq y y'):lq ((aJ n).c c x y) (lf.c c' x' y'):=by
 subst hc;cases c with
 |true=>exact h
 |false=>exact h2
theorem mS{n:Nat}{α β:Type}{f g:α->Option β}(h:∀a,lq (f a) (g a))(y:α⊕β):lq ((aJ n).bT f y) (lf.bT g y):=by
 cases y with
 |inl a=>exact h a
 |inr b=>exact lR _
theorem mL{n:Nat}{σ ρ:Type}{f g:σ->Option (σ⊕ρ)}(h:∀s,lq (f s) (g s)){s s':σ}(hs:s=s'):lq ((aJ n).o f s) (lf.o g s'):=by subst hs;exact fun r e=>OA n (ZN h n s r e)
theorem FB{α β:Type}{F G:(α->Option β)->α->Option β}(h1:∀g g':α->Option β,G9 g g'->G9 (F g) (G g'))(n:Nat):G9 (cM F n) (gq G):=by
 have aux:∀(n m:Nat),n<=m->∀x,lq (cM F n x) (cM G m x):=by
  intro n
  induction n with
  |zero=>intro m _ x v e;cases e
  |succ n ih=>
   intro m hm x;cases m with
   |zero=>omega
   |succ m=>exact h1 _ _ (fun x=>ih m om x) x
 intro x v e;exact S7 n (fun m hm=>aux n m hm x v e)
class LQ {α:Type} (a b:Option α):Prop where
 h:lq a b
class LF {α β:Type} (f g:α->Option β):Prop where
 h:G9 f g
instance (priority:=1) iR {α:Type} (a:Option α):LQ a a:=⟨lR a⟩
instance iA {α β:Type} {f g:α->Option β} [LF f g] (a:α):LQ (f a) (g a):=⟨LF.h a⟩
instance iB {n:Nat} {α β:Type} {x y:Option α} {f g:α->Option β} [LQ x y] [∀a,LQ (f a) (g a)]:LQ ((aJ n).b x f) (lf.b y g):=⟨mB LQ.h fun _=>LQ.h⟩
instance iC {n:Nat} {α:Type} {c:Bool} {x y x' y':Option α} [LQ x x'] [LQ y y']:LQ ((aJ n).c c x y) (lf.c c x' y'):=⟨mC rfl LQ.h LQ.h⟩
instance iS {n:Nat} {α β:Type} {f g:α->Option β} [∀a,LQ (f a) (g a)] (y:α⊕β):LQ ((aJ n).bT f y) (lf.bT g y):=⟨mS (fun _=>LQ.h) y⟩
instance iL {n:Nat} {σ ρ:Type} {f g:σ->Option (σ⊕ρ)} [∀s,LQ (f s) (g s)] (s:σ):LQ ((aJ n).o f s) (lf.o g s):=⟨mL (fun _=>LQ.h) rfl⟩
set_option synthInstance.maxHeartbeats 0
set_option synthInstance.maxSize 100000
set_option maxRecDepth 100000
noncomputable section
def ZO(x:(Sl (List Int))×Unit):Option ((Sl (List Int))×Unit):=bif Nat.ble x.1.l.length 1&&x.1.l.all uO then some (x.1,()) else none
theorem qxk(_n:Nat):G9 ZO r8:=by
 intro x v h;obtain⟨⟨b,l⟩,u⟩:=x;unfold ZO at h;cases hc:(Nat.ble l.length 1&&l.all uO) with
 |false=>rw[hc] at h;cases h
 |true=>
  rw[hc] at h;injection h with h;subst h;simp only[zd] at hc;have hl:l.length<=1:=zF hc.1;have hm:(l.mergeSort fun a b=>!strLt b a)=l:=by
   match l,hl with
   |[],_=>exact List.mergeSort_nil ..
   |[a],_=>exact List.mergeSort_singleton ..
  have hd:decide (l.length<4611686018427387904)=true:=zo om;show(bif l.all uO&&decide (l.length<4611686018427387904) then _ else none)=_;rw[hc.2,hd,hm];rfl
def Bd(n:Nat):=xR (aJ n)
instance acK (n:Nat):LF (Bd n) nI:=⟨fun x=>by unfold Bd nI xR;exact LQ.h⟩
def Be(n:Nat):=xS (aJ n)
instance acL (n:Nat):LF (Be n) nJ:=⟨fun x=>by unfold Be nJ xS;exact LQ.h⟩
def Bf(n:Nat):=xT (aJ n)
instance acM (n:Nat):LF (Bf n) mg:=⟨fun x=>by unfold Bf mg xT;exact LQ.h⟩
def FC(n:Nat):=xU (aJ n) (Bd n) (Be n) (Bf n)
instance acN (n:Nat):LF (FC n) mh:=⟨fun x=>by unfold FC mh xU;exact LQ.h⟩
def FD(n:Nat):=Dm (aJ n) (FC n)
instance acO (n:Nat):LF (FD n) rP:=⟨fun x=>by unfold FD rP Dm;exact LQ.h⟩
def FE(n:Nat):=Dn (aJ n)
instance acP (n:Nat):LF (FE n) o7:=⟨fun x=>by unfold FE o7 Dn;exact LQ.h⟩
def vF(n:Nat):=xV (aJ n) (FE n)
instance acQ (n:Nat):LF (vF n) iW:=⟨fun x=>by unfold vF iW xV;exact LQ.h⟩
def Je(n:Nat):=Dp (aJ n)
instance acR (n:Nat):LF (Je n) Dq:=⟨fun x=>by unfold Je Dq Dp;exact LQ.h⟩
def Jf(n:Nat):=Dr (aJ n) (Je n)
instance ZP (n:Nat):LF (Jf n) xW:=⟨fun x=>by unfold Jf xW Dr;exact LQ.h⟩
def vG(n:Nat):=xX (aJ n) (vF n) (Jf n)
instance acS (n:Nat):LF (vG n) mi:=⟨fun x=>by unfold vG mi xX;exact LQ.h⟩
def Jg(n:Nat):=xY (aJ n) (FD n) (vG n) (Bd n)
instance acT (n:Nat):LF (Jg n) rQ:=⟨fun x=>by unfold Jg rQ xY;exact LQ.h⟩
def Jh(n:Nat):=xZ (aJ n) (FD n) (vG n) (Be n)
instance acU (n:Nat):LF (Jh n) rR:=⟨fun x=>by unfold Jh rR xZ;exact LQ.h⟩
def Ji(_n:Nat):=mj
instance acV (n:Nat):LF (Ji n) mj:=⟨Ck⟩
def Bg(n:Nat):=ya (aJ n) (Ji n)
instance acW (n:Nat):LF (Bg n) kN:=⟨fun x=>by unfold Bg kN ya;exact LQ.h⟩
def Jj(n:Nat):=Ds (aJ n) (Bg n)
instance acX (n:Nat):LF (Jj n) uY:=⟨fun x=>by unfold Jj uY Ds;exact LQ.h⟩
def Bh(n:Nat):=yc (aJ n)
instance acY (n:Nat):LF (Bh n) ml:=⟨fun x=>by unfold Bh ml yc;exact LQ.h⟩
def nW(n:Nat):=yd (aJ n) (Jg n) (Jh n) (Jj n) (vG n) (Bh n)
instance acZ (n:Nat):LF (nW n) il:=⟨fun x=>by unfold nW il yd;exact LQ.h⟩
def FF(n:Nat):=ye (aJ n) (nW n)
instance ac0 (n:Nat):LF (FF n) kO:=⟨fun x=>by unfold FF kO ye;exact LQ.h⟩
def Jk(n:Nat):=yf (aJ n) (FF n)
instance ac1 (n:Nat):LF (Jk n) o8:=⟨fun x=>by unfold Jk o8 yf;exact LQ.h⟩
def Jl(n:Nat):=Dt (aJ n) (Jk n)
instance ac2 (n:Nat):LF (Jl n) yg:=⟨fun x=>by unfold Jl yg Dt;exact LQ.h⟩
def Jm(n:Nat):=yh (aJ n) (Jl n)
instance ac3 (n:Nat):LF (Jm n) rS:=⟨fun x=>by unfold Jm rS yh;exact LQ.h⟩
def Jn(n:Nat):=yi (aJ n)
instance ac4 (n:Nat):LF (Jn n) o9:=⟨fun x=>by unfold Jn o9 yi;exact LQ.h⟩
def Jo(n:Nat):=Du (aJ n) (Jn n)
instance ac5 (n:Nat):LF (Jo n) yj:=⟨fun x=>by unfold Jo yj Du;exact LQ.h⟩
def vH(n:Nat):=yk (aJ n) (Jo n)
instance ac6 (n:Nat):LF (vH n) kg:=⟨fun x=>by unfold vH kg yk;exact LQ.h⟩
def mu(n:Nat):=Dv (aJ n) (Jm n) (vH n)
instance ac7 (n:Nat):LF (mu n) fK:=⟨fun x=>by unfold mu fK Dv;exact LQ.h⟩
def FG(n:Nat):=yl (aJ n) (nW n)
instance ac8 (n:Nat):LF (FG n) pa:=⟨fun x=>by unfold FG pa yl;exact LQ.h⟩
def Bi(n:Nat):=ym (aJ n) (FG n)
instance ac9 (n:Nat):LF (Bi n) kP:=⟨fun x=>by unfold Bi kP ym;exact LQ.h⟩
def Jp(n:Nat):=yo (aJ n) (Bi n)
instance ada (n:Nat):LF (Jp n) rT:=⟨fun x=>by unfold Jp rT yo;exact LQ.h⟩
def Jq(n:Nat):=Dw (aJ n) (Jp n)
instance adb (n:Nat):LF (Jq n) yp:=⟨fun x=>by unfold Jq yp Dw;exact LQ.h⟩
def Jr(n:Nat):=yq (aJ n) (Jq n)
instance ade (n:Nat):LF (Jr n) nK:=⟨fun x=>by unfold Jr nK yq;exact LQ.h⟩
def FH(n:Nat):=yu (aJ n) (nW n)
instance adf (n:Nat):LF (FH n) pb:=⟨fun x=>by unfold FH pb yu;exact LQ.h⟩
def sV(n:Nat):=Dx (aJ n)
instance adg (n:Nat):LF (sV n) kh:=⟨fun x=>by unfold sV kh Dx;exact LQ.h⟩
def vJ(n:Nat):=yv (aJ n) (sV n)
instance adh (n:Nat):LF (vJ n) kl:=⟨fun x=>by unfold vJ kl yv;exact LQ.h⟩
def Js(n:Nat):=Dy (aJ n) (vJ n)
instance adi (n:Nat):LF (Js n) rU:=⟨fun x=>by unfold Js rU Dy;exact LQ.h⟩
def FI(n:Nat):=yw (aJ n)
instance adk (n:Nat):LF (FI n) nL:=⟨fun x=>by unfold FI nL yw;exact LQ.h⟩
def Jt(n:Nat):=Dz (aJ n)
instance adl (n:Nat):LF (Jt n) DA:=⟨fun x=>by unfold Jt DA Dz;exact LQ.h⟩
def Ju(n:Nat):=yx (aJ n) (Jt n)
instance adm (n:Nat):LF (Ju n) eT:=⟨fun x=>by unfold Ju eT yx;exact LQ.h⟩
def Jv(n:Nat):=yz (aJ n)
instance adn (n:Nat):LF (Jv n) rV:=⟨fun x=>by unfold Jv rV yz;exact LQ.h⟩
def Jw(n:Nat):=DB (aJ n)
instance ado (n:Nat):LF (Jw n) uZ:=⟨fun x=>by unfold Jw uZ DB;exact LQ.h⟩
def Jx(n:Nat):=yA (aJ n)
instance adp (n:Nat):LF (Jx n) rW:=⟨fun x=>by unfold Jx rW yA;exact LQ.h⟩
def Jy(n:Nat):=yB (aJ n) (FG n) (FH n) (Bh n) (FI n) (Ju n) (Jv n) (Jw n) (Jx n)
instance adq (n:Nat):LF (Jy n) rY:=⟨fun x=>by unfold Jy rY yB;exact LQ.h⟩
def Jz(n:Nat):=yC (aJ n) (Jy n)
instance adr (n:Nat):LF (Jz n) pc:=⟨fun x=>by unfold Jz pc yC;exact LQ.h⟩
def Ha(n:Nat)(self:xP):=DC (aJ n) self (Jz n)
def PE(n:Nat):=cM (Ha n) n
instance ads (n:Nat):LF (PE n) yD:=⟨FB (fun _ _ hg x=>by have:=LF.mk hg;unfold Ha kQ DC;exact LQ.h) n⟩
def JA(n:Nat):=yE (aJ n) (sV n)
instance adt (n:Nat):LF (JA n) rZ:=⟨fun x=>by unfold JA rZ yE;exact LQ.h⟩
def FJ(n:Nat):=DE (aJ n)
instance adu (n:Nat):LF (FJ n) r7:=⟨fun x=>by unfold FJ r7 DE;exact LQ.h⟩
def PF(_n:Nat):=ZO
instance adv (n:Nat):LF (PF n) r8:=⟨qxk n⟩
def JB(n:Nat):=DF (aJ n)
instance adw (n:Nat):LF (JB n) r9:=⟨fun x=>by unfold JB r9 DF;exact LQ.h⟩
def JC(n:Nat):=yF (aJ n) (FJ n)
instance adx (n:Nat):LF (JC n) sa:=⟨fun x=>by unfold JC sa yF;exact LQ.h⟩
def JD(n:Nat):=yG (aJ n) (JA n) (FJ n) (PF n) (JB n) (JC n)
instance ady (n:Nat):LF (JD n) pe:=⟨fun x=>by unfold JD pe yG;exact LQ.h⟩
def JE(n:Nat):=DG (aJ n) (sV n) (vJ n) (Js n) (PE n) (JD n) (FI n)
instance adz (n:Nat):LF (JE n) sb:=⟨fun x=>by unfold JE sb DG;exact LQ.h⟩
def Bj(n:Nat):=yH (aJ n) (JE n)
instance adA (n:Nat):LF (Bj n) im:=⟨fun x=>by unfold Bj im yH;exact LQ.h⟩
def FK(n:Nat):=yI (aJ n) (FH n) (Bj n)
instance adB (n:Nat):LF (FK n) kS:=⟨fun x=>by unfold FK kS yI;exact LQ.h⟩
def JF(n:Nat):=yJ (aJ n) (FK n)
instance adC (n:Nat):LF (JF n) sc:=⟨fun x=>by unfold JF sc yJ;exact LQ.h⟩
def JG(n:Nat):=DH (aJ n) (JF n)
instance adD (n:Nat):LF (JG n) yK:=⟨fun x=>by unfold JG yK DH;exact LQ.h⟩
def JH(n:Nat):=yL (aJ n) (JG n)
instance adE (n:Nat):LF (JH n) nM:=⟨fun x=>by unfold JH nM yL;exact LQ.h⟩
def FL(n:Nat):=yM (aJ n) (nW n)
instance adF (n:Nat):LF (FL n) mm:=⟨fun x=>by unfold FL mm yM;exact LQ.h⟩
def JI(n:Nat):=yN (aJ n) (nW n)
instance adG (n:Nat):LF (JI n) se:=⟨fun x=>by unfold JI se yN;exact LQ.h⟩
def JK(n:Nat):=yO (aJ n) (JI n)
instance adH (n:Nat):LF (JK n) si:=⟨fun x=>by unfold JK si yO;exact LQ.h⟩
def JL(n:Nat):=DI (aJ n) (JK n)
instance adI (n:Nat):LF (JL n) yP:=⟨fun x=>by unfold JL yP DI;exact LQ.h⟩
def JM(n:Nat):=yQ (aJ n) (JL n)
instance adJ (n:Nat):LF (JM n) sj:=⟨fun x=>by unfold JM sj yQ;exact LQ.h⟩
def FM(n:Nat):=yR (aJ n) (JM n) (vJ n)
instance adK (n:Nat):LF (FM n) nN:=⟨fun x=>by unfold FM nN yR;exact LQ.h⟩
def JN(n:Nat):=yS (aJ n)
instance adL (n:Nat):LF (JN n) sq:=⟨fun x=>by unfold JN sq yS;exact LQ.h⟩
def JO(n:Nat):=DJ (aJ n) (JN n)
instance adM (n:Nat):LF (JO n) yT:=⟨fun x=>by unfold JO yT DJ;exact LQ.h⟩
def JP(n:Nat):=yU (aJ n) (JO n)
instance adN (n:Nat):LF (JP n) u0:=⟨fun x=>by unfold JP u0 yU;exact LQ.h⟩
def JR(n:Nat):=DK (aJ n)
instance adO (n:Nat):LF (JR n) yV:=⟨fun x=>by unfold JR yV DK;exact LQ.h⟩
def JS(n:Nat):=yW (aJ n) (JR n)
instance adP (n:Nat):LF (JS n) pf:=⟨fun x=>by unfold JS pf yW;exact LQ.h⟩
def JT(n:Nat):=DL (aJ n) (FM n) (JS n)
instance adQ (n:Nat):LF (JT n) u7:=⟨fun x=>by unfold JT u7 DL;exact LQ.h⟩
def JU(n:Nat):=yX (aJ n) (FM n) (JP n) (JT n)
instance adR (n:Nat):LF (JU n) vc:=⟨fun x=>by unfold JU vc yX;exact LQ.h⟩
def JV(n:Nat):=yY (aJ n) (JU n)
instance adS (n:Nat):LF (JV n) pg:=⟨fun x=>by unfold JV pg yY;exact LQ.h⟩
def JW(n:Nat):=DM (aJ n) (JV n)
instance adT (n:Nat):LF (JW n) yZ:=⟨fun x=>by unfold JW yZ DM;exact LQ.h⟩
def JX(n:Nat):=y0 (aJ n) (JW n)
instance adU (n:Nat):LF (JX n) ph:=⟨fun x=>by unfold JX ph y0;exact LQ.h⟩
def JY(n:Nat):=DN (aJ n) (FL n) (JX n)
instance adV (n:Nat):LF (JY n) ve:=⟨fun x=>by unfold JY ve DN;exact LQ.h⟩
def JZ(n:Nat):=y5 (aJ n) (JY n)
instance adW (n:Nat):LF (JZ n) su:=⟨fun x=>by unfold JZ su y5;exact LQ.h⟩
def J0(n:Nat):=DO (aJ n) (JZ n)
instance adX (n:Nat):LF (J0 n) y6:=⟨fun x=>by unfold J0 y6 DO;exact LQ.h⟩
def J1(n:Nat):=y7 (aJ n) (J0 n)
instance adY (n:Nat):LF (J1 n) pj:=⟨fun x=>by unfold J1 pj y7;exact LQ.h⟩
def J2(n:Nat):=y8 (aJ n)
instance adZ (n:Nat):LF (J2 n) sw:=⟨fun x=>by unfold J2 sw y8;exact LQ.h⟩
def J3(n:Nat):=DP (aJ n) (J2 n)
instance ad0 (n:Nat):LF (J3 n) sx:=⟨fun x=>by unfold J3 sx DP;exact LQ.h⟩
def J4(n:Nat):=y9 (aJ n)
instance ad1 (n:Nat):LF (J4 n) sy:=⟨fun x=>by unfold J4 sy y9;exact LQ.h⟩
def J5(n:Nat):=DQ (aJ n) (J4 n)
instance ad2 (n:Nat):LF (J5 n) vf:=⟨fun x=>by unfold J5 vf DQ;exact LQ.h⟩
def J6(n:Nat):=z6 (aJ n) (J5 n)
instance ad3 (n:Nat):LF (J6 n) vg:=⟨fun x=>by unfold J6 vg z6;exact LQ.h⟩
def J7(n:Nat):=z7 (aJ n) (J6 n)
instance ad4 (n:Nat):LF (J7 n) pn:=⟨fun x=>by unfold J7 pn z7;exact LQ.h⟩
def J8(n:Nat):=DR (aJ n) (J7 n)
instance ad5 (n:Nat):LF (J8 n) sA:=⟨fun x=>by unfold J8 sA DR;exact LQ.h⟩
def J9(n:Nat):=z8 (aJ n)
instance ad6 (n:Nat):LF (J9 n) sB:=⟨fun x=>by unfold J9 sB z8;exact LQ.h⟩
def Ka(n:Nat):=DS (aJ n) (J9 n)
instance ad7 (n:Nat):LF (Ka n) Aa:=⟨fun x=>by unfold Ka Aa DS;exact LQ.h⟩
def Kb(n:Nat):=Ab (aJ n) (Ka n)
instance ad8 (n:Nat):LF (Kb n) sC:=⟨fun x=>by unfold Kb sC Ab;exact LQ.h⟩
def Kc(n:Nat):=Ac (aJ n) (Kb n) (FL n)
instance ad9 (n:Nat):LF (Kc n) po:=⟨fun x=>by unfold Kc po Ac;exact LQ.h⟩
def Kd(n:Nat):=DT (aJ n) (Kc n)
instance aea (n:Nat):LF (Kd n) Ad:=⟨fun x=>by unfold Kd Ad DT;exact LQ.h⟩
def Ke(n:Nat):=Ae (aJ n) (Kd n)
instance aeb (n:Nat):LF (Ke n) vh:=⟨fun x=>by unfold Ke vh Ae;exact LQ.h⟩
def Kf(n:Nat):=Af (aJ n) (Ke n)
instance aec (n:Nat):LF (Kf n) pq:=⟨fun x=>by unfold Kf pq Af;exact LQ.h⟩
def Kg(n:Nat):=DU (aJ n) (Kf n)
instance aed (n:Nat):LF (Kg n) Ag:=⟨fun x=>by unfold Kg Ag DU;exact LQ.h⟩
def Kh(n:Nat):=Ah (aJ n) (Kg n)
instance aee (n:Nat):LF (Kh n) vi:=⟨fun x=>by unfold Kh vi Ah;exact LQ.h⟩
def Ki(n:Nat):=Ai (aJ n) (Kh n)
instance aef (n:Nat):LF (Ki n) pr:=⟨fun x=>by unfold Ki pr Ai;exact LQ.h⟩
def Kj(n:Nat):=DV (aJ n) (Ki n)
instance aeg (n:Nat):LF (Kj n) sD:=⟨fun x=>by unfold Kj sD DV;exact LQ.h⟩
def FN(n:Nat):=DW (aJ n) (J1 n) (J3 n) (J8 n) (Kj n)
instance aeh (n:Nat):LF (FN n) kT:=⟨fun x=>by unfold FN kT DW;exact LQ.h⟩
def Kk(n:Nat):=DY (aJ n) (vF n)
instance aei (n:Nat):LF (Kk n) mn:=⟨fun x=>by unfold Kk mn DY;exact LQ.h⟩
def Bk(n:Nat):=DZ (aJ n) (mu n) (Bi n) (Jr n) (JH n) (FN n) (Kk n)
instance aej (n:Nat):LF (Bk n) nO:=⟨fun x=>by unfold Bk nO DZ;exact LQ.h⟩
def Kl(_n:Nat):=Aj
instance aek (n:Nat):LF (Kl n) Aj:=⟨Ck⟩
def FO(n:Nat):=D0 (aJ n) (Kl n)
instance ael (n:Nat):LF (FO n) Ak:=⟨fun x=>by unfold FO Ak D0;exact LQ.h⟩
def Bl(n:Nat):=Al (aJ n)
instance aem (n:Nat):LF (Bl n) kU:=⟨fun x=>by unfold Bl kU Al;exact LQ.h⟩
def FP(n:Nat):=Am (aJ n)
instance aen (n:Nat):LF (FP n) kV:=⟨fun x=>by unfold FP kV Am;exact LQ.h⟩
def Km(n:Nat):=D1 (aJ n) (FP n)
instance aeo (n:Nat):LF (Km n) sE:=⟨fun x=>by unfold Km sE D1;exact LQ.h⟩
def Kn(n:Nat):=D3 (aJ n) (FP n) (Km n)
instance aep (n:Nat):LF (Kn n) pv:=⟨fun x=>by unfold Kn pv D3;exact LQ.h⟩
def PG(_n:Nat):=vj
instance aeq (n:Nat):LF (PG n) vj:=⟨Ck⟩
def FQ(n:Nat):=An (aJ n) (mu n) (Bl n) (FF n) (Kn n) (PG n)
instance aer (n:Nat):LF (FQ n) kW:=⟨fun x=>by unfold FQ kW An;exact LQ.h⟩
def qj(n:Nat):=D4 (aJ n) (sV n)
instance aes (n:Nat):LF (qj n) iq:=⟨fun x=>by unfold qj iq D4;exact LQ.h⟩
def Hb(n:Nat)(self:Dj):=D5 (aJ n) self (qj n)
def PH(n:Nat):=cM (Hb n) n
instance aet (n:Nat):LF (PH n) IW:=⟨FB (fun _ _ hg x=>by have:=LF.mk hg;unfold Hb IV D5;exact LQ.h) n⟩
def Ko(n:Nat):=D6 (aJ n) (PH n)
instance aeu (n:Nat):LF (Ko n) D7:=⟨fun x=>by unfold Ko D7 D6;exact LQ.h⟩
def lr(n:Nat):=D8 (aJ n)
instance aev (n:Nat):LF (lr n) fp:=⟨fun x=>by unfold lr fp D8;exact LQ.h⟩
def Kp(n:Nat):=D9 (aJ n) (lr n)
instance aew (n:Nat):LF (Kp n) Ea:=⟨fun x=>by unfold Kp Ea D9;exact LQ.h⟩
def vK(n:Nat):=Eb (aJ n) (Kp n)
instance aex (n:Nat):LF (vK n) kX:=⟨fun x=>by unfold vK kX Eb;exact LQ.h⟩
def PI(_n:Nat):=Ao
instance aey (n:Nat):LF (PI n) Ao:=⟨Ck⟩
def PJ(_n:Nat):=Ap
instance aez (n:Nat):LF (PJ n) Ap:=⟨Ck⟩
def Bm(n:Nat):=Aq (aJ n) (Bh n) (PI n) (PJ n)
instance aeA (n:Nat):LF (Bm n) ir:=⟨fun x=>by unfold Bm ir Aq;exact LQ.h⟩
def Kq(_n:Nat):=Ar
instance aeB (n:Nat):LF (Kq n) Ar:=⟨Ck⟩
def PK(n:Nat):=vk (aJ n) (Kl n)
theorem q66(n:Nat)(c c':rG->Option rG)[LF c c']:G9 (vk (aJ n) c) (vk lf c'):=fun x=>by unfold vk;exact LQ.h
instance aeC (n:Nat):LF (PK n) IX:=⟨q66 n _ _⟩
def Kr(n:Nat):=Ec (aJ n) (FO n) (Kq n) (PK n)
instance aeD (n:Nat):LF (Kr n) As:=⟨fun x=>by unfold Kr As Ec;exact LQ.h⟩
def FR(n:Nat):=Ed (aJ n) (nW n)
instance aeE (n:Nat):LF (FR n) sF:=⟨fun x=>by unfold FR sF Ed;exact LQ.h⟩
def Ks(n:Nat):=Ee (aJ n) (lr n)
instance aeF (n:Nat):LF (Ks n) Ef:=⟨fun x=>by unfold Ks Ef Ee;exact LQ.h⟩
def FU(n:Nat):=Eg (aJ n) (lr n)
instance aeG (n:Nat):LF (FU n) vm:=⟨fun x=>by unfold FU vm Eg;exact LQ.h⟩
def FV(n:Nat):=Eh (aJ n) (FU n)
instance aeH (n:Nat):LF (FV n) Au:=⟨fun x=>by unfold FV Au Eh;exact LQ.h⟩
def vL(n:Nat):=Ei (aJ n) (Ks n) (FV n)
instance aeI (n:Nat):LF (vL n) kY:=⟨fun x=>by unfold vL kY Ei;exact LQ.h⟩
def sW(n:Nat):=Ej (aJ n) (lr n)
instance aeJ (n:Nat):LF (sW n) km:=⟨fun x=>by unfold sW km Ej;exact LQ.h⟩
def Kt(n:Nat):=Ek (aJ n) (lr n)
instance aeK (n:Nat):LF (Kt n) El:=⟨fun x=>by unfold Kt El Ek;exact LQ.h⟩
def vM(n:Nat):=Em (aJ n) (FV n) (Kt n)
instance aeL (n:Nat):LF (vM n) mo:=⟨fun x=>by unfold vM mo Em;exact LQ.h⟩
def FW(n:Nat):=Eo (aJ n) (sW n) (vM n)
instance aeM (n:Nat):LF (FW n) sG:=⟨fun x=>by unfold FW sG Eo;exact LQ.h⟩
def Hc(n:Nat)(self:Dk):=Ep (aJ n) (qj n) (Bm n) (FR n) self
def PL(n:Nat):=cM (Hc n) n
instance aeN (n:Nat):LF (PL n) Es:=⟨FB (fun _ _ hg x=>by have:=LF.mk hg;unfold Hc IY Ep;exact LQ.h) n⟩
def Bn(n:Nat):=Et (aJ n) (vH n)
instance aeO (n:Nat):LF (Bn n) sH:=⟨fun x=>by unfold Bn sH Et;exact LQ.h⟩
def Bo(n:Nat):=Eu (aJ n) (Bn n)
instance aeP (n:Nat):LF (Bo n) nP:=⟨fun x=>by unfold Bo nP Eu;exact LQ.h⟩
def Ku(n:Nat):=Ew (aJ n) (Bn n)
instance aeQ (n:Nat):LF (Ku n) Av:=⟨fun x=>by unfold Ku Av Ew;exact LQ.h⟩
def ZQ(n:Nat)(self:me):=Tq (aJ n) (qj n) self
instance qpm (n:Nat) {g g'} [LF g g']:LF (ZQ n g) (OO g'):=⟨fun x=>by unfold ZQ OO Tq;exact LQ.h⟩
def ZR(n:Nat)(self:me):=Tt (aJ n) (qj n) self (vK n) (vL n) (FW n) (sW n) (vM n) (PL n)
instance qpn (n:Nat) {g g'} [LF g g']:LF (ZR n g) (OP g'):=⟨fun x=>by unfold ZR OP Tt;exact LQ.h⟩
def TK(n:Nat)(self:me):=Tu (aJ n) self (vK n) (FU n)
instance qrr (n:Nat) {g g'} [LF g g']:LF (TK n g) (IZ g'):=⟨fun x=>by unfold TK IZ Tu;exact LQ.h⟩
def ZS(n:Nat)(self:me):=Tv (aJ n) (Bo n) (TK n self) (Ku n)
instance qrs (n:Nat) {g g'} [LF g g']:LF (ZS n g) (OQ g'):=⟨fun x=>by unfold ZS OQ Tv;exact LQ.h⟩
def ZT(n:Nat)(self:me):=Tw (aJ n) (qj n) (vK n) (vL n) (sW n) (vM n) (Bn n) (ZS n self)
instance qrt (n:Nat) {g g'} [LF g g']:LF (ZT n g) (OR g'):=⟨fun x=>by unfold ZT OR Tw;exact LQ.h⟩
def ZU(n:Nat)(self:me):=Tz (aJ n) (qj n) (vL n) (sW n) (Bo n) (vM n) (TK n self)
instance qru (n:Nat) {g g'} [LF g g']:LF (ZU n g) (OS g'):=⟨fun x=>by unfold ZU OS Tz;exact LQ.h⟩
def Hd(n:Nat)(self:me):=Ey (aJ n) (ZQ n self) (vK n) (Bm n) (Kr n) (FR n) (vL n) (FW n) (sW n) (ZR n self) (Bo n) (ZT n self) (ZU n self)
def PM(n:Nat):=cM (Hd n) n
instance aeR (n:Nat):LF (PM n) I1:=⟨FB (fun _ _ hg x=>by have:=LF.mk hg;unfold Hd I0 Ey;exact LQ.h) n⟩
def Kv(n:Nat):=Ez (aJ n) (mu n) (Bj n) (PM n)
instance aeS (n:Nat):LF (Kv n) EA:=⟨fun x=>by unfold Kv EA Ez;exact LQ.h⟩
def PN(_n:Nat):=EB
instance aeT (n:Nat):LF (PN n) EB:=⟨Ck⟩
def Kw(n:Nat):=EC (aJ n)
instance aeU (n:Nat):LF (Kw n) ED:=⟨fun x=>by unfold Kw ED EC;exact LQ.h⟩
def Kx(n:Nat):=EE (aJ n) (Kw n)
instance aeV (n:Nat):LF (Kx n) EF:=⟨fun x=>by unfold Kx EF EE;exact LQ.h⟩
def Ky(n:Nat):=EG (aJ n) (Kx n)
instance aeW (n:Nat):LF (Ky n) EH:=⟨fun x=>by unfold Ky EH EG;exact LQ.h⟩
def Kz(n:Nat):=EI (aJ n) (Ky n)
instance aeX (n:Nat):LF (Kz n) EJ:=⟨fun x=>by unfold Kz EJ EI;exact LQ.h⟩
def KA(n:Nat):=EK (aJ n) (Kz n)
instance aeY (n:Nat):LF (KA n) EL:=⟨fun x=>by unfold KA EL EK;exact LQ.h⟩
def KB(n:Nat):=EM (aJ n) (vJ n) (KA n)
instance aeZ (n:Nat):LF (KB n) EN:=⟨fun x=>by unfold KB EN EM;exact LQ.h⟩
def KC(_n:Nat):=Aw
instance ae0 (n:Nat):LF (KC n) Aw:=⟨Ck⟩
def KD(n:Nat):=EO (aJ n) (KC n)
instance ae1 (n:Nat):LF (KD n) EP:=⟨fun x=>by unfold KD EP EO;exact LQ.h⟩
def FY(n:Nat):=ER (aJ n) (KD n)
instance ae2 (n:Nat):LF (FY n) vp:=⟨fun x=>by unfold FY vp ER;exact LQ.h⟩
def PO(n:Nat):=vq (aJ n) (KC n)
theorem q5b(n:Nat)(c c':o3->Option o3)[LF c c']:G9 (vq (aJ n) c) (vq lf c'):=fun x=>by unfold vq;exact LQ.h
instance ae3 (n:Nat):LF (PO n) I3:=⟨q5b n _ _⟩
def PQ(_n:Nat):=ES
instance ae4 (n:Nat):LF (PQ n) ES:=⟨Ck⟩
def KE(n:Nat):=ET (aJ n) (FY n) (PO n) (PQ n)
instance ae5 (n:Nat):LF (KE n) Ax:=⟨fun x=>by unfold KE Ax ET;exact LQ.h⟩
def KF(n:Nat):=EU (aJ n)
instance ae6 (n:Nat):LF (KF n) Ay:=⟨fun x=>by unfold KF Ay EU;exact LQ.h⟩
def KG(n:Nat):=EV (aJ n)
instance ae7 (n:Nat):LF (KG n) Az:=⟨fun x=>by unfold KG Az EV;exact LQ.h⟩
def ZV(n:Nat)(self:uU):=TA (aJ n) self
instance qpo (n:Nat) {g g'} [LF g g']:LF (ZV n g) (OV g'):=⟨fun x=>by unfold ZV OV TA;exact LQ.h⟩
def He(n:Nat)(self:uU):=EW (aJ n) (sV n) (ZV n self) (FY n) (KE n) (KF n) (KG n)
def PU(n:Nat):=cM (He n) n
instance ae8 (n:Nat):LF (PU n) I5:=⟨FB (fun _ _ hg x=>by have:=LF.mk hg;unfold He I4 EW;exact LQ.h) n⟩
def KH(n:Nat):=EX (aJ n) (PN n) (KB n) (PU n)
instance ae9 (n:Nat):LF (KH n) EY:=⟨fun x=>by unfold KH EY EX;exact LQ.h⟩
def KI(n:Nat):=EZ (aJ n) (Kv n) (KH n)
instance afa (n:Nat):LF (KI n) E0:=⟨fun x=>by unfold KI E0 EZ;exact LQ.h⟩
def KJ(n:Nat):=E1 (aJ n) (nW n)
instance afb (n:Nat):LF (KJ n) E2:=⟨fun x=>by unfold KJ E2 E1;exact LQ.h⟩
def KK(n:Nat):=E3 (aJ n)
instance afc (n:Nat):LF (KK n) E4:=⟨fun x=>by unfold KK E4 E3;exact LQ.h⟩
def KL(n:Nat):=E5 (aJ n) (Bk n) (mu n) (FO n) (Bl n) (FQ n) (Ko n) (KI n) (KJ n) (KK n) (Kq n)
instance afd (n:Nat):LF (KL n) E6:=⟨fun x=>by unfold KL E6 E5;exact LQ.h⟩
def KM(n:Nat):=AA (aJ n)
instance afe (n:Nat):LF (KM n) sI:=⟨fun x=>by unfold KM sI AA;exact LQ.h⟩
def KN(n:Nat):=E7 (aJ n) (KM n)
instance aff (n:Nat):LF (KN n) sJ:=⟨fun x=>by unfold KN sJ E7;exact LQ.h⟩
def KO(n:Nat):=E8 (aJ n) (FC n)
instance afg (n:Nat):LF (KO n) vr:=⟨fun x=>by unfold KO vr E8;exact LQ.h⟩
def KP(n:Nat):=E9 (aJ n) (Bg n)
instance afh (n:Nat):LF (KP n) vu:=⟨fun x=>by unfold KP vu E9;exact LQ.h⟩
def KQ(n:Nat):=Fa (aJ n) (Bf n)
instance afi (n:Nat):LF (KQ n) vv:=⟨fun x=>by unfold KQ vv Fa;exact LQ.h⟩
def KR(n:Nat):=AB (aJ n) (vG n)
instance afj (n:Nat):LF (KR n) nQ:=⟨fun x=>by unfold KR nQ AB;exact LQ.h⟩
def FZ(n:Nat):=AD (aJ n)
instance afk (n:Nat):LF (FZ n) sK:=⟨fun x=>by unfold FZ sK AD;exact LQ.h⟩
def KS(n:Nat):=AE (aJ n) (FZ n)
instance afl (n:Nat):LF (KS n) sL:=⟨fun x=>by unfold KS sL AE;exact LQ.h⟩
def KT(n:Nat):=AF (aJ n) (FZ n)
instance afm (n:Nat):LF (KT n) vw:=⟨fun x=>by unfold KT vw AF;exact LQ.h⟩
def KU(n:Nat):=AG (aJ n) (KT n)
instance afn (n:Nat):LF (KU n) sM:=⟨fun x=>by unfold KU sM AG;exact LQ.h⟩
def KV(n:Nat):=Fb (aJ n) (Bm n) (KU n)
instance afo (n:Nat):LF (KV n) pw:=⟨fun x=>by unfold KV pw Fb;exact LQ.h⟩
def KW(n:Nat):=Fc (aJ n) (Ji n)
instance afp (n:Nat):LF (KW n) vz:=⟨fun x=>by unfold KW vz Fc;exact LQ.h⟩
def KX(n:Nat):=AH (aJ n) (KO n) (KP n) (KQ n) (Bd n) (Be n) (Bg n) (KR n) (KS n) (Bf n) (KV n) (KW n)
instance afq (n:Nat):LF (KX n) px:=⟨fun x=>by unfold KX px AH;exact LQ.h⟩
def F0(n:Nat):=Fe (aJ n) (KN n) (KX n)
instance afr (n:Nat):LF (F0 n) py:=⟨fun x=>by unfold F0 py Fe;exact LQ.h⟩
def KY(n:Nat):=AI (aJ n)
instance afs (n:Nat):LF (KY n) iu:=⟨fun x=>by unfold KY iu AI;exact LQ.h⟩
def mv(n:Nat):=AJ (aJ n)
instance aft (n:Nat):LF (mv n) fq:=⟨fun x=>by unfold mv fq AJ;exact LQ.h⟩
def nX(n:Nat):=AK (aJ n) (mv n)
instance afu (n:Nat):LF (nX n) cj:=⟨fun x=>by unfold nX cj AK;exact LQ.h⟩
def KZ(n:Nat):=AL (aJ n) (nX n)
instance afv (n:Nat):LF (KZ n) pz:=⟨fun x=>by unfold KZ pz AL;exact LQ.h⟩
def K0(n:Nat):=AM (aJ n) (FE n)
instance afw (n:Nat):LF (K0 n) nR:=⟨fun x=>by unfold K0 nR AM;exact LQ.h⟩
def K1(n:Nat):=AP (aJ n) (mv n)
instance afx (n:Nat):LF (K1 n) nS:=⟨fun x=>by unfold K1 nS AP;exact LQ.h⟩
def K3(n:Nat):=Fg (aJ n)
instance afy (n:Nat):LF (K3 n) pA:=⟨fun x=>by unfold K3 pA Fg;exact LQ.h⟩
def qk(n:Nat)(self:kf):=AO (aJ n) (nX n) (mv n) (K0 n) self
instance PV (n:Nat) {g g'} [LF g g']:LF (qk n g) (gu g'):=⟨fun x=>by unfold qk gu AO;exact LQ.h⟩
def tX(n:Nat)(self:kf):=Ff (aJ n) (qk n self) (K1 n)
instance PW (n:Nat) {g g'} [LF g g']:LF (tX n g) (ko g'):=⟨fun x=>by unfold tX ko Ff;exact LQ.h⟩
def Hf(n:Nat)(self:kf):=AQ (aJ n) (nX n) (mv n) (qk n self) (tX n self) (lr n) self (K3 n)
def K4(n:Nat):=cM (Hf n) n
instance afz (n:Nat):LF (K4 n) nU:=⟨FB (fun _ _ hg x=>by have:=LF.mk hg;unfold Hf mq AQ;exact LQ.h) n⟩
def PY(n:Nat):=qk n (K4 n)
instance afA (n:Nat):LF (PY n) Fh:=PV n
def PZ(n:Nat):=tX n (K4 n)
instance afB (n:Nat):LF (PZ n) Fi:=PW n
def K5(n:Nat):=AR (aJ n) (nX n) (mv n) (PY n) (PZ n)
instance afC (n:Nat):LF (K5 n) jJ:=⟨fun x=>by unfold K5 jJ AR;exact LQ.h⟩
def K6(n:Nat):=Fj (aJ n) (vF n) (nX n) (mv n) (K5 n)
instance afD (n:Nat):LF (K6 n) sN:=⟨fun x=>by unfold K6 sN Fj;exact LQ.h⟩
def K7(n:Nat):=AS (aJ n) (nX n) (mv n)
instance afE (n:Nat):LF (K7 n) nV:=⟨fun x=>by unfold K7 nV AS;exact LQ.h⟩
def nY(n:Nat):=AT (aJ n)
instance afF (n:Nat):LF (nY n) fy:=⟨fun x=>by unfold nY fy AT;exact LQ.h⟩
def nZ(n:Nat):=AU (aJ n)
instance afG (n:Nat):LF (nZ n) fL:=⟨fun x=>by unfold nZ fL AU;exact LQ.h⟩
def lu(n:Nat):=AV (aJ n) (vF n)
instance afH (n:Nat):LF (lu n) cU:=⟨fun x=>by unfold lu cU AV;exact LQ.h⟩
def K8(n:Nat):=AW (aJ n) (vH n)
instance afI (n:Nat):LF (K8 n) pB:=⟨fun x=>by unfold K8 pB AW;exact LQ.h⟩
def K9(n:Nat):=Fk (aJ n) (K8 n)
instance afJ (n:Nat):LF (K9 n) pC:=⟨fun x=>by unfold K9 pC Fk;exact LQ.h⟩
def ql(n:Nat):=AX (aJ n)
instance afK (n:Nat):LF (ql n) fA:=⟨fun x=>by unfold ql fA AX;exact LQ.h⟩
def n5(n:Nat):=AY (aJ n) (lr n)
instance afL (n:Nat):LF (n5 n) cN:=⟨fun x=>by unfold n5 cN AY;exact LQ.h⟩
def qm(n:Nat):=AZ (aJ n) (nY n) (nZ n) (lu n)
instance afM (n:Nat):LF (qm n) fc:=⟨fun x=>by unfold qm fc AZ;exact LQ.h⟩
def F1(n:Nat):=A0 (aJ n) (lu n)
instance afN (n:Nat):LF (F1 n) kp:=⟨fun x=>by unfold F1 kp A0;exact LQ.h⟩
def F2(n:Nat):=A1 (aJ n) (nY n) (nZ n) (lu n) (ql n) (qm n)
instance afO (n:Nat):LF (F2 n) iX:=⟨fun x=>by unfold F2 iX A1;exact LQ.h⟩
def ZW(n:Nat)(self:eh):=OW (aJ n) self (lr n) (lu n) (ql n) (F2 n) (n5 n) (qm n)
instance qn8 (n:Nat) {g g'} [LF g g']:LF (ZW n g) (mY g'):=⟨fun x=>by unfold ZW mY OW;exact LQ.h⟩
def ZX(n:Nat)(self:eh):=TB (aJ n) (lu n) (ql n) (n5 n) (ZW n self)
instance qpp (n:Nat) {g g'} [LF g g']:LF (ZX n g) (Fl g'):=⟨fun x=>by unfold ZX Fl TB;exact LQ.h⟩
def Hg(n:Nat)(self:eh):=A2 (aJ n) (nY n) (nZ n) (ZX n self)
def P0(n:Nat):=cM (Hg n) n
instance afP (n:Nat):LF (P0 n) gO:=⟨FB (fun _ _ hg x=>by have:=LF.mk hg;unfold Hg jK A2;exact LQ.h) n⟩
def P1(_n:Nat):=sP
instance afQ (n:Nat):LF (P1 n) sP:=⟨Ck⟩
def La(n:Nat):=Fo (aJ n) (P1 n)
instance afR (n:Nat):LF (La n) sQ:=⟨fun x=>by unfold La sQ Fo;exact LQ.h⟩
def Lb(n:Nat):=A3 (aJ n) (La n)
instance afS (n:Nat):LF (Lb n) mr:=⟨fun x=>by unfold Lb mr A3;exact LQ.h⟩
def Lc(n:Nat):=Fp (aJ n) (mu n) (vH n) (Lb n)
instance afT (n:Nat):LF (Lc n) kZ:=⟨fun x=>by unfold Lc kZ Fp;exact LQ.h⟩
def Hh(n:Nat)(self:Dl):=A4 (aJ n) (n5 n) self
def P2(n:Nat):=cM (Hh n) n
instance afU (n:Nat):LF (P2 n) sR:=⟨FB (fun _ _ hg x=>by have:=LF.mk hg;unfold Hh pD A4;exact LQ.h) n⟩
def TL(n:Nat)(self:eh):=OX (aJ n) self (qm n)
instance qlb (n:Nat) {g g'} [LF g g']:LF (TL n g) (sO g'):=⟨fun x=>by unfold TL sO OX;exact LQ.h⟩
def ZY(n:Nat)(self:eh):=TC (aJ n) self (P0 n) (lu n) (n5 n) (TL n self) (qm n)
instance qn9 (n:Nat) {g g'} [LF g g']:LF (ZY n g) (Fm g'):=⟨fun x=>by unfold ZY Fm TC;exact LQ.h⟩
def ZZ(n:Nat)(self:eh):=OY (aJ n) self (nY n) (nZ n) (lr n) (lu n) (ql n) (n5 n) (qm n) (F1 n) (ZY n self)
instance qoa (n:Nat) {g g'} [LF g g']:LF (ZZ n g) (vA g'):=⟨fun x=>by unfold ZZ vA OY;exact LQ.h⟩
def Z0(n:Nat)(self:eh):=TD (aJ n) (n5 n) (ZZ n self) (F1 n)
instance qpq (n:Nat) {g g'} [LF g g']:LF (Z0 n g) (wN g'):=⟨fun x=>by unfold Z0 wN TD;exact LQ.h⟩
def Z1(n:Nat)(self:eh):=TE (aJ n) (K9 n) (nY n) (nZ n) (lu n) (ql n) (Z0 n self) (Lc n) (P2 n)
instance qpr (n:Nat) {g g'} [LF g g']:LF (Z1 n g) (Fq g'):=⟨fun x=>by unfold Z1 Fq TE;exact LQ.h⟩
def Z2(n:Nat)(self:eh):=OZ (aJ n) self (lu n) (Z1 n self) (ql n) (F2 n) (n5 n) (TL n self) (qm n)
instance qob (n:Nat) {g g'} [LF g g']:LF (Z2 n g) (Ch g'):=⟨fun x=>by unfold Z2 Ch OZ;exact LQ.h⟩
def Z3(n:Nat)(self:eh):=O0 (aJ n) (nY n) (nZ n) (Z2 n self)
instance qoc (n:Nat) {g g'} [LF g g']:LF (Z3 n g) (Ci g'):=⟨fun x=>by unfold Z3 Ci O0;exact LQ.h⟩
def Hi(n:Nat)(self:eh):=A5 (aJ n) (Z3 n self)
def P3(n:Nat):=cM (Hi n) n
instance afV (n:Nat):LF (P3 n) sS:=⟨FB (fun _ _ hg x=>by have:=LF.mk hg;unfold Hi jL A5;exact LQ.h) n⟩
def Ld(n:Nat):=A6 (aJ n) (mu n) (Bj n) (P3 n) (nY n) (nZ n)
instance afW (n:Nat):LF (Ld n) iY:=⟨fun x=>by unfold Ld iY A6;exact LQ.h⟩
def Le(n:Nat):=A7 (aJ n) (mu n) (FQ n) (Bi n) (FK n) (FN n) (KY n) (nX n) (KZ n) (K6 n) (mv n) (K7 n) (Ld n)
instance afX (n:Nat):LF (Le n) pE:=⟨fun x=>by unfold Le pE A7;exact LQ.h⟩
def Lg(n:Nat):=Fs (aJ n) (Bk n) (mu n) (Bl n) (F0 n) (Le n)
instance afY (n:Nat):LF (Lg n) sT:=⟨fun x=>by unfold Lg sT Fs;exact LQ.h⟩
def Lh(n:Nat):=Ft (aJ n) (F0 n)
instance afZ (n:Nat):LF (Lh n) Fu:=⟨fun x=>by unfold Lh Fu Ft;exact LQ.h⟩
def Z4(n:Nat):=TF (aJ n) (KL n) (Bk n) (Lg n) (Lh n)
instance qks (n:Nat):LF (Z4 n) MN:=⟨fun x=>by unfold Z4 MN TF;exact LQ.h⟩
theorem z6m:Z4 300 ()=some (true,()):=by kernel_rfl
theorem qrv:MN ()=some (true,()):=(qks 300).h _ _ z6m
end
end Fn
end Ev