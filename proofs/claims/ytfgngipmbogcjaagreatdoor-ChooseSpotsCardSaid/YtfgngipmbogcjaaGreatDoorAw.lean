/- The example of the chapter, reckoned by the kernel: loops and calls that end soon. No statement of its own about the program. -/
import Derived.Test.YtfgngipmbogcjaaGreatDoorFnA
import Derived.KernelRfl
namespace Ev
open Go
namespace Fn
def lq{α:Type}(a b:Option α):Prop:=∀v,a=some v->b=some v
theorem bH{α:Type}(a:Option α):lq a a:=fun _ h=>h
def bA{α β:Type}(f g:α->Option β):Prop:=∀x,lq (f x) (g x)
theorem MF{α β:Type}{f:α->Option β}:bA f f:=fun _=>bH _
@[reducible] noncomputable def bI(n:Nat):Lf:={lf with o:=fun f s=>mc f n s}
theorem WT{σ ρ:Type}{f g:σ->Option (σ⊕ρ)}(h:∀s,lq (f s) (g s)):∀(n:Nat) (s:σ) (r:ρ),mc f n s=some r->mc g n s=some r
 |0,_,_,e=>by cases e
 |n+1,s,r,e=>by
  unfold mc at e ⊢;cases hf:f s with
  |none=>rw[hf] at e;cases e
  |some v=>rw[hf] at e;rw[h s v hf];cases v with
   |inl s'=>exact WT h n s' r e
   |inr r'=>exact e
theorem mB{n:Nat}{α β:Type}{x y:Option α}{f g:α->Option β}(h:lq x y)(h2:∀a,lq (f a) (g a)):lq ((bI n).b x f) (lf.b y g):=by
 intro v e;show ag y g=some v;have e:ag x f=some v:=e;cases hx:x with
 |none=>rw[hx] at e;cases e
 |some a=>rw[hx] at e;rw[h a hx];exact h2 a v e
theorem mC{n:Nat}{α:Type}{c c':Bool}{x y x' y':Option α}(hc:c=c')(h:lq x x')(h2:lq y y'):lq ((bI n).c c x y) (lf.c c' x' y'):=by
 subst hc;cases c with
 |true=>exact h
 |false=>exact h2
theorem mA{α β:Type}{f g:α->Option β}(h:bA f g){a a':α}(e:a=a'):lq (f a) (g a'):=by subst e;exact h a
theorem mS{n:Nat}{α β:Type}{f g:α->Option β}(h:∀a,lq (f a) (g a))(y:α⊕β):lq ((bI n).ga f y) (lf.ga g y):=by
 cases y with
 |inl a=>exact h a
 |inr b=>exact bH _
theorem mL{n:Nat}{σ ρ:Type}{f g:σ->Option (σ⊕ρ)}(h:∀s,lq (f s) (g s)){s s':σ}(hs:s=s'):lq ((bI n).o f s) (lf.o g s'):=by subst hs;exact fun r e=>J4 n (WT h n s r e)
theorem mF{n:Nat}{a a':Int}(h:a=a'):lq ((bI n).f a) (lf.f a'):=by rw[h];exact bH (fit a')
theorem mK{n:Nat}{a b a' b':Int}(h:a=a')(h2:b=b'):lq ((bI n).sS a b) (lf.sS a' b'):=by rw[h,h2];exact bH (sS a' b')
theorem Kh{α β:Type}{F G:(α->Option β)->α->Option β}(h1:∀g g':α->Option β,bA g g'->bA (F g) (G g'))(n:Nat):bA (aU F n) (fJ G):=by
 have aux:∀(n m:Nat),n<=m->∀x,lq (aU F n x) (aU G m x):=by
  intro n
  induction n with
  |zero=>intro m _ x v e;cases e
  |succ n ih=>
   intro m hm x;cases m with
   |zero=>omega
   |succ m=>exact h1 _ _ (fun x=>ih m om x) x
 intro x v e;exact tG n (fun m hm=>aux n m hm x v e)
noncomputable section
def z6y:List (List Int)->Bool
 |[]=>true
 |[_]=>true
 |[a,b]=>!strLt b a
 |_=>false
def WU(x:(Sl (List Int))×Unit):Option ((Sl (List Int))×Unit):=bif z6y x.1.l&&x.1.l.all wK then some (x.1,()) else none
theorem qx0(_n:Nat):bA WU tX:=by
 intro x v h;obtain⟨⟨b,l⟩,u⟩:=x;unfold WU at h;cases hc:(z6y l&&l.all wK) with
 |false=>rw[hc] at h;cases h
 |true=>
  rw[hc] at h;injection h with h;subst h;simp only[zd] at hc;have he:l.length<=2/\(l.mergeSort fun a b=>!strLt b a)=l:=by
   have h0:=hc.1
   match l,h0 with
   |[],_=>exact⟨by simp,List.mergeSort_nil ..⟩
   |[a],_=>exact⟨by simp,List.mergeSort_singleton ..⟩
   |[a,b],h=>exact⟨by simp,List.mergeSort_of_pairwise (List.pairwise_pair.2 h)⟩
  obtain⟨hl,hm⟩:=he;have hd:decide (l.length<4611686018427387904)=true:=zn om;show(bif l.all wK&&decide (l.length<4611686018427387904) then _ else none)=_;rw[hc.2,hd,hm];rfl
def oQ(n:Nat):=C2 (bI n)
theorem sH(n:Nat):bA (oQ n) fL:=fun x=>by unfold oQ fL C2;repeat (first|with_reducible (first|refine mB ?_ fun _=>?_|refine mC ?_ ?_ ?_|refine mL (fun _=>?_) ?_)|exact rfl|exact bH _)
def uL(n:Nat):=yG (bI n) (oQ n)
theorem Bp(n:Nat):bA (uL n) lF:=fun x=>by unfold uL lF yG;repeat (first|with_reducible (first|refine mB ?_ fun _=>?_|refine mC ?_ ?_ ?_|refine mA (sH n) ?_)|exact rfl|exact bH _)
def GY(n:Nat):=C3 (bI n) (uL n)
theorem WV(n:Nat):bA (GY n) tJ:=fun x=>by unfold GY tJ C3;repeat (first|with_reducible (first|refine mB ?_ fun _=>?_|refine mC ?_ ?_ ?_|refine mL (fun _=>?_) ?_|refine mF ?_|refine mA (Bp n) ?_)|exact rfl|exact bH _)
def Bq(n:Nat):=yH (bI n)
theorem GZ(n:Nat):bA (Bq n) pX:=fun x=>by unfold Bq pX yH;repeat (first|with_reducible refine mB ?_ fun _=>?_|exact bH _)
def Ed(n:Nat):=yI (bI n)
theorem MG(n:Nat):bA (Ed n) qR:=fun x=>by unfold Ed qR yI;repeat (first|with_reducible (first|refine mB ?_ fun _=>?_|refine mC ?_ ?_ ?_)|exact rfl|exact bH _)
def Ee(n:Nat):=yJ (bI n)
theorem MH(n:Nat):bA (Ee n) qS:=fun x=>by unfold Ee qS yJ;repeat (first|with_reducible (first|refine mB ?_ fun _=>?_|refine mC ?_ ?_ ?_)|exact rfl|exact bH _)
def G0(n:Nat):=yK (bI n)
theorem WW(n:Nat):bA (G0 n) tK:=fun x=>by unfold G0 tK yK;repeat (first|with_reducible (first|refine mB ?_ fun _=>?_|refine mC ?_ ?_ ?_)|exact rfl|exact bH _)
def G1(n:Nat):=yL (bI n) (Ed n) (Ee n) (G0 n)
theorem WX(n:Nat):bA (G1 n) qT:=fun x=>by unfold G1 qT yL;repeat (first|with_reducible (first|refine mB ?_ fun _=>?_|refine mC ?_ ?_ ?_|refine mA (MG n) ?_|refine mA (MH n) ?_|refine mA (WW n) ?_)|exact rfl|exact bH _)
def Ef(n:Nat):=C4 (bI n) (G1 n)
theorem MI(n:Nat):bA (Ef n) tL:=fun x=>by unfold Ef tL C4;repeat (first|with_reducible (first|refine mB ?_ fun _=>?_|refine mC ?_ ?_ ?_|refine mL (fun _=>?_) ?_|refine mA (WX n) ?_)|exact rfl|exact bH _)
def G2(n:Nat):=C5 (bI n)
theorem WY(n:Nat):bA (G2 n) yM:=fun x=>by unfold G2 yM C5;repeat (first|with_reducible (first|refine mB ?_ fun _=>?_|refine mC ?_ ?_ ?_|refine mL (fun _=>?_) ?_)|exact rfl|exact bH _)
def G3(n:Nat):=yN (bI n) (G2 n)
theorem WZ(n:Nat):bA (G3 n) wQ:=fun x=>by unfold G3 wQ yN;repeat (first|with_reducible (first|refine mB ?_ fun _=>?_|refine mA (WY n) ?_)|exact rfl|exact bH _)
def G4(n:Nat):=C6 (bI n)
set_option maxRecDepth 100000 in
theorem W4(n:Nat):bA (G4 n) tM:=fun x=>by unfold G4 tM C6;repeat (first|with_reducible (first|refine mB ?_ fun _=>?_|refine mC ?_ ?_ ?_|refine mL (fun _=>?_) ?_|refine mS (fun _=>?_) _|refine mK ?_ ?_)|exact rfl|exact bH _)
def G5(n:Nat):=yO (bI n) (G4 n)
theorem W5(n:Nat):bA (G5 n) tN:=fun x=>by unfold G5 tN yO;repeat (first|with_reducible (first|refine mB ?_ fun _=>?_|refine mA (W4 n) ?_)|exact rfl|exact bH _)
def Br(n:Nat):=yP (bI n) (G3 n) (G5 n)
theorem G6(n:Nat):bA (Br n) pY:=fun x=>by unfold Br pY yP;repeat (first|with_reducible (first|refine mB ?_ fun _=>?_|refine mA (WZ n) ?_|refine mA (W5 n) ?_)|exact rfl|exact bH _)
def G7(n:Nat):=yQ (bI n) (Ef n) (Br n) (Ed n)
theorem W6(n:Nat):bA (G7 n) tO:=fun x=>by unfold G7 tO yQ;repeat (first|with_reducible (first|refine mB ?_ fun _=>?_|refine mC ?_ ?_ ?_|refine mA (MI n) ?_|refine mA (G6 n) ?_|refine mA (MG n) ?_)|exact rfl|exact bH _)
def G8(n:Nat):=yR (bI n) (Ef n) (Br n) (Ee n)
theorem W7(n:Nat):bA (G8 n) tP:=fun x=>by unfold G8 tP yR;repeat (first|with_reducible (first|refine mB ?_ fun _=>?_|refine mC ?_ ?_ ?_|refine mA (MI n) ?_|refine mA (G6 n) ?_|refine mA (MH n) ?_)|exact rfl|exact bH _)
def MJ(_n:Nat):=yS
theorem W8(n:Nat):bA (MJ n) yS:=MF
def G9(n:Nat):=yT (bI n) (MJ n)
theorem W9(n:Nat):bA (G9 n) qU:=fun x=>by unfold G9 qU yT;repeat (first|with_reducible (first|refine mB ?_ fun _=>?_|refine mA (W8 n) ?_)|exact rfl|exact bH _)
def Ha(n:Nat):=C7 (bI n) (G9 n)
theorem Xa(n:Nat):bA (Ha n) wR:=fun x=>by unfold Ha wR C7;repeat (first|with_reducible (first|refine mB ?_ fun _=>?_|refine mC ?_ ?_ ?_|refine mL (fun _=>?_) ?_|refine mA (W9 n) ?_)|exact rfl|exact bH _)
def xj(n:Nat):=yU (bI n) (Bq n) (G7 n) (G8 n) (Ha n) (Br n)
theorem Eg(n:Nat):bA (xj n) mM:=fun x=>by unfold xj mM yU;repeat (first|with_reducible (first|refine mB ?_ fun _=>?_|refine mC ?_ ?_ ?_|refine mA (GZ n) ?_|refine mA (W6 n) ?_|refine mA (W7 n) ?_|refine mA (Xa n) ?_|refine mA (G6 n) ?_)|exact rfl|exact bH _)
def Bs(n:Nat):=yV (bI n) (xj n)
theorem Hb(n:Nat):bA (Bs n) mN:=fun x=>by unfold Bs mN yV;repeat (first|with_reducible (first|refine mB ?_ fun _=>?_|refine mA (Eg n) ?_)|exact rfl|exact bH _)
def Eh(n:Nat):=yW (bI n)
theorem MK(n:Nat):bA (Eh n) pZ:=fun x=>by unfold Eh pZ yW;repeat (first|with_reducible (first|refine mB ?_ fun _=>?_|refine mC ?_ ?_ ?_)|exact rfl|exact bH _)
def Hc(n:Nat):=C8 (bI n)
theorem Xb(n:Nat):bA (Hc n) C9:=fun x=>by unfold Hc C9 C8;exact bH _
def Hd(n:Nat):=yX (bI n) (Hc n)
theorem Xc(n:Nat):bA (Hd n) fo:=fun x=>by unfold Hd fo yX;repeat (first|with_reducible (first|refine mB ?_ fun _=>?_|refine mC ?_ ?_ ?_|refine mA (Xb n) ?_)|exact rfl|exact bH _)
def He(n:Nat):=yY (bI n) (xj n)
theorem Xd(n:Nat):bA (He n) tQ:=fun x=>by unfold He tQ yY;repeat (first|with_reducible (first|refine mB ?_ fun _=>?_|refine mC ?_ ?_ ?_|refine mA (Eg n) ?_)|exact rfl|exact bH _)
def Hf(n:Nat):=yZ (bI n)
theorem Xe(n:Nat):bA (Hf n) tR:=fun x=>by unfold Hf tR yZ;repeat (first|with_reducible (first|refine mB ?_ fun _=>?_|refine mC ?_ ?_ ?_)|exact rfl|exact bH _)
def Hg(n:Nat):=Da (bI n)
theorem Xf(n:Nat):bA (Hg n) wS:=fun x=>by unfold Hg wS Da;exact bH _
def Hh(n:Nat):=y0 (bI n)
theorem Xg(n:Nat):bA (Hh n) tS:=fun x=>by unfold Hh tS y0;exact bH _
def Hi(n:Nat):=y5 (bI n) (Bs n) (Eh n) (Bq n) (Hd n) (He n) (Hf n) (Hg n) (Hh n)
set_option maxRecDepth 100000 in
theorem Xh(n:Nat):bA (Hi n) tU:=fun x=>by unfold Hi tU y5;repeat (first|with_reducible (first|refine mB ?_ fun _=>?_|refine mC ?_ ?_ ?_|refine mA (Hb n) ?_|refine mA (MK n) ?_|refine mA (GZ n) ?_|refine mA (Xc n) ?_|refine mA (Xd n) ?_|refine mA (Xe n) ?_|refine mA (Xf n) ?_|refine mA (Xg n) ?_)|exact rfl|exact bH _)
def Hj(n:Nat):=y6 (bI n) (Hi n)
theorem Xi(n:Nat):bA (Hj n) qV:=fun x=>by unfold Hj qV y6;repeat (first|with_reducible (first|refine mB ?_ fun _=>?_|refine mA (Xh n) ?_)|exact rfl|exact bH _)
def FB(n:Nat)(self:yC):=Db (bI n) self (Hj n)
def ML(n:Nat):=aU (FB n) n
theorem Xj(n:Nat):bA (ML n) y7:=Kh (fun _ _ hg x=>by unfold FB nD Db;repeat (first|with_reducible (first|refine mB ?_ fun _=>?_|refine mC ?_ ?_ ?_|refine mL (fun _=>?_) ?_|refine mA hg ?_|refine mA (Xi n) ?_)|exact rfl|exact bH _)) n
def Hk(n:Nat):=y8 (bI n) (oQ n)
theorem Xk(n:Nat):bA (Hk n) tV:=fun x=>by unfold Hk tV y8;repeat (first|with_reducible (first|refine mB ?_ fun _=>?_|refine mC ?_ ?_ ?_|refine mK ?_ ?_|refine mA (sH n) ?_)|exact rfl|exact bH _)
def Ei(n:Nat):=Dc (bI n)
theorem MM(n:Nat):bA (Ei n) tW:=fun x=>by unfold Ei tW Dc;repeat (first|with_reducible (first|refine mB ?_ fun _=>?_|refine mC ?_ ?_ ?_|refine mL (fun _=>?_) ?_|refine mF ?_)|exact rfl|exact bH _)
def MN(_n:Nat):=WU
theorem Xl(n:Nat):bA (MN n) tX:=qx0 n
def Hl(n:Nat):=Dd (bI n)
theorem Xm(n:Nat):bA (Hl n) tY:=fun x=>by unfold Hl tY Dd;repeat (first|with_reducible (first|refine mB ?_ fun _=>?_|refine mC ?_ ?_ ?_|refine mL (fun _=>?_) ?_)|exact rfl|exact bH _)
def Hm(n:Nat):=y9 (bI n) (Ei n)
theorem Xn(n:Nat):bA (Hm n) tZ:=fun x=>by unfold Hm tZ y9;repeat (first|with_reducible (first|refine mB ?_ fun _=>?_|refine mA (MM n) ?_)|exact rfl|exact bH _)
def Hn(n:Nat):=z6 (bI n) (Hk n) (Ei n) (MN n) (Hl n) (Hm n)
theorem Xo(n:Nat):bA (Hn n) qW:=fun x=>by unfold Hn qW z6;repeat (first|with_reducible (first|refine mB ?_ fun _=>?_|refine mA (Xk n) ?_|refine mA (MM n) ?_|refine mA (Xl n) ?_|refine mA (Xm n) ?_|refine mA (Xn n) ?_)|exact rfl|exact bH _)
def Ho(n:Nat):=De (bI n) (uL n) (oQ n) (GY n) (ML n) (Hn n) (Eh n)
theorem Xp(n:Nat):bA (Ho n) ua:=fun x=>by unfold Ho ua De;repeat (first|with_reducible (first|refine mB ?_ fun _=>?_|refine mC ?_ ?_ ?_|refine mL (fun _=>?_) ?_|refine mS (fun _=>?_) _|refine mA (Bp n) ?_|refine mA (sH n) ?_|refine mA (WV n) ?_|refine mA (Xj n) ?_|refine mA (Xo n) ?_|refine mA (MK n) ?_)|exact rfl|exact bH _)
def Bt(n:Nat):=z7 (bI n) (Ho n)
theorem Hp(n:Nat):bA (Bt n) nE:=fun x=>by unfold Bt nE z7;repeat (first|with_reducible (first|refine mB ?_ fun _=>?_|refine mA (Xp n) ?_)|exact rfl|exact bH _)
def Hq(n:Nat):=z8 (bI n)
theorem Xq(n:Nat):bA (Hq n) ub:=fun x=>by unfold Hq ub z8;exact bH _
def Hr(n:Nat):=Df (bI n) (Hq n)
theorem Xs(n:Nat):bA (Hr n) uc:=fun x=>by unfold Hr uc Df;repeat (first|with_reducible (first|refine mB ?_ fun _=>?_|refine mC ?_ ?_ ?_|refine mL (fun _=>?_) ?_|refine mA (Xq n) ?_)|exact rfl|exact bH _)
def Ej(n:Nat):=Aa (bI n) (xj n)
theorem MO(n:Nat):bA (Ej n) oF:=fun x=>by unfold Ej oF Aa;repeat (first|with_reducible (first|refine mB ?_ fun _=>?_|refine mA (Eg n) ?_)|exact rfl|exact bH _)
def Hs(n:Nat):=Ab (bI n) (xj n)
theorem Xt(n:Nat):bA (Hs n) ud:=fun x=>by unfold Hs ud Ab;repeat (first|with_reducible (first|refine mB ?_ fun _=>?_|refine mC ?_ ?_ ?_|refine mA (Eg n) ?_)|exact rfl|exact bH _)
def Ht(n:Nat):=Ac (bI n) (Hs n)
theorem Xu(n:Nat):bA (Ht n) ue:=fun x=>by unfold Ht ue Ac;repeat (first|with_reducible (first|refine mB ?_ fun _=>?_|refine mA (Xt n) ?_)|exact rfl|exact bH _)
def Hu(n:Nat):=Dg (bI n) (Ht n)
theorem Xv(n:Nat):bA (Hu n) Ad:=fun x=>by unfold Hu Ad Dg;repeat (first|with_reducible (first|refine mB ?_ fun _=>?_|refine mC ?_ ?_ ?_|refine mL (fun _=>?_) ?_|refine mA (Xu n) ?_)|exact rfl|exact bH _)
def Hv(n:Nat):=Ae (bI n) (Hu n)
theorem Xw(n:Nat):bA (Hv n) uf:=fun x=>by unfold Hv uf Ae;repeat (first|with_reducible (first|refine mB ?_ fun _=>?_|refine mA (Xv n) ?_)|exact rfl|exact bH _)
def xk(n:Nat):=Af (bI n) (uL n) (Hv n)
theorem Ek(n:Nat):bA (xk n) mO:=fun x=>by unfold xk mO Af;repeat (first|with_reducible (first|refine mB ?_ fun _=>?_|refine mC ?_ ?_ ?_|refine mA (Bp n) ?_|refine mA (Xw n) ?_)|exact rfl|exact bH _)
def Hw(n:Nat):=Ag (bI n)
theorem Xx(n:Nat):bA (Hw n) ug:=fun x=>by unfold Hw ug Ag;exact bH _
def Hx(n:Nat):=Dh (bI n) (Hw n)
theorem Xy(n:Nat):bA (Hx n) Ah:=fun x=>by unfold Hx Ah Dh;repeat (first|with_reducible (first|refine mB ?_ fun _=>?_|refine mC ?_ ?_ ?_|refine mL (fun _=>?_) ?_|refine mA (Xx n) ?_)|exact rfl|exact bH _)
def Hy(n:Nat):=Ai (bI n) (Hx n)
theorem Xz(n:Nat):bA (Hy n) wT:=fun x=>by unfold Hy wT Ai;repeat (first|with_reducible (first|refine mB ?_ fun _=>?_|refine mA (Xy n) ?_)|exact rfl|exact bH _)
def Hz(n:Nat):=Di (bI n)
theorem XA(n:Nat):bA (Hz n) Aj:=fun x=>by unfold Hz Aj Di;repeat (first|with_reducible (first|refine mB ?_ fun _=>?_|refine mC ?_ ?_ ?_|refine mL (fun _=>?_) ?_)|exact rfl|exact bH _)
def HA(n:Nat):=Ak (bI n) (Hz n)
theorem XB(n:Nat):bA (HA n) qX:=fun x=>by unfold HA qX Ak;repeat (first|with_reducible (first|refine mB ?_ fun _=>?_|refine mA (XA n) ?_)|exact rfl|exact bH _)
def HB(n:Nat):=Dj (bI n) (xk n) (HA n)
theorem XD(n:Nat):bA (HB n) wU:=fun x=>by unfold HB wU Dj;repeat (first|with_reducible (first|refine mB ?_ fun _=>?_|refine mC ?_ ?_ ?_|refine mL (fun _=>?_) ?_|refine mF ?_|refine mA (Ek n) ?_|refine mA (XB n) ?_)|exact rfl|exact bH _)
def HE(n:Nat):=Al (bI n) (xk n) (Hy n) (HB n)
theorem XE(n:Nat):bA (HE n) wV:=fun x=>by unfold HE wV Al;repeat (first|with_reducible (first|refine mB ?_ fun _=>?_|refine mC ?_ ?_ ?_|refine mA (Ek n) ?_|refine mA (Xz n) ?_|refine mA (XD n) ?_)|exact rfl|exact bH _)
def HF(n:Nat):=Am (bI n) (HE n)
theorem XF(n:Nat):bA (HF n) qY:=fun x=>by unfold HF qY Am;repeat (first|with_reducible (first|refine mB ?_ fun _=>?_|refine mA (XE n) ?_)|exact rfl|exact bH _)
def HG(n:Nat):=Dk (bI n) (HF n)
theorem XG(n:Nat):bA (HG n) An:=fun x=>by unfold HG An Dk;repeat (first|with_reducible (first|refine mB ?_ fun _=>?_|refine mC ?_ ?_ ?_|refine mL (fun _=>?_) ?_|refine mA (XF n) ?_)|exact rfl|exact bH _)
def HH(n:Nat):=Ao (bI n) (HG n)
theorem XH(n:Nat):bA (HH n) qZ:=fun x=>by unfold HH qZ Ao;repeat (first|with_reducible (first|refine mB ?_ fun _=>?_|refine mA (XG n) ?_)|exact rfl|exact bH _)
def HI(n:Nat):=Dl (bI n) (Ej n) (HH n)
theorem XI(n:Nat):bA (HI n) wW:=fun x=>by unfold HI wW Dl;repeat (first|with_reducible (first|refine mB ?_ fun _=>?_|refine mC ?_ ?_ ?_|refine mL (fun _=>?_) ?_|refine mA (MO n) ?_|refine mA (XH n) ?_)|exact rfl|exact bH _)
def HK(n:Nat):=Aq (bI n) (HI n)
theorem XJ(n:Nat):bA (HK n) uh:=fun x=>by unfold HK uh Aq;repeat (first|with_reducible (first|refine mB ?_ fun _=>?_|refine mA (XI n) ?_)|exact rfl|exact bH _)
def HL(n:Nat):=Dm (bI n) (HK n)
theorem XK(n:Nat):bA (HL n) Ar:=fun x=>by unfold HL Ar Dm;repeat (first|with_reducible (first|refine mB ?_ fun _=>?_|refine mC ?_ ?_ ?_|refine mL (fun _=>?_) ?_|refine mA (XJ n) ?_)|exact rfl|exact bH _)
def HM(n:Nat):=Au (bI n) (HL n)
theorem XL(n:Nat):bA (HM n) q7:=fun x=>by unfold HM q7 Au;repeat (first|with_reducible (first|refine mB ?_ fun _=>?_|refine mA (XK n) ?_)|exact rfl|exact bH _)
def HO(n:Nat):=Av (bI n)
theorem XM(n:Nat):bA (HO n) ui:=fun x=>by unfold HO ui Av;repeat (first|with_reducible (first|refine mB ?_ fun _=>?_|refine mC ?_ ?_ ?_)|exact rfl|exact bH _)
def HP(n:Nat):=Dn (bI n) (HO n)
theorem XN(n:Nat):bA (HP n) wX:=fun x=>by unfold HP wX Dn;repeat (first|with_reducible (first|refine mB ?_ fun _=>?_|refine mC ?_ ?_ ?_|refine mL (fun _=>?_) ?_|refine mA (XM n) ?_)|exact rfl|exact bH _)
def HQ(n:Nat):=Aw (bI n) (HP n)
theorem XO(n:Nat):bA (HQ n) wY:=fun x=>by unfold HQ wY Aw;repeat (first|with_reducible (first|refine mB ?_ fun _=>?_|refine mA (XN n) ?_)|exact rfl|exact bH _)
def HR(n:Nat):=Ax (bI n) (HQ n)
theorem XP(n:Nat):bA (HR n) q8:=fun x=>by unfold HR q8 Ax;repeat (first|with_reducible (first|refine mB ?_ fun _=>?_|refine mC ?_ ?_ ?_|refine mA (XO n) ?_)|exact rfl|exact bH _)
def HS(n:Nat):=Dp (bI n) (HR n)
theorem XQ(n:Nat):bA (HS n) uj:=fun x=>by unfold HS uj Dp;repeat (first|with_reducible (first|refine mB ?_ fun _=>?_|refine mC ?_ ?_ ?_|refine mL (fun _=>?_) ?_|refine mA (XP n) ?_)|exact rfl|exact bH _)
def HT(n:Nat):=Ay (bI n)
theorem XR(n:Nat):bA (HT n) uk:=fun x=>by unfold HT uk Ay;repeat (first|with_reducible (first|refine mB ?_ fun _=>?_|refine mC ?_ ?_ ?_)|exact rfl|exact bH _)
def HU(n:Nat):=Dq (bI n) (HT n)
theorem XS(n:Nat):bA (HU n) Az:=fun x=>by unfold HU Az Dq;repeat (first|with_reducible (first|refine mB ?_ fun _=>?_|refine mC ?_ ?_ ?_|refine mL (fun _=>?_) ?_|refine mA (XR n) ?_)|exact rfl|exact bH _)
def HV(n:Nat):=AA (bI n) (HU n)
theorem XT(n:Nat):bA (HV n) um:=fun x=>by unfold HV um AA;repeat (first|with_reducible (first|refine mB ?_ fun _=>?_|refine mA (XS n) ?_)|exact rfl|exact bH _)
def HW(n:Nat):=AB (bI n) (HV n) (Ej n)
theorem XU(n:Nat):bA (HW n) q9:=fun x=>by unfold HW q9 AB;repeat (first|with_reducible (first|refine mB ?_ fun _=>?_|refine mC ?_ ?_ ?_|refine mA (XT n) ?_|refine mA (MO n) ?_)|exact rfl|exact bH _)
def HX(n:Nat):=Dr (bI n) (HW n)
theorem XV(n:Nat):bA (HX n) AD:=fun x=>by unfold HX AD Dr;repeat (first|with_reducible (first|refine mB ?_ fun _=>?_|refine mC ?_ ?_ ?_|refine mL (fun _=>?_) ?_|refine mA (XU n) ?_)|exact rfl|exact bH _)
def HY(n:Nat):=AE (bI n) (HX n)
theorem XW(n:Nat):bA (HY n) wZ:=fun x=>by unfold HY wZ AE;repeat (first|with_reducible (first|refine mB ?_ fun _=>?_|refine mA (XV n) ?_)|exact rfl|exact bH _)
def HZ(n:Nat):=AF (bI n) (HY n)
theorem XX(n:Nat):bA (HZ n) re:=fun x=>by unfold HZ re AF;repeat (first|with_reducible (first|refine mB ?_ fun _=>?_|refine mA (XW n) ?_)|exact rfl|exact bH _)
def H0(n:Nat):=Ds (bI n) (HZ n)
theorem XY(n:Nat):bA (H0 n) AG:=fun x=>by unfold H0 AG Ds;repeat (first|with_reducible (first|refine mB ?_ fun _=>?_|refine mC ?_ ?_ ?_|refine mL (fun _=>?_) ?_|refine mA (XX n) ?_)|exact rfl|exact bH _)
def H2(n:Nat):=AH (bI n) (H0 n)
theorem XZ(n:Nat):bA (H2 n) w5:=fun x=>by unfold H2 w5 AH;repeat (first|with_reducible (first|refine mB ?_ fun _=>?_|refine mA (XY n) ?_)|exact rfl|exact bH _)
def H3(n:Nat):=AI (bI n) (H2 n)
theorem X0(n:Nat):bA (H3 n) rf:=fun x=>by unfold H3 rf AI;repeat (first|with_reducible (first|refine mB ?_ fun _=>?_|refine mA (XZ n) ?_)|exact rfl|exact bH _)
def H4(n:Nat):=Dt (bI n) (H3 n)
theorem X4(n:Nat):bA (H4 n) uo:=fun x=>by unfold H4 uo Dt;repeat (first|with_reducible (first|refine mB ?_ fun _=>?_|refine mC ?_ ?_ ?_|refine mL (fun _=>?_) ?_|refine mA (X0 n) ?_)|exact rfl|exact bH _)
def El(n:Nat):=Du (bI n) (Hr n) (HM n) (HS n) (H4 n)
theorem MP(n:Nat):bA (El n) nG:=fun x=>by unfold El nG Du;repeat (first|with_reducible (first|refine mB ?_ fun _=>?_|refine mC ?_ ?_ ?_|refine mL (fun _=>?_) ?_|refine mA (Xs n) ?_|refine mA (XL n) ?_|refine mA (XQ n) ?_|refine mA (X4 n) ?_)|exact rfl|exact bH _)
def uM(n:Nat):=Dv (bI n) (oQ n)
theorem Bu(n:Nat):bA (uM n) jG:=fun x=>by unfold uM jG Dv;repeat (first|with_reducible (first|refine mB ?_ fun _=>?_|refine mC ?_ ?_ ?_|refine mL (fun _=>?_) ?_|refine mF ?_|refine mA (sH n) ?_)|exact rfl|exact bH _)
def Em(n:Nat):=Dw (bI n) (uM n) (oQ n)
theorem MQ(n:Nat):bA (Em n) fU:=fun x=>by unfold Em fU Dw;repeat (first|with_reducible (first|refine mB ?_ fun _=>?_|refine mC ?_ ?_ ?_|refine mL (fun _=>?_) ?_|refine mF ?_|refine mA (Bu n) ?_|refine mA (sH n) ?_)|exact rfl|exact bH _)
def H5(n:Nat):=AJ (bI n)
theorem X5(n:Nat):bA (H5 n) uq:=fun x=>by unfold H5 uq AJ;repeat (first|with_reducible (first|refine mB ?_ fun _=>?_|refine mC ?_ ?_ ?_)|exact rfl|exact bH _)
def H6(n:Nat):=Dx (bI n) (H5 n)
theorem X6(n:Nat):bA (H6 n) w6:=fun x=>by unfold H6 w6 Dx;repeat (first|with_reducible (first|refine mB ?_ fun _=>?_|refine mC ?_ ?_ ?_|refine mL (fun _=>?_) ?_|refine mA (X5 n) ?_)|exact rfl|exact bH _)
def H7(n:Nat):=AK (bI n) (H6 n)
theorem X7(n:Nat):bA (H7 n) p0:=fun x=>by unfold H7 p0 AK;repeat (first|with_reducible (first|refine mB ?_ fun _=>?_|refine mC ?_ ?_ ?_|refine mA (X6 n) ?_)|exact rfl|exact bH _)
def H8(n:Nat):=AL (bI n)
theorem X8(n:Nat):bA (H8 n) ur:=fun x=>by unfold H8 ur AL;exact bH _
def H9(n:Nat):=Dy (bI n) (H8 n)
theorem X9(n:Nat):bA (H9 n) uu:=fun x=>by unfold H9 uu Dy;repeat (first|with_reducible (first|refine mB ?_ fun _=>?_|refine mC ?_ ?_ ?_|refine mL (fun _=>?_) ?_|refine mA (X8 n) ?_)|exact rfl|exact bH _)
def Ia(n:Nat):=AM (bI n)
theorem Ya(n:Nat):bA (Ia n) uv:=fun x=>by unfold Ia uv AM;exact bH _
def Ib(n:Nat):=Dz (bI n) (Ia n)
theorem Yb(n:Nat):bA (Ib n) uw:=fun x=>by unfold Ib uw Dz;repeat (first|with_reducible (first|refine mB ?_ fun _=>?_|refine mC ?_ ?_ ?_|refine mL (fun _=>?_) ?_|refine mA (Ya n) ?_)|exact rfl|exact bH _)
def Ic(n:Nat):=DB (bI n) (Ib n)
theorem Yc(n:Nat):bA (Ic n) ux:=fun x=>by unfold Ic ux DB;repeat (first|with_reducible (first|refine mB ?_ fun _=>?_|refine mC ?_ ?_ ?_|refine mL (fun _=>?_) ?_|refine mF ?_|refine mA (Yb n) ?_)|exact rfl|exact bH _)
def Eo(n:Nat):=DC (bI n) (uM n) (oQ n) (H7 n) (H9 n) (Ic n)
theorem MR(n:Nat):bA (Eo n) kI:=fun x=>by unfold Eo kI DC;repeat (first|with_reducible (first|refine mB ?_ fun _=>?_|refine mC ?_ ?_ ?_|refine mL (fun _=>?_) ?_|refine mF ?_|refine mA (Bu n) ?_|refine mA (sH n) ?_|refine mA (X7 n) ?_|refine mA (X9 n) ?_|refine mA (Yc n) ?_)|exact rfl|exact bH _)
def Yd(n:Nat)(self:qz):=LW (bI n) self
theorem qoo(n:Nat){g g'}(hg:bA g g'):bA (Yd n g) (Fx g'):=fun x=>by unfold Yd Fx LW;repeat (first|with_reducible (first|refine mB ?_ fun _=>?_|refine mA hg ?_)|exact rfl|exact bH _)
def Ye(n:Nat)(self:qz):=Qf (bI n) (Em n) (Yd n self) (Eo n)
theorem qsy(n:Nat){g g'}(hg:bA g g'):bA (Ye n g) (Kc g'):=fun x=>by unfold Ye Kc Qf;repeat (first|with_reducible (first|refine mB ?_ fun _=>?_|refine mC ?_ ?_ ?_|refine mL (fun _=>?_) ?_|refine mA (MQ n) ?_|refine mA (qoo n hg) ?_|refine mA (MR n) ?_)|exact rfl|exact bH _)
def FC(n:Nat)(self:qz):=AN (bI n) (Ye n self)
def MS(n:Nat):=aU (FC n) n
theorem Yf(n:Nat):bA (MS n) DE:=Kh (fun _ _ hg x=>by unfold FC p4 AN;repeat (first|with_reducible (first|refine mB ?_ fun _=>?_|refine mC ?_ ?_ ?_|refine mA (qsy n hg) ?_)|exact rfl|exact bH _)) n
def Ie(n:Nat):=AO (bI n) (Bt n) (El n) (xk n) (MS n)
theorem Yg(n:Nat):bA (Ie n) jX:=fun x=>by unfold Ie jX AO;repeat (first|with_reducible (first|refine mB ?_ fun _=>?_|refine mC ?_ ?_ ?_|refine mA (Hp n) ?_|refine mA (MP n) ?_|refine mA (Ek n) ?_|refine mA (Yf n) ?_)|exact rfl|exact bH _)
def MT(_n:Nat):=w7
theorem Yh(n:Nat):bA (MT n) w7:=MF
def Ig(n:Nat):=AP (bI n) (MT n)
theorem Yi(n:Nat):bA (Ig n) w8:=fun x=>by unfold Ig w8 AP;repeat (first|with_reducible (first|refine mB ?_ fun _=>?_|refine mA (Yh n) ?_)|exact rfl|exact bH _)
def Ih(n:Nat):=AQ (bI n) (Ig n)
theorem Yj(n:Nat):bA (Ih n) uy:=fun x=>by unfold Ih uy AQ;repeat (first|with_reducible (first|refine mB ?_ fun _=>?_|refine mA (Yi n) ?_)|exact rfl|exact bH _)
def Ep(n:Nat):=AR (bI n) (Ih n)
theorem MU(n:Nat):bA (Ep n) mP:=fun x=>by unfold Ep mP AR;repeat (first|with_reducible (first|refine mB ?_ fun _=>?_|refine mC ?_ ?_ ?_|refine mF ?_|refine mA (Yj n) ?_)|exact rfl|exact bH _)
def xm(n:Nat):=AS (bI n)
theorem Er(n:Nat):bA (xm n) mR:=fun x=>by unfold xm mR AS;repeat (first|with_reducible (first|refine mB ?_ fun _=>?_|refine mC ?_ ?_ ?_)|exact rfl|exact bH _)
def Ii(n:Nat):=AT (bI n) (xm n)
theorem Yk(n:Nat):bA (Ii n) uz:=fun x=>by unfold Ii uz AT;repeat (first|with_reducible (first|refine mB ?_ fun _=>?_|refine mA (Er n) ?_)|exact rfl|exact bH _)
def Ij(n:Nat):=DF (bI n) (Ii n)
theorem Yl(n:Nat):bA (Ij n) rh:=fun x=>by unfold Ij rh DF;repeat (first|with_reducible (first|refine mB ?_ fun _=>?_|refine mC ?_ ?_ ?_|refine mL (fun _=>?_) ?_|refine mA (Yk n) ?_)|exact rfl|exact bH _)
def Ik(n:Nat):=AU (bI n)
theorem Ym(n:Nat):bA (Ik n) mT:=fun x=>by unfold Ik mT AU;repeat (first|with_reducible refine mC ?_ ?_ ?_|exact rfl|exact bH _)
def Es(n:Nat):=AV (bI n)
theorem MV(n:Nat):bA (Es n) oG:=fun x=>by unfold Es oG AV;repeat (first|with_reducible refine mB ?_ fun _=>?_|exact bH _)
def Il(n:Nat):=DG (bI n)
theorem Yn(n:Nat):bA (Il n) w9:=fun x=>by unfold Il w9 DG;repeat (first|with_reducible (first|refine mB ?_ fun _=>?_|refine mC ?_ ?_ ?_|refine mL (fun _=>?_) ?_)|exact rfl|exact bH _)
def Im(n:Nat):=AW (bI n) (Il n)
theorem Yo(n:Nat):bA (Im n) p5:=fun x=>by unfold Im p5 AW;repeat (first|with_reducible (first|refine mB ?_ fun _=>?_|refine mA (Yn n) ?_)|exact rfl|exact bH _)
def MW(_n:Nat):=uA
theorem Yp(n:Nat):bA (MW n) uA:=MF
def Et(n:Nat):=DH (bI n) (MW n)
theorem MX(n:Nat):bA (Et n) oH:=fun x=>by unfold Et oH DH;repeat (first|with_reducible (first|refine mB ?_ fun _=>?_|refine mC ?_ ?_ ?_|refine mL (fun _=>?_) ?_|refine mF ?_|refine mA (Yp n) ?_)|exact rfl|exact bH _)
def Eu(n:Nat):=DI (bI n) (uM n) (oQ n)
theorem MY(n:Nat):bA (Eu n) oI:=fun x=>by unfold Eu oI DI;repeat (first|with_reducible (first|refine mB ?_ fun _=>?_|refine mC ?_ ?_ ?_|refine mL (fun _=>?_) ?_|refine mF ?_|refine mA (Bu n) ?_|refine mA (sH n) ?_)|exact rfl|exact bH _)
def Io(n:Nat):=AX (bI n) (Eu n) (xm n) (Es n)
theorem Yq(n:Nat):bA (Io n) uB:=fun x=>by unfold Io uB AX;repeat (first|with_reducible (first|refine mB ?_ fun _=>?_|refine mC ?_ ?_ ?_|refine mA (MY n) ?_|refine mA (Er n) ?_|refine mA (MV n) ?_)|exact rfl|exact bH _)
def Ip(n:Nat):=DJ (bI n) (Et n) (Io n)
theorem Yr(n:Nat):bA (Ip n) ri:=fun x=>by unfold Ip ri DJ;repeat (first|with_reducible (first|refine mB ?_ fun _=>?_|refine mC ?_ ?_ ?_|refine mL (fun _=>?_) ?_|refine mF ?_|refine mA (MX n) ?_|refine mA (Yq n) ?_)|exact rfl|exact bH _)
def Iq(n:Nat):=AY (bI n) (xm n)
theorem Ys(n:Nat):bA (Iq n) uC:=fun x=>by unfold Iq uC AY;repeat (first|with_reducible (first|refine mB ?_ fun _=>?_|refine mA (Er n) ?_)|exact rfl|exact bH _)
def Ir(n:Nat):=DK (bI n) (Et n) (Iq n)
theorem Yt(n:Nat):bA (Ir n) rj:=fun x=>by unfold Ir rj DK;repeat (first|with_reducible (first|refine mB ?_ fun _=>?_|refine mC ?_ ?_ ?_|refine mL (fun _=>?_) ?_|refine mF ?_|refine mA (MX n) ?_|refine mA (Ys n) ?_)|exact rfl|exact bH _)
def Is(n:Nat):=AZ (bI n) (El n) (xk n) (Eo n)
theorem Yu(n:Nat):bA (Is n) nH:=fun x=>by unfold Is nH AZ;repeat (first|with_reducible (first|refine mB ?_ fun _=>?_|refine mC ?_ ?_ ?_|refine mA (MP n) ?_|refine mA (Ek n) ?_|refine mA (MR n) ?_)|exact rfl|exact bH _)
def MZ(_n:Nat):=uD
theorem Yv(n:Nat):bA (MZ n) uD:=MF
def It(n:Nat):=DL (bI n) (MZ n)
theorem Yw(n:Nat):bA (It n) p6:=fun x=>by unfold It p6 DL;repeat (first|with_reducible (first|refine mB ?_ fun _=>?_|refine mC ?_ ?_ ?_|refine mL (fun _=>?_) ?_|refine mF ?_|refine mA (Yv n) ?_)|exact rfl|exact bH _)
def Iu(n:Nat):=A0 (bI n)
theorem Yx(n:Nat):bA (Iu n) uE:=fun x=>by unfold Iu uE A0;repeat (first|with_reducible refine mB ?_ fun _=>?_|exact bH _)
def Iv(n:Nat):=DM (bI n) (Iu n)
theorem Yy(n:Nat):bA (Iv n) rk:=fun x=>by unfold Iv rk DM;repeat (first|with_reducible (first|refine mB ?_ fun _=>?_|refine mC ?_ ?_ ?_|refine mL (fun _=>?_) ?_|refine mA (Yx n) ?_)|exact rfl|exact bH _)
def FD(n:Nat)(self:nC):=DN (bI n) self (Ep n) (Ij n) (Ik n) (xm n) (Es n) (Im n) (Ip n) (Ir n) (Is n) (It n) (Iv n)
def M0(n:Nat):=aU (FD n) n
set_option maxRecDepth 100000 in
theorem Yz(n:Nat):bA (M0 n) xa:=Kh (fun _ _ hg x=>by unfold FD p7 DN;repeat (first|with_reducible (first|refine mB ?_ fun _=>?_|refine mC ?_ ?_ ?_|refine mL (fun _=>?_) ?_|refine mF ?_|refine mA hg ?_|refine mA (MU n) ?_|refine mA (Yl n) ?_|refine mA (Ym n) ?_|refine mA (Er n) ?_|refine mA (MV n) ?_|refine mA (Yo n) ?_|refine mA (Yr n) ?_|refine mA (Yt n) ?_|refine mA (Yu n) ?_|refine mA (Yw n) ?_|refine mA (Yy n) ?_)|exact rfl|exact bH _)) n
def Iw(n:Nat):=DO (bI n) (Ie n) (M0 n)
theorem YA(n:Nat):bA (Iw n) nI:=fun x=>by unfold Iw nI DO;repeat (first|with_reducible (first|refine mB ?_ fun _=>?_|refine mC ?_ ?_ ?_|refine mL (fun _=>?_) ?_|refine mF ?_|refine mA (Yg n) ?_|refine mA (Yz n) ?_)|exact rfl|exact bH _)
def Iy(_n:Nat):=mU
theorem M3(n:Nat):bA (Iy n) mU:=MF
def FE(n:Nat)(self:yE):=DP (bI n) self (Iy n) (Bs n)
def M4(n:Nat):=aU (FE n) n
theorem YB(n:Nat):bA (M4 n) DQ:=Kh (fun _ _ hg x=>by unfold FE nJ DP;repeat (first|with_reducible (first|refine mB ?_ fun _=>?_|refine mC ?_ ?_ ?_|refine mL (fun _=>?_) ?_|refine mA hg ?_|refine mA (M3 n) ?_|refine mA (Hb n) ?_)|exact rfl|exact bH _)) n
def Ew(n:Nat):=A1 (bI n) (uL n) (M4 n)
theorem M5(n:Nat):bA (Ew n) oJ:=fun x=>by unfold Ew oJ A1;repeat (first|with_reducible (first|refine mB ?_ fun _=>?_|refine mC ?_ ?_ ?_|refine mA (Bp n) ?_|refine mA (YB n) ?_)|exact rfl|exact bH _)
def FF(n:Nat)(self:yF):=DR (bI n) self (Eu n) (Ep n)
def M6(n:Nat):=aU (FF n) n
theorem YC(n:Nat):bA (M6 n) DS:=Kh (fun _ _ hg x=>by unfold FF oK DR;repeat (first|with_reducible (first|refine mB ?_ fun _=>?_|refine mC ?_ ?_ ?_|refine mL (fun _=>?_) ?_|refine mF ?_|refine mA hg ?_|refine mA (MY n) ?_|refine mA (MU n) ?_)|exact rfl|exact bH _)) n
def Iz(n:Nat):=A2 (bI n) (Bt n) (M6 n)
theorem YD(n:Nat):bA (Iz n) p8:=fun x=>by unfold Iz p8 A2;repeat (first|with_reducible (first|refine mB ?_ fun _=>?_|refine mC ?_ ?_ ?_|refine mA (Hp n) ?_|refine mA (YC n) ?_)|exact rfl|exact bH _)
def Ey(n:Nat):=A3 (bI n)
theorem M7(n:Nat):bA (Ey n) rl:=fun x=>by unfold Ey rl A3;repeat (first|with_reducible (first|refine mB ?_ fun _=>?_|refine mC ?_ ?_ ?_|refine mF ?_)|exact rfl|exact bH _)
def Ez(n:Nat):=DT (bI n) (uM n) (oQ n) (Iy n)
theorem M8(n:Nat):bA (Ez n) p9:=fun x=>by unfold Ez p9 DT;repeat (first|with_reducible (first|refine mB ?_ fun _=>?_|refine mC ?_ ?_ ?_|refine mL (fun _=>?_) ?_|refine mA (Bu n) ?_|refine mA (sH n) ?_|refine mA (M3 n) ?_)|exact rfl|exact bH _)
def IA(n:Nat):=A4 (bI n) (Bs n) (Bq n)
theorem YE(n:Nat):bA (IA n) uF:=fun x=>by unfold IA uF A4;repeat (first|with_reducible (first|refine mB ?_ fun _=>?_|refine mC ?_ ?_ ?_|refine mA (Hb n) ?_|refine mA (GZ n) ?_)|exact rfl|exact bH _)
def IB(n:Nat):=A5 (bI n) (IA n)
theorem YF(n:Nat):bA (IB n) uG:=fun x=>by unfold IB uG A5;repeat (first|with_reducible (first|refine mB ?_ fun _=>?_|refine mA (YE n) ?_)|exact rfl|exact bH _)
def IC(n:Nat):=DU (bI n) (IB n)
theorem YG(n:Nat):bA (IC n) A6:=fun x=>by unfold IC A6 DU;repeat (first|with_reducible (first|refine mB ?_ fun _=>?_|refine mC ?_ ?_ ?_|refine mL (fun _=>?_) ?_|refine mA (YF n) ?_)|exact rfl|exact bH _)
def ID(n:Nat):=A7 (bI n) (IC n)
theorem YH(n:Nat):bA (ID n) uH:=fun x=>by unfold ID uH A7;repeat (first|with_reducible (first|refine mB ?_ fun _=>?_|refine mA (YG n) ?_)|exact rfl|exact bH _)
def IE(n:Nat):=A8 (bI n) (uL n) (ID n)
theorem YI(n:Nat):bA (IE n) rm:=fun x=>by unfold IE rm A8;repeat (first|with_reducible (first|refine mB ?_ fun _=>?_|refine mC ?_ ?_ ?_|refine mA (Bp n) ?_|refine mA (YH n) ?_)|exact rfl|exact bH _)
def IF(n:Nat):=A9 (bI n) (Ey n)
theorem YJ(n:Nat):bA (IF n) rn:=fun x=>by unfold IF rn A9;repeat (first|with_reducible (first|refine mB ?_ fun _=>?_|refine mF ?_|refine mA (M7 n) ?_)|exact rfl|exact bH _)
def FG(n:Nat)(self:tI):=DV (bI n) (IF n) self (Em n)
def M9(n:Nat):=aU (FG n) n
set_option maxRecDepth 100000 in
theorem YK(n:Nat):bA (M9 n) DW:=Kh (fun _ _ hg x=>by unfold FG rq DV;repeat (first|with_reducible (first|refine mB ?_ fun _=>?_|refine mC ?_ ?_ ?_|refine mL (fun _=>?_) ?_|refine mA (YJ n) ?_|refine mA hg ?_|refine mA (MQ n) ?_)|exact rfl|exact bH _)) n
def IG(n:Nat):=Ba (bI n) (Bt n) (IE n) (M9 n)
theorem YL(n:Nat):bA (IG n) nK:=fun x=>by unfold IG nK Ba;repeat (first|with_reducible (first|refine mB ?_ fun _=>?_|refine mC ?_ ?_ ?_|refine mA (Hp n) ?_|refine mA (YI n) ?_|refine mA (YK n) ?_)|exact rfl|exact bH _)
def EA(n:Nat):=Bb (bI n) (IG n)
theorem Na(n:Nat):bA (EA n) qc:=fun x=>by unfold EA qc Bb;repeat (first|with_reducible (first|refine mB ?_ fun _=>?_|refine mA (YL n) ?_)|exact rfl|exact bH _)
def IH(n:Nat):=Bc (bI n) (Ey n) (Ez n) (EA n)
theorem YM(n:Nat):bA (IH n) oL:=fun x=>by unfold IH oL Bc;repeat (first|with_reducible (first|refine mB ?_ fun _=>?_|refine mC ?_ ?_ ?_|refine mA (M7 n) ?_|refine mA (M8 n) ?_|refine mA (Na n) ?_)|exact rfl|exact bH _)
def II(n:Nat):=DX (bI n) (Ew n) (Ez n) (EA n) (uM n)
set_option maxRecDepth 100000 in
theorem YN(n:Nat):bA (II n) uI:=fun x=>by unfold II uI DX;repeat (first|with_reducible (first|refine mB ?_ fun _=>?_|refine mC ?_ ?_ ?_|refine mL (fun _=>?_) ?_|refine mA (M5 n) ?_|refine mA (M8 n) ?_|refine mA (Na n) ?_|refine mA (Bu n) ?_)|exact rfl|exact bH _)
def YO(n:Nat):=Qg (bI n) (Iw n) (Ew n) (Iz n) (IH n) (II n)
set_option maxRecDepth 100000 in
theorem qji(n:Nat):bA (YO n) DY:=fun x=>by unfold YO DY Qg;repeat (first|with_reducible (first|refine mB ?_ fun _=>?_|refine mC ?_ ?_ ?_|refine mA (YA n) ?_|refine mA (M5 n) ?_|refine mA (YD n) ?_|refine mA (YM n) ?_|refine mA (YN n) ?_)|exact rfl|exact bH _)
theorem z4x:YO 300 ()=some (true,()):=by kernel_rfl
theorem YP:DY ()=some (true,()):=qji 300 _ _ z4x
end
end Fn
end Ev