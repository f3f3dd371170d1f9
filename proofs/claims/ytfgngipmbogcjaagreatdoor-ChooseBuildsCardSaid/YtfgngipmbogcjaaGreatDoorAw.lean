/- The example of the chapter, reckoned by the kernel: loops and calls that end soon. No statement of its own about the program. -/
import Derived.Test.YtfgngipmbogcjaaGreatDoorFnA
import Derived.KernelRfl
namespace Ev
open Go
namespace Fn
def lq{α:Type}(a b:Option α):Prop:=∀v,a=some v->b=some v
theorem bA{α:Type}(a:Option α):lq a a:=fun _ h=>h
def aZ{α β:Type}(f g:α->Option β):Prop:=∀x,lq (f x) (g x)
theorem LI{α β:Type}{f:α->Option β}:aZ f f:=fun _=>bA _
@[reducible] noncomputable def bC(n:Nat):Lf:={lf with o:=fun f s=>lh f n s}
theorem Vl{σ ρ:Type}{f g:σ->Option (σ⊕ρ)}(h:∀s,lq (f s) (g s)):∀(n:Nat) (s:σ) (r:ρ),lh f n s=some r->lh g n s=some r
 |0,_,_,e=>by cases e
 |n+1,s,r,e=>by
  unfold lh at e ⊢;cases hf:f s with
  |none=>rw[hf] at e;cases e
  |some v=>rw[hf] at e;rw[h s v hf];cases v with
   |inl s'=>exact Vl h n s' r e
   |inr r'=>exact e
theorem mB{n:Nat}{α β:Type}{x y:Option α}{f g:α->Option β}(h:lq x y)(h2:∀a,lq (f a) (g a)):lq ((bC n).b x f) (lf.b y g):=by
 intro v e;show ag y g=some v;have e:ag x f=some v:=e;cases hx:x with
 |none=>rw[hx] at e;cases e
 |some a=>rw[hx] at e;rw[h a hx];exact h2 a v e
theorem mC{n:Nat}{α:Type}{c c':Bool}{x y x' y':Option α}(hc:c=c')(h:lq x x')(h2:lq y y'):lq ((bC n).c c x y) (lf.c c' x' y'):=by
 subst hc;cases c with
 |true=>exact h
 |false=>exact h2
theorem mA{α β:Type}{f g:α->Option β}(h:aZ f g){a a':α}(e:a=a'):lq (f a) (g a'):=by subst e;exact h a
theorem mS{n:Nat}{α β:Type}{f g:α->Option β}(h:∀a,lq (f a) (g a))(y:α⊕β):lq ((bC n).eO f y) (lf.eO g y):=by
 cases y with
 |inl a=>exact h a
 |inr b=>exact bA _
theorem mL{n:Nat}{σ ρ:Type}{f g:σ->Option (σ⊕ρ)}(h:∀s,lq (f s) (g s)){s s':σ}(hs:s=s'):lq ((bC n).o f s) (lf.o g s'):=by subst hs;exact fun r e=>I7 n (Vl h n s r e)
theorem mF{n:Nat}{a a':Int}(h:a=a'):lq ((bC n).f a) (lf.f a'):=by rw[h];exact bA (fit a')
theorem mK{n:Nat}{a b a' b':Int}(h:a=a')(h2:b=b'):lq ((bC n).rn a b) (lf.rn a' b'):=by rw[h,h2];exact bA (rn a' b')
theorem Ji{α β:Type}{F G:(α->Option β)->α->Option β}(h1:∀g g':α->Option β,aZ g g'->aZ (F g) (G g'))(n:Nat):aZ (bB F n) (fA G):=by
 have aux:∀(n m:Nat),n<=m->∀x,lq (bB F n x) (bB G m x):=by
  intro n
  induction n with
  |zero=>intro m _ x v e;cases e
  |succ n ih=>
   intro m hm x;cases m with
   |zero=>omega
   |succ m=>exact h1 _ _ (fun x=>ih m om x) x
 intro x v e;exact xc n (fun m hm=>aux n m hm x v e)
noncomputable section
def z3s:List (List Int)->Bool
 |[]=>true
 |[_]=>true
 |[a,b]=>!strLt b a
 |_=>false
def Vm(x:(Sl (List Int))×Unit):Option ((Sl (List Int))×Unit):=bif z3s x.1.l&&x.1.l.all vn then some (x.1,()) else none
theorem quu(_n:Nat):aZ Vm sC:=by
 intro x v h;obtain⟨⟨b,l⟩,u⟩:=x;unfold Vm at h;cases hc:(z3s l&&l.all vn) with
 |false=>rw[hc] at h;cases h
 |true=>
  rw[hc] at h;injection h with h;subst h;simp only[zd] at hc;have he:l.length<=2/\(l.mergeSort fun a b=>!strLt b a)=l:=by
   have h0:=hc.1
   match l,h0 with
   |[],_=>exact⟨by simp,List.mergeSort_nil ..⟩
   |[a],_=>exact⟨by simp,List.mergeSort_singleton ..⟩
   |[a,b],h=>exact⟨by simp,List.mergeSort_of_pairwise (List.pairwise_pair.2 h)⟩
  obtain⟨hl,hm⟩:=he;have hd:decide (l.length<4611686018427387904)=true:=zu om;show(bif l.all vn&&decide (l.length<4611686018427387904) then _ else none)=_;rw[hc.2,hd,hm];rfl
def nw(n:Nat):=BK (bC n)
theorem re(n:Nat):aZ (nw n) fB:=fun x=>by unfold nw fB BK;repeat (first|with_reducible (first|refine mB ?_ fun _=>?_|refine mC ?_ ?_ ?_|refine mL (fun _=>?_) ?_)|exact rfl|exact bA _)
def tq(n:Nat):=xj (bC n) (nw n)
theorem z8(n:Nat):aZ (tq n) kF:=fun x=>by unfold tq kF xj;repeat (first|with_reducible (first|refine mB ?_ fun _=>?_|refine mC ?_ ?_ ?_|refine mA (re n) ?_)|exact rfl|exact bA _)
def F3(n:Nat):=BL (bC n) (tq n)
theorem Vn(n:Nat):aZ (F3 n) sf:=fun x=>by unfold F3 sf BL;repeat (first|with_reducible (first|refine mB ?_ fun _=>?_|refine mC ?_ ?_ ?_|refine mL (fun _=>?_) ?_|refine mF ?_|refine mA (z8 n) ?_)|exact rfl|exact bA _)
def Aa(n:Nat):=xk (bC n)
theorem F4(n:Nat):aZ (Aa n) oC:=fun x=>by unfold Aa oC xk;repeat (first|with_reducible refine mB ?_ fun _=>?_|exact bA _)
def C8(n:Nat):=xl (bC n)
theorem LJ(n:Nat):aZ (C8 n) pJ:=fun x=>by unfold C8 pJ xl;repeat (first|with_reducible (first|refine mB ?_ fun _=>?_|refine mC ?_ ?_ ?_)|exact rfl|exact bA _)
def C9(n:Nat):=xm (bC n)
theorem LK(n:Nat):aZ (C9 n) pK:=fun x=>by unfold C9 pK xm;repeat (first|with_reducible (first|refine mB ?_ fun _=>?_|refine mC ?_ ?_ ?_)|exact rfl|exact bA _)
def F5(n:Nat):=xn (bC n)
theorem Vo(n:Nat):aZ (F5 n) si:=fun x=>by unfold F5 si xn;repeat (first|with_reducible (first|refine mB ?_ fun _=>?_|refine mC ?_ ?_ ?_)|exact rfl|exact bA _)
def F6(n:Nat):=xo (bC n) (C8 n) (C9 n) (F5 n)
theorem Vp(n:Nat):aZ (F6 n) pL:=fun x=>by unfold F6 pL xo;repeat (first|with_reducible (first|refine mB ?_ fun _=>?_|refine mC ?_ ?_ ?_|refine mA (LJ n) ?_|refine mA (LK n) ?_|refine mA (Vo n) ?_)|exact rfl|exact bA _)
def Da(n:Nat):=BM (bC n) (F6 n)
theorem LM(n:Nat):aZ (Da n) sj:=fun x=>by unfold Da sj BM;repeat (first|with_reducible (first|refine mB ?_ fun _=>?_|refine mC ?_ ?_ ?_|refine mL (fun _=>?_) ?_|refine mA (Vp n) ?_)|exact rfl|exact bA _)
def F7(n:Nat):=BN (bC n)
theorem Vq(n:Nat):aZ (F7 n) xq:=fun x=>by unfold F7 xq BN;repeat (first|with_reducible (first|refine mB ?_ fun _=>?_|refine mC ?_ ?_ ?_|refine mL (fun _=>?_) ?_)|exact rfl|exact bA _)
def F8(n:Nat):=xr (bC n) (F7 n)
theorem Vr(n:Nat):aZ (F8 n) vA:=fun x=>by unfold F8 vA xr;repeat (first|with_reducible (first|refine mB ?_ fun _=>?_|refine mA (Vq n) ?_)|exact rfl|exact bA _)
def F9(n:Nat):=BO (bC n)
set_option maxRecDepth 100000 in
theorem Vs(n:Nat):aZ (F9 n) so:=fun x=>by unfold F9 so BO;repeat (first|with_reducible (first|refine mB ?_ fun _=>?_|refine mC ?_ ?_ ?_|refine mL (fun _=>?_) ?_|refine mS (fun _=>?_) _|refine mK ?_ ?_)|exact rfl|exact bA _)
def Ga(n:Nat):=xt (bC n) (F9 n)
theorem Vt(n:Nat):aZ (Ga n) sq:=fun x=>by unfold Ga sq xt;repeat (first|with_reducible (first|refine mB ?_ fun _=>?_|refine mA (Vs n) ?_)|exact rfl|exact bA _)
def Ab(n:Nat):=xu (bC n) (F8 n) (Ga n)
theorem Gb(n:Nat):aZ (Ab n) oD:=fun x=>by unfold Ab oD xu;repeat (first|with_reducible (first|refine mB ?_ fun _=>?_|refine mA (Vr n) ?_|refine mA (Vt n) ?_)|exact rfl|exact bA _)
def Gc(n:Nat):=xv (bC n) (Da n) (Ab n) (C8 n)
theorem Vu(n:Nat):aZ (Gc n) sr:=fun x=>by unfold Gc sr xv;repeat (first|with_reducible (first|refine mB ?_ fun _=>?_|refine mC ?_ ?_ ?_|refine mA (LM n) ?_|refine mA (Gb n) ?_|refine mA (LJ n) ?_)|exact rfl|exact bA _)
def Gd(n:Nat):=xw (bC n) (Da n) (Ab n) (C9 n)
theorem Vv(n:Nat):aZ (Gd n) su:=fun x=>by unfold Gd su xw;repeat (first|with_reducible (first|refine mB ?_ fun _=>?_|refine mC ?_ ?_ ?_|refine mA (LM n) ?_|refine mA (Gb n) ?_|refine mA (LK n) ?_)|exact rfl|exact bA _)
def LN(_n:Nat):=xx
theorem Vw(n:Nat):aZ (LN n) xx:=LI
def Ge(n:Nat):=xy (bC n) (LN n)
theorem Vx(n:Nat):aZ (Ge n) pM:=fun x=>by unfold Ge pM xy;repeat (first|with_reducible (first|refine mB ?_ fun _=>?_|refine mA (Vw n) ?_)|exact rfl|exact bA _)
def Gf(n:Nat):=BP (bC n) (Ge n)
theorem Vy(n:Nat):aZ (Gf n) vB:=fun x=>by unfold Gf vB BP;repeat (first|with_reducible (first|refine mB ?_ fun _=>?_|refine mC ?_ ?_ ?_|refine mL (fun _=>?_) ?_|refine mA (Vx n) ?_)|exact rfl|exact bA _)
def vZ(n:Nat):=xA (bC n) (Aa n) (Gc n) (Gd n) (Gf n) (Ab n)
theorem Db(n:Nat):aZ (vZ n) ly:=fun x=>by unfold vZ ly xA;repeat (first|with_reducible (first|refine mB ?_ fun _=>?_|refine mC ?_ ?_ ?_|refine mA (F4 n) ?_|refine mA (Vu n) ?_|refine mA (Vv n) ?_|refine mA (Vy n) ?_|refine mA (Gb n) ?_)|exact rfl|exact bA _)
def Ac(n:Nat):=xB (bC n) (vZ n)
theorem Gg(n:Nat):aZ (Ac n) nn:=fun x=>by unfold Ac nn xB;repeat (first|with_reducible (first|refine mB ?_ fun _=>?_|refine mA (Db n) ?_)|exact rfl|exact bA _)
def Dc(n:Nat):=xC (bC n)
theorem LO(n:Nat):aZ (Dc n) oE:=fun x=>by unfold Dc oE xC;repeat (first|with_reducible (first|refine mB ?_ fun _=>?_|refine mC ?_ ?_ ?_)|exact rfl|exact bA _)
def Gh(n:Nat):=BQ (bC n)
theorem Vz(n:Nat):aZ (Gh n) BR:=fun x=>by unfold Gh BR BQ;exact bA _
def Gi(n:Nat):=xD (bC n) (Gh n)
theorem VA(n:Nat):aZ (Gi n) fb:=fun x=>by unfold Gi fb xD;repeat (first|with_reducible (first|refine mB ?_ fun _=>?_|refine mC ?_ ?_ ?_|refine mA (Vz n) ?_)|exact rfl|exact bA _)
def Gj(n:Nat):=xE (bC n) (vZ n)
theorem VB(n:Nat):aZ (Gj n) sv:=fun x=>by unfold Gj sv xE;repeat (first|with_reducible (first|refine mB ?_ fun _=>?_|refine mC ?_ ?_ ?_|refine mA (Db n) ?_)|exact rfl|exact bA _)
def Gk(n:Nat):=xF (bC n)
theorem VC(n:Nat):aZ (Gk n) sw:=fun x=>by unfold Gk sw xF;repeat (first|with_reducible (first|refine mB ?_ fun _=>?_|refine mC ?_ ?_ ?_)|exact rfl|exact bA _)
def Gl(n:Nat):=BS (bC n)
theorem VD(n:Nat):aZ (Gl n) vC:=fun x=>by unfold Gl vC BS;exact bA _
def Gm(n:Nat):=xG (bC n)
theorem VE(n:Nat):aZ (Gm n) sx:=fun x=>by unfold Gm sx xG;exact bA _
def Gn(n:Nat):=xH (bC n) (Ac n) (Dc n) (Aa n) (Gi n) (Gj n) (Gk n) (Gl n) (Gm n)
set_option maxRecDepth 100000 in
theorem VF(n:Nat):aZ (Gn n) sy:=fun x=>by unfold Gn sy xH;repeat (first|with_reducible (first|refine mB ?_ fun _=>?_|refine mC ?_ ?_ ?_|refine mA (Gg n) ?_|refine mA (LO n) ?_|refine mA (F4 n) ?_|refine mA (VA n) ?_|refine mA (VB n) ?_|refine mA (VC n) ?_|refine mA (VD n) ?_|refine mA (VE n) ?_)|exact rfl|exact bA _)
def Gp(n:Nat):=xI (bC n) (Gn n)
theorem VG(n:Nat):aZ (Gp n) pP:=fun x=>by unfold Gp pP xI;repeat (first|with_reducible (first|refine mB ?_ fun _=>?_|refine mA (VF n) ?_)|exact rfl|exact bA _)
def Em(n:Nat)(self:xi):=BT (bC n) self (Gp n)
def LP(n:Nat):=bB (Em n) n
theorem VH(n:Nat):aZ (LP n) xJ:=Ji (fun _ _ hg x=>by unfold Em lQ BT;repeat (first|with_reducible (first|refine mB ?_ fun _=>?_|refine mC ?_ ?_ ?_|refine mL (fun _=>?_) ?_|refine mA hg ?_|refine mA (VG n) ?_)|exact rfl|exact bA _)) n
def Gq(n:Nat):=xK (bC n) (nw n)
theorem VI(n:Nat):aZ (Gq n) sA:=fun x=>by unfold Gq sA xK;repeat (first|with_reducible (first|refine mB ?_ fun _=>?_|refine mC ?_ ?_ ?_|refine mK ?_ ?_|refine mA (re n) ?_)|exact rfl|exact bA _)
def Dd(n:Nat):=BU (bC n)
theorem LQ(n:Nat):aZ (Dd n) sB:=fun x=>by unfold Dd sB BU;repeat (first|with_reducible (first|refine mB ?_ fun _=>?_|refine mC ?_ ?_ ?_|refine mL (fun _=>?_) ?_|refine mF ?_)|exact rfl|exact bA _)
def LR(_n:Nat):=Vm
theorem VJ(n:Nat):aZ (LR n) sC:=quu n
def Gr(n:Nat):=BV (bC n)
theorem VK(n:Nat):aZ (Gr n) sD:=fun x=>by unfold Gr sD BV;repeat (first|with_reducible (first|refine mB ?_ fun _=>?_|refine mC ?_ ?_ ?_|refine mL (fun _=>?_) ?_)|exact rfl|exact bA _)
def Gs(n:Nat):=xL (bC n) (Dd n)
theorem VL(n:Nat):aZ (Gs n) sE:=fun x=>by unfold Gs sE xL;repeat (first|with_reducible (first|refine mB ?_ fun _=>?_|refine mA (LQ n) ?_)|exact rfl|exact bA _)
def Gt(n:Nat):=xM (bC n) (Gq n) (Dd n) (LR n) (Gr n) (Gs n)
theorem VM(n:Nat):aZ (Gt n) pQ:=fun x=>by unfold Gt pQ xM;repeat (first|with_reducible (first|refine mB ?_ fun _=>?_|refine mA (VI n) ?_|refine mA (LQ n) ?_|refine mA (VJ n) ?_|refine mA (VK n) ?_|refine mA (VL n) ?_)|exact rfl|exact bA _)
def Gu(n:Nat):=BW (bC n) (tq n) (nw n) (F3 n) (LP n) (Gt n) (Dc n)
theorem VN(n:Nat):aZ (Gu n) sF:=fun x=>by unfold Gu sF BW;repeat (first|with_reducible (first|refine mB ?_ fun _=>?_|refine mC ?_ ?_ ?_|refine mL (fun _=>?_) ?_|refine mS (fun _=>?_) _|refine mA (z8 n) ?_|refine mA (re n) ?_|refine mA (Vn n) ?_|refine mA (VH n) ?_|refine mA (VM n) ?_|refine mA (LO n) ?_)|exact rfl|exact bA _)
def Ad(n:Nat):=xN (bC n) (Gu n)
theorem Gv(n:Nat):aZ (Ad n) lR:=fun x=>by unfold Ad lR xN;repeat (first|with_reducible (first|refine mB ?_ fun _=>?_|refine mA (VN n) ?_)|exact rfl|exact bA _)
def Gw(n:Nat):=xO (bC n)
theorem VO(n:Nat):aZ (Gw n) sG:=fun x=>by unfold Gw sG xO;exact bA _
def Gx(n:Nat):=BX (bC n) (Gw n)
theorem VP(n:Nat):aZ (Gx n) sH:=fun x=>by unfold Gx sH BX;repeat (first|with_reducible (first|refine mB ?_ fun _=>?_|refine mC ?_ ?_ ?_|refine mL (fun _=>?_) ?_|refine mA (VO n) ?_)|exact rfl|exact bA _)
def De(n:Nat):=xP (bC n) (vZ n)
theorem LS(n:Nat):aZ (De n) nq:=fun x=>by unfold De nq xP;repeat (first|with_reducible (first|refine mB ?_ fun _=>?_|refine mA (Db n) ?_)|exact rfl|exact bA _)
def Gy(n:Nat):=xQ (bC n) (vZ n)
theorem VQ(n:Nat):aZ (Gy n) sI:=fun x=>by unfold Gy sI xQ;repeat (first|with_reducible (first|refine mB ?_ fun _=>?_|refine mC ?_ ?_ ?_|refine mA (Db n) ?_)|exact rfl|exact bA _)
def Gz(n:Nat):=xR (bC n) (Gy n)
theorem VR(n:Nat):aZ (Gz n) sJ:=fun x=>by unfold Gz sJ xR;repeat (first|with_reducible (first|refine mB ?_ fun _=>?_|refine mA (VQ n) ?_)|exact rfl|exact bA _)
def GA(n:Nat):=BY (bC n) (Gz n)
theorem VS(n:Nat):aZ (GA n) xS:=fun x=>by unfold GA xS BY;repeat (first|with_reducible (first|refine mB ?_ fun _=>?_|refine mC ?_ ?_ ?_|refine mL (fun _=>?_) ?_|refine mA (VR n) ?_)|exact rfl|exact bA _)
def GB(n:Nat):=xT (bC n) (GA n)
theorem VT(n:Nat):aZ (GB n) sK:=fun x=>by unfold GB sK xT;repeat (first|with_reducible (first|refine mB ?_ fun _=>?_|refine mA (VS n) ?_)|exact rfl|exact bA _)
def v7(n:Nat):=xU (bC n) (tq n) (GB n)
theorem Df(n:Nat):aZ (v7 n) lS:=fun x=>by unfold v7 lS xU;repeat (first|with_reducible (first|refine mB ?_ fun _=>?_|refine mC ?_ ?_ ?_|refine mA (z8 n) ?_|refine mA (VT n) ?_)|exact rfl|exact bA _)
def GC(n:Nat):=xV (bC n)
theorem VU(n:Nat):aZ (GC n) sL:=fun x=>by unfold GC sL xV;exact bA _
def GF(n:Nat):=BZ (bC n) (GC n)
theorem VV(n:Nat):aZ (GF n) xW:=fun x=>by unfold GF xW BZ;repeat (first|with_reducible (first|refine mB ?_ fun _=>?_|refine mC ?_ ?_ ?_|refine mL (fun _=>?_) ?_|refine mA (VU n) ?_)|exact rfl|exact bA _)
def GG(n:Nat):=xX (bC n) (GF n)
theorem VW(n:Nat):aZ (GG n) vD:=fun x=>by unfold GG vD xX;repeat (first|with_reducible (first|refine mB ?_ fun _=>?_|refine mA (VV n) ?_)|exact rfl|exact bA _)
def GH(n:Nat):=B5 (bC n)
theorem VX(n:Nat):aZ (GH n) xY:=fun x=>by unfold GH xY B5;repeat (first|with_reducible (first|refine mB ?_ fun _=>?_|refine mC ?_ ?_ ?_|refine mL (fun _=>?_) ?_)|exact rfl|exact bA _)
def GI(n:Nat):=xZ (bC n) (GH n)
theorem VY(n:Nat):aZ (GI n) pR:=fun x=>by unfold GI pR xZ;repeat (first|with_reducible (first|refine mB ?_ fun _=>?_|refine mA (VX n) ?_)|exact rfl|exact bA _)
def GJ(n:Nat):=B6 (bC n) (v7 n) (GI n)
theorem VZ(n:Nat):aZ (GJ n) vE:=fun x=>by unfold GJ vE B6;repeat (first|with_reducible (first|refine mB ?_ fun _=>?_|refine mC ?_ ?_ ?_|refine mL (fun _=>?_) ?_|refine mF ?_|refine mA (Df n) ?_|refine mA (VY n) ?_)|exact rfl|exact bA _)
def GK(n:Nat):=ya (bC n) (v7 n) (GG n) (GJ n)
theorem V0(n:Nat):aZ (GK n) vF:=fun x=>by unfold GK vF ya;repeat (first|with_reducible (first|refine mB ?_ fun _=>?_|refine mC ?_ ?_ ?_|refine mA (Df n) ?_|refine mA (VW n) ?_|refine mA (VZ n) ?_)|exact rfl|exact bA _)
def GM(n:Nat):=yc (bC n) (GK n)
theorem V1(n:Nat):aZ (GM n) pS:=fun x=>by unfold GM pS yc;repeat (first|with_reducible (first|refine mB ?_ fun _=>?_|refine mA (V0 n) ?_)|exact rfl|exact bA _)
def GN(n:Nat):=B7 (bC n) (GM n)
theorem V2(n:Nat):aZ (GN n) yd:=fun x=>by unfold GN yd B7;repeat (first|with_reducible (first|refine mB ?_ fun _=>?_|refine mC ?_ ?_ ?_|refine mL (fun _=>?_) ?_|refine mA (V1 n) ?_)|exact rfl|exact bA _)
def GO(n:Nat):=ye (bC n) (GN n)
theorem V3(n:Nat):aZ (GO n) pT:=fun x=>by unfold GO pT ye;repeat (first|with_reducible (first|refine mB ?_ fun _=>?_|refine mA (V2 n) ?_)|exact rfl|exact bA _)
def GP(n:Nat):=B8 (bC n) (De n) (GO n)
theorem V4(n:Nat):aZ (GP n) vG:=fun x=>by unfold GP vG B8;repeat (first|with_reducible (first|refine mB ?_ fun _=>?_|refine mC ?_ ?_ ?_|refine mL (fun _=>?_) ?_|refine mA (LS n) ?_|refine mA (V3 n) ?_)|exact rfl|exact bA _)
def GQ(n:Nat):=yf (bC n) (GP n)
theorem V5(n:Nat):aZ (GQ n) sM:=fun x=>by unfold GQ sM yf;repeat (first|with_reducible (first|refine mB ?_ fun _=>?_|refine mA (V4 n) ?_)|exact rfl|exact bA _)
def GR(n:Nat):=B9 (bC n) (GQ n)
theorem V6(n:Nat):aZ (GR n) yg:=fun x=>by unfold GR yg B9;repeat (first|with_reducible (first|refine mB ?_ fun _=>?_|refine mC ?_ ?_ ?_|refine mL (fun _=>?_) ?_|refine mA (V5 n) ?_)|exact rfl|exact bA _)
def GS(n:Nat):=yh (bC n) (GR n)
theorem V7(n:Nat):aZ (GS n) pU:=fun x=>by unfold GS pU yh;repeat (first|with_reducible (first|refine mB ?_ fun _=>?_|refine mA (V6 n) ?_)|exact rfl|exact bA _)
def GU(n:Nat):=yi (bC n)
theorem V8(n:Nat):aZ (GU n) sN:=fun x=>by unfold GU sN yi;repeat (first|with_reducible (first|refine mB ?_ fun _=>?_|refine mC ?_ ?_ ?_)|exact rfl|exact bA _)
def GV(n:Nat):=Ca (bC n) (GU n)
theorem V9(n:Nat):aZ (GV n) vH:=fun x=>by unfold GV vH Ca;repeat (first|with_reducible (first|refine mB ?_ fun _=>?_|refine mC ?_ ?_ ?_|refine mL (fun _=>?_) ?_|refine mA (V8 n) ?_)|exact rfl|exact bA _)
def GW(n:Nat):=yj (bC n) (GV n)
theorem Wa(n:Nat):aZ (GW n) vI:=fun x=>by unfold GW vI yj;repeat (first|with_reducible (first|refine mB ?_ fun _=>?_|refine mA (V9 n) ?_)|exact rfl|exact bA _)
def GX(n:Nat):=yk (bC n) (GW n)
theorem Wb(n:Nat):aZ (GX n) pV:=fun x=>by unfold GX pV yk;repeat (first|with_reducible (first|refine mB ?_ fun _=>?_|refine mC ?_ ?_ ?_|refine mA (Wa n) ?_)|exact rfl|exact bA _)
def GY(n:Nat):=Cb (bC n) (GX n)
theorem Wc(n:Nat):aZ (GY n) sO:=fun x=>by unfold GY sO Cb;repeat (first|with_reducible (first|refine mB ?_ fun _=>?_|refine mC ?_ ?_ ?_|refine mL (fun _=>?_) ?_|refine mA (Wb n) ?_)|exact rfl|exact bA _)
def GZ(n:Nat):=yl (bC n)
theorem Wd(n:Nat):aZ (GZ n) sP:=fun x=>by unfold GZ sP yl;repeat (first|with_reducible (first|refine mB ?_ fun _=>?_|refine mC ?_ ?_ ?_)|exact rfl|exact bA _)
def G0(n:Nat):=Cc (bC n) (GZ n)
theorem We(n:Nat):aZ (G0 n) ym:=fun x=>by unfold G0 ym Cc;repeat (first|with_reducible (first|refine mB ?_ fun _=>?_|refine mC ?_ ?_ ?_|refine mL (fun _=>?_) ?_|refine mA (Wd n) ?_)|exact rfl|exact bA _)
def G1(n:Nat):=yn (bC n) (G0 n)
theorem Wf(n:Nat):aZ (G1 n) sQ:=fun x=>by unfold G1 sQ yn;repeat (first|with_reducible (first|refine mB ?_ fun _=>?_|refine mA (We n) ?_)|exact rfl|exact bA _)
def G2(n:Nat):=yo (bC n) (G1 n) (De n)
theorem Wg(n:Nat):aZ (G2 n) pW:=fun x=>by unfold G2 pW yo;repeat (first|with_reducible (first|refine mB ?_ fun _=>?_|refine mC ?_ ?_ ?_|refine mA (Wf n) ?_|refine mA (LS n) ?_)|exact rfl|exact bA _)
def G3(n:Nat):=Cd (bC n) (G2 n)
theorem Wh(n:Nat):aZ (G3 n) yp:=fun x=>by unfold G3 yp Cd;repeat (first|with_reducible (first|refine mB ?_ fun _=>?_|refine mC ?_ ?_ ?_|refine mL (fun _=>?_) ?_|refine mA (Wg n) ?_)|exact rfl|exact bA _)
def G4(n:Nat):=yq (bC n) (G3 n)
theorem Wi(n:Nat):aZ (G4 n) vJ:=fun x=>by unfold G4 vJ yq;repeat (first|with_reducible (first|refine mB ?_ fun _=>?_|refine mA (Wh n) ?_)|exact rfl|exact bA _)
def G5(n:Nat):=yr (bC n) (G4 n)
theorem Wj(n:Nat):aZ (G5 n) pX:=fun x=>by unfold G5 pX yr;repeat (first|with_reducible (first|refine mB ?_ fun _=>?_|refine mA (Wi n) ?_)|exact rfl|exact bA _)
def G6(n:Nat):=Ce (bC n) (G5 n)
theorem Wk(n:Nat):aZ (G6 n) yu:=fun x=>by unfold G6 yu Ce;repeat (first|with_reducible (first|refine mB ?_ fun _=>?_|refine mC ?_ ?_ ?_|refine mL (fun _=>?_) ?_|refine mA (Wj n) ?_)|exact rfl|exact bA _)
def G7(n:Nat):=yv (bC n) (G6 n)
theorem Wl(n:Nat):aZ (G7 n) vK:=fun x=>by unfold G7 vK yv;repeat (first|with_reducible (first|refine mB ?_ fun _=>?_|refine mA (Wk n) ?_)|exact rfl|exact bA _)
def G8(n:Nat):=yw (bC n) (G7 n)
theorem Wm(n:Nat):aZ (G8 n) pY:=fun x=>by unfold G8 pY yw;repeat (first|with_reducible (first|refine mB ?_ fun _=>?_|refine mA (Wl n) ?_)|exact rfl|exact bA _)
def G9(n:Nat):=Cf (bC n) (G8 n)
theorem Wn(n:Nat):aZ (G9 n) sR:=fun x=>by unfold G9 sR Cf;repeat (first|with_reducible (first|refine mB ?_ fun _=>?_|refine mC ?_ ?_ ?_|refine mL (fun _=>?_) ?_|refine mA (Wm n) ?_)|exact rfl|exact bA _)
def Dg(n:Nat):=Cg (bC n) (Gx n) (GS n) (GY n) (G9 n)
theorem LU(n:Nat):aZ (Dg n) oF:=fun x=>by unfold Dg oF Cg;repeat (first|with_reducible (first|refine mB ?_ fun _=>?_|refine mC ?_ ?_ ?_|refine mL (fun _=>?_) ?_|refine mA (VP n) ?_|refine mA (V7 n) ?_|refine mA (Wc n) ?_|refine mA (Wn n) ?_)|exact rfl|exact bA _)
def tu(n:Nat):=Ch (bC n) (nw n)
theorem Ae(n:Nat):aZ (tu n) kG:=fun x=>by unfold tu kG Ch;repeat (first|with_reducible (first|refine mB ?_ fun _=>?_|refine mC ?_ ?_ ?_|refine mL (fun _=>?_) ?_|refine mF ?_|refine mA (re n) ?_)|exact rfl|exact bA _)
def Dh(n:Nat):=Ci (bC n) (tu n) (nw n)
theorem LV(n:Nat):aZ (Dh n) lU:=fun x=>by unfold Dh lU Ci;repeat (first|with_reducible (first|refine mB ?_ fun _=>?_|refine mC ?_ ?_ ?_|refine mL (fun _=>?_) ?_|refine mF ?_|refine mA (Ae n) ?_|refine mA (re n) ?_)|exact rfl|exact bA _)
def Ha(n:Nat):=yx (bC n)
theorem Wo(n:Nat):aZ (Ha n) sS:=fun x=>by unfold Ha sS yx;repeat (first|with_reducible (first|refine mB ?_ fun _=>?_|refine mC ?_ ?_ ?_)|exact rfl|exact bA _)
def Hb(n:Nat):=Cj (bC n) (Ha n)
theorem Wp(n:Nat):aZ (Hb n) vL:=fun x=>by unfold Hb vL Cj;repeat (first|with_reducible (first|refine mB ?_ fun _=>?_|refine mC ?_ ?_ ?_|refine mL (fun _=>?_) ?_|refine mA (Wo n) ?_)|exact rfl|exact bA _)
def Hc(n:Nat):=yz (bC n) (Hb n)
theorem Wq(n:Nat):aZ (Hc n) oG:=fun x=>by unfold Hc oG yz;repeat (first|with_reducible (first|refine mB ?_ fun _=>?_|refine mC ?_ ?_ ?_|refine mA (Wp n) ?_)|exact rfl|exact bA _)
def Hd(n:Nat):=yA (bC n)
theorem Wr(n:Nat):aZ (Hd n) sT:=fun x=>by unfold Hd sT yA;exact bA _
def He(n:Nat):=Ck (bC n) (Hd n)
theorem Ws(n:Nat):aZ (He n) sU:=fun x=>by unfold He sU Ck;repeat (first|with_reducible (first|refine mB ?_ fun _=>?_|refine mC ?_ ?_ ?_|refine mL (fun _=>?_) ?_|refine mA (Wr n) ?_)|exact rfl|exact bA _)
def Hf(n:Nat):=yB (bC n)
theorem Wt(n:Nat):aZ (Hf n) sV:=fun x=>by unfold Hf sV yB;exact bA _
def Hg(n:Nat):=Cl (bC n) (Hf n)
theorem Wu(n:Nat):aZ (Hg n) sW:=fun x=>by unfold Hg sW Cl;repeat (first|with_reducible (first|refine mB ?_ fun _=>?_|refine mC ?_ ?_ ?_|refine mL (fun _=>?_) ?_|refine mA (Wt n) ?_)|exact rfl|exact bA _)
def Hh(n:Nat):=Cm (bC n) (Hg n)
theorem Wv(n:Nat):aZ (Hh n) sX:=fun x=>by unfold Hh sX Cm;repeat (first|with_reducible (first|refine mB ?_ fun _=>?_|refine mC ?_ ?_ ?_|refine mL (fun _=>?_) ?_|refine mF ?_|refine mA (Wu n) ?_)|exact rfl|exact bA _)
def Di(n:Nat):=Cn (bC n) (tu n) (nw n) (Hc n) (He n) (Hh n)
theorem LW(n:Nat):aZ (Di n) lV:=fun x=>by unfold Di lV Cn;repeat (first|with_reducible (first|refine mB ?_ fun _=>?_|refine mC ?_ ?_ ?_|refine mL (fun _=>?_) ?_|refine mF ?_|refine mA (Ae n) ?_|refine mA (re n) ?_|refine mA (Wq n) ?_|refine mA (Ws n) ?_|refine mA (Wv n) ?_)|exact rfl|exact bA _)
def Ww(n:Nat)(self:xf):=KY (bC n) self
theorem qmt(n:Nat){g g'}(hg:aZ g g'):aZ (Ww n g) (Eh g'):=fun x=>by unfold Ww Eh KY;repeat (first|with_reducible (first|refine mB ?_ fun _=>?_|refine mA hg ?_)|exact rfl|exact bA _)
def Wx(n:Nat)(self:xf):=Pc (bC n) (Dh n) (Ww n self) (Di n)
theorem qqr(n:Nat){g g'}(hg:aZ g g'):aZ (Wx n g) (Jf g'):=fun x=>by unfold Wx Jf Pc;repeat (first|with_reducible (first|refine mB ?_ fun _=>?_|refine mC ?_ ?_ ?_|refine mL (fun _=>?_) ?_|refine mA (LV n) ?_|refine mA (qmt n hg) ?_|refine mA (LW n) ?_)|exact rfl|exact bA _)
def Eo(n:Nat)(self:xf):=yC (bC n) (Wx n self)
def LX(n:Nat):=bB (Eo n) n
theorem Wy(n:Nat):aZ (LX n) Co:=Ji (fun _ _ hg x=>by unfold Eo oH yC;repeat (first|with_reducible (first|refine mB ?_ fun _=>?_|refine mC ?_ ?_ ?_|refine mA (qqr n hg) ?_)|exact rfl|exact bA _)) n
def Hi(n:Nat):=yD (bC n) (Ad n) (Dg n) (v7 n) (LX n)
theorem Wz(n:Nat):aZ (Hi n) iU:=fun x=>by unfold Hi iU yD;repeat (first|with_reducible (first|refine mB ?_ fun _=>?_|refine mC ?_ ?_ ?_|refine mA (Gv n) ?_|refine mA (LU n) ?_|refine mA (Df n) ?_|refine mA (Wy n) ?_)|exact rfl|exact bA _)
def LY(_n:Nat):=vM
theorem WA(n:Nat):aZ (LY n) vM:=LI
def Hj(n:Nat):=yE (bC n) (LY n)
theorem WB(n:Nat):aZ (Hj n) vN:=fun x=>by unfold Hj vN yE;repeat (first|with_reducible (first|refine mB ?_ fun _=>?_|refine mA (WA n) ?_)|exact rfl|exact bA _)
def Hk(n:Nat):=yF (bC n) (Hj n)
theorem WC(n:Nat):aZ (Hk n) sY:=fun x=>by unfold Hk sY yF;repeat (first|with_reducible (first|refine mB ?_ fun _=>?_|refine mA (WB n) ?_)|exact rfl|exact bA _)
def Dj(n:Nat):=yG (bC n) (Hk n)
theorem LZ(n:Nat):aZ (Dj n) lW:=fun x=>by unfold Dj lW yG;repeat (first|with_reducible (first|refine mB ?_ fun _=>?_|refine mC ?_ ?_ ?_|refine mF ?_|refine mA (WC n) ?_)|exact rfl|exact bA _)
def v8(n:Nat):=yH (bC n)
theorem Dk(n:Nat):aZ (v8 n) kH:=fun x=>by unfold v8 kH yH;repeat (first|with_reducible (first|refine mB ?_ fun _=>?_|refine mC ?_ ?_ ?_)|exact rfl|exact bA _)
def Hl(n:Nat):=yI (bC n) (v8 n)
theorem WD(n:Nat):aZ (Hl n) sZ:=fun x=>by unfold Hl sZ yI;repeat (first|with_reducible (first|refine mB ?_ fun _=>?_|refine mA (Dk n) ?_)|exact rfl|exact bA _)
def Hm(n:Nat):=Cp (bC n) (Hl n)
theorem WE(n:Nat):aZ (Hm n) pZ:=fun x=>by unfold Hm pZ Cp;repeat (first|with_reducible (first|refine mB ?_ fun _=>?_|refine mC ?_ ?_ ?_|refine mL (fun _=>?_) ?_|refine mA (WD n) ?_)|exact rfl|exact bA _)
def Hn(n:Nat):=yJ (bC n)
theorem WG(n:Nat):aZ (Hn n) lz:=fun x=>by unfold Hn lz yJ;repeat (first|with_reducible refine mC ?_ ?_ ?_|exact rfl|exact bA _)
def Dl(n:Nat):=yK (bC n)
theorem L0(n:Nat):aZ (Dl n) lX:=fun x=>by unfold Dl lX yK;repeat (first|with_reducible refine mB ?_ fun _=>?_|exact bA _)
def Ho(n:Nat):=Cq (bC n)
theorem WH(n:Nat):aZ (Ho n) vO:=fun x=>by unfold Ho vO Cq;repeat (first|with_reducible (first|refine mB ?_ fun _=>?_|refine mC ?_ ?_ ?_|refine mL (fun _=>?_) ?_)|exact rfl|exact bA _)
def Hp(n:Nat):=yL (bC n) (Ho n)
theorem WI(n:Nat):aZ (Hp n) oI:=fun x=>by unfold Hp oI yL;repeat (first|with_reducible (first|refine mB ?_ fun _=>?_|refine mA (WH n) ?_)|exact rfl|exact bA _)
def L1(_n:Nat):=s5
theorem WJ(n:Nat):aZ (L1 n) s5:=LI
def Dm(n:Nat):=Cr (bC n) (L1 n)
theorem L2(n:Nat):aZ (Dm n) nr:=fun x=>by unfold Dm nr Cr;repeat (first|with_reducible (first|refine mB ?_ fun _=>?_|refine mC ?_ ?_ ?_|refine mL (fun _=>?_) ?_|refine mF ?_|refine mA (WJ n) ?_)|exact rfl|exact bA _)
def Dn(n:Nat):=Cs (bC n) (tu n) (nw n)
theorem L3(n:Nat):aZ (Dn n) p0:=fun x=>by unfold Dn p0 Cs;repeat (first|with_reducible (first|refine mB ?_ fun _=>?_|refine mC ?_ ?_ ?_|refine mL (fun _=>?_) ?_|refine mF ?_|refine mA (Ae n) ?_|refine mA (re n) ?_)|exact rfl|exact bA _)
def Hq(n:Nat):=yM (bC n) (Dn n) (v8 n) (Dl n)
theorem WK(n:Nat):aZ (Hq n) s6:=fun x=>by unfold Hq s6 yM;repeat (first|with_reducible (first|refine mB ?_ fun _=>?_|refine mC ?_ ?_ ?_|refine mA (L3 n) ?_|refine mA (Dk n) ?_|refine mA (L0 n) ?_)|exact rfl|exact bA _)
def Hr(n:Nat):=Ct (bC n) (Dm n) (Hq n)
theorem WL(n:Nat):aZ (Hr n) p4:=fun x=>by unfold Hr p4 Ct;repeat (first|with_reducible (first|refine mB ?_ fun _=>?_|refine mC ?_ ?_ ?_|refine mL (fun _=>?_) ?_|refine mF ?_|refine mA (L2 n) ?_|refine mA (WK n) ?_)|exact rfl|exact bA _)
def Hs(n:Nat):=yN (bC n) (v8 n)
theorem WM(n:Nat):aZ (Hs n) s7:=fun x=>by unfold Hs s7 yN;repeat (first|with_reducible (first|refine mB ?_ fun _=>?_|refine mA (Dk n) ?_)|exact rfl|exact bA _)
def Ht(n:Nat):=Cu (bC n) (Dm n) (Hs n)
theorem WN(n:Nat):aZ (Ht n) p5:=fun x=>by unfold Ht p5 Cu;repeat (first|with_reducible (first|refine mB ?_ fun _=>?_|refine mC ?_ ?_ ?_|refine mL (fun _=>?_) ?_|refine mF ?_|refine mA (L2 n) ?_|refine mA (WM n) ?_)|exact rfl|exact bA _)
def Hu(n:Nat):=yO (bC n) (Dg n) (v7 n) (Di n)
theorem WO(n:Nat):aZ (Hu n) lY:=fun x=>by unfold Hu lY yO;repeat (first|with_reducible (first|refine mB ?_ fun _=>?_|refine mC ?_ ?_ ?_|refine mA (LU n) ?_|refine mA (Df n) ?_|refine mA (LW n) ?_)|exact rfl|exact bA _)
def L4(_n:Nat):=s8
theorem WQ(n:Nat):aZ (L4 n) s8:=LI
def Hv(n:Nat):=Cv (bC n) (L4 n)
theorem WR(n:Nat):aZ (Hv n) oJ:=fun x=>by unfold Hv oJ Cv;repeat (first|with_reducible (first|refine mB ?_ fun _=>?_|refine mC ?_ ?_ ?_|refine mL (fun _=>?_) ?_|refine mF ?_|refine mA (WQ n) ?_)|exact rfl|exact bA _)
def Hw(n:Nat):=yP (bC n)
theorem WS(n:Nat):aZ (Hw n) s9:=fun x=>by unfold Hw s9 yP;repeat (first|with_reducible refine mB ?_ fun _=>?_|exact bA _)
def Hx(n:Nat):=Cw (bC n) (Hw n)
theorem WT(n:Nat):aZ (Hx n) p6:=fun x=>by unfold Hx p6 Cw;repeat (first|with_reducible (first|refine mB ?_ fun _=>?_|refine mC ?_ ?_ ?_|refine mL (fun _=>?_) ?_|refine mA (WS n) ?_)|exact rfl|exact bA _)
def Ep(n:Nat)(self:lP):=Cy (bC n) self (Dj n) (Hm n) (Hn n) (v8 n) (Dl n) (Hp n) (Hr n) (Ht n) (Hu n) (Hv n) (Hx n)
def L5(n:Nat):=bB (Ep n) n
set_option maxRecDepth 100000 in
theorem WU(n:Nat):aZ (L5 n) vP:=Ji (fun _ _ hg x=>by unfold Ep oK Cy;repeat (first|with_reducible (first|refine mB ?_ fun _=>?_|refine mC ?_ ?_ ?_|refine mL (fun _=>?_) ?_|refine mF ?_|refine mA hg ?_|refine mA (LZ n) ?_|refine mA (WE n) ?_|refine mA (WG n) ?_|refine mA (Dk n) ?_|refine mA (L0 n) ?_|refine mA (WI n) ?_|refine mA (WL n) ?_|refine mA (WN n) ?_|refine mA (WO n) ?_|refine mA (WR n) ?_|refine mA (WT n) ?_)|exact rfl|exact bA _)) n
def Hy(n:Nat):=Cz (bC n) (Hi n) (L5 n)
theorem WV(n:Nat):aZ (Hy n) lZ:=fun x=>by unfold Hy lZ Cz;repeat (first|with_reducible (first|refine mB ?_ fun _=>?_|refine mC ?_ ?_ ?_|refine mL (fun _=>?_) ?_|refine mF ?_|refine mA (Wz n) ?_|refine mA (WU n) ?_)|exact rfl|exact bA _)
def Hz(_n:Nat):=vQ
theorem L6(n:Nat):aZ (Hz n) vQ:=LI
def Er(n:Nat)(self:BF):=CA (bC n) self (Hz n) (Ac n)
def L7(n:Nat):=bB (Er n) n
theorem WW(n:Nat):aZ (L7 n) Fx:=Ji (fun _ _ hg x=>by unfold Er Fw CA;repeat (first|with_reducible (first|refine mB ?_ fun _=>?_|refine mC ?_ ?_ ?_|refine mL (fun _=>?_) ?_|refine mA hg ?_|refine mA (L6 n) ?_|refine mA (Gg n) ?_)|exact rfl|exact bA _)) n
def Dp(n:Nat):=CB (bC n) (tq n) (L7 n)
theorem L8(n:Nat):aZ (Dp n) yQ:=fun x=>by unfold Dp yQ CB;repeat (first|with_reducible (first|refine mB ?_ fun _=>?_|refine mC ?_ ?_ ?_|refine mA (z8 n) ?_|refine mA (WW n) ?_)|exact rfl|exact bA _)
def Es(n:Nat)(self:BG):=CC (bC n) self (Dn n) (Dj n)
def L9(n:Nat):=bB (Es n) n
theorem WX(n:Nat):aZ (L9 n) Fz:=Ji (fun _ _ hg x=>by unfold Es Fy CC;repeat (first|with_reducible (first|refine mB ?_ fun _=>?_|refine mC ?_ ?_ ?_|refine mL (fun _=>?_) ?_|refine mF ?_|refine mA hg ?_|refine mA (L3 n) ?_|refine mA (LZ n) ?_)|exact rfl|exact bA _)) n
def HA(n:Nat):=CD (bC n) (Ad n) (L9 n)
theorem WY(n:Nat):aZ (HA n) CE:=fun x=>by unfold HA CE CD;repeat (first|with_reducible (first|refine mB ?_ fun _=>?_|refine mC ?_ ?_ ?_|refine mA (Gv n) ?_|refine mA (WX n) ?_)|exact rfl|exact bA _)
def Dq(n:Nat):=CF (bC n)
theorem Ma(n:Nat):aZ (Dq n) yR:=fun x=>by unfold Dq yR CF;repeat (first|with_reducible (first|refine mB ?_ fun _=>?_|refine mC ?_ ?_ ?_|refine mF ?_)|exact rfl|exact bA _)
def Dr(n:Nat):=CG (bC n) (tu n) (nw n) (Hz n)
theorem Mb(n:Nat):aZ (Dr n) yS:=fun x=>by unfold Dr yS CG;repeat (first|with_reducible (first|refine mB ?_ fun _=>?_|refine mC ?_ ?_ ?_|refine mL (fun _=>?_) ?_|refine mA (Ae n) ?_|refine mA (re n) ?_|refine mA (L6 n) ?_)|exact rfl|exact bA _)
def HB(n:Nat):=CH (bC n) (Ac n) (Aa n)
theorem WZ(n:Nat):aZ (HB n) CI:=fun x=>by unfold HB CI CH;repeat (first|with_reducible (first|refine mB ?_ fun _=>?_|refine mC ?_ ?_ ?_|refine mA (Gg n) ?_|refine mA (F4 n) ?_)|exact rfl|exact bA _)
def HE(n:Nat):=CJ (bC n) (HB n)
theorem W4(n:Nat):aZ (HE n) CK:=fun x=>by unfold HE CK CJ;repeat (first|with_reducible (first|refine mB ?_ fun _=>?_|refine mA (WZ n) ?_)|exact rfl|exact bA _)
def HF(n:Nat):=CL (bC n) (HE n)
theorem W5(n:Nat):aZ (HF n) CM:=fun x=>by unfold HF CM CL;repeat (first|with_reducible (first|refine mB ?_ fun _=>?_|refine mC ?_ ?_ ?_|refine mL (fun _=>?_) ?_|refine mA (W4 n) ?_)|exact rfl|exact bA _)
def HG(n:Nat):=CN (bC n) (HF n)
theorem W6(n:Nat):aZ (HG n) CO:=fun x=>by unfold HG CO CN;repeat (first|with_reducible (first|refine mB ?_ fun _=>?_|refine mA (W5 n) ?_)|exact rfl|exact bA _)
def HH(n:Nat):=CP (bC n) (tq n) (HG n)
theorem W7(n:Nat):aZ (HH n) CQ:=fun x=>by unfold HH CQ CP;repeat (first|with_reducible (first|refine mB ?_ fun _=>?_|refine mC ?_ ?_ ?_|refine mA (z8 n) ?_|refine mA (W6 n) ?_)|exact rfl|exact bA _)
def HI(n:Nat):=CR (bC n) (Dq n)
theorem W8(n:Nat):aZ (HI n) yT:=fun x=>by unfold HI yT CR;repeat (first|with_reducible (first|refine mB ?_ fun _=>?_|refine mF ?_|refine mA (Ma n) ?_)|exact rfl|exact bA _)
def Et(n:Nat)(self:BD):=CS (bC n) (HI n) self (Dh n)
def Mc(n:Nat):=bB (Et n) n
set_option maxRecDepth 100000 in
theorem W9(n:Nat):aZ (Mc n) FB:=Ji (fun _ _ hg x=>by unfold Et FA CS;repeat (first|with_reducible (first|refine mB ?_ fun _=>?_|refine mC ?_ ?_ ?_|refine mL (fun _=>?_) ?_|refine mA (W8 n) ?_|refine mA hg ?_|refine mA (LV n) ?_)|exact rfl|exact bA _)) n
def HK(n:Nat):=CU (bC n) (Ad n) (HH n) (Mc n)
theorem Xa(n:Nat):aZ (HK n) CV:=fun x=>by unfold HK CV CU;repeat (first|with_reducible (first|refine mB ?_ fun _=>?_|refine mC ?_ ?_ ?_|refine mA (Gv n) ?_|refine mA (W7 n) ?_|refine mA (W9 n) ?_)|exact rfl|exact bA _)
def Ds(n:Nat):=CW (bC n) (HK n)
theorem Md(n:Nat):aZ (Ds n) yU:=fun x=>by unfold Ds yU CW;repeat (first|with_reducible (first|refine mB ?_ fun _=>?_|refine mA (Xa n) ?_)|exact rfl|exact bA _)
def HL(n:Nat):=CX (bC n) (Dq n) (Dr n) (Ds n)
theorem Xb(n:Nat):aZ (HL n) CY:=fun x=>by unfold HL CY CX;repeat (first|with_reducible (first|refine mB ?_ fun _=>?_|refine mC ?_ ?_ ?_|refine mA (Ma n) ?_|refine mA (Mb n) ?_|refine mA (Md n) ?_)|exact rfl|exact bA _)
def HM(n:Nat):=CZ (bC n) (Dp n) (Dr n) (Ds n) (tu n)
set_option maxRecDepth 100000 in
theorem Xc(n:Nat):aZ (HM n) C0:=fun x=>by unfold HM C0 CZ;repeat (first|with_reducible (first|refine mB ?_ fun _=>?_|refine mC ?_ ?_ ?_|refine mL (fun _=>?_) ?_|refine mA (L8 n) ?_|refine mA (Mb n) ?_|refine mA (Md n) ?_|refine mA (Ae n) ?_)|exact rfl|exact bA _)
def Xd(n:Nat):=Pe (bC n) (Hy n) (Dp n) (HA n) (HL n) (HM n)
set_option maxRecDepth 100000 in
theorem qhz(n:Nat):aZ (Xd n) FC:=fun x=>by unfold Xd FC Pe;repeat (first|with_reducible (first|refine mB ?_ fun _=>?_|refine mC ?_ ?_ ?_|refine mA (WV n) ?_|refine mA (L8 n) ?_|refine mA (WY n) ?_|refine mA (Xb n) ?_|refine mA (Xc n) ?_)|exact rfl|exact bA _)
theorem z1y:Xd 300 ()=some (true,()):=by kernel_rfl
theorem qyj:FC ()=some (true,()):=qhz 300 _ _ z1y
end
end Fn
end Ev