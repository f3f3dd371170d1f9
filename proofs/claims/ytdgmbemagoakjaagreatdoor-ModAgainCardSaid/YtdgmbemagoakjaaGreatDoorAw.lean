/- The example of the chapter, reckoned by the kernel: loops and calls that end soon. -/
import Derived.Test.YtdgmbemagoakjaaGreatDoorFnA
import Derived.KernelRfl
set_option linter.defProp false
namespace Ev
open Go
namespace Fn
def lq{α:Type}(a b:Option α):Prop:=∀v,a=some v->b=some v
class LQ {α:Type} (a b:Option α):Prop where
 h:lq a b
def qys{σ ρ:Type}{f g:σ->Option (σ⊕ρ)}(h:∀s,LQ (f s) (g s)):∀(n:Nat) (s:σ) (r:ρ),oT f n s=some r->oT g n s=some r
 |n+1,s,r,e=>by
  unfold oT at e ⊢;cases hf:f s with
  |none=>rw[hf] at e;cases e
  |some v=>
   rw[hf] at e;rw[(h s).h v hf];cases v with
   |inl s'=>exact qys h n s' r e
   |inr r'=>exact e
instance (priority:=1) {α:Type} (a:Option α):LQ a a:=⟨fun _=>id⟩
instance {α β:Type} {f g:α->Option β} [LF f g] (a:α):LQ (f a) (g a):=⟨LF.h a⟩
instance {α β:Type} {x y:Option α} {f g:α->Option β} [h:LQ x y] [hf:∀a,LQ (f a) (g a)]:LQ (lf.b x f) (lf.b y g):=⟨fun v e=>by
 cases hx:x with
 |none=>rw[hx] at e;cases e
 |some a=>rw[hx] at e;rw[h.h a hx];exact(hf a).h v e⟩
instance {α:Type} {c:Bool} {x y x' y':Option α} [LQ x x'] [LQ y y']:LQ (lf.c c x y) (lf.c c x' y'):=by
 cases c with
 |true=>exact ‹LQ x x'›
 |false=>exact ‹LQ y y'›
instance {α β:Type} {f g:α->Option β} [∀a,LQ (f a) (g a)] (y:α⊕β):LQ (lf.cd f y) (lf.cd g y):=by
 cases y with
 |inl a=>exact inferInstanceAs (LQ (f a) (g a))
 |inr b=>exact⟨fun _=>id⟩
instance {σ ρ:Type} {f g:σ->Option (σ⊕ρ)} [∀s,LQ (f s) (g s)] (s:σ):LQ (lf.o f s) (lf.o g s):=⟨fun r e=>by obtain⟨n,hn⟩:=IM e;exact Wn n (qys inferInstance n s r hn)⟩
set_option synthInstance.maxHeartbeats 0
set_option synthInstance.maxSize 100000
set_option maxRecDepth 100000
instance:Mo oa:=⟨fun _ _ _=>⟨fun x=>by unfold oa Kf WG;exact LQ.h⟩⟩
instance:Mo vB:=⟨fun _ _ _=>⟨fun x=>by unfold vB KY WH;exact LQ.h⟩⟩
instance:Mo vC:=⟨fun _ _ _=>⟨fun x=>by unfold vC Ld WJ;exact LQ.h⟩⟩
instance {g g'} [LF g g']:LF (Hk g) (Hk g'):=⟨fun x=>by unfold Hk WI;exact LQ.h⟩
instance {g g'} [LF g g']:LF (Le g) (Le g'):=⟨fun x=>by unfold Le q64 WK;exact LQ.h⟩
instance {g g'} [LF g g']:LF (Cm g) (Cm g'):=⟨fun x=>by unfold Cm WL;exact LQ.h⟩
instance {g g'} [LF g g']:LF (Hl g) (Hl g'):=⟨fun x=>by unfold Hl WM;exact LQ.h⟩
instance {g g'} [LF g g']:LF (Hm g) (Hm g'):=⟨fun x=>by unfold Hm WN;exact LQ.h⟩
instance {g g'} [LF g g']:LF (Lj g) (Lj g'):=⟨fun x=>by unfold Lj q7a WQ WO;exact LQ.h⟩
instance:Mo qB:=⟨fun _ _ _=>⟨fun x=>by unfold qB Fj;exact LQ.h⟩⟩
instance {g g'} [LF g g']:LF (OF g) (OF g'):=⟨fun x=>by unfold OF q65;exact LQ.h⟩
instance:Mo sH:=⟨fun _ _ _=>⟨fun x=>by unfold sH Fp;exact LQ.h⟩⟩
instance {g g'} [LF g g']:LF (mv g) (mv g'):=⟨fun x=>by unfold mv Fy;exact LQ.h⟩
instance {g g'} [LF g g']:LF (qD g) (qD g'):=⟨fun x=>by unfold qD LV WR;exact LQ.h⟩
instance:Mo sI:=⟨fun _ _ _=>⟨fun x=>by unfold sI Fz;exact LQ.h⟩⟩
instance {g g'} [LF g g']:LF (CC g) (CC g'):=⟨fun x=>by unfold CC WS;exact LQ.h⟩
instance {g g'} [LF g g']:LF (Me g) (Me g'):=⟨fun x=>by unfold Me q66 WT;exact LQ.h⟩
instance:Mo oe:=⟨fun _ _ _=>⟨fun x=>by unfold oe FA;exact LQ.h⟩⟩
instance:Mo sL:=⟨fun _ _ _=>⟨fun x=>by unfold sL FD;exact LQ.h⟩⟩
instance {g g'} [LF g g']:LF (AR g) (AR g'):=⟨fun x=>by unfold AR WU;exact LQ.h⟩
instance {g g'} [LF g g']:LF (Mg g) (Mg g'):=⟨fun x=>by unfold Mg q57 WV;exact LQ.h⟩
instance {g g'} [LF g g']:LF (DP g) (DP g'):=⟨fun x=>by unfold DP WW;exact LQ.h⟩
instance {g g'} [LF g g']:LF (FB g) (FB g'):=⟨fun x=>by unfold FB q67 WX;exact LQ.h⟩
instance {g g'} [LF g g']:LF (Mi g) (Mi g'):=⟨fun x=>by unfold Mi q68 WY;exact LQ.h⟩
instance {g g'} [LF g g']:LF (Hn g) (Hn g'):=⟨fun x=>by unfold Hn WZ;exact LQ.h⟩
instance {g g'} [LF g g']:LF (Ho g) (Ho g'):=⟨fun x=>by unfold Ho W0;exact LQ.h⟩
instance:Mo oh:=⟨fun _ _ _=>⟨fun x=>by unfold oh FE;exact LQ.h⟩⟩
instance:Mo qF:=⟨fun _ _ _=>⟨fun x=>by unfold qF R9 W2;exact LQ.h⟩⟩
def z0c:W1 ()=some (true,()):=by kernel_rfl
end Fn
end Ev