/- The example of the chapter, reckoned by the kernel: loops and calls that end soon. No statement of its own about the program. -/
import Derived.Test.YtidhnphmmajobaaGreatDoorFnA
import Derived.KernelRfl
namespace Ev
open Go
namespace Fn
def lq {α:Type} (a b:Option α):Prop:=∀v,a=some v→b=some v
theorem q07 {α:Type} (a:Option α):lq a a:=fun _ h=>h
def lqf {α β:Type} (f g:α→Option β):Prop:=∀x,lq (f x) (g x)
theorem lqr {α β:Type} {f:α→Option β}:lqf f f:=fun _=>q07 _
@[reducible] noncomputable def lfN (n:Nat):Lf:={lf with loopR:=fun f s=>q5o f n s}
theorem qlt {σ ρ:Type} {f g:σ→Option (σ⊕ρ)} (h:∀s,lq (f s) (g s)):∀(n:Nat) (s:σ) (r:ρ),q5o f n s=some r→q5o g n s=some r
 |0,_,_,e=>by cases e
 |n+1,s,r,e=>by
  unfold q5o at e ⊢;cases hf:f s with
  |none=>rw [hf] at e;cases e
  |some v=>rw [hf] at e;rw [h s v hf];cases v with
   |inl s'=>exact qlt h n s' r e
   |inr r'=>exact e
theorem mB {n:Nat} {α β:Type} {x y:Option α} {f g:α→Option β} (h:lq x y) (h2:∀a,lq (f a) (g a)):lq ((lfN n).bnd x f) (lf.bnd y g):=by
 intro v e;show bnd y g=some v;have e:bnd x f=some v:=e;cases hx:x with
 |none=>rw [hx] at e;cases e
 |some a=>rw [hx] at e;rw [h a hx];exact h2 a v e
theorem mC {n:Nat} {α:Type} {c c':Bool} {x y x' y':Option α} (hc:c=c') (h:lq x x') (h2:lq y y'):lq ((lfN n).cnd c x y) (lf.cnd c' x' y'):=by
 subst hc;cases c with
 |true=>exact h
 |false=>exact h2
theorem mA {α β:Type} {f g:α→Option β} (h:lqf f g) {a a':α} (e:a=a'):lq (f a) (g a'):=by subst e;exact h a
theorem mS {n:Nat} {α β:Type} {f g:α→Option β} (h:∀a,lq (f a) (g a)) (y:α⊕β):lq ((lfN n).sumE f y) (lf.sumE g y):=by
 cases y with
 |inl a=>exact h a
 |inr b=>exact q07 _
theorem mL {n:Nat} {σ ρ:Type} {f g:σ→Option (σ⊕ρ)} (h:∀s,lq (f s) (g s)) {s s':σ} (hs:s=s'):lq ((lfN n).loopR f s) (lf.loopR g s'):=by subst hs;exact fun r e=>qaf n (qlt h n s r e)
theorem mF {n:Nat} {a a':Int} (h:a=a'):lq ((lfN n).fit a) (lf.fit a'):=by rw [h];exact q07 (fit a')
theorem mK {n:Nat} {a b a' b':Int} (h:a=a') (h2:b=b'):lq ((lfN n).mkN a b) (lf.mkN a' b'):=by rw [h,h2];exact q07 (mkN a' b')
theorem qnp {α β:Type} {F G:(α→Option β)→α→Option β} (h1:∀g g':α→Option β,lqf g g'→lqf (F g) (G g')) (n:Nat):lqf (recN F n) (recR G):=by
 have aux:∀(n m:Nat),n≤m→∀x,lq (recN F n x) (recN G m x):=by
  intro n
  induction n with
  |zero=>intro m _ x v e;cases e
  |succ n ih=>
   intro m hm x;cases m with
   |zero=>omega
   |succ m=>exact h1 _ _ (fun x=>ih m (by omega) x) x
 intro x v e;exact qhk n (fun m hm=>aux n m hm x v e)
end Fn
end Ev

namespace Ev
open Go
namespace Fn
noncomputable section
def qsb (x:(Sl (List Int))×Unit):Option ((Sl (List Int))×Unit):=bif Nat.ble x.1.l.length 1&&x.1.l.all qbg then some (x.1,()) else none
theorem qsc (_n:Nat):lqf qsb f_bj:=by
 intro x v h;obtain ⟨⟨b,l⟩,u⟩:=x;unfold qsb at h;cases hc:(Nat.ble l.length 1&&l.all qbg) with
 |false=>rw [hc] at h;cases h
 |true=>
  rw [hc] at h;injection h with h;subst h;simp only [zd] at hc;have hl:l.length≤1:=zA hc.1;have hm:(l.mergeSort fun a b=>!strLt b a)=l:=by
   match l,hl with
   |[],_=>exact List.mergeSort_nil ..
   |[a],_=>exact List.mergeSort_singleton ..
  have hd:decide (l.length<4611686018427387904)=true:=zt (by omega);show (bif l.all qbg&&decide (l.length<4611686018427387904) then _ else none)=_;rw [hc.2,hd,hm];rfl
def k_c7 (n:Nat):=b_c7 (lfN n)
theorem l_c7 (n:Nat):lqf (k_c7 n) f_c7:=fun x=>by unfold k_c7 f_c7 b_c7;repeat (first|with_reducible (first|refine mB ?_ fun _=>?_|refine mC ?_ ?_ ?_|refine mL (fun _=>?_) ?_)|exact rfl|exact q07 _)
def k_ca (n:Nat):=b_ca (lfN n) (k_c7 n)
theorem l_ca (n:Nat):lqf (k_ca n) f_ca:=fun x=>by unfold k_ca f_ca b_ca;repeat (first|with_reducible (first|refine mB ?_ fun _=>?_|refine mC ?_ ?_ ?_|refine mA (l_c7 n) ?_)|exact rfl|exact q07 _)
def k_c6 (n:Nat):=b_c6 (lfN n) (k_ca n)
theorem l_c6 (n:Nat):lqf (k_c6 n) f_c6:=fun x=>by unfold k_c6 f_c6 b_c6;repeat (first|with_reducible (first|refine mB ?_ fun _=>?_|refine mC ?_ ?_ ?_|refine mL (fun _=>?_) ?_|refine mF ?_|refine mA (l_ca n) ?_)|exact rfl|exact q07 _)
def k_c4 (n:Nat):=b_c4 (lfN n)
theorem l_c4 (n:Nat):lqf (k_c4 n) f_c4:=fun x=>by unfold k_c4 f_c4 b_c4;repeat (first|with_reducible (first|refine mB ?_ fun _=>?_|refine mC ?_ ?_ ?_)|exact rfl|exact q07 _)
def k_c0 (n:Nat):=b_c0 (lfN n)
theorem l_c0 (n:Nat):lqf (k_c0 n) f_c0:=fun x=>by unfold k_c0 f_c0 b_c0;exact q07 _
def k_bx (n:Nat):=b_bx (lfN n) (k_c0 n)
theorem l_bx (n:Nat):lqf (k_bx n) f_bx:=fun x=>by unfold k_bx f_bx b_bx;repeat (first|with_reducible (first|refine mB ?_ fun _=>?_|refine mC ?_ ?_ ?_|refine mA (l_c0 n) ?_)|exact rfl|exact q07 _)
def k_cd (n:Nat):=b_cd (lfN n)
theorem l_cd (n:Nat):lqf (k_cd n) f_cd:=fun x=>by unfold k_cd f_cd b_cd;repeat (first|with_reducible refine mB ?_ fun _=>?_|exact q07 _)
def k_bf (n:Nat):=b_bf (lfN n)
theorem l_bf (n:Nat):lqf (k_bf n) f_bf:=fun x=>by unfold k_bf f_bf b_bf;repeat (first|with_reducible (first|refine mB ?_ fun _=>?_|refine mC ?_ ?_ ?_|refine mL (fun _=>?_) ?_)|exact rfl|exact q07 _)
def k_bc (n:Nat):=b_bc (lfN n) (k_bf n)
theorem l_bc (n:Nat):lqf (k_bc n) f_bc:=fun x=>by unfold k_bc f_bc b_bc;repeat (first|with_reducible (first|refine mB ?_ fun _=>?_|refine mA (l_bf n) ?_)|exact rfl|exact q07 _)
def k_bm (n:Nat):=b_bm (lfN n)
set_option maxRecDepth 100000 in
theorem l_bm (n:Nat):lqf (k_bm n) f_bm:=fun x=>by unfold k_bm f_bm b_bm;repeat (first|with_reducible (first|refine mB ?_ fun _=>?_|refine mC ?_ ?_ ?_|refine mL (fun _=>?_) ?_|refine mS (fun _=>?_) _|refine mK ?_ ?_)|exact rfl|exact q07 _)
def k_at (n:Nat):=b_at (lfN n) (k_bm n)
theorem l_at (n:Nat):lqf (k_at n) f_at:=fun x=>by unfold k_at f_at b_at;repeat (first|with_reducible (first|refine mB ?_ fun _=>?_|refine mA (l_bm n) ?_)|exact rfl|exact q07 _)
def k_a9 (n:Nat):=b_a9 (lfN n) (k_bc n) (k_at n)
theorem l_a9 (n:Nat):lqf (k_a9 n) f_a9:=fun x=>by unfold k_a9 f_a9 b_a9;repeat (first|with_reducible (first|refine mB ?_ fun _=>?_|refine mA (l_bc n) ?_|refine mA (l_at n) ?_)|exact rfl|exact q07 _)
def k_ao (n:Nat):=b_ao (lfN n)
theorem l_ao (n:Nat):lqf (k_ao n) f_ao:=fun x=>by unfold k_ao f_ao b_ao;repeat (first|with_reducible (first|refine mB ?_ fun _=>?_|refine mC ?_ ?_ ?_)|exact rfl|exact q07 _)
def k_ai (n:Nat):=b_ai (lfN n)
theorem l_ai (n:Nat):lqf (k_ai n) f_ai:=fun x=>by unfold k_ai f_ai b_ai;repeat (first|with_reducible (first|refine mB ?_ fun _=>?_|refine mC ?_ ?_ ?_)|exact rfl|exact q07 _)
def k_ah (n:Nat):=b_ah (lfN n)
theorem l_ah (n:Nat):lqf (k_ah n) f_ah:=fun x=>by unfold k_ah f_ah b_ah;repeat (first|with_reducible (first|refine mB ?_ fun _=>?_|refine mC ?_ ?_ ?_)|exact rfl|exact q07 _)
def k_aj (n:Nat):=b_aj (lfN n) (k_ao n) (k_ai n) (k_ah n)
theorem l_aj (n:Nat):lqf (k_aj n) f_aj:=fun x=>by unfold k_aj f_aj b_aj;repeat (first|with_reducible (first|refine mB ?_ fun _=>?_|refine mC ?_ ?_ ?_|refine mA (l_ao n) ?_|refine mA (l_ai n) ?_|refine mA (l_ah n) ?_)|exact rfl|exact q07 _)
def k_af (n:Nat):=b_af (lfN n) (k_aj n)
theorem l_af (n:Nat):lqf (k_af n) f_af:=fun x=>by unfold k_af f_af b_af;repeat (first|with_reducible (first|refine mB ?_ fun _=>?_|refine mC ?_ ?_ ?_|refine mL (fun _=>?_) ?_|refine mA (l_aj n) ?_)|exact rfl|exact q07 _)
def k_ad (n:Nat):=b_ad (lfN n) (k_a9 n) (k_ao n) (k_af n)
theorem l_ad (n:Nat):lqf (k_ad n) f_ad:=fun x=>by unfold k_ad f_ad b_ad;repeat (first|with_reducible (first|refine mB ?_ fun _=>?_|refine mC ?_ ?_ ?_|refine mA (l_a9 n) ?_|refine mA (l_ao n) ?_|refine mA (l_af n) ?_)|exact rfl|exact q07 _)
def k_ae (n:Nat):=b_ae (lfN n) (k_a9 n) (k_ai n) (k_af n)
theorem l_ae (n:Nat):lqf (k_ae n) f_ae:=fun x=>by unfold k_ae f_ae b_ae;repeat (first|with_reducible (first|refine mB ?_ fun _=>?_|refine mC ?_ ?_ ?_|refine mA (l_a9 n) ?_|refine mA (l_ai n) ?_|refine mA (l_af n) ?_)|exact rfl|exact q07 _)
def k_bo (_n:Nat):=f_bo
theorem l_bo (n:Nat):lqf (k_bo n) f_bo:=lqr
def k_an (n:Nat):=b_an (lfN n) (k_bo n)
theorem l_an (n:Nat):lqf (k_an n) f_an:=fun x=>by unfold k_an f_an b_an;repeat (first|with_reducible (first|refine mB ?_ fun _=>?_|refine mA (l_bo n) ?_)|exact rfl|exact q07 _)
def k_ag (n:Nat):=b_ag (lfN n) (k_an n)
theorem l_ag (n:Nat):lqf (k_ag n) f_ag:=fun x=>by unfold k_ag f_ag b_ag;repeat (first|with_reducible (first|refine mB ?_ fun _=>?_|refine mC ?_ ?_ ?_|refine mL (fun _=>?_) ?_|refine mA (l_an n) ?_)|exact rfl|exact q07 _)
def k_ac (n:Nat):=b_ac (lfN n) (k_a9 n) (k_cd n) (k_ad n) (k_ae n) (k_ag n)
theorem l_ac (n:Nat):lqf (k_ac n) f_ac:=fun x=>by unfold k_ac f_ac b_ac;repeat (first|with_reducible (first|refine mB ?_ fun _=>?_|refine mC ?_ ?_ ?_|refine mA (l_a9 n) ?_|refine mA (l_cd n) ?_|refine mA (l_ad n) ?_|refine mA (l_ae n) ?_|refine mA (l_ag n) ?_)|exact rfl|exact q07 _)
def k_bs (n:Nat):=b_bs (lfN n) (k_ac n)
theorem l_bs (n:Nat):lqf (k_bs n) f_bs:=fun x=>by unfold k_bs f_bs b_bs;repeat (first|with_reducible (first|refine mB ?_ fun _=>?_|refine mC ?_ ?_ ?_|refine mA (l_ac n) ?_)|exact rfl|exact q07 _)
def k_br (n:Nat):=b_br (lfN n) (k_ac n)
theorem l_br (n:Nat):lqf (k_br n) f_br:=fun x=>by unfold k_br f_br b_br;repeat (first|with_reducible (first|refine mB ?_ fun _=>?_|refine mA (l_ac n) ?_)|exact rfl|exact q07 _)
def k_by (n:Nat):=b_by (lfN n)
theorem l_by (n:Nat):lqf (k_by n) f_by:=fun x=>by unfold k_by f_by b_by;repeat (first|with_reducible (first|refine mB ?_ fun _=>?_|refine mC ?_ ?_ ?_)|exact rfl|exact q07 _)
def k_bz (n:Nat):=b_bz (lfN n)
theorem l_bz (n:Nat):lqf (k_bz n) f_bz:=fun x=>by unfold k_bz f_bz b_bz;exact q07 _
def k_c1 (n:Nat):=b_c1 (lfN n)
theorem l_c1 (n:Nat):lqf (k_c1 n) f_c1:=fun x=>by unfold k_c1 f_c1 b_c1;exact q07 _
def k_c3 (n:Nat):=b_c3 (lfN n) (k_c4 n) (k_bx n) (k_cd n) (k_bs n) (k_br n) (k_by n) (k_bz n) (k_c1 n)
set_option maxRecDepth 100000 in
theorem l_c3 (n:Nat):lqf (k_c3 n) f_c3:=fun x=>by unfold k_c3 f_c3 b_c3;repeat (first|with_reducible (first|refine mB ?_ fun _=>?_|refine mC ?_ ?_ ?_|refine mA (l_c4 n) ?_|refine mA (l_bx n) ?_|refine mA (l_cd n) ?_|refine mA (l_bs n) ?_|refine mA (l_br n) ?_|refine mA (l_by n) ?_|refine mA (l_bz n) ?_|refine mA (l_c1 n) ?_)|exact rfl|exact q07 _)
def k_bu (n:Nat):=b_bu (lfN n) (k_c3 n)
theorem l_bu (n:Nat):lqf (k_bu n) f_bu:=fun x=>by unfold k_bu f_bu b_bu;repeat (first|with_reducible (first|refine mB ?_ fun _=>?_|refine mA (l_c3 n) ?_)|exact rfl|exact q07 _)
def kg_c5 (n:Nat) (self:Yf9):=b_c5 (lfN n) self (k_bu n)
def k_c5 (n:Nat):=recN (kg_c5 n) n
theorem l_c5 (n:Nat):lqf (k_c5 n) f_c5:=qnp (fun _ _ hg x=>by unfold kg_c5 g_c5 b_c5;repeat (first|with_reducible (first|refine mB ?_ fun _=>?_|refine mC ?_ ?_ ?_|refine mL (fun _=>?_) ?_|refine mA hg ?_|refine mA (l_bu n) ?_)|exact rfl|exact q07 _)) n
def k_c9 (n:Nat):=b_c9 (lfN n) (k_c7 n)
theorem l_c9 (n:Nat):lqf (k_c9 n) f_c9:=fun x=>by unfold k_c9 f_c9 b_c9;repeat (first|with_reducible (first|refine mB ?_ fun _=>?_|refine mC ?_ ?_ ?_|refine mK ?_ ?_|refine mA (l_c7 n) ?_)|exact rfl|exact q07 _)
def k_c2 (n:Nat):=b_c2 (lfN n)
theorem l_c2 (n:Nat):lqf (k_c2 n) f_c2:=fun x=>by unfold k_c2 f_c2 b_c2;repeat (first|with_reducible (first|refine mB ?_ fun _=>?_|refine mC ?_ ?_ ?_|refine mL (fun _=>?_) ?_|refine mF ?_)|exact rfl|exact q07 _)
def k_bj (_n:Nat):=qsb
theorem l_bj (n:Nat):lqf (k_bj n) f_bj:=qsc n
def k_ba (n:Nat):=b_ba (lfN n)
theorem l_ba (n:Nat):lqf (k_ba n) f_ba:=fun x=>by unfold k_ba f_ba b_ba;repeat (first|with_reducible (first|refine mB ?_ fun _=>?_|refine mC ?_ ?_ ?_|refine mL (fun _=>?_) ?_)|exact rfl|exact q07 _)
def k_bw (n:Nat):=b_bw (lfN n) (k_c2 n)
theorem l_bw (n:Nat):lqf (k_bw n) f_bw:=fun x=>by unfold k_bw f_bw b_bw;repeat (first|with_reducible (first|refine mB ?_ fun _=>?_|refine mA (l_c2 n) ?_)|exact rfl|exact q07 _)
def k_bv (n:Nat):=b_bv (lfN n) (k_c9 n) (k_c2 n) (k_bj n) (k_ba n) (k_bw n)
theorem l_bv (n:Nat):lqf (k_bv n) f_bv:=fun x=>by unfold k_bv f_bv b_bv;repeat (first|with_reducible (first|refine mB ?_ fun _=>?_|refine mA (l_c9 n) ?_|refine mA (l_c2 n) ?_|refine mA (l_bj n) ?_|refine mA (l_ba n) ?_|refine mA (l_bw n) ?_)|exact rfl|exact q07 _)
def k_bt (n:Nat):=b_bt (lfN n) (k_ca n) (k_c6 n) (k_c5 n) (k_bv n) (k_c4 n) (k_c7 n)
theorem l_bt (n:Nat):lqf (k_bt n) f_bt:=fun x=>by unfold k_bt f_bt b_bt;repeat (first|with_reducible (first|refine mB ?_ fun _=>?_|refine mC ?_ ?_ ?_|refine mL (fun _=>?_) ?_|refine mS (fun _=>?_) _|refine mA (l_ca n) ?_|refine mA (l_c6 n) ?_|refine mA (l_c5 n) ?_|refine mA (l_bv n) ?_|refine mA (l_c4 n) ?_|refine mA (l_c7 n) ?_)|exact rfl|exact q07 _)
def k_bq (n:Nat):=b_bq (lfN n) (k_bt n)
theorem l_bq (n:Nat):lqf (k_bq n) f_bq:=fun x=>by unfold k_bq f_bq b_bq;repeat (first|with_reducible (first|refine mB ?_ fun _=>?_|refine mA (l_bt n) ?_)|exact rfl|exact q07 _)
def k_a6 (n:Nat):=b_a6 (lfN n) (k_ac n)
theorem l_a6 (n:Nat):lqf (k_a6 n) f_a6:=fun x=>by unfold k_a6 f_a6 b_a6;repeat (first|with_reducible (first|refine mB ?_ fun _=>?_|refine mC ?_ ?_ ?_|refine mA (l_ac n) ?_)|exact rfl|exact q07 _)
def k_a1 (n:Nat):=b_a1 (lfN n) (k_a6 n)
theorem l_a1 (n:Nat):lqf (k_a1 n) f_a1:=fun x=>by unfold k_a1 f_a1 b_a1;repeat (first|with_reducible (first|refine mB ?_ fun _=>?_|refine mA (l_a6 n) ?_)|exact rfl|exact q07 _)
def k_bg (n:Nat):=b_bg (lfN n) (k_a1 n)
theorem l_bg (n:Nat):lqf (k_bg n) f_bg:=fun x=>by unfold k_bg f_bg b_bg;repeat (first|with_reducible (first|refine mB ?_ fun _=>?_|refine mC ?_ ?_ ?_|refine mL (fun _=>?_) ?_|refine mA (l_a1 n) ?_)|exact rfl|exact q07 _)
def k_bd (n:Nat):=b_bd (lfN n) (k_bg n)
theorem l_bd (n:Nat):lqf (k_bd n) f_bd:=fun x=>by unfold k_bd f_bd b_bd;repeat (first|with_reducible (first|refine mB ?_ fun _=>?_|refine mA (l_bg n) ?_)|exact rfl|exact q07 _)
def k_a5 (n:Nat):=b_a5 (lfN n)
theorem l_a5 (n:Nat):lqf (k_a5 n) f_a5:=fun x=>by unfold k_a5 f_a5 b_a5;exact q07 _
def k_bh (n:Nat):=b_bh (lfN n) (k_a5 n)
theorem l_bh (n:Nat):lqf (k_bh n) f_bh:=fun x=>by unfold k_bh f_bh b_bh;repeat (first|with_reducible (first|refine mB ?_ fun _=>?_|refine mC ?_ ?_ ?_|refine mL (fun _=>?_) ?_|refine mA (l_a5 n) ?_)|exact rfl|exact q07 _)
def k_a4 (n:Nat):=b_a4 (lfN n) (k_bh n)
theorem l_a4 (n:Nat):lqf (k_a4 n) f_a4:=fun x=>by unfold k_a4 f_a4 b_a4;repeat (first|with_reducible (first|refine mB ?_ fun _=>?_|refine mC ?_ ?_ ?_|refine mA (l_bh n) ?_)|exact rfl|exact q07 _)
def k_a0 (n:Nat):=b_a0 (lfN n) (k_bd n) (k_a4 n)
theorem l_a0 (n:Nat):lqf (k_a0 n) f_a0:=fun x=>by unfold k_a0 f_a0 b_a0;repeat (first|with_reducible (first|refine mB ?_ fun _=>?_|refine mC ?_ ?_ ?_|refine mL (fun _=>?_) ?_|refine mA (l_bd n) ?_|refine mA (l_a4 n) ?_)|exact rfl|exact q07 _)
def k_b1 (n:Nat):=b_b1 (lfN n)
theorem l_b1 (n:Nat):lqf (k_b1 n) f_b1:=fun x=>by unfold k_b1 f_b1 b_b1;repeat (first|with_reducible (first|refine mB ?_ fun _=>?_|refine mC ?_ ?_ ?_)|exact rfl|exact q07 _)
def k_b4 (n:Nat):=b_b4 (lfN n)
theorem l_b4 (n:Nat):lqf (k_b4 n) f_b4:=fun x=>by unfold k_b4 f_b4 b_b4;repeat (first|with_reducible (first|refine mB ?_ fun _=>?_|refine mC ?_ ?_ ?_)|exact rfl|exact q07 _)
def k_b2 (n:Nat):=b_b2 (lfN n) (k_bc n)
theorem l_b2 (n:Nat):lqf (k_b2 n) f_b2:=fun x=>by unfold k_b2 f_b2 b_b2;repeat (first|with_reducible (first|refine mB ?_ fun _=>?_|refine mC ?_ ?_ ?_|refine mA (l_bc n) ?_)|exact rfl|exact q07 _)
def k_b7 (n:Nat):=b_b7 (lfN n)
theorem l_b7 (n:Nat):lqf (k_b7 n) f_b7:=fun x=>by unfold k_b7 f_b7 b_b7;repeat (first|with_reducible refine mB ?_ fun _=>?_|exact q07 _)
def k_c8 (n:Nat):=b_c8 (lfN n)
theorem l_c8 (n:Nat):lqf (k_c8 n) f_c8:=fun x=>by unfold k_c8 f_c8 b_c8;repeat (first|with_reducible (first|refine mB ?_ fun _=>?_|refine mC ?_ ?_ ?_|refine mL (fun _=>?_) ?_|refine mF ?_)|exact rfl|exact q07 _)
def k_aw (n:Nat):=b_aw (lfN n) (k_c8 n)
theorem l_aw (n:Nat):lqf (k_aw n) f_aw:=fun x=>by unfold k_aw f_aw b_aw;repeat (first|with_reducible (first|refine mB ?_ fun _=>?_|refine mA (l_c8 n) ?_)|exact rfl|exact q07 _)
def k_b3 (n:Nat):=b_b3 (lfN n) (k_b1 n) (k_b4 n) (k_b2 n)
theorem l_b3 (n:Nat):lqf (k_b3 n) f_b3:=fun x=>by unfold k_b3 f_b3 b_b3;repeat (first|with_reducible (first|refine mB ?_ fun _=>?_|refine mC ?_ ?_ ?_|refine mA (l_b1 n) ?_|refine mA (l_b4 n) ?_|refine mA (l_b2 n) ?_)|exact rfl|exact q07 _)
def k_ax (n:Nat):=b_ax (lfN n) (k_b2 n)
set_option maxRecDepth 100000 in
theorem l_ax (n:Nat):lqf (k_ax n) f_ax:=fun x=>by unfold k_ax f_ax b_ax;repeat (first|with_reducible (first|refine mB ?_ fun _=>?_|refine mC ?_ ?_ ?_|refine mA (l_b2 n) ?_)|exact rfl|exact q07 _)
def k_ay (n:Nat):=b_ay (lfN n) (k_b1 n) (k_b4 n) (k_b2 n) (k_b7 n) (k_b3 n)
set_option maxRecDepth 100000 in
theorem l_ay (n:Nat):lqf (k_ay n) f_ay:=fun x=>by unfold k_ay f_ay b_ay;repeat (first|with_reducible (first|refine mB ?_ fun _=>?_|refine mC ?_ ?_ ?_|refine mA (l_b1 n) ?_|refine mA (l_b4 n) ?_|refine mA (l_b2 n) ?_|refine mA (l_b7 n) ?_|refine mA (l_b3 n) ?_)|exact rfl|exact q07 _)
def q2v (n:Nat) (self:Yf0):=q25 (lfN n) self (k_b2 n) (k_b7 n) (k_ay n) (k_aw n) (k_b3 n) (k_c8 n)
set_option maxRecDepth 100000 in
theorem q7p (n:Nat) {g g'} (hg:lqf g g'):lqf (q2v n g) (q0b g'):=fun x=>by unfold q2v q0b q25;repeat (first|with_reducible (first|refine mB ?_ fun _=>?_|refine mC ?_ ?_ ?_|refine mA hg ?_|refine mA (l_b2 n) ?_|refine mA (l_b7 n) ?_|refine mA (l_ay n) ?_|refine mA (l_aw n) ?_|refine mA (l_b3 n) ?_|refine mA (l_c8 n) ?_)|exact rfl|exact q07 _)
def q3g (n:Nat) (self:Yf0):=q2m (lfN n) (k_b2 n) (k_b7 n) (k_aw n) (q2v n self)
set_option maxRecDepth 100000 in
theorem q9e (n:Nat) {g g'} (hg:lqf g g'):lqf (q3g n g) (q0x g'):=fun x=>by unfold q3g q0x q2m;repeat (first|with_reducible (first|refine mB ?_ fun _=>?_|refine mC ?_ ?_ ?_|refine mL (fun _=>?_) ?_|refine mF ?_|refine mA (l_b2 n) ?_|refine mA (l_b7 n) ?_|refine mA (l_aw n) ?_|refine mA (q7p n hg) ?_)|exact rfl|exact q07 _)
def kg_az (n:Nat) (self:Yf0):=b_az (lfN n) (k_b1 n) (k_b4 n) (q3g n self)
def k_az (n:Nat):=recN (kg_az n) n
theorem l_az (n:Nat):lqf (k_az n) f_az:=qnp (fun _ _ hg x=>by unfold kg_az g_az b_az;repeat (first|with_reducible (first|refine mB ?_ fun _=>?_|refine mC ?_ ?_ ?_|refine mA (l_b1 n) ?_|refine mA (l_b4 n) ?_|refine mA (q9e n hg) ?_)|exact rfl|exact q07 _)) n
def k_b5 (n:Nat):=b_b5 (lfN n) (k_a4 n)
theorem l_b5 (n:Nat):lqf (k_b5 n) f_b5:=fun x=>by unfold k_b5 f_b5 b_b5;repeat (first|with_reducible (first|refine mB ?_ fun _=>?_|refine mA (l_a4 n) ?_)|exact rfl|exact q07 _)
def k_bi (n:Nat):=b_bi (lfN n) (k_b5 n)
theorem l_bi (n:Nat):lqf (k_bi n) f_bi:=fun x=>by unfold k_bi f_bi b_bi;repeat (first|with_reducible (first|refine mB ?_ fun _=>?_|refine mC ?_ ?_ ?_|refine mL (fun _=>?_) ?_|refine mA (l_b5 n) ?_)|exact rfl|exact q07 _)
def k_be (_n:Nat):=f_be
theorem l_be (n:Nat):lqf (k_be n) f_be:=lqr
def k_bb (n:Nat):=b_bb (lfN n) (k_be n)
theorem l_bb (n:Nat):lqf (k_bb n) f_bb:=fun x=>by unfold k_bb f_bb b_bb;repeat (first|with_reducible (first|refine mB ?_ fun _=>?_|refine mC ?_ ?_ ?_|refine mL (fun _=>?_) ?_|refine mF ?_|refine mA (l_be n) ?_)|exact rfl|exact q07 _)
def k_a3 (n:Nat):=b_a3 (lfN n) (k_bb n)
theorem l_a3 (n:Nat):lqf (k_a3 n) f_a3:=fun x=>by unfold k_a3 f_a3 b_a3;repeat (first|with_reducible (first|refine mB ?_ fun _=>?_|refine mC ?_ ?_ ?_|refine mF ?_|refine mA (l_bb n) ?_)|exact rfl|exact q07 _)
def k_a2 (n:Nat):=b_a2 (lfN n) (k_a0 n) (k_a4 n) (k_a3 n)
set_option maxRecDepth 100000 in
theorem l_a2 (n:Nat):lqf (k_a2 n) f_a2:=fun x=>by unfold k_a2 f_a2 b_a2;repeat (first|with_reducible (first|refine mB ?_ fun _=>?_|refine mC ?_ ?_ ?_|refine mL (fun _=>?_) ?_|refine mS (fun _=>?_) _|refine mF ?_|refine mK ?_ ?_|refine mA (l_a0 n) ?_|refine mA (l_a4 n) ?_|refine mA (l_a3 n) ?_)|exact rfl|exact q07 _)
def kg_b6 (n:Nat) (self:Yf14):=b_b6 (lfN n) (k_aw n) self
def k_b6 (n:Nat):=recN (kg_b6 n) n
theorem l_b6 (n:Nat):lqf (k_b6 n) f_b6:=qnp (fun _ _ hg x=>by unfold kg_b6 g_b6 b_b6;repeat (first|with_reducible (first|refine mB ?_ fun _=>?_|refine mC ?_ ?_ ?_|refine mA (l_aw n) ?_|refine mA hg ?_)|exact rfl|exact q07 _)) n
def q1t (n:Nat) (self:Yf0):=q20 (lfN n) self (k_b3 n)
theorem q43 (n:Nat) {g g'} (hg:lqf g g'):lqf (q1t n g) (q09 g'):=fun x=>by unfold q1t q09 q20;repeat (first|with_reducible (first|refine mB ?_ fun _=>?_|refine mA hg ?_|refine mA (l_b3 n) ?_)|exact rfl|exact q07 _)
def q2w (n:Nat) (self:Yf0):=q26 (lfN n) self (k_az n) (k_b2 n) (k_aw n) (q1t n self) (k_b3 n)
theorem q7q (n:Nat) {g g'} (hg:lqf g g'):lqf (q2w n g) (q0q g'):=fun x=>by unfold q2w q0q q26;repeat (first|with_reducible (first|refine mB ?_ fun _=>?_|refine mC ?_ ?_ ?_|refine mL (fun _=>?_) ?_|refine mS (fun _=>?_) _|refine mF ?_|refine mA hg ?_|refine mA (l_az n) ?_|refine mA (l_b2 n) ?_|refine mA (l_aw n) ?_|refine mA (q43 n hg) ?_|refine mA (l_b3 n) ?_)|exact rfl|exact q07 _)
def q36 (n:Nat) (self:Yf0):=q2f (lfN n) self (k_b1 n) (k_b4 n) (k_b2 n) (k_b7 n) (k_aw n) (k_b3 n) (k_c8 n) (k_ax n) (q2w n self)
set_option maxRecDepth 100000 in
theorem q8d (n:Nat) {g g'} (hg:lqf g g'):lqf (q36 n g) (q0k g'):=fun x=>by unfold q36 q0k q2f;repeat (first|with_reducible (first|refine mB ?_ fun _=>?_|refine mC ?_ ?_ ?_|refine mA hg ?_|refine mA (l_b1 n) ?_|refine mA (l_b4 n) ?_|refine mA (l_b2 n) ?_|refine mA (l_b7 n) ?_|refine mA (l_aw n) ?_|refine mA (l_b3 n) ?_|refine mA (l_c8 n) ?_|refine mA (l_ax n) ?_|refine mA (q7q n hg) ?_)|exact rfl|exact q07 _)
def q3h (n:Nat) (self:Yf0):=q2n (lfN n) (k_aw n) (q36 n self) (k_ax n)
theorem q9f (n:Nat) {g g'} (hg:lqf g g'):lqf (q3h n g) (q0o g'):=fun x=>by unfold q3h q0o q2n;repeat (first|with_reducible (first|refine mB ?_ fun _=>?_|refine mC ?_ ?_ ?_|refine mL (fun _=>?_) ?_|refine mA (l_aw n) ?_|refine mA (q8d n hg) ?_|refine mA (l_ax n) ?_)|exact rfl|exact q07 _)
def q3i (n:Nat) (self:Yf0):=q2o (lfN n) (k_b1 n) (k_b4 n) (k_b2 n) (k_b7 n) (q3h n self) (k_bi n) (k_a2 n) (k_b6 n)
set_option maxRecDepth 100000 in
theorem q9g (n:Nat) {g g'} (hg:lqf g g'):lqf (q3i n g) (q0y g'):=fun x=>by unfold q3i q0y q2o;repeat (first|with_reducible (first|refine mB ?_ fun _=>?_|refine mC ?_ ?_ ?_|refine mL (fun _=>?_) ?_|refine mF ?_|refine mA (l_b1 n) ?_|refine mA (l_b4 n) ?_|refine mA (l_b2 n) ?_|refine mA (l_b7 n) ?_|refine mA (q9f n hg) ?_|refine mA (l_bi n) ?_|refine mA (l_a2 n) ?_|refine mA (l_b6 n) ?_)|exact rfl|exact q07 _)
def q37 (n:Nat) (self:Yf0):=q2g (lfN n) self (k_b2 n) (q3i n self) (k_b7 n) (k_ay n) (k_aw n) (q1t n self) (k_b3 n)
set_option maxRecDepth 100000 in
theorem q8e (n:Nat) {g g'} (hg:lqf g g'):lqf (q37 n g) (q0u g'):=fun x=>by unfold q37 q0u q2g;repeat (first|with_reducible (first|refine mB ?_ fun _=>?_|refine mC ?_ ?_ ?_|refine mA hg ?_|refine mA (l_b2 n) ?_|refine mA (q9g n hg) ?_|refine mA (l_b7 n) ?_|refine mA (l_ay n) ?_|refine mA (l_aw n) ?_|refine mA (q43 n hg) ?_|refine mA (l_b3 n) ?_)|exact rfl|exact q07 _)
def q38 (n:Nat) (self:Yf0):=q2h (lfN n) (k_b1 n) (k_b4 n) (q37 n self)
theorem q8f (n:Nat) {g g'} (hg:lqf g g'):lqf (q38 n g) (q0v g'):=fun x=>by unfold q38 q0v q2h;repeat (first|with_reducible (first|refine mB ?_ fun _=>?_|refine mC ?_ ?_ ?_|refine mA (l_b1 n) ?_|refine mA (l_b4 n) ?_|refine mA (q8e n hg) ?_)|exact rfl|exact q07 _)
def kg_b0 (n:Nat) (self:Yf0):=b_b0 (lfN n) (q38 n self)
def k_b0 (n:Nat):=recN (kg_b0 n) n
theorem l_b0 (n:Nat):lqf (k_b0 n) f_b0:=qnp (fun _ _ hg x=>by unfold kg_b0 g_b0 b_b0;repeat (first|with_reducible (first|refine mB ?_ fun _=>?_|refine mA (q8f n hg) ?_)|exact rfl|exact q07 _)) n
def k_av (n:Nat):=b_av (lfN n) (k_bq n) (k_a0 n) (k_b0 n) (k_b1 n) (k_b4 n)
theorem l_av (n:Nat):lqf (k_av n) f_av:=fun x=>by unfold k_av f_av b_av;repeat (first|with_reducible (first|refine mB ?_ fun _=>?_|refine mC ?_ ?_ ?_|refine mA (l_bq n) ?_|refine mA (l_a0 n) ?_|refine mA (l_b0 n) ?_|refine mA (l_b1 n) ?_|refine mA (l_b4 n) ?_)|exact rfl|exact q07 _)
def k_ab (n:Nat):=b_ab (lfN n)
theorem l_ab (n:Nat):lqf (k_ab n) f_ab:=fun x=>by unfold k_ab f_ab b_ab;exact q07 _
def k_as (n:Nat):=b_as (lfN n) (k_ab n)
theorem l_as (n:Nat):lqf (k_as n) f_as:=fun x=>by unfold k_as f_as b_as;repeat (first|with_reducible (first|refine mB ?_ fun _=>?_|refine mC ?_ ?_ ?_|refine mL (fun _=>?_) ?_|refine mA (l_ab n) ?_)|exact rfl|exact q07 _)
def k_ap (n:Nat):=b_ap (lfN n) (k_aj n)
theorem l_ap (n:Nat):lqf (k_ap n) f_ap:=fun x=>by unfold k_ap f_ap b_ap;repeat (first|with_reducible (first|refine mB ?_ fun _=>?_|refine mC ?_ ?_ ?_|refine mL (fun _=>?_) ?_|refine mA (l_aj n) ?_)|exact rfl|exact q07 _)
def k_aq (n:Nat):=b_aq (lfN n) (k_an n)
theorem l_aq (n:Nat):lqf (k_aq n) f_aq:=fun x=>by unfold k_aq f_aq b_aq;repeat (first|with_reducible (first|refine mB ?_ fun _=>?_|refine mC ?_ ?_ ?_|refine mL (fun _=>?_) ?_|refine mA (l_an n) ?_)|exact rfl|exact q07 _)
def k_ar (n:Nat):=b_ar (lfN n) (k_ah n)
theorem l_ar (n:Nat):lqf (k_ar n) f_ar:=fun x=>by unfold k_ar f_ar b_ar;repeat (first|with_reducible (first|refine mB ?_ fun _=>?_|refine mC ?_ ?_ ?_|refine mL (fun _=>?_) ?_|refine mA (l_ah n) ?_)|exact rfl|exact q07 _)
def k_al (n:Nat):=b_al (lfN n) (k_a9 n)
theorem l_al (n:Nat):lqf (k_al n) f_al:=fun x=>by unfold k_al f_al b_al;repeat (first|with_reducible (first|refine mB ?_ fun _=>?_|refine mC ?_ ?_ ?_|refine mA (l_a9 n) ?_)|exact rfl|exact q07 _)
def k_a8 (n:Nat):=b_a8 (lfN n)
theorem l_a8 (n:Nat):lqf (k_a8 n) f_a8:=fun x=>by unfold k_a8 f_a8 b_a8;repeat (first|with_reducible (first|refine mB ?_ fun _=>?_|refine mC ?_ ?_ ?_)|exact rfl|exact q07 _)
def k_bn (n:Nat):=b_bn (lfN n) (k_a8 n)
theorem l_bn (n:Nat):lqf (k_bn n) f_bn:=fun x=>by unfold k_bn f_bn b_bn;repeat (first|with_reducible (first|refine mB ?_ fun _=>?_|refine mA (l_a8 n) ?_)|exact rfl|exact q07 _)
def k_a7 (n:Nat):=b_a7 (lfN n) (k_a8 n)
theorem l_a7 (n:Nat):lqf (k_a7 n) f_a7:=fun x=>by unfold k_a7 f_a7 b_a7;repeat (first|with_reducible (first|refine mB ?_ fun _=>?_|refine mC ?_ ?_ ?_|refine mA (l_a8 n) ?_)|exact rfl|exact q07 _)
def k_bl (n:Nat):=b_bl (lfN n) (k_a7 n)
theorem l_bl (n:Nat):lqf (k_bl n) f_bl:=fun x=>by unfold k_bl f_bl b_bl;repeat (first|with_reducible (first|refine mB ?_ fun _=>?_|refine mA (l_a7 n) ?_)|exact rfl|exact q07 _)
def k_bp (_n:Nat):=f_bp
theorem l_bp (n:Nat):lqf (k_bp n) f_bp:=lqr
def k_bk (_n:Nat):=f_bk
theorem l_bk (n:Nat):lqf (k_bk n) f_bk:=lqr
def k_cc (n:Nat):=b_cc (lfN n) (k_cd n) (k_bp n) (k_bk n)
theorem l_cc (n:Nat):lqf (k_cc n) f_cc:=fun x=>by unfold k_cc f_cc b_cc;repeat (first|with_reducible (first|refine mB ?_ fun _=>?_|refine mA (l_cd n) ?_|refine mA (l_bp n) ?_|refine mA (l_bk n) ?_)|exact rfl|exact q07 _)
def k_cb (n:Nat):=b_cb (lfN n) (k_bl n) (k_cc n)
theorem l_cb (n:Nat):lqf (k_cb n) f_cb:=fun x=>by unfold k_cb f_cb b_cb;repeat (first|with_reducible (first|refine mB ?_ fun _=>?_|refine mC ?_ ?_ ?_|refine mL (fun _=>?_) ?_|refine mA (l_bl n) ?_|refine mA (l_cc n) ?_)|exact rfl|exact q07 _)
def k_am (n:Nat):=b_am (lfN n) (k_bo n)
set_option maxRecDepth 100000 in
theorem l_am (n:Nat):lqf (k_am n) f_am:=fun x=>by unfold k_am f_am b_am;repeat (first|with_reducible (first|refine mB ?_ fun _=>?_|refine mC ?_ ?_ ?_|refine mL (fun _=>?_) ?_|refine mS (fun _=>?_) _|refine mF ?_|refine mA (l_bo n) ?_)|exact rfl|exact q07 _)
def k_ak (n:Nat):=b_ak (lfN n) (k_ap n) (k_aq n) (k_ar n) (k_al n) (k_ao n) (k_ai n) (k_an n) (k_bn n) (k_ah n) (k_cb n) (k_am n)
theorem l_ak (n:Nat):lqf (k_ak n) f_ak:=fun x=>by unfold k_ak f_ak b_ak;repeat (first|with_reducible (first|refine mB ?_ fun _=>?_|refine mC ?_ ?_ ?_|refine mA (l_ap n) ?_|refine mA (l_aq n) ?_|refine mA (l_ar n) ?_|refine mA (l_al n) ?_|refine mA (l_ao n) ?_|refine mA (l_ai n) ?_|refine mA (l_an n) ?_|refine mA (l_bn n) ?_|refine mA (l_ah n) ?_|refine mA (l_cb n) ?_|refine mA (l_am n) ?_)|exact rfl|exact q07 _)
def k_aa (n:Nat):=b_aa (lfN n) (k_as n) (k_ak n)
theorem l_aa (n:Nat):lqf (k_aa n) f_aa:=fun x=>by unfold k_aa f_aa b_aa;repeat (first|with_reducible (first|refine mB ?_ fun _=>?_|refine mC ?_ ?_ ?_|refine mL (fun _=>?_) ?_|refine mF ?_|refine mA (l_as n) ?_|refine mA (l_ak n) ?_)|exact rfl|exact q07 _)
def k_au (n:Nat):=b_au (lfN n) (k_av n) (k_a0 n) (k_aa n)
theorem l_au (n:Nat):lqf (k_au n) f_au:=fun x=>by unfold k_au f_au b_au;repeat (first|with_reducible (first|refine mB ?_ fun _=>?_|refine mC ?_ ?_ ?_|refine mA (l_av n) ?_|refine mA (l_a0 n) ?_|refine mA (l_aa n) ?_)|exact rfl|exact q07 _)
def k_b9 (n:Nat):=b_b9 (lfN n)
theorem l_b9 (n:Nat):lqf (k_b9 n) f_b9:=fun x=>by unfold k_b9 f_b9 b_b9;repeat (first|with_reducible (first|refine mB ?_ fun _=>?_|refine mC ?_ ?_ ?_|refine mL (fun _=>?_) ?_)|exact rfl|exact q07 _)
def q6u (n:Nat):=q4r (lfN n) (k_au n) (k_b9 n) (k_av n)
theorem qho (n:Nat):lqf (q6u n) q13:=fun x=>by unfold q6u q13 q4r;repeat (first|with_reducible (first|refine mB ?_ fun _=>?_|refine mC ?_ ?_ ?_|refine mA (l_au n) ?_|refine mA (l_b9 n) ?_|refine mA (l_av n) ?_)|exact rfl|exact q07 _)
theorem qzc:q6u 300 ()=some (true,()):=by kernel_rfl
theorem qcv:q13 ()=some (true,()):=qho 300 _ _ qzc
end
end Fn
end Ev

