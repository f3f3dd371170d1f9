/- The example of the chapter, reckoned by the kernel: loops and calls that end soon. No statement of its own about the program. -/
import Derived.Test.YtakmoaimmdheeaaGreatDoorFnA
import Derived.KernelRfl
namespace Ev
open Go
namespace Fn
def lq{α:Type}(a b:Option α):Prop:=∀v,a=some v->b=some v
theorem q06{α:Type}(a:Option α):lq a a:=fun _ h=>h
def lqf{α β:Type}(f g:α->Option β):Prop:=∀x,lq (f x) (g x)
theorem lqr{α β:Type}{f:α->Option β}:lqf f f:=fun _=>q06 _
@[reducible] noncomputable def lfN(n:Nat):Lf:={lf with o:=fun f s=>q71 f n s}
theorem qvh{σ ρ:Type}{f g:σ->Option (σ⊕ρ)}(h:∀s,lq (f s) (g s)):∀(n:Nat) (s:σ) (r:ρ),q71 f n s=some r->q71 g n s=some r
 |0,_,_,e=>by cases e
 |n+1,s,r,e=>by
  unfold q71 at e ⊢;cases hf:f s with
  |none=>rw[hf] at e;cases e
  |some v=>rw[hf] at e;rw[h s v hf];cases v with
   |inl s'=>exact qvh h n s' r e
   |inr r'=>exact e
theorem mB{n:Nat}{α β:Type}{x y:Option α}{f g:α->Option β}(h:lq x y)(h2:∀a,lq (f a) (g a)):lq ((lfN n).b x f) (lf.b y g):=by
 intro v e;show bnd y g=some v;have e:bnd x f=some v:=e;cases hx:x with
 |none=>rw[hx] at e;cases e
 |some a=>rw[hx] at e;rw[h a hx];exact h2 a v e
theorem mC{n:Nat}{α:Type}{c c':Bool}{x y x' y':Option α}(hc:c=c')(h:lq x x')(h2:lq y y'):lq ((lfN n).c c x y) (lf.c c' x' y'):=by
 subst hc;cases c with
 |true=>exact h
 |false=>exact h2
theorem mA{α β:Type}{f g:α->Option β}(h:lqf f g){a a':α}(e:a=a'):lq (f a) (g a'):=by subst e;exact h a
theorem mS{n:Nat}{α β:Type}{f g:α->Option β}(h:∀a,lq (f a) (g a))(y:α⊕β):lq ((lfN n).sumE f y) (lf.sumE g y):=by
 cases y with
 |inl a=>exact h a
 |inr b=>exact q06 _
theorem mL{n:Nat}{σ ρ:Type}{f g:σ->Option (σ⊕ρ)}(h:∀s,lq (f s) (g s)){s s':σ}(hs:s=s'):lq ((lfN n).o f s) (lf.o g s'):=by subst hs;exact fun r e=>qe7 n (qvh h n s r e)
theorem mF{n:Nat}{a a':Int}(h:a=a'):lq ((lfN n).f a) (lf.f a'):=by rw[h];exact q06 (fit a')
theorem mK{n:Nat}{a b a' b':Int}(h:a=a')(h2:b=b'):lq ((lfN n).mkN a b) (lf.mkN a' b'):=by rw[h,h2];exact q06 (mkN a' b')
theorem qg2{α β:Type}{F G:(α->Option β)->α->Option β}(h1:∀g g':α->Option β,lqf g g'->lqf (F g) (G g'))(n:Nat):lqf (recN F n) (recR G):=by
 have aux:∀(n m:Nat),n<=m->∀x,lq (recN F n x) (recN G m x):=by
  intro n
  induction n with
  |zero=>intro m _ x v e;cases e
  |succ n ih=>
   intro m hm x;cases m with
   |zero=>omega
   |succ m=>exact h1 _ _ (fun x=>ih m (by omega) x) x
 intro x v e;exact q6x n (fun m hm=>aux n m hm x v e)
noncomputable section
def qvi(x:(Sl (List Int))×Unit):Option ((Sl (List Int))×Unit):=bif Nat.ble x.1.l.length 1&&x.1.l.all qcy then some (x.1,()) else none
theorem qvj(_n:Nat):lqf qvi f_d0:=by
 intro x v h;obtain⟨⟨b,l⟩,u⟩:=x;unfold qvi at h;cases hc:(Nat.ble l.length 1&&l.all qcy) with
 |false=>rw[hc] at h;cases h
 |true=>
  rw[hc] at h;injection h with h;subst h;simp only[zd] at hc;have hl:l.length<=1:=zA hc.1;have hm:(l.mergeSort fun a b=>!strLt b a)=l:=by
   match l,hl with
   |[],_=>exact List.mergeSort_nil ..
   |[a],_=>exact List.mergeSort_singleton ..
  have hd:decide (l.length<4611686018427387904)=true:=zw (by omega);show(bif l.all qcy&&decide (l.length<4611686018427387904) then _ else none)=_;rw[hc.2,hd,hm];rfl
def k_e1(n:Nat):=b_e1 (lfN n)
theorem l_e1(n:Nat):lqf (k_e1 n) f_e1:=fun x=>by unfold k_e1 f_e1 b_e1;repeat (first|with_reducible (first|refine mB ?_ fun _=>?_|refine mC ?_ ?_ ?_|refine mL (fun _=>?_) ?_)|exact rfl|exact q06 _)
def k_e5(n:Nat):=b_e5 (lfN n) (k_e1 n)
theorem l_e5(n:Nat):lqf (k_e5 n) f_e5:=fun x=>by unfold k_e5 f_e5 b_e5;repeat (first|with_reducible (first|refine mB ?_ fun _=>?_|refine mC ?_ ?_ ?_|refine mA (l_e1 n) ?_)|exact rfl|exact q06 _)
def k_e0(n:Nat):=b_e0 (lfN n) (k_e5 n)
theorem l_e0(n:Nat):lqf (k_e0 n) f_e0:=fun x=>by unfold k_e0 f_e0 b_e0;repeat (first|with_reducible (first|refine mB ?_ fun _=>?_|refine mC ?_ ?_ ?_|refine mL (fun _=>?_) ?_|refine mF ?_|refine mA (l_e5 n) ?_)|exact rfl|exact q06 _)
def k_dy(n:Nat):=b_dy (lfN n)
theorem l_dy(n:Nat):lqf (k_dy n) f_dy:=fun x=>by unfold k_dy f_dy b_dy;repeat (first|with_reducible (first|refine mB ?_ fun _=>?_|refine mC ?_ ?_ ?_)|exact rfl|exact q06 _)
def k_e8(n:Nat):=b_e8 (lfN n)
theorem l_e8(n:Nat):lqf (k_e8 n) f_e8:=fun x=>by unfold k_e8 f_e8 b_e8;repeat (first|with_reducible refine mB ?_ fun _=>?_|exact q06 _)
def k_du(n:Nat):=b_du (lfN n)
theorem l_du(n:Nat):lqf (k_du n) f_du:=fun x=>by unfold k_du f_du b_du;exact q06 _
def k_dr(n:Nat):=b_dr (lfN n) (k_du n)
theorem l_dr(n:Nat):lqf (k_dr n) f_dr:=fun x=>by unfold k_dr f_dr b_dr;repeat (first|with_reducible (first|refine mB ?_ fun _=>?_|refine mC ?_ ?_ ?_|refine mA (l_du n) ?_)|exact rfl|exact q06 _)
def k_cw(n:Nat):=b_cw (lfN n)
theorem l_cw(n:Nat):lqf (k_cw n) f_cw:=fun x=>by unfold k_cw f_cw b_cw;repeat (first|with_reducible (first|refine mB ?_ fun _=>?_|refine mC ?_ ?_ ?_|refine mL (fun _=>?_) ?_)|exact rfl|exact q06 _)
def k_ct(n:Nat):=b_ct (lfN n) (k_cw n)
theorem l_ct(n:Nat):lqf (k_ct n) f_ct:=fun x=>by unfold k_ct f_ct b_ct;repeat (first|with_reducible (first|refine mB ?_ fun _=>?_|refine mA (l_cw n) ?_)|exact rfl|exact q06 _)
def k_dc(n:Nat):=b_dc (lfN n)
set_option maxRecDepth 100000 in
theorem l_dc(n:Nat):lqf (k_dc n) f_dc:=fun x=>by unfold k_dc f_dc b_dc;repeat (first|with_reducible (first|refine mB ?_ fun _=>?_|refine mC ?_ ?_ ?_|refine mL (fun _=>?_) ?_|refine mS (fun _=>?_) _|refine mK ?_ ?_)|exact rfl|exact q06 _)
def k_b9(n:Nat):=b_b9 (lfN n) (k_dc n)
theorem l_b9(n:Nat):lqf (k_b9 n) f_b9:=fun x=>by unfold k_b9 f_b9 b_b9;repeat (first|with_reducible (first|refine mB ?_ fun _=>?_|refine mA (l_dc n) ?_)|exact rfl|exact q06 _)
def k_ao(n:Nat):=b_ao (lfN n) (k_ct n) (k_b9 n)
theorem l_ao(n:Nat):lqf (k_ao n) f_ao:=fun x=>by unfold k_ao f_ao b_ao;repeat (first|with_reducible (first|refine mB ?_ fun _=>?_|refine mA (l_ct n) ?_|refine mA (l_b9 n) ?_)|exact rfl|exact q06 _)
def k_b4(n:Nat):=b_b4 (lfN n)
theorem l_b4(n:Nat):lqf (k_b4 n) f_b4:=fun x=>by unfold k_b4 f_b4 b_b4;repeat (first|with_reducible (first|refine mB ?_ fun _=>?_|refine mC ?_ ?_ ?_)|exact rfl|exact q06 _)
def k_ay(n:Nat):=b_ay (lfN n)
theorem l_ay(n:Nat):lqf (k_ay n) f_ay:=fun x=>by unfold k_ay f_ay b_ay;repeat (first|with_reducible (first|refine mB ?_ fun _=>?_|refine mC ?_ ?_ ?_)|exact rfl|exact q06 _)
def k_ax(n:Nat):=b_ax (lfN n)
theorem l_ax(n:Nat):lqf (k_ax n) f_ax:=fun x=>by unfold k_ax f_ax b_ax;repeat (first|with_reducible (first|refine mB ?_ fun _=>?_|refine mC ?_ ?_ ?_)|exact rfl|exact q06 _)
def k_az(n:Nat):=b_az (lfN n) (k_b4 n) (k_ay n) (k_ax n)
theorem l_az(n:Nat):lqf (k_az n) f_az:=fun x=>by unfold k_az f_az b_az;repeat (first|with_reducible (first|refine mB ?_ fun _=>?_|refine mC ?_ ?_ ?_|refine mA (l_b4 n) ?_|refine mA (l_ay n) ?_|refine mA (l_ax n) ?_)|exact rfl|exact q06 _)
def k_av(n:Nat):=b_av (lfN n) (k_az n)
theorem l_av(n:Nat):lqf (k_av n) f_av:=fun x=>by unfold k_av f_av b_av;repeat (first|with_reducible (first|refine mB ?_ fun _=>?_|refine mC ?_ ?_ ?_|refine mL (fun _=>?_) ?_|refine mA (l_az n) ?_)|exact rfl|exact q06 _)
def k_at(n:Nat):=b_at (lfN n) (k_ao n) (k_b4 n) (k_av n)
theorem l_at(n:Nat):lqf (k_at n) f_at:=fun x=>by unfold k_at f_at b_at;repeat (first|with_reducible (first|refine mB ?_ fun _=>?_|refine mC ?_ ?_ ?_|refine mA (l_ao n) ?_|refine mA (l_b4 n) ?_|refine mA (l_av n) ?_)|exact rfl|exact q06 _)
def k_au(n:Nat):=b_au (lfN n) (k_ao n) (k_ay n) (k_av n)
theorem l_au(n:Nat):lqf (k_au n) f_au:=fun x=>by unfold k_au f_au b_au;repeat (first|with_reducible (first|refine mB ?_ fun _=>?_|refine mC ?_ ?_ ?_|refine mA (l_ao n) ?_|refine mA (l_ay n) ?_|refine mA (l_av n) ?_)|exact rfl|exact q06 _)
def k_de(_n:Nat):=f_de
theorem l_de(n:Nat):lqf (k_de n) f_de:=lqr
def k_b3(n:Nat):=b_b3 (lfN n) (k_de n)
theorem l_b3(n:Nat):lqf (k_b3 n) f_b3:=fun x=>by unfold k_b3 f_b3 b_b3;repeat (first|with_reducible (first|refine mB ?_ fun _=>?_|refine mA (l_de n) ?_)|exact rfl|exact q06 _)
def k_aw(n:Nat):=b_aw (lfN n) (k_b3 n)
theorem l_aw(n:Nat):lqf (k_aw n) f_aw:=fun x=>by unfold k_aw f_aw b_aw;repeat (first|with_reducible (first|refine mB ?_ fun _=>?_|refine mC ?_ ?_ ?_|refine mL (fun _=>?_) ?_|refine mA (l_b3 n) ?_)|exact rfl|exact q06 _)
def k_as(n:Nat):=b_as (lfN n) (k_e8 n) (k_ao n) (k_at n) (k_au n) (k_aw n)
theorem l_as(n:Nat):lqf (k_as n) f_as:=fun x=>by unfold k_as f_as b_as;repeat (first|with_reducible (first|refine mB ?_ fun _=>?_|refine mC ?_ ?_ ?_|refine mA (l_e8 n) ?_|refine mA (l_ao n) ?_|refine mA (l_at n) ?_|refine mA (l_au n) ?_|refine mA (l_aw n) ?_)|exact rfl|exact q06 _)
def k_dl(n:Nat):=b_dl (lfN n) (k_as n)
theorem l_dl(n:Nat):lqf (k_dl n) f_dl:=fun x=>by unfold k_dl f_dl b_dl;repeat (first|with_reducible (first|refine mB ?_ fun _=>?_|refine mC ?_ ?_ ?_|refine mA (l_as n) ?_)|exact rfl|exact q06 _)
def k_dk(n:Nat):=b_dk (lfN n) (k_as n)
theorem l_dk(n:Nat):lqf (k_dk n) f_dk:=fun x=>by unfold k_dk f_dk b_dk;repeat (first|with_reducible (first|refine mB ?_ fun _=>?_|refine mA (l_as n) ?_)|exact rfl|exact q06 _)
def k_ds(n:Nat):=b_ds (lfN n)
theorem l_ds(n:Nat):lqf (k_ds n) f_ds:=fun x=>by unfold k_ds f_ds b_ds;repeat (first|with_reducible (first|refine mB ?_ fun _=>?_|refine mC ?_ ?_ ?_)|exact rfl|exact q06 _)
def k_dt(n:Nat):=b_dt (lfN n)
theorem l_dt(n:Nat):lqf (k_dt n) f_dt:=fun x=>by unfold k_dt f_dt b_dt;exact q06 _
def k_dv(n:Nat):=b_dv (lfN n)
theorem l_dv(n:Nat):lqf (k_dv n) f_dv:=fun x=>by unfold k_dv f_dv b_dv;exact q06 _
def k_dx(n:Nat):=b_dx (lfN n) (k_dy n) (k_e8 n) (k_dr n) (k_dl n) (k_dk n) (k_ds n) (k_dt n) (k_dv n)
set_option maxRecDepth 100000 in
theorem l_dx(n:Nat):lqf (k_dx n) f_dx:=fun x=>by unfold k_dx f_dx b_dx;repeat (first|with_reducible (first|refine mB ?_ fun _=>?_|refine mC ?_ ?_ ?_|refine mA (l_dy n) ?_|refine mA (l_e8 n) ?_|refine mA (l_dr n) ?_|refine mA (l_dl n) ?_|refine mA (l_dk n) ?_|refine mA (l_ds n) ?_|refine mA (l_dt n) ?_|refine mA (l_dv n) ?_)|exact rfl|exact q06 _)
def k_do(n:Nat):=b_do (lfN n) (k_dx n)
theorem l_do(n:Nat):lqf (k_do n) f_do:=fun x=>by unfold k_do f_do b_do;repeat (first|with_reducible (first|refine mB ?_ fun _=>?_|refine mA (l_dx n) ?_)|exact rfl|exact q06 _)
def kg_dz(n:Nat)(self:Yf31):=b_dz (lfN n) self (k_do n)
def k_dz(n:Nat):=recN (kg_dz n) n
theorem l_dz(n:Nat):lqf (k_dz n) f_dz:=qg2 (fun _ _ hg x=>by unfold kg_dz g_dz b_dz;repeat (first|with_reducible (first|refine mB ?_ fun _=>?_|refine mC ?_ ?_ ?_|refine mL (fun _=>?_) ?_|refine mA hg ?_|refine mA (l_do n) ?_)|exact rfl|exact q06 _)) n
def k_e4(n:Nat):=b_e4 (lfN n) (k_e1 n)
theorem l_e4(n:Nat):lqf (k_e4 n) f_e4:=fun x=>by unfold k_e4 f_e4 b_e4;repeat (first|with_reducible (first|refine mB ?_ fun _=>?_|refine mC ?_ ?_ ?_|refine mK ?_ ?_|refine mA (l_e1 n) ?_)|exact rfl|exact q06 _)
def k_dw(n:Nat):=b_dw (lfN n)
theorem l_dw(n:Nat):lqf (k_dw n) f_dw:=fun x=>by unfold k_dw f_dw b_dw;repeat (first|with_reducible (first|refine mB ?_ fun _=>?_|refine mC ?_ ?_ ?_|refine mL (fun _=>?_) ?_|refine mF ?_)|exact rfl|exact q06 _)
def k_d0(_n:Nat):=qvi
theorem l_d0(n:Nat):lqf (k_d0 n) f_d0:=qvj n
def k_cr(n:Nat):=b_cr (lfN n)
theorem l_cr(n:Nat):lqf (k_cr n) f_cr:=fun x=>by unfold k_cr f_cr b_cr;repeat (first|with_reducible (first|refine mB ?_ fun _=>?_|refine mC ?_ ?_ ?_|refine mL (fun _=>?_) ?_)|exact rfl|exact q06 _)
def k_dq(n:Nat):=b_dq (lfN n) (k_dw n)
theorem l_dq(n:Nat):lqf (k_dq n) f_dq:=fun x=>by unfold k_dq f_dq b_dq;repeat (first|with_reducible (first|refine mB ?_ fun _=>?_|refine mA (l_dw n) ?_)|exact rfl|exact q06 _)
def k_dp(n:Nat):=b_dp (lfN n) (k_e4 n) (k_dw n) (k_d0 n) (k_cr n) (k_dq n)
theorem l_dp(n:Nat):lqf (k_dp n) f_dp:=fun x=>by unfold k_dp f_dp b_dp;repeat (first|with_reducible (first|refine mB ?_ fun _=>?_|refine mA (l_e4 n) ?_|refine mA (l_dw n) ?_|refine mA (l_d0 n) ?_|refine mA (l_cr n) ?_|refine mA (l_dq n) ?_)|exact rfl|exact q06 _)
def k_dn(n:Nat):=b_dn (lfN n) (k_e5 n) (k_e1 n) (k_e0 n) (k_dz n) (k_dp n) (k_dy n)
theorem l_dn(n:Nat):lqf (k_dn n) f_dn:=fun x=>by unfold k_dn f_dn b_dn;repeat (first|with_reducible (first|refine mB ?_ fun _=>?_|refine mC ?_ ?_ ?_|refine mL (fun _=>?_) ?_|refine mS (fun _=>?_) _|refine mA (l_e5 n) ?_|refine mA (l_e1 n) ?_|refine mA (l_e0 n) ?_|refine mA (l_dz n) ?_|refine mA (l_dp n) ?_|refine mA (l_dy n) ?_)|exact rfl|exact q06 _)
def k_dj(n:Nat):=b_dj (lfN n) (k_dn n)
theorem l_dj(n:Nat):lqf (k_dj n) f_dj:=fun x=>by unfold k_dj f_dj b_dj;repeat (first|with_reducible (first|refine mB ?_ fun _=>?_|refine mA (l_dn n) ?_)|exact rfl|exact q06 _)
def k_a6(n:Nat):=b_a6 (lfN n) (k_as n)
theorem l_a6(n:Nat):lqf (k_a6 n) f_a6:=fun x=>by unfold k_a6 f_a6 b_a6;repeat (first|with_reducible (first|refine mB ?_ fun _=>?_|refine mC ?_ ?_ ?_|refine mA (l_as n) ?_)|exact rfl|exact q06 _)
def k_a1(n:Nat):=b_a1 (lfN n) (k_a6 n)
theorem l_a1(n:Nat):lqf (k_a1 n) f_a1:=fun x=>by unfold k_a1 f_a1 b_a1;repeat (first|with_reducible (first|refine mB ?_ fun _=>?_|refine mA (l_a6 n) ?_)|exact rfl|exact q06 _)
def k_cx(n:Nat):=b_cx (lfN n) (k_a1 n)
theorem l_cx(n:Nat):lqf (k_cx n) f_cx:=fun x=>by unfold k_cx f_cx b_cx;repeat (first|with_reducible (first|refine mB ?_ fun _=>?_|refine mC ?_ ?_ ?_|refine mL (fun _=>?_) ?_|refine mA (l_a1 n) ?_)|exact rfl|exact q06 _)
def k_cu(n:Nat):=b_cu (lfN n) (k_cx n)
theorem l_cu(n:Nat):lqf (k_cu n) f_cu:=fun x=>by unfold k_cu f_cu b_cu;repeat (first|with_reducible (first|refine mB ?_ fun _=>?_|refine mA (l_cx n) ?_)|exact rfl|exact q06 _)
def k_a5(n:Nat):=b_a5 (lfN n)
theorem l_a5(n:Nat):lqf (k_a5 n) f_a5:=fun x=>by unfold k_a5 f_a5 b_a5;exact q06 _
def k_cy(n:Nat):=b_cy (lfN n) (k_a5 n)
theorem l_cy(n:Nat):lqf (k_cy n) f_cy:=fun x=>by unfold k_cy f_cy b_cy;repeat (first|with_reducible (first|refine mB ?_ fun _=>?_|refine mC ?_ ?_ ?_|refine mL (fun _=>?_) ?_|refine mA (l_a5 n) ?_)|exact rfl|exact q06 _)
def k_a4(n:Nat):=b_a4 (lfN n) (k_cy n)
theorem l_a4(n:Nat):lqf (k_a4 n) f_a4:=fun x=>by unfold k_a4 f_a4 b_a4;repeat (first|with_reducible (first|refine mB ?_ fun _=>?_|refine mC ?_ ?_ ?_|refine mA (l_cy n) ?_)|exact rfl|exact q06 _)
def k_a0(n:Nat):=b_a0 (lfN n) (k_cu n) (k_a4 n)
theorem l_a0(n:Nat):lqf (k_a0 n) f_a0:=fun x=>by unfold k_a0 f_a0 b_a0;repeat (first|with_reducible (first|refine mB ?_ fun _=>?_|refine mC ?_ ?_ ?_|refine mL (fun _=>?_) ?_|refine mA (l_cu n) ?_|refine mA (l_a4 n) ?_)|exact rfl|exact q06 _)
def k_e2(n:Nat):=b_e2 (lfN n) (k_e1 n)
theorem l_e2(n:Nat):lqf (k_e2 n) f_e2:=fun x=>by unfold k_e2 f_e2 b_e2;repeat (first|with_reducible (first|refine mB ?_ fun _=>?_|refine mC ?_ ?_ ?_|refine mL (fun _=>?_) ?_|refine mF ?_|refine mA (l_e1 n) ?_)|exact rfl|exact q06 _)
def k_e3(n:Nat):=b_e3 (lfN n)
theorem l_e3(n:Nat):lqf (k_e3 n) f_e3:=fun x=>by unfold k_e3 f_e3 b_e3;repeat (first|with_reducible (first|refine mB ?_ fun _=>?_|refine mC ?_ ?_ ?_|refine mL (fun _=>?_) ?_|refine mF ?_)|exact rfl|exact q06 _)
def k_ag(n:Nat):=b_ag (lfN n) (k_e3 n)
theorem l_ag(n:Nat):lqf (k_ag n) f_ag:=fun x=>by unfold k_ag f_ag b_ag;repeat (first|with_reducible (first|refine mB ?_ fun _=>?_|refine mA (l_e3 n) ?_)|exact rfl|exact q06 _)
def k_cp(n:Nat):=b_cp (lfN n) (k_ag n)
theorem l_cp(n:Nat):lqf (k_cp n) f_cp:=fun x=>by unfold k_cp f_cp b_cp;repeat (first|with_reducible (first|refine mB ?_ fun _=>?_|refine mA (l_ag n) ?_)|exact rfl|exact q06 _)
def k_dh(_n:Nat):=f_dh
theorem l_dh(n:Nat):lqf (k_dh n) f_dh:=lqr
def k_d1(_n:Nat):=f_d1
theorem l_d1(n:Nat):lqf (k_d1 n) f_d1:=lqr
def k_e7(n:Nat):=b_e7 (lfN n) (k_dh n) (k_d1 n) (k_e8 n)
theorem l_e7(n:Nat):lqf (k_e7 n) f_e7:=fun x=>by unfold k_e7 f_e7 b_e7;repeat (first|with_reducible (first|refine mB ?_ fun _=>?_|refine mA (l_dh n) ?_|refine mA (l_d1 n) ?_|refine mA (l_e8 n) ?_)|exact rfl|exact q06 _)
def k_d2(_n:Nat):=f_d2
theorem l_d2(n:Nat):lqf (k_d2 n) f_d2:=lqr
def k_d8(_n:Nat):=f_d8
theorem l_d8(n:Nat):lqf (k_d8 n) f_d8:=lqr
def k_d4(n:Nat):=b_d4 (lfN n) (k_d8 n)
theorem q5v(n:Nat)(c c':Y42->Option Y42)(hc:lqf c c'):lqf (b_d4 (lfN n) c) (b_d4 lf c'):=fun x=>by unfold b_d4;repeat (first|with_reducible (first|refine mB ?_ fun _=>?_|refine mF ?_|refine mA hc ?_)|exact rfl|exact q06 _)
theorem l_d4(n:Nat):lqf (k_d4 n) f_d4:=q5v n _ _ (l_d8 n)
def k_d6(n:Nat):=b_d6 (lfN n) (k_d8 n)
theorem l_d6(n:Nat):lqf (k_d6 n) f_d6:=fun x=>by unfold k_d6 f_d6 b_d6;repeat (first|with_reducible (first|refine mB ?_ fun _=>?_|refine mF ?_|refine mA (l_d8 n) ?_)|exact rfl|exact q06 _)
def k_ar(n:Nat):=b_ar (lfN n) (k_d2 n) (k_d4 n) (k_d6 n)
set_option maxRecDepth 100000 in
theorem l_ar(n:Nat):lqf (k_ar n) f_ar:=fun x=>by unfold k_ar f_ar b_ar;repeat (first|with_reducible (first|refine mB ?_ fun _=>?_|refine mC ?_ ?_ ?_|refine mL (fun _=>?_) ?_|refine mF ?_|refine mA (l_d2 n) ?_|refine mA (l_d4 n) ?_|refine mA (l_d6 n) ?_)|exact rfl|exact q06 _)
def k_cl(n:Nat):=b_cl (lfN n) (k_as n)
theorem l_cl(n:Nat):lqf (k_cl n) f_cl:=fun x=>by unfold k_cl f_cl b_cl;repeat (first|with_reducible (first|refine mB ?_ fun _=>?_|refine mC ?_ ?_ ?_|refine mF ?_|refine mA (l_as n) ?_)|exact rfl|exact q06 _)
def k_ac(n:Nat):=b_ac (lfN n) (k_e3 n)
theorem l_ac(n:Nat):lqf (k_ac n) f_ac:=fun x=>by unfold k_ac f_ac b_ac;repeat (first|with_reducible (first|refine mB ?_ fun _=>?_|refine mA (l_e3 n) ?_)|exact rfl|exact q06 _)
def k_a9(n:Nat):=b_a9 (lfN n) (k_e3 n)
theorem l_a9(n:Nat):lqf (k_a9 n) f_a9:=fun x=>by unfold k_a9 f_a9 b_a9;repeat (first|with_reducible (first|refine mB ?_ fun _=>?_|refine mA (l_e3 n) ?_)|exact rfl|exact q06 _)
def k_co(n:Nat):=b_co (lfN n) (k_a9 n)
theorem l_co(n:Nat):lqf (k_co n) f_co:=fun x=>by unfold k_co f_co b_co;repeat (first|with_reducible (first|refine mB ?_ fun _=>?_|refine mC ?_ ?_ ?_|refine mA (l_a9 n) ?_)|exact rfl|exact q06 _)
def k_cg(n:Nat):=b_cg (lfN n) (k_ac n) (k_co n)
theorem l_cg(n:Nat):lqf (k_cg n) f_cg:=fun x=>by unfold k_cg f_cg b_cg;repeat (first|with_reducible (first|refine mB ?_ fun _=>?_|refine mA (l_ac n) ?_|refine mA (l_co n) ?_)|exact rfl|exact q06 _)
def k_ae(n:Nat):=b_ae (lfN n) (k_e3 n)
theorem l_ae(n:Nat):lqf (k_ae n) f_ae:=fun x=>by unfold k_ae f_ae b_ae;repeat (first|with_reducible (first|refine mB ?_ fun _=>?_|refine mA (l_e3 n) ?_)|exact rfl|exact q06 _)
def k_af(n:Nat):=b_af (lfN n) (k_e3 n)
theorem l_af(n:Nat):lqf (k_af n) f_af:=fun x=>by unfold k_af f_af b_af;repeat (first|with_reducible (first|refine mB ?_ fun _=>?_|refine mA (l_e3 n) ?_)|exact rfl|exact q06 _)
def k_cn(n:Nat):=b_cn (lfN n) (k_co n) (k_af n)
theorem l_cn(n:Nat):lqf (k_cn n) f_cn:=fun x=>by unfold k_cn f_cn b_cn;repeat (first|with_reducible (first|refine mB ?_ fun _=>?_|refine mA (l_co n) ?_|refine mA (l_af n) ?_)|exact rfl|exact q06 _)
def k_cq(n:Nat):=b_cq (lfN n) (k_ae n) (k_cn n)
theorem l_cq(n:Nat):lqf (k_cq n) f_cq:=fun x=>by unfold k_cq f_cq b_cq;repeat (first|with_reducible (first|refine mB ?_ fun _=>?_|refine mA (l_ae n) ?_|refine mA (l_cn n) ?_)|exact rfl|exact q06 _)
def kg_cm(n:Nat)(self:Yf25):=b_cm (lfN n) self (k_e2 n) (k_e7 n) (k_cl n)
def k_cm(n:Nat):=recN (kg_cm n) n
theorem l_cm(n:Nat):lqf (k_cm n) f_cm:=qg2 (fun _ _ hg x=>by unfold kg_cm g_cm b_cm;repeat (first|with_reducible (first|refine mB ?_ fun _=>?_|refine mC ?_ ?_ ?_|refine mL (fun _=>?_) ?_|refine mF ?_|refine mA hg ?_|refine mA (l_e2 n) ?_|refine mA (l_e7 n) ?_|refine mA (l_cl n) ?_)|exact rfl|exact q06 _)) n
def k_cj(n:Nat):=b_cj (lfN n) (k_a4 n)
theorem l_cj(n:Nat):lqf (k_cj n) f_cj:=fun x=>by unfold k_cj f_cj b_cj;repeat (first|with_reducible (first|refine mB ?_ fun _=>?_|refine mC ?_ ?_ ?_|refine mA (l_a4 n) ?_)|exact rfl|exact q06 _)
def k_ci(n:Nat):=b_ci (lfN n) (k_cj n)
theorem l_ci(n:Nat):lqf (k_ci n) f_ci:=fun x=>by unfold k_ci f_ci b_ci;repeat (first|with_reducible (first|refine mB ?_ fun _=>?_|refine mC ?_ ?_ ?_|refine mA (l_cj n) ?_)|exact rfl|exact q06 _)
def k_ck(n:Nat):=b_ck (lfN n) (k_cj n)
theorem l_ck(n:Nat):lqf (k_ck n) f_ck:=fun x=>by unfold k_ck f_ck b_ck;repeat (first|with_reducible (first|refine mB ?_ fun _=>?_|refine mC ?_ ?_ ?_|refine mA (l_cj n) ?_)|exact rfl|exact q06 _)
def q43(n:Nat)(self:Yf1):=q32 (lfN n) self (k_e2 n)
theorem qaf(n:Nat){g g'}(hg:lqf g g'):lqf (q43 n g) (q0f g'):=fun x=>by unfold q43 q0f q32;repeat (first|with_reducible (first|refine mB ?_ fun _=>?_|refine mA hg ?_|refine mA (l_e2 n) ?_)|exact rfl|exact q06 _)
def q44(n:Nat)(self:Yf1):=q33 (lfN n) self (k_cm n) (k_e2 n) (k_cp n) (k_cg n) (k_cq n) (k_ae n) (k_cn n)
set_option maxRecDepth 100000 in
theorem qag(n:Nat){g g'}(hg:lqf g g'):lqf (q44 n g) (q12 g'):=fun x=>by unfold q44 q12 q33;repeat (first|with_reducible (first|refine mB ?_ fun _=>?_|refine mC ?_ ?_ ?_|refine mL (fun _=>?_) ?_|refine mF ?_|refine mA hg ?_|refine mA (l_cm n) ?_|refine mA (l_e2 n) ?_|refine mA (l_cp n) ?_|refine mA (l_cg n) ?_|refine mA (l_cq n) ?_|refine mA (l_ae n) ?_|refine mA (l_cn n) ?_)|exact rfl|exact q06 _)
def q38(n:Nat)(self:Yf1):=q3m (lfN n) self (k_cp n) (k_a9 n)
theorem q6l(n:Nat){g g'}(hg:lqf g g'):lqf (q38 n g) (q0o g'):=fun x=>by unfold q38 q0o q3m;repeat (first|with_reducible (first|refine mB ?_ fun _=>?_|refine mC ?_ ?_ ?_|refine mA hg ?_|refine mA (l_cp n) ?_|refine mA (l_a9 n) ?_)|exact rfl|exact q06 _)
def q4m(n:Nat)(self:Yf1):=q3n (lfN n) (k_ci n) (q38 n self) (k_ck n)
theorem qbs(n:Nat){g g'}(hg:lqf g g'):lqf (q4m n g) (q0z g'):=fun x=>by unfold q4m q0z q3n;repeat (first|with_reducible (first|refine mB ?_ fun _=>?_|refine mC ?_ ?_ ?_|refine mA (l_ci n) ?_|refine mA (q6l n hg) ?_|refine mA (l_ck n) ?_)|exact rfl|exact q06 _)
def q4n(n:Nat)(self:Yf1):=q3o (lfN n) (k_e2 n) (k_cp n) (k_cg n) (k_ae n) (k_cn n) (k_cj n) (q4m n self)
theorem qbt(n:Nat){g g'}(hg:lqf g g'):lqf (q4n n g) (q15 g'):=fun x=>by unfold q4n q15 q3o;repeat (first|with_reducible (first|refine mB ?_ fun _=>?_|refine mF ?_|refine mA (l_e2 n) ?_|refine mA (l_cp n) ?_|refine mA (l_cg n) ?_|refine mA (l_ae n) ?_|refine mA (l_cn n) ?_|refine mA (l_cj n) ?_|refine mA (qbs n hg) ?_)|exact rfl|exact q06 _)
def q4o(n:Nat)(self:Yf1):=q3p (lfN n) (k_e2 n) (k_cg n) (k_ae n) (k_ci n) (k_cn n) (q38 n self)
theorem qbu(n:Nat){g g'}(hg:lqf g g'):lqf (q4o n g) (q16 g'):=fun x=>by unfold q4o q16 q3p;repeat (first|with_reducible (first|refine mB ?_ fun _=>?_|refine mC ?_ ?_ ?_|refine mL (fun _=>?_) ?_|refine mF ?_|refine mA (l_e2 n) ?_|refine mA (l_cg n) ?_|refine mA (l_ae n) ?_|refine mA (l_ci n) ?_|refine mA (l_cn n) ?_|refine mA (q6l n hg) ?_)|exact rfl|exact q06 _)
def kg_ch(n:Nat)(self:Yf1):=b_ch (lfN n) (q43 n self) (k_cp n) (k_e7 n) (k_ar n) (k_cl n) (k_cg n) (k_cq n) (k_ae n) (q44 n self) (k_ci n) (q4n n self) (q4o n self)
def k_ch(n:Nat):=recN (kg_ch n) n
set_option maxRecDepth 100000 in
theorem l_ch(n:Nat):lqf (k_ch n) f_ch:=qg2 (fun _ _ hg x=>by unfold kg_ch g_ch b_ch;repeat (first|with_reducible (first|refine mB ?_ fun _=>?_|refine mC ?_ ?_ ?_|refine mF ?_|refine mA (qaf n hg) ?_|refine mA (l_cp n) ?_|refine mA (l_e7 n) ?_|refine mA (l_ar n) ?_|refine mA (l_cl n) ?_|refine mA (l_cg n) ?_|refine mA (l_cq n) ?_|refine mA (l_ae n) ?_|refine mA (qag n hg) ?_|refine mA (l_ci n) ?_|refine mA (qbt n hg) ?_|refine mA (qbu n hg) ?_)|exact rfl|exact q06 _)) n
def k_cc(n:Nat):=b_cc (lfN n) (k_dj n) (k_a0 n) (k_ch n)
theorem l_cc(n:Nat):lqf (k_cc n) f_cc:=fun x=>by unfold k_cc f_cc b_cc;repeat (first|with_reducible (first|refine mB ?_ fun _=>?_|refine mC ?_ ?_ ?_|refine mA (l_dj n) ?_|refine mA (l_a0 n) ?_|refine mA (l_ch n) ?_)|exact rfl|exact q06 _)
def k_am(n:Nat):=b_am (lfN n)
theorem l_am(n:Nat):lqf (k_am n) f_am:=fun x=>by unfold k_am f_am b_am;repeat (first|with_reducible (first|refine mB ?_ fun _=>?_|refine mC ?_ ?_ ?_)|exact rfl|exact q06 _)
def k_di(n:Nat):=b_di (lfN n) (k_am n)
theorem l_di(n:Nat):lqf (k_di n) f_di:=fun x=>by unfold k_di f_di b_di;repeat (first|with_reducible (first|refine mB ?_ fun _=>?_|refine mC ?_ ?_ ?_|refine mL (fun _=>?_) ?_|refine mA (l_am n) ?_)|exact rfl|exact q06 _)
def k_df(n:Nat):=b_df (lfN n) (k_di n)
theorem l_df(n:Nat):lqf (k_df n) f_df:=fun x=>by unfold k_df f_df b_df;repeat (first|with_reducible (first|refine mB ?_ fun _=>?_|refine mA (l_di n) ?_)|exact rfl|exact q06 _)
def k_da(n:Nat):=b_da (lfN n) (k_df n)
theorem l_da(n:Nat):lqf (k_da n) f_da:=fun x=>by unfold k_da f_da b_da;repeat (first|with_reducible (first|refine mB ?_ fun _=>?_|refine mA (l_df n) ?_)|exact rfl|exact q06 _)
def k_al(n:Nat):=b_al (lfN n) (k_da n)
theorem l_al(n:Nat):lqf (k_al n) f_al:=fun x=>by unfold k_al f_al b_al;repeat (first|with_reducible (first|refine mB ?_ fun _=>?_|refine mC ?_ ?_ ?_|refine mS (fun _=>?_) _|refine mA (l_da n) ?_)|exact rfl|exact q06 _)
def k_aa(n:Nat):=b_aa (lfN n) (k_e5 n) (k_al n)
theorem l_aa(n:Nat):lqf (k_aa n) f_aa:=fun x=>by unfold k_aa f_aa b_aa;repeat (first|with_reducible (first|refine mB ?_ fun _=>?_|refine mC ?_ ?_ ?_|refine mL (fun _=>?_) ?_|refine mA (l_e5 n) ?_|refine mA (l_al n) ?_)|exact rfl|exact q06 _)
def k_d9(_n:Nat):=f_d9
theorem l_d9(n:Nat):lqf (k_d9 n) f_d9:=lqr
def k_d7(n:Nat):=b_d7 (lfN n) (k_d9 n)
theorem l_d7(n:Nat):lqf (k_d7 n) f_d7:=fun x=>by unfold k_d7 f_d7 b_d7;repeat (first|with_reducible (first|refine mB ?_ fun _=>?_|refine mF ?_|refine mA (l_d9 n) ?_)|exact rfl|exact q06 _)
def k_ak(n:Nat):=b_ak (lfN n) (k_d7 n)
theorem l_ak(n:Nat):lqf (k_ak n) f_ak:=fun x=>by unfold k_ak f_ak b_ak;repeat (first|with_reducible (first|refine mB ?_ fun _=>?_|refine mA (l_d7 n) ?_)|exact rfl|exact q06 _)
def k_d5(n:Nat):=b_d5 (lfN n) (k_d9 n)
theorem q59(n:Nat)(c c':Y16->Option Y16)(hc:lqf c c'):lqf (b_d5 (lfN n) c) (b_d5 lf c'):=fun x=>by unfold b_d5;repeat (first|with_reducible (first|refine mB ?_ fun _=>?_|refine mF ?_|refine mA hc ?_)|exact rfl|exact q06 _)
theorem l_d5(n:Nat):lqf (k_d5 n) f_d5:=q59 n _ _ (l_d9 n)
def k_dg(_n:Nat):=f_dg
theorem l_dg(n:Nat):lqf (k_dg n) f_dg:=lqr
def k_ah(n:Nat):=b_ah (lfN n) (k_ak n) (k_d5 n) (k_dg n)
theorem l_ah(n:Nat):lqf (k_ah n) f_ah:=fun x=>by unfold k_ah f_ah b_ah;repeat (first|with_reducible (first|refine mB ?_ fun _=>?_|refine mA (l_ak n) ?_|refine mA (l_d5 n) ?_|refine mA (l_dg n) ?_)|exact rfl|exact q06 _)
def k_ai(n:Nat):=b_ai (lfN n)
theorem l_ai(n:Nat):lqf (k_ai n) f_ai:=fun x=>by unfold k_ai f_ai b_ai;repeat (first|with_reducible refine mB ?_ fun _=>?_|exact q06 _)
def k_an(n:Nat):=b_an (lfN n)
theorem l_an(n:Nat):lqf (k_an n) f_an:=fun x=>by unfold k_an f_an b_an;repeat (first|with_reducible (first|refine mB ?_ fun _=>?_|refine mC ?_ ?_ ?_|refine mL (fun _=>?_) ?_)|exact rfl|exact q06 _)
def q45(n:Nat)(self:Yf16):=q34 (lfN n) self
theorem qah(n:Nat){g g'}(hg:lqf g g'):lqf (q45 n g) (q0t g'):=fun x=>by unfold q45 q0t q34;repeat (first|with_reducible (first|refine mB ?_ fun _=>?_|refine mC ?_ ?_ ?_|refine mL (fun _=>?_) ?_|refine mA hg ?_)|exact rfl|exact q06 _)
def kg_aj(n:Nat)(self:Yf16):=b_aj (lfN n) (q45 n self) (k_ak n) (k_ah n) (k_ai n) (k_an n) (k_e1 n)
def k_aj(n:Nat):=recN (kg_aj n) n
set_option maxRecDepth 100000 in
theorem l_aj(n:Nat):lqf (k_aj n) f_aj:=qg2 (fun _ _ hg x=>by unfold kg_aj g_aj b_aj;repeat (first|with_reducible (first|refine mB ?_ fun _=>?_|refine mC ?_ ?_ ?_|refine mS (fun _=>?_) _|refine mA (qah n hg) ?_|refine mA (l_ak n) ?_|refine mA (l_ah n) ?_|refine mA (l_ai n) ?_|refine mA (l_an n) ?_|refine mA (l_e1 n) ?_)|exact rfl|exact q06 _)) n
def k_d3(_n:Nat):=f_d3
theorem l_d3(n:Nat):lqf (k_d3 n) f_d3:=lqr
def k_ad(n:Nat):=b_ad (lfN n) (k_aa n) (k_aj n) (k_d3 n)
theorem l_ad(n:Nat):lqf (k_ad n) f_ad:=fun x=>by unfold k_ad f_ad b_ad;repeat (first|with_reducible (first|refine mB ?_ fun _=>?_|refine mC ?_ ?_ ?_|refine mA (l_aa n) ?_|refine mA (l_aj n) ?_|refine mA (l_d3 n) ?_)|exact rfl|exact q06 _)
def k_cf(n:Nat):=b_cf (lfN n) (k_cc n) (k_ad n)
theorem l_cf(n:Nat):lqf (k_cf n) f_cf:=fun x=>by unfold k_cf f_cf b_cf;repeat (first|with_reducible (first|refine mB ?_ fun _=>?_|refine mC ?_ ?_ ?_|refine mA (l_cc n) ?_|refine mA (l_ad n) ?_)|exact rfl|exact q06 _)
def k_ab(n:Nat):=b_ab (lfN n) (k_aa n) (k_aj n) (k_d3 n)
theorem l_ab(n:Nat):lqf (k_ab n) f_ab:=fun x=>by unfold k_ab f_ab b_ab;repeat (first|with_reducible (first|refine mB ?_ fun _=>?_|refine mC ?_ ?_ ?_|refine mA (l_aa n) ?_|refine mA (l_aj n) ?_|refine mA (l_d3 n) ?_)|exact rfl|exact q06 _)
def k_cd(n:Nat):=b_cd (lfN n) (k_cc n) (k_ab n)
theorem l_cd(n:Nat):lqf (k_cd n) f_cd:=fun x=>by unfold k_cd f_cd b_cd;repeat (first|with_reducible (first|refine mB ?_ fun _=>?_|refine mC ?_ ?_ ?_|refine mA (l_cc n) ?_|refine mA (l_ab n) ?_)|exact rfl|exact q06 _)
def k_dm(n:Nat):=b_dm (lfN n) (k_dn n)
theorem l_dm(n:Nat):lqf (k_dm n) f_dm:=fun x=>by unfold k_dm f_dm b_dm;repeat (first|with_reducible (first|refine mB ?_ fun _=>?_|refine mA (l_dn n) ?_)|exact rfl|exact q06 _)
def k_ce(n:Nat):=b_ce (lfN n) (k_dm n) (k_cm n)
theorem l_ce(n:Nat):lqf (k_ce n) f_ce:=fun x=>by unfold k_ce f_ce b_ce;repeat (first|with_reducible (first|refine mB ?_ fun _=>?_|refine mC ?_ ?_ ?_|refine mA (l_dm n) ?_|refine mA (l_cm n) ?_)|exact rfl|exact q06 _)
def k_aq(n:Nat):=b_aq (lfN n)
theorem l_aq(n:Nat):lqf (k_aq n) f_aq:=fun x=>by unfold k_aq f_aq b_aq;exact q06 _
def k_b8(n:Nat):=b_b8 (lfN n) (k_aq n)
theorem l_b8(n:Nat):lqf (k_b8 n) f_b8:=fun x=>by unfold k_b8 f_b8 b_b8;repeat (first|with_reducible (first|refine mB ?_ fun _=>?_|refine mC ?_ ?_ ?_|refine mL (fun _=>?_) ?_|refine mA (l_aq n) ?_)|exact rfl|exact q06 _)
def k_b5(n:Nat):=b_b5 (lfN n) (k_az n)
theorem l_b5(n:Nat):lqf (k_b5 n) f_b5:=fun x=>by unfold k_b5 f_b5 b_b5;repeat (first|with_reducible (first|refine mB ?_ fun _=>?_|refine mC ?_ ?_ ?_|refine mL (fun _=>?_) ?_|refine mA (l_az n) ?_)|exact rfl|exact q06 _)
def k_b6(n:Nat):=b_b6 (lfN n) (k_b3 n)
theorem l_b6(n:Nat):lqf (k_b6 n) f_b6:=fun x=>by unfold k_b6 f_b6 b_b6;repeat (first|with_reducible (first|refine mB ?_ fun _=>?_|refine mC ?_ ?_ ?_|refine mL (fun _=>?_) ?_|refine mA (l_b3 n) ?_)|exact rfl|exact q06 _)
def k_b7(n:Nat):=b_b7 (lfN n) (k_ax n)
theorem l_b7(n:Nat):lqf (k_b7 n) f_b7:=fun x=>by unfold k_b7 f_b7 b_b7;repeat (first|with_reducible (first|refine mB ?_ fun _=>?_|refine mC ?_ ?_ ?_|refine mL (fun _=>?_) ?_|refine mA (l_ax n) ?_)|exact rfl|exact q06 _)
def k_b1(n:Nat):=b_b1 (lfN n) (k_ao n)
theorem l_b1(n:Nat):lqf (k_b1 n) f_b1:=fun x=>by unfold k_b1 f_b1 b_b1;repeat (first|with_reducible (first|refine mB ?_ fun _=>?_|refine mC ?_ ?_ ?_|refine mA (l_ao n) ?_)|exact rfl|exact q06 _)
def k_a8(n:Nat):=b_a8 (lfN n)
theorem l_a8(n:Nat):lqf (k_a8 n) f_a8:=fun x=>by unfold k_a8 f_a8 b_a8;repeat (first|with_reducible (first|refine mB ?_ fun _=>?_|refine mC ?_ ?_ ?_)|exact rfl|exact q06 _)
def k_dd(n:Nat):=b_dd (lfN n) (k_a8 n)
theorem l_dd(n:Nat):lqf (k_dd n) f_dd:=fun x=>by unfold k_dd f_dd b_dd;repeat (first|with_reducible (first|refine mB ?_ fun _=>?_|refine mA (l_a8 n) ?_)|exact rfl|exact q06 _)
def k_a7(n:Nat):=b_a7 (lfN n) (k_a8 n)
theorem l_a7(n:Nat):lqf (k_a7 n) f_a7:=fun x=>by unfold k_a7 f_a7 b_a7;repeat (first|with_reducible (first|refine mB ?_ fun _=>?_|refine mC ?_ ?_ ?_|refine mA (l_a8 n) ?_)|exact rfl|exact q06 _)
def k_db(n:Nat):=b_db (lfN n) (k_a7 n)
theorem l_db(n:Nat):lqf (k_db n) f_db:=fun x=>by unfold k_db f_db b_db;repeat (first|with_reducible (first|refine mB ?_ fun _=>?_|refine mA (l_a7 n) ?_)|exact rfl|exact q06 _)
def k_e6(n:Nat):=b_e6 (lfN n) (k_e7 n) (k_db n)
theorem l_e6(n:Nat):lqf (k_e6 n) f_e6:=fun x=>by unfold k_e6 f_e6 b_e6;repeat (first|with_reducible (first|refine mB ?_ fun _=>?_|refine mC ?_ ?_ ?_|refine mL (fun _=>?_) ?_|refine mA (l_e7 n) ?_|refine mA (l_db n) ?_)|exact rfl|exact q06 _)
def k_b2(n:Nat):=b_b2 (lfN n) (k_de n)
set_option maxRecDepth 100000 in
theorem l_b2(n:Nat):lqf (k_b2 n) f_b2:=fun x=>by unfold k_b2 f_b2 b_b2;repeat (first|with_reducible (first|refine mB ?_ fun _=>?_|refine mC ?_ ?_ ?_|refine mL (fun _=>?_) ?_|refine mS (fun _=>?_) _|refine mF ?_|refine mA (l_de n) ?_)|exact rfl|exact q06 _)
def k_b0(n:Nat):=b_b0 (lfN n) (k_b5 n) (k_b6 n) (k_b7 n) (k_b1 n) (k_b4 n) (k_ay n) (k_b3 n) (k_dd n) (k_ax n) (k_e6 n) (k_b2 n)
theorem l_b0(n:Nat):lqf (k_b0 n) f_b0:=fun x=>by unfold k_b0 f_b0 b_b0;repeat (first|with_reducible (first|refine mB ?_ fun _=>?_|refine mC ?_ ?_ ?_|refine mA (l_b5 n) ?_|refine mA (l_b6 n) ?_|refine mA (l_b7 n) ?_|refine mA (l_b1 n) ?_|refine mA (l_b4 n) ?_|refine mA (l_ay n) ?_|refine mA (l_b3 n) ?_|refine mA (l_dd n) ?_|refine mA (l_ax n) ?_|refine mA (l_e6 n) ?_|refine mA (l_b2 n) ?_)|exact rfl|exact q06 _)
def k_ap(n:Nat):=b_ap (lfN n) (k_b8 n) (k_b0 n)
theorem l_ap(n:Nat):lqf (k_ap n) f_ap:=fun x=>by unfold k_ap f_ap b_ap;repeat (first|with_reducible (first|refine mB ?_ fun _=>?_|refine mC ?_ ?_ ?_|refine mL (fun _=>?_) ?_|refine mF ?_|refine mA (l_b8 n) ?_|refine mA (l_b0 n) ?_)|exact rfl|exact q06 _)
def k_bh(n:Nat):=b_bh (lfN n)
theorem l_bh(n:Nat):lqf (k_bh n) f_bh:=fun x=>by unfold k_bh f_bh b_bh;repeat (first|with_reducible (first|refine mB ?_ fun _=>?_|refine mC ?_ ?_ ?_)|exact rfl|exact q06 _)
def k_bk(n:Nat):=b_bk (lfN n)
theorem l_bk(n:Nat):lqf (k_bk n) f_bk:=fun x=>by unfold k_bk f_bk b_bk;repeat (first|with_reducible (first|refine mB ?_ fun _=>?_|refine mC ?_ ?_ ?_)|exact rfl|exact q06 _)
def k_bi(n:Nat):=b_bi (lfN n) (k_ct n)
theorem l_bi(n:Nat):lqf (k_bi n) f_bi:=fun x=>by unfold k_bi f_bi b_bi;repeat (first|with_reducible (first|refine mB ?_ fun _=>?_|refine mC ?_ ?_ ?_|refine mA (l_ct n) ?_)|exact rfl|exact q06 _)
def k_bn(n:Nat):=b_bn (lfN n)
theorem l_bn(n:Nat):lqf (k_bn n) f_bn:=fun x=>by unfold k_bn f_bn b_bn;repeat (first|with_reducible refine mB ?_ fun _=>?_|exact q06 _)
def k_bc(n:Nat):=b_bc (lfN n) (k_e3 n)
theorem l_bc(n:Nat):lqf (k_bc n) f_bc:=fun x=>by unfold k_bc f_bc b_bc;repeat (first|with_reducible (first|refine mB ?_ fun _=>?_|refine mA (l_e3 n) ?_)|exact rfl|exact q06 _)
def k_bj(n:Nat):=b_bj (lfN n) (k_bh n) (k_bk n) (k_bi n)
theorem l_bj(n:Nat):lqf (k_bj n) f_bj:=fun x=>by unfold k_bj f_bj b_bj;repeat (first|with_reducible (first|refine mB ?_ fun _=>?_|refine mC ?_ ?_ ?_|refine mA (l_bh n) ?_|refine mA (l_bk n) ?_|refine mA (l_bi n) ?_)|exact rfl|exact q06 _)
def k_bd(n:Nat):=b_bd (lfN n) (k_bi n)
set_option maxRecDepth 100000 in
theorem l_bd(n:Nat):lqf (k_bd n) f_bd:=fun x=>by unfold k_bd f_bd b_bd;repeat (first|with_reducible (first|refine mB ?_ fun _=>?_|refine mC ?_ ?_ ?_|refine mA (l_bi n) ?_)|exact rfl|exact q06 _)
def k_be(n:Nat):=b_be (lfN n) (k_bh n) (k_bk n) (k_bi n) (k_bn n) (k_bj n)
set_option maxRecDepth 100000 in
theorem l_be(n:Nat):lqf (k_be n) f_be:=fun x=>by unfold k_be f_be b_be;repeat (first|with_reducible (first|refine mB ?_ fun _=>?_|refine mC ?_ ?_ ?_|refine mA (l_bh n) ?_|refine mA (l_bk n) ?_|refine mA (l_bi n) ?_|refine mA (l_bn n) ?_|refine mA (l_bj n) ?_)|exact rfl|exact q06 _)
def q3d(n:Nat)(self:Yf0):=q2j (lfN n) (k_e3 n) self (k_bi n) (k_bn n) (k_be n) (k_bc n) (k_bj n)
set_option maxRecDepth 100000 in
theorem q8u(n:Nat){g g'}(hg:lqf g g'):lqf (q3d n g) (q1m g'):=fun x=>by unfold q3d q1m q2j;repeat (first|with_reducible (first|refine mB ?_ fun _=>?_|refine mC ?_ ?_ ?_|refine mA (l_e3 n) ?_|refine mA hg ?_|refine mA (l_bi n) ?_|refine mA (l_bn n) ?_|refine mA (l_be n) ?_|refine mA (l_bc n) ?_|refine mA (l_bj n) ?_)|exact rfl|exact q06 _)
def q46(n:Nat)(self:Yf0):=q35 (lfN n) (k_bi n) (k_bn n) (k_bc n) (q3d n self)
set_option maxRecDepth 100000 in
theorem qai(n:Nat){g g'}(hg:lqf g g'):lqf (q46 n g) (q28 g'):=fun x=>by unfold q46 q28 q35;repeat (first|with_reducible (first|refine mB ?_ fun _=>?_|refine mC ?_ ?_ ?_|refine mL (fun _=>?_) ?_|refine mF ?_|refine mA (l_bi n) ?_|refine mA (l_bn n) ?_|refine mA (l_bc n) ?_|refine mA (q8u n hg) ?_)|exact rfl|exact q06 _)
def kg_bf(n:Nat)(self:Yf0):=b_bf (lfN n) (k_bh n) (k_bk n) (q46 n self)
def k_bf(n:Nat):=recN (kg_bf n) n
theorem l_bf(n:Nat):lqf (k_bf n) f_bf:=qg2 (fun _ _ hg x=>by unfold kg_bf g_bf b_bf;repeat (first|with_reducible (first|refine mB ?_ fun _=>?_|refine mC ?_ ?_ ?_|refine mA (l_bh n) ?_|refine mA (l_bk n) ?_|refine mA (qai n hg) ?_)|exact rfl|exact q06 _)) n
def k_bl(n:Nat):=b_bl (lfN n) (k_a4 n)
theorem l_bl(n:Nat):lqf (k_bl n) f_bl:=fun x=>by unfold k_bl f_bl b_bl;repeat (first|with_reducible (first|refine mB ?_ fun _=>?_|refine mA (l_a4 n) ?_)|exact rfl|exact q06 _)
def k_cz(n:Nat):=b_cz (lfN n) (k_bl n)
theorem l_cz(n:Nat):lqf (k_cz n) f_cz:=fun x=>by unfold k_cz f_cz b_cz;repeat (first|with_reducible (first|refine mB ?_ fun _=>?_|refine mC ?_ ?_ ?_|refine mL (fun _=>?_) ?_|refine mA (l_bl n) ?_)|exact rfl|exact q06 _)
def k_cv(_n:Nat):=f_cv
theorem l_cv(n:Nat):lqf (k_cv n) f_cv:=lqr
def k_cs(n:Nat):=b_cs (lfN n) (k_cv n)
theorem l_cs(n:Nat):lqf (k_cs n) f_cs:=fun x=>by unfold k_cs f_cs b_cs;repeat (first|with_reducible (first|refine mB ?_ fun _=>?_|refine mC ?_ ?_ ?_|refine mL (fun _=>?_) ?_|refine mF ?_|refine mA (l_cv n) ?_)|exact rfl|exact q06 _)
def k_a3(n:Nat):=b_a3 (lfN n) (k_cs n)
theorem l_a3(n:Nat):lqf (k_a3 n) f_a3:=fun x=>by unfold k_a3 f_a3 b_a3;repeat (first|with_reducible (first|refine mB ?_ fun _=>?_|refine mC ?_ ?_ ?_|refine mF ?_|refine mA (l_cs n) ?_)|exact rfl|exact q06 _)
def k_a2(n:Nat):=b_a2 (lfN n) (k_a0 n) (k_a4 n) (k_a3 n)
set_option maxRecDepth 100000 in
theorem l_a2(n:Nat):lqf (k_a2 n) f_a2:=fun x=>by unfold k_a2 f_a2 b_a2;repeat (first|with_reducible (first|refine mB ?_ fun _=>?_|refine mC ?_ ?_ ?_|refine mL (fun _=>?_) ?_|refine mS (fun _=>?_) _|refine mF ?_|refine mK ?_ ?_|refine mA (l_a0 n) ?_|refine mA (l_a4 n) ?_|refine mA (l_a3 n) ?_)|exact rfl|exact q06 _)
def kg_bm(n:Nat)(self:Yf39):=b_bm (lfN n) (k_bc n) self
def k_bm(n:Nat):=recN (kg_bm n) n
theorem l_bm(n:Nat):lqf (k_bm n) f_bm:=qg2 (fun _ _ hg x=>by unfold kg_bm g_bm b_bm;repeat (first|with_reducible (first|refine mB ?_ fun _=>?_|refine mC ?_ ?_ ?_|refine mA (l_bc n) ?_|refine mA hg ?_)|exact rfl|exact q06 _)) n
def q21(n:Nat)(self:Yf0):=q29 (lfN n) self (k_bj n)
theorem q4z(n:Nat){g g'}(hg:lqf g g'):lqf (q21 n g) (q0y g'):=fun x=>by unfold q21 q0y q29;repeat (first|with_reducible (first|refine mB ?_ fun _=>?_|refine mA hg ?_|refine mA (l_bj n) ?_)|exact rfl|exact q06 _)
def q3e(n:Nat)(self:Yf0):=q2k (lfN n) self (k_bf n) (k_bi n) (k_bc n) (q21 n self) (k_bj n)
theorem q8v(n:Nat){g g'}(hg:lqf g g'):lqf (q3e n g) (q1n g'):=fun x=>by unfold q3e q1n q2k;repeat (first|with_reducible (first|refine mB ?_ fun _=>?_|refine mC ?_ ?_ ?_|refine mL (fun _=>?_) ?_|refine mS (fun _=>?_) _|refine mF ?_|refine mA hg ?_|refine mA (l_bf n) ?_|refine mA (l_bi n) ?_|refine mA (l_bc n) ?_|refine mA (q4z n hg) ?_|refine mA (l_bj n) ?_)|exact rfl|exact q06 _)
def q3u(n:Nat)(self:Yf0):=q2t (lfN n) self (k_bh n) (k_bk n) (k_e3 n) (k_bi n) (k_bn n) (k_bc n) (k_bj n) (k_bd n) (q3e n self)
set_option maxRecDepth 100000 in
theorem q9j(n:Nat){g g'}(hg:lqf g g'):lqf (q3u n g) (q1x g'):=fun x=>by unfold q3u q1x q2t;repeat (first|with_reducible (first|refine mB ?_ fun _=>?_|refine mC ?_ ?_ ?_|refine mA hg ?_|refine mA (l_bh n) ?_|refine mA (l_bk n) ?_|refine mA (l_e3 n) ?_|refine mA (l_bi n) ?_|refine mA (l_bn n) ?_|refine mA (l_bc n) ?_|refine mA (l_bj n) ?_|refine mA (l_bd n) ?_|refine mA (q8v n hg) ?_)|exact rfl|exact q06 _)
def q47(n:Nat)(self:Yf0):=q36 (lfN n) (k_bc n) (q3u n self) (k_bd n)
theorem qaj(n:Nat){g g'}(hg:lqf g g'):lqf (q47 n g) (q2a g'):=fun x=>by unfold q47 q2a q36;repeat (first|with_reducible (first|refine mB ?_ fun _=>?_|refine mC ?_ ?_ ?_|refine mL (fun _=>?_) ?_|refine mA (l_bc n) ?_|refine mA (q9j n hg) ?_|refine mA (l_bd n) ?_)|exact rfl|exact q06 _)
def q48(n:Nat)(self:Yf0):=q37 (lfN n) (k_bh n) (k_bk n) (k_bi n) (k_bn n) (q47 n self) (k_cz n) (k_a2 n) (k_bm n)
set_option maxRecDepth 100000 in
theorem qak(n:Nat){g g'}(hg:lqf g g'):lqf (q48 n g) (q2b g'):=fun x=>by unfold q48 q2b q37;repeat (first|with_reducible (first|refine mB ?_ fun _=>?_|refine mC ?_ ?_ ?_|refine mL (fun _=>?_) ?_|refine mF ?_|refine mA (l_bh n) ?_|refine mA (l_bk n) ?_|refine mA (l_bi n) ?_|refine mA (l_bn n) ?_|refine mA (qaj n hg) ?_|refine mA (l_cz n) ?_|refine mA (l_a2 n) ?_|refine mA (l_bm n) ?_)|exact rfl|exact q06 _)
def q3v(n:Nat)(self:Yf0):=q2u (lfN n) self (k_bi n) (q48 n self) (k_bn n) (k_be n) (k_bc n) (q21 n self) (k_bj n)
set_option maxRecDepth 100000 in
theorem q9k(n:Nat){g g'}(hg:lqf g g'):lqf (q3v n g) (q1y g'):=fun x=>by unfold q3v q1y q2u;repeat (first|with_reducible (first|refine mB ?_ fun _=>?_|refine mC ?_ ?_ ?_|refine mA hg ?_|refine mA (l_bi n) ?_|refine mA (qak n hg) ?_|refine mA (l_bn n) ?_|refine mA (l_be n) ?_|refine mA (l_bc n) ?_|refine mA (q4z n hg) ?_|refine mA (l_bj n) ?_)|exact rfl|exact q06 _)
def q3w(n:Nat)(self:Yf0):=q2v (lfN n) (k_bh n) (k_bk n) (q3v n self)
theorem q9l(n:Nat){g g'}(hg:lqf g g'):lqf (q3w n g) (q1z g'):=fun x=>by unfold q3w q1z q2v;repeat (first|with_reducible (first|refine mB ?_ fun _=>?_|refine mC ?_ ?_ ?_|refine mA (l_bh n) ?_|refine mA (l_bk n) ?_|refine mA (q9k n hg) ?_)|exact rfl|exact q06 _)
def kg_bg(n:Nat)(self:Yf0):=b_bg (lfN n) (q3w n self)
def k_bg(n:Nat):=recN (kg_bg n) n
theorem l_bg(n:Nat):lqf (k_bg n) f_bg:=qg2 (fun _ _ hg x=>by unfold kg_bg g_bg b_bg;repeat (first|with_reducible (first|refine mB ?_ fun _=>?_|refine mA (q9l n hg) ?_)|exact rfl|exact q06 _)) n
def k_bb(n:Nat):=b_bb (lfN n) (k_dj n) (k_a0 n) (k_bg n) (k_bh n) (k_bk n)
theorem l_bb(n:Nat):lqf (k_bb n) f_bb:=fun x=>by unfold k_bb f_bb b_bb;repeat (first|with_reducible (first|refine mB ?_ fun _=>?_|refine mC ?_ ?_ ?_|refine mA (l_dj n) ?_|refine mA (l_a0 n) ?_|refine mA (l_bg n) ?_|refine mA (l_bh n) ?_|refine mA (l_bk n) ?_)|exact rfl|exact q06 _)
def k_ba(n:Nat):=b_ba (lfN n) (k_a0 n) (k_ap n) (k_bb n)
theorem l_ba(n:Nat):lqf (k_ba n) f_ba:=fun x=>by unfold k_ba f_ba b_ba;repeat (first|with_reducible (first|refine mB ?_ fun _=>?_|refine mC ?_ ?_ ?_|refine mA (l_a0 n) ?_|refine mA (l_ap n) ?_|refine mA (l_bb n) ?_)|exact rfl|exact q06 _)
def q82(n:Nat):=q5t (lfN n) (k_cf n) (k_cd n) (k_cc n) (k_ce n) (k_ba n)
theorem qjk(n:Nat):lqf (q82 n) q1q:=fun x=>by unfold q82 q1q q5t;repeat (first|with_reducible (first|refine mB ?_ fun _=>?_|refine mC ?_ ?_ ?_|refine mA (l_cf n) ?_|refine mA (l_cd n) ?_|refine mA (l_cc n) ?_|refine mA (l_ce n) ?_|refine mA (l_ba n) ?_)|exact rfl|exact q06 _)
theorem z2o:q82 300 ()=some (true,()):=by kernel_rfl
theorem qpx:q1q ()=some (true,()):=qjk 300 _ _ z2o
end
end Fn
end Ev